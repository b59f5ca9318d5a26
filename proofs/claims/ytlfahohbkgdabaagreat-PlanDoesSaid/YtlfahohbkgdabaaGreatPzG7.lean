/- Texts of this proof's own, put together: what each holds is told ahead of it. -/
import Derived.Test.YtlfahohbkgdabaaGreatPzG6
import Derived.LaidEqlPtr
import Derived.Test.YtlfahohbkgdabaaGreatPzG4
import Derived.Test.YtlfahohbkgdabaaGreatProg
import Derived.Test.YtlfahohbkgdabaaGreatPzG1
import Derived.Maps.RangeRun
set_option linter.unusedSimpArgs false
set_option linter.unusedVariables false
namespace Go.Proofs.YtlfahohbkgdabaaGreat
open Go Go.RowKit
theorem clip_mono {a b : Int} (h : a ≤ b) : clip a ≤ clip b := by unfold clip; omega
theorem partI_mono {p q : Int} (t : Int) (h : p ≤ q) : partI p t ≤ partI q t := by
  have h1 := Int.mul_le_mul_of_nonneg_right (clip_mono h) (clip_range t).1
  unfold partI; omega
theorem mayB_iff {c : Int} : mayB c = true ↔ pr c ≤ pa c ∧ pg c ≤ pa c ∧ pb c ≤ pa c := by simp [mayB, and_assoc]
theorem mayB_mk {a r g b : Int} (h1 : r ≤ a) (h2 : g ≤ a) (h3 : b ≤ a) : mayB (mkC a r g b) = true := by
  obtain ⟨e1, e2, e3, e4⟩ := parts_mk a r g b
  rw [mayB_iff, e1, e2, e3, e4]
  exact ⟨clip_mono h1, clip_mono h2, clip_mono h3⟩
theorem overC_may {c d : Int} (hc : mayB c = true) (hd : mayB d = true) : mayB (overC c d) = true := by
  obtain ⟨h1, h2, h3⟩ := mayB_iff.1 hc
  obtain ⟨g1, g2, g3⟩ := mayB_iff.1 hd
  have e1 := partI_mono (255 - pa c) g1
  have e2 := partI_mono (255 - pa c) g2
  have e3 := partI_mono (255 - pa c) g3
  exact mayB_mk (by omega) (by omega) (by omega)
theorem fadeC_may {c : Int} (al : Int) (hc : mayB c = true) : mayB (fadeC c al) = true := by
  obtain ⟨h1, h2, h3⟩ := mayB_iff.1 hc
  exact mayB_mk (partI_mono al h1) (partI_mono al h2) (partI_mono al h3)
theorem mayB_zero : mayB 0 = true := by decide
theorem atC_may {W H : Int} {px : List Int} (h : AllMay px) (x y : Int) : mayB (atC W H px x y) = true ∧ InC (atC W H px x y) := by
  unfold atC
  split
  · rw [List.getD_eq_getElem?_getD]
    cases e : px[(y * W + x).toNat]? with
    | none => exact ⟨mayB_zero, by decide, by decide⟩
    | some c => exact h c (List.mem_of_getElem? e)
  · exact ⟨mayB_zero, by decide, by decide⟩
def ColF (f : Int → Int → Int) : Prop := ∀ x y, mayB (f x y) = true ∧ InC (f x y)
theorem pcolC_may {px : List Int} (h : AllMay px) (W H X Y s al a b c d : Int) : ColF (pcolC W H X Y s al a b c d px) := by
  intro x y
  unfold pcolC
  split
  · exact ⟨fadeC_may _ (atC_may h _ _).1, fadeC_in _ _⟩
  · exact ⟨mayB_zero, by decide, by decide⟩
theorem pcolC_in (px : List Int) (W H X Y s al a b c d x y : Int) : InC (pcolC W H X Y s al a b c d px x y) := by
  unfold pcolC
  split
  · exact fadeC_in _ _
  · exact ⟨by decide, by decide⟩
def drawF (W H : Int) (f : Int → Int → Int) (px : List Int) (ps : List (Int × Int)) : List Int := ps.foldl (fun l p => setL W H l p.1 p.2 (overC (f p.1 p.2) (atC W H l p.1 p.2))) px
theorem drawF_snoc (W H : Int) (f : Int → Int → Int) (px : List Int) (ps : List (Int × Int)) (p : Int × Int) : drawF W H f px (ps ++ [p]) = setL W H (drawF W H f px ps) p.1 p.2 (overC (f p.1 p.2) (atC W H (drawF W H f px ps) p.1 p.2)) := by simp [drawF]
theorem ImgOk.drawF {W H : Int} {n : Nat} {px : List Int} (h : ImgOk W H n px) (f : Int → Int → Int) (ps : List (Int × Int)) : ImgOk W H n (drawF W H f px ps) := by
  induction ps generalizing px with
  | nil => exact h
  | cons p ps ih => exact ih (h.setL _ _ (overC_in _ _))
theorem setL_may {W H : Int} {px : List Int} (h : AllMay px) (x y : Int) {c : Int} (hc : InC c) : AllMay (setL W H px x y c) := by
  unfold setL
  split
  · rename_i hh
    intro q hq
    rcases List.mem_or_eq_of_mem_set hq with hq | rfl
    · exact h q hq
    · exact ⟨(Bool.and_eq_true_iff.1 hh).2, hc⟩
  · exact h
theorem pt_eq {W : Int} {p : Int × Int} {k : Nat} (h1 : 0 ≤ p.1) (h2 : p.1 < W) (h3 : 0 ≤ p.2) (e : (p.2 * W + p.1).toNat = k) : p = (((k : Nat) : Int) % W, ((k : Nat) : Int) / W) := by
  have h4 : 0 ≤ p.2 * W := Int.mul_nonneg h3 (by omega)
  have h5 : ((k : Nat) : Int) = p.1 + p.2 * W := by omega
  refine Prod.ext ?_ ?_
  · simp only; rw [h5, Int.add_mul_emod_self_right, Int.emod_eq_of_lt h1 h2]
  · simp only; rw [h5, Int.add_mul_ediv_right _ _ (by omega), Int.ediv_eq_zero_of_lt h1 h2]; omega
theorem drawF_get {W H : Int} {n : Nat} {f : Int → Int → Int} (hf : ColF f) : ∀ {ps : List (Int × Int)} {px : List Int}, ImgOk W H n px → AllMay px → ps.Nodup → (∀ p ∈ ps, 0 ≤ p.1 ∧ p.1 < W ∧ 0 ≤ p.2 ∧ p.2 < H) → ∀ {k : Nat}, k < n →
    (drawF W H f px ps).getD k 0 = if ((((k : Nat) : Int) % W, ((k : Nat) : Int) / W) : Int × Int) ∈ ps then overC (f (((k : Nat) : Int) % W) (((k : Nat) : Int) / W)) (px.getD k 0) else px.getD k 0 := by
  intro ps
  induction ps with
  | nil => intro px _ _ _ _ k _; simp [drawF]
  | cons p ps ih =>
    intro px hok hm hnd hin k hk
    obtain ⟨h1, h2, h3, h4⟩ := hin p (List.mem_cons_self ..)
    have hin' : ∀ q ∈ ps, 0 ≤ q.1 ∧ q.1 < W ∧ 0 ≤ q.2 ∧ q.2 < H := fun q hq => hin q (List.mem_cons_of_mem _ hq)
    have hnp : p ∉ ps := (List.nodup_cons.1 hnd).1
    have hhas : hasB 0 0 W H p.1 p.2 = true := hasB_true.2 ⟨h1, h2, h3, h4⟩
    have hmay := overC_may (hf p.1 p.2).1 (atC_may (W := W) (H := H) hm p.1 p.2).1
    have hstep : setL W H px p.1 p.2 (overC (f p.1 p.2) (atC W H px p.1 p.2)) = px.set (p.2 * W + p.1).toNat (overC (f p.1 p.2) (px.getD (p.2 * W + p.1).toNat 0)) := by
      rw [setL, hhas, hmay, Bool.and_self, if_pos rfl]
      rw [atC, hhas, if_pos rfl]
    show (drawF W H f (setL W H px p.1 p.2 (overC (f p.1 p.2) (atC W H px p.1 p.2))) ps).getD k 0 = _
    rw [ih (hok.setL _ _ (overC_in _ _)) (setL_may hm _ _ (overC_in _ _)) (List.nodup_cons.1 hnd).2 hin' hk, hstep]
    have hpl := hok.place h1 h2 h3 h4
    by_cases e : (p.2 * W + p.1).toNat = k
    · have hp := pt_eq h1 h2 h3 e
      rw [← hp, if_neg hnp, if_pos (List.mem_cons_self ..), ← e]
      rw [hp] at hnp
      have hlt : (p.2 * W + p.1).toNat < px.length := by rw [hok.len]; omega
      have e1 : f (((k : Nat) : Int) % W) (((k : Nat) : Int) / W) = f p.1 p.2 := by rw [show ((k : Nat) : Int) % W = p.1 from (congrArg Prod.fst hp).symm, show ((k : Nat) : Int) / W = p.2 from (congrArg Prod.snd hp).symm]
      rw [e, e1, ← e]
      simp [List.getD_eq_getElem?_getD, hlt]
    · have hne : p ≠ (((k : Nat) : Int) % W, ((k : Nat) : Int) / W) := by
        intro hp
        apply e
        have q1 := congrArg Prod.fst hp
        have q2 := congrArg Prod.snd hp
        simp only at q1 q2
        have := Int.emod_add_mul_ediv (k : Int) W
        rw [q1, q2, Int.mul_comm]
        omega
      have hmem : (((((k : Nat) : Int) % W, ((k : Nat) : Int) / W) : Int × Int) ∈ p :: ps) ↔ (((((k : Nat) : Int) % W, ((k : Nat) : Int) / W) : Int × Int) ∈ ps) := by
        rw [List.mem_cons]
        exact ⟨fun h => h.resolve_left (fun h => hne h.symm), .inr⟩
      have hg : (px.set (p.2 * W + p.1).toNat (overC (f p.1 p.2) (px.getD (p.2 * W + p.1).toNat 0))).getD k 0 = px.getD k 0 := by
        rw [List.getD_eq_getElem?_getD, List.getElem?_set_ne e, ← List.getD_eq_getElem?_getD]
      rw [hg]
      by_cases hq : ((((k : Nat) : Int) % W, ((k : Nat) : Int) / W) : Int × Int) ∈ ps
      · rw [if_pos hq, if_pos (hmem.2 hq)]
      · rw [if_neg hq, if_neg (fun h => hq (hmem.1 h))]
def drawL (W : Int) (R : List Rect) (f : Int → Int → Int) (px : List Int) : List Int := (List.range px.length).map fun k => if hasL R (((k : Nat) : Int) % W) (((k : Nat) : Int) / W) then overC (f (((k : Nat) : Int) % W) (((k : Nat) : Int) / W)) (px.getD k 0) else px.getD k 0
theorem drawL_length (W : Int) (R : List Rect) (f : Int → Int → Int) (px : List Int) : (drawL W R f px).length = px.length := by simp [drawL]
theorem drawL_get {W : Int} {R : List Rect} {f : Int → Int → Int} {px : List Int} {k : Nat} (h : k < px.length) : (drawL W R f px).getD k 0 = if hasL R (((k : Nat) : Int) % W) (((k : Nat) : Int) / W) then overC (f (((k : Nat) : Int) % W) (((k : Nat) : Int) / W)) (px.getD k 0) else px.getD k 0 := by
  simp [drawL, List.getD_eq_getElem?_getD, h]
theorem list_getD_ext {a b : List Int} (hl : a.length = b.length) (h : ∀ k, k < a.length → a.getD k 0 = b.getD k 0) : a = b := by
  refine List.ext_getElem hl (fun k h1 h2 => ?_)
  have := h k h1
  simpa [List.getD_eq_getElem?_getD, h1, h2] using this
def OnImg (W H : Int) (R : List Rect) : Prop := ∀ x y, hasL R x y = true → 0 ≤ x ∧ x < W ∧ 0 ≤ y ∧ y < H
theorem drawF_eq {W H : Int} {n : Nat} {px : List Int} {R : List Rect} {F f : Int → Int → _} (hR : IsReg R F) (hin : OnImg W H R) (hok : ImgOk W H n px) (hm : AllMay px) (hf : ColF f) : drawF W H f px (regP R) = drawL W R f px := by
  have hl := (hok.drawF f (regP R)).len
  refine list_getD_ext (by rw [hl, drawL_length, hok.len]) (fun k hk => ?_)
  rw [hl] at hk
  rw [drawF_get hf hok hm (regP_nodup hR) (fun p hp => hin _ _ (regP_mem.1 hp)) hk, drawL_get (by rw [hok.len]; exact hk)]
  by_cases h : hasL R (((k : Nat) : Int) % W) (((k : Nat) : Int) / W) = true
  · rw [if_pos h, if_pos (regP_mem.2 h)]
  · rw [if_neg h, if_neg (fun hh => h (regP_mem.1 hh))]
def cntL (W : Int) (n : Nat) (R : List Rect) : Nat := ((List.range n).filter fun k => hasL R (((k : Nat) : Int) % W) (((k : Nat) : Int) / W)).length
theorem cntL_le (W : Int) (n : Nat) (R : List Rect) : cntL W n R ≤ n := by
  have := List.length_filter_le (fun k => hasL R (((k : Nat) : Int) % W) (((k : Nat) : Int) / W)) (List.range n)
  simpa [cntL] using this
theorem nodup_len_le {α : Type} [DecidableEq α] : ∀ {a b : List α}, a.Nodup → (∀ x ∈ a, x ∈ b) → a.length ≤ b.length := by
  intro a
  induction a with
  | nil => intro b _ _; simp
  | cons x a ih =>
    intro b hn hs
    have hx : x ∈ b := hs x (List.mem_cons_self ..)
    have h1 := ih (b := b.erase x) (List.nodup_cons.1 hn).2 (fun y hy => by
      refine (List.mem_erase_of_ne ?_).2 (hs y (List.mem_cons_of_mem _ hy))
      intro e; subst e; exact (List.nodup_cons.1 hn).1 hy)
    have h2 := List.length_erase_of_mem hx
    have h3 := List.length_pos_of_mem hx
    simp only [List.length_cons]
    omega
theorem regP_len {W H : Int} {n : Nat} {R : List Rect} {F : Int → Int → Bool} (hR : IsReg R F) (hin : OnImg W H R) (hW : 1 ≤ W) (hn : (n : Int) = W * H) : (regP R).length = cntL W n R := by
  have e : cntL W n R = (((List.range n).filter fun k => hasL R (((k : Nat) : Int) % W) (((k : Nat) : Int) / W)).map fun k : Nat => ((((k : Nat) : Int) % W, ((k : Nat) : Int) / W) : Int × Int)).length := by simp [cntL]
  rw [e]
  refine Nat.le_antisymm (nodup_len_le (regP_nodup hR) ?_) (nodup_len_le ?_ ?_)
  · intro p hp
    have hh := regP_mem.1 hp
    obtain ⟨h1, h2, h3, h4⟩ := hin _ _ hh
    have h5 : 0 ≤ p.2 * W := Int.mul_nonneg h3 (by omega)
    have h6 : (p.2 + 1) * W ≤ H * W := Int.mul_le_mul_of_nonneg_right (by omega) (by omega)
    have h7 : (p.2 + 1) * W = p.2 * W + W := by rw [Int.add_mul]; omega
    have h8 : H * W = (n : Int) := by rw [hn, Int.mul_comm]
    have hp2 := pt_eq (k := (p.2 * W + p.1).toNat) h1 h2 h3 rfl
    refine List.mem_map.2 ⟨(p.2 * W + p.1).toNat, List.mem_filter.2 ⟨List.mem_range.2 (by omega), ?_⟩, hp2.symm⟩
    rw [← show p.1 = ((((p.2 * W + p.1).toNat : Nat) : Int) % W) from congrArg Prod.fst hp2, ← show p.2 = ((((p.2 * W + p.1).toNat : Nat) : Int) / W) from congrArg Prod.snd hp2]
    exact hh
  · refine List.pairwise_map.2 (List.Pairwise.imp ?_ (List.Pairwise.filter _ (List.nodup_range (n := n))))
    intro a b hab h
    have h1 := Int.emod_add_mul_ediv (a : Int) W
    have h2 := Int.emod_add_mul_ediv (b : Int) W
    have h3 := congrArg Prod.fst h
    have h4 := congrArg Prod.snd h
    simp only at h3 h4
    rw [h3, h4] at h1
    omega
  · intro p hp
    obtain ⟨k, hk, rfl⟩ := List.mem_map.1 hp
    exact regP_mem.2 (List.mem_filter.1 hk).2
theorem reg_in {R : List Rect} {F : Int → Int → Bool} {W H : Int} (hR : IsReg R F) (hin : OnImg W H R) : ∀ r ∈ R, 0 ≤ r.x0 ∧ r.x0 < r.x1 ∧ r.x1 ≤ W ∧ 0 ≤ r.y0 ∧ r.y0 < r.y1 ∧ r.y1 ≤ H := by
  intro r hr
  obtain ⟨bs, h1, e, _⟩ := hR
  subst e
  obtain ⟨b, hb, s, hs, rfl⟩ := flatR_mem hr
  have g1 := h1.runs.lt b hb
  have g2 := (h1.each b hb).1.lt s hs
  have k1 := hin s.1 b.1 (List.any_eq_true.2 ⟨_, hr, hasB_true.2 ⟨by simp only; omega, by simp only; omega, by simp only; omega, by simp only; omega⟩⟩)
  have k2 := hin (s.2.1 - 1) (b.2.1 - 1) (List.any_eq_true.2 ⟨_, hr, hasB_true.2 ⟨by simp only; omega, by simp only; omega, by simp only; omega, by simp only; omega⟩⟩)
  simp only
  omega
theorem hasL_of_pre {R : List Rect} {pre : List (Int × Int)} {x y : Int} (h : pre ++ [(x, y)] <+: regP R) : hasL R x y = true := by
  obtain ⟨t, ht⟩ := h
  exact regP_mem (p := (x, y)).1 (by rw [← ht]; simp)
theorem pre_len {R : List Rect} {pre : List (Int × Int)} {p : Int × Int} {k : Nat} (h : pre ++ [p] <+: regP R) (hl : (regP R).length = k) : pre.length < k := by
  have := h.length_le
  rw [hl] at this
  simp at this
  omega
theorem onImg_and {W H : Int} (a : List Rect) {b : List Rect} (hb : OnImg W H b) : OnImg W H (regM andB a b) := fun x y h => hb x y (by rw [hasL_and] at h; exact (Bool.and_eq_true_iff.1 h).2)
theorem onImg_can {W H : Int} {b : List Rect} (hb : OnImg W H b) : OnImg W H (canR b) := fun x y h => hb x y (by rw [← hasL_can]; exact h)
theorem onImg_one {W H : Int} {r : Rect} (h : 0 ≤ r.x0 ∧ r.x1 ≤ W ∧ 0 ≤ r.y0 ∧ r.y1 ≤ H) : OnImg W H [r] := fun x y hh => by
  have := hasB_true.1 (show hasB r.x0 r.y0 r.x1 r.y1 x y = true by simpa [hasL] using hh)
  omega
theorem onImg_cut {W H a b c d : Int} (l : List Rect) (hW : 1 ≤ W) (hH : 1 ≤ H) : OnImg W H (regM andB l (canR [cutR a b c d 0 0 W H])) :=
  onImg_and _ (onImg_can (onImg_one (by obtain ⟨h1, h2, h3, h4, h5, h6⟩ := cut_in a b c d hW hH; exact ⟨h1, h3, h4, h6⟩)))
theorem r64_of {W H : Int} {r : Rect} (h : 0 ≤ r.x0 ∧ r.x0 < r.x1 ∧ r.x1 ≤ W ∧ 0 ≤ r.y0 ∧ r.y0 < r.y1 ∧ r.y1 ≤ H) (hW : W ≤ 256) (hH : H ≤ 256) : R64 r := ⟨by omega, by omega, by omega, by omega⟩
theorem run_eqPtrNe {P : Program} {t te : TypeId} {x y : Operand} {sz : Nat} {a b : Nat} {ca cb : List Value} {ta tb : TypeId} (hp : P.underlying t = some (.pointer te)) (hte : (P.info? te).map (·.size) = some sz) (hsz : sz ≠ 0) {w : World} (hne : a ≠ b)
    (ha : w.heap[a]? = some (.cells ca.toArray ta (0, 0))) (hb : w.heap[b]? = some (.cells cb.toArray tb (0, 0))) : (bopS .eql t x y (.pointer (some ⟨a, 0, none⟩)) (.pointer (some ⟨b, 0, none⟩))).run P w = .ok (.bool false) w := by
  obtain ⟨j, hj, hs⟩ := Option.map_eq_some_iff.1 hte
  have h := run_eql_ptr_other (P := P) w (a := ⟨a, 0, none⟩) (b := ⟨b, 0, none⟩) hp hj (by rw [hs]; exact hsz) (fun e => hne (congrArg Addr.block e)) ha hb
  unfold bopS
  rw [Sem.run_bind]
  have g : (eqGuard .eql t x y (.pointer (some ⟨a, 0, none⟩)) (.pointer (some ⟨b, 0, none⟩))).run P w = .ok () w := by
    simp [eqGuard]
  rw [g]
  exact h
end Go.Proofs.YtlfahohbkgdabaaGreat
namespace Go.Proofs.YtlfahohbkgdabaaGreat
open Go Go.RowKit
set_option maxRecDepth 100000
set_option maxHeartbeats 8000000
theorem ptsIter0 (kb : Nat) (A : Option Addr) (g o n cap : Nat) (xs : List Rect) (hm : n ≤ 9223372036854775807) (hx : ∀ r ∈ xs, R64 r) (w0 : World) {β : Type} (Inv : List (Int × Int) → β → Prop) (Tr : β → List Ent) (Jx : World → Prop) (l_ : Nat) (e1 e2 : Ent) (w : World) (b0 : β) (hJx : ∀ w w', Jx w → Below w.heap.size w w' → Jx w') (hY : ∀ pre x b W1 z, (z.wr = true → z.own = true) → Inv pre b → pre ++ [x] <+: regP xs → Tab w0 W1 (z :: e1 :: e2 :: (.ro kb [.slice A n cap] 23) :: (rD (A) g o n 4 (rvals xs)) :: (Tr b)) → YieldAt Fence.wide 0 Tryz.prog l_ #[iQ x.1, iQ x.2] W1 fun e W' => (e = .returned (.bool true) ∧ ∃ b', Inv (pre ++ [x]) b' ∧ Tab w0 W' (z :: e1 :: e2 :: (.ro kb [.slice A n cap] 23) :: (rD (A) g o n 4 (rvals xs)) :: (Tr b'))) ∨ (e = .returned (.bool false) ∧ Jx W')) (h0 : Inv [] b0) (hT0 : Tab w0 w (e1 :: e2 :: (.ro kb [.slice A n cap] 23) :: (rD (A) g o n 4 (rvals xs)) :: (Tr b0))) :
    Calls Tryz.prog 109 #[.func (.yield l_) #[] #[], pT kb] w fun e W' => (∃ v, e = .returned v) ∧ ((∃ xs_ b', xs_ = regP xs ∧ Inv xs_ b' ∧ Tab w0 W' (e1 :: e2 :: (.ro kb [.slice A n cap] 23) :: (rD (A) g o n 4 (rvals xs)) :: (Tr b'))) ∨ Jx W') := by
 obtain ⟨hra, hrl⟩ := Rd.factsR (hT0.ok 3 _ rfl)
 refine enterI 35 [(0, .func (.yield l_) #[] #[]), (1, .pointer (pB kb))] (e1 :: e2 :: (.ro kb [.slice A n cap] 23) :: (rD (A) g o n 4 (rvals xs)) :: (Tr b0)) Tryz.func109 rfl Tryz.ntmps109 rfl (by kernel_rfl) hT0 (fun _ h_ => by simp at h_) ?_
 refine mcont_seq ?_
 refine mcont_region 3 rfl (by kernel_rfl) ?_
 refine bD [2, 0, 0] 3 0 [(7, .slice A n cap), (8, iq (n : Int)), (9, iq 0)] [] <| zDN <| mcont_block ?_
 refine mcont_loop (α := Nat × β) (fun x_ : Nat × β => x_.1 ≤ n ∧ Inv (regP (xs.take x_.1)) x_.2) (fun x_ : Nat × β => [(0, .func (.yield l_) #[] #[]), (7, .slice A n cap), (8, iq (n : Int)), (9, iq (x_.1 : Int))]) (fun x_ : Nat × β => (e1 :: e2 :: (.ro kb [.slice A n cap] 23) :: (rD (A) g o n 4 (rvals xs)) :: (Tr x_.2))) (fun x_ : Nat × β => n - x_.1) (0, b0) (show (0) ≤ n ∧ Inv (regP (xs.take (0))) (b0) from ⟨by omega, by simpa [regP] using h0⟩) (by kernel_rfl) (by kernel_rfl) ?_
 rintro ⟨i, b⟩ hinv1_
 replace hinv1_ : i ≤ n ∧ Inv (regP (xs.take i)) b := hinv1_
 obtain ⟨hi, hI⟩ := hinv1_
 refine mcont_seq ?_
 refine mcont_region 1 rfl (by kernel_rfl) ?_
 refine bD [0] 1 0 [(10, .bool (decide ((i : Int) < (n : Int))))] [] <| zDN <| mcont_seq ?_
 refine sD 10 rfl (fun c2_ => ?_) fun c2_ => ?_
 ·
  refine mcont_true rfl ?_
  refine mcont_skip ?_
  refine zN <| mcont_seq ?_
  refine mcont_block ?_
  refine mcont_seq ?_
  refine mcont_region 4 rfl (by kernel_rfl) ?_
  refine pS 1 3 <| rC 7 (.slice (some ⟨g, o, none⟩) n cap) rfl (by rw [hra (by omega)]) <| sS 11 (Instr.indexAt 23 (.slice (some ⟨g, o, none⟩) n cap) (iq (i : Int))) (.pointer (some ⟨g, o + i * 4, none⟩)) (fun w hT => rI 32 4 w) <| pS 2 2 <| sS 12 (Instr.loadAt 32 (.pointer (some ⟨g, o + i * 4, none⟩))) (.agg #[iq ((rget xs i).x0), iq ((rget xs i).y0), iq ((rget xs i).x1), iq ((rget xs i).y1)]) (fun w hT => rM 4 (rcells (rget xs i)) (Rd.rect (hT.ok 3 _ rfl) (by omega))) <| bW [0, 0] 4 0 (fun b3 => [(0, .func (.yield l_) #[] #[]), (4, .pointer (pB b3)), (7, .slice (some ⟨g, o, none⟩) n cap), (8, iq (n : Int)), (9, iq (i : Int))]) (fun b3 => ((.cells b3 [iq ((rget xs i).x0), iq ((rget xs i).y0), iq ((rget xs i).x1), iq ((rget xs i).y1)] 32 true) :: e1 :: e2 :: (.ro kb [.slice A n cap] 23) :: (rD (A) g o n 4 (rvals xs)) :: (Tr b))) [0, 4, 7, 8, 9] fun b3 => ?_
  refine zDN <| mcont_seq ?_
  refine mcont_region 3 rfl (by kernel_rfl) ?_
  generalize hq : rget xs i = q
  have hq64 := hx (rget xs i) (rget_mem (by omega))
  rw [hq] at hq64
  obtain ⟨⟨hq0, hq1⟩, ⟨hq2, hq3⟩, ⟨hq4, hq5⟩, ⟨hq6, hq7⟩⟩ := hq64
  refine bD [0, 0, 0] 3 0 [(5, iq q.y0)] [13, 14] <| zDN <| mcont_block ?_
  refine rC 5 (iq (q.y0 + ((0 : Nat) : Int))) rfl (congrArg (Value.int .i64) (by omega)) <| mcont_loop (α := Nat × β) (fun x_ : Nat × β => x_.1 ≤ Int.toNat (q.y1 - q.y0) ∧ Inv (regP (xs.take i) ++ rectP q x_.1) x_.2) (fun x_ : Nat × β => [(0, .func (.yield l_) #[] #[]), (4, .pointer (pB b3)), (5, iq (q.y0 + ((x_.1 : Nat) : Int))), (7, .slice (some ⟨g, o, none⟩) n cap), (8, iq (n : Int)), (9, iq (i : Int))]) (fun x_ : Nat × β => ((.cells b3 [iq q.x0, iq q.y0, iq q.x1, iq q.y1] 32 true) :: e1 :: e2 :: (.ro kb [.slice A n cap] 23) :: (rD (A) g o n 4 (rvals xs)) :: (Tr x_.2))) (fun x_ : Nat × β => Int.toNat (q.y1 - q.y0) - x_.1) (0, b) (show (0) ≤ Int.toNat (q.y1 - q.y0) ∧ Inv (regP (xs.take i) ++ rectP q (0)) (b) from ⟨by omega, by simpa [rectP] using hI⟩) (by kernel_rfl) (by kernel_rfl) ?_
  rintro ⟨j, b⟩ hinv4_
  replace hinv4_ : j ≤ Int.toNat (q.y1 - q.y0) ∧ Inv (regP (xs.take i) ++ rectP q j) b := hinv4_
  obtain ⟨hj, hI⟩ := hinv4_
  refine mcont_seq ?_
  refine mcont_seq ?_
  refine mcont_region 4 rfl (by kernel_rfl) ?_
  refine bD [0, 0, 0, 0] 4 0 [(18, .bool (decide ((q.y0 + ((j : Nat) : Int)) < q.y1)))] [15, 16, 17] <| zDN <| sD 18 rfl (fun c5_ => ?_) fun c5_ => ?_
  ·
   refine mcont_true rfl ?_
   refine mcont_skip ?_
   refine zN <| mcont_seq ?_
   refine mcont_block ?_
   refine mcont_seq ?_
   refine mcont_region 3 rfl (by kernel_rfl) ?_
   refine bD [0, 0, 0] 3 0 [(6, iq q.x0)] [21, 22] <| zDN <| mcont_block ?_
   refine rC 6 (iq (q.x0 + ((0 : Nat) : Int))) rfl (congrArg (Value.int .i64) (by omega)) <| mcont_loop (α := Nat × β) (fun x_ : Nat × β => x_.1 ≤ Int.toNat (q.x1 - q.x0) ∧ Inv (regP (xs.take i) ++ rectP q j ++ rowP (q.y0 + ((j : Nat) : Int)) q.x0 x_.1) x_.2) (fun x_ : Nat × β => [(0, .func (.yield l_) #[] #[]), (4, .pointer (pB b3)), (5, iq (q.y0 + ((j : Nat) : Int))), (6, iq (q.x0 + ((x_.1 : Nat) : Int))), (7, .slice (some ⟨g, o, none⟩) n cap), (8, iq (n : Int)), (9, iq (i : Int))]) (fun x_ : Nat × β => ((.cells b3 [iq q.x0, iq q.y0, iq q.x1, iq q.y1] 32 true) :: e1 :: e2 :: (.ro kb [.slice A n cap] 23) :: (rD (A) g o n 4 (rvals xs)) :: (Tr x_.2))) (fun x_ : Nat × β => Int.toNat (q.x1 - q.x0) - x_.1) (0, b) (show (0) ≤ Int.toNat (q.x1 - q.x0) ∧ Inv (regP (xs.take i) ++ rectP q j ++ rowP (q.y0 + ((j : Nat) : Int)) q.x0 (0)) (b) from ⟨by omega, by simpa [rowP] using hI⟩) (by kernel_rfl) (by kernel_rfl) ?_
   rintro ⟨k, b⟩ hinv6_
   replace hinv6_ : k ≤ Int.toNat (q.x1 - q.x0) ∧ Inv (regP (xs.take i) ++ rectP q j ++ rowP (q.y0 + ((j : Nat) : Int)) q.x0 k) b := hinv6_
   obtain ⟨hk, hI⟩ := hinv6_
   refine mcont_seq ?_
   refine mcont_seq ?_
   refine mcont_region 4 rfl (by kernel_rfl) ?_
   refine bD [0, 0, 0, 0] 4 0 [(26, .bool (decide ((q.x0 + ((k : Nat) : Int)) < q.x1)))] [23, 24, 25] <| zDN <| sD 26 rfl (fun c7_ => ?_) fun c7_ => ?_
   ·
    refine mcont_true rfl ?_
    refine mcont_skip ?_
    refine zN <| mcont_seq ?_
    refine mcont_block ?_
    refine mcont_seq ?_
    refine icont_region 5 rfl ?_
    refine pli_ops 3 2 3 rfl rfl (by kernel_rfl) ?_
    refine bD [0, 0, 0] 3 0 [(29, .func (.yield l_) #[] #[]), (30, iq (q.x0 + ((k : Nat) : Int))), (31, iq (q.y0 + ((j : Nat) : Int)))] [] <| zDN <| pli_yield 32 4 1 rfl rfl (by kernel_rfl) (by kernel_rfl) (R := fun v_ w_ => (v_ = .bool true ∧ ∃ b_, Inv (regP (xs.take i) ++ rectP q j ++ rowP (q.y0 + ((j : Nat) : Int)) q.x0 k ++ [(q.x0 + ((k : Nat) : Int), q.y0 + ((j : Nat) : Int))]) b_ ∧ Tab w0 w_ ((.cells b3 [iq q.x0, iq q.y0, iq q.x1, iq q.y1] 32 true) :: e1 :: e2 :: (.ro kb [.slice A n cap] 23) :: (rD (A) g o n 4 (rvals xs)) :: (Tr b_))) ∨ (v_ = .bool false ∧ Jx w_)) (fun w_ hT_ => YieldAt.weaken (hY (regP (xs.take i) ++ rectP q j ++ rowP (q.y0 + ((j : Nat) : Int)) q.x0 k) (q.x0 + ((k : Nat) : Int), q.y0 + ((j : Nat) : Int)) b w_ _ (fun _ => rfl) hI (pts_pre (by omega) hq (by omega) (by omega)) hT_) (fun e_ w_ h_ => by rcases h_ with ⟨rfl, hh_⟩ | ⟨rfl, hh_⟩; exact ⟨_, rfl, .inl ⟨rfl, hh_⟩⟩; exact ⟨_, rfl, .inr ⟨rfl, hh_⟩⟩)) ?_
    rintro a_ w_ v_ ha_ hf_ (⟨rfl, b, hI, hT_⟩ | ⟨rfl, hJ⟩)
    ·
     refine Cont.go ?_ ha_ hf_ hT_
     refine pli_ops 1 0 5 rfl rfl (by kernel_rfl) ?_
     refine bD [0] 5 0 [(33, .bool false)] [] <| zDN <| pli_done ?_
     refine zN <| mcont_false rfl ?_
     refine mcont_skip ?_
     refine blk_normal <| zN <| mcont_region 3 rfl (by kernel_rfl) ?_
     refine bD [0, 0] 2 1 [(28, iq (IntKind.i64.wrap ((q.x0 + ((k : Nat) : Int)) + 1)))] [27] <| wI 28 ((q.x0 + ((k : Nat) : Int)) + 1) <| bD [0] 3 0 [(6, iq ((q.x0 + ((k : Nat) : Int)) + 1))] [] <| zDN <| rC 6 (iq (q.x0 + ((k + 1 : Nat) : Int))) rfl (congrArg (Value.int .i64) (by omega)) <| cA (k + 1, b) (show (k + 1) ≤ Int.toNat (q.x1 - q.x0) ∧ Inv (regP (xs.take i) ++ rectP q j ++ rowP (q.y0 + ((j : Nat) : Int)) q.x0 (k + 1)) (b) from ⟨by omega, by rw [rowP_succ, ← List.append_assoc]; exact hI⟩)
    ·
     refine Cont.go ?_ ha_ hf_ (Tab.start w_)
     refine pli_ops 1 0 5 rfl rfl (by kernel_rfl) ?_
     refine bD [0] 5 0 [(33, .bool true)] [] <| zDN <| pli_done ?_
     refine zN <| mcont_true rfl ?_
     refine mcont_ret ?_
     refine blk_ret <| then_ret <| then_ret <| blk_ret <| blk_ret <| then_ret <| then_ret <| blk_ret <| blk_ret <| then_ret <| then_ret <| blk_ret ?_
     refine ret_none (.inl rfl) rfl (fun w hT => ?_)
     exact ⟨⟨_, rfl⟩, .inr (hJx _ _ hJ (hT.toBelow (fun i e h => by simp at h)))⟩
   refine mcont_false rfl ?_
   refine mcont_exit ?_
   refine then_exit <| then_exit <| blk_exit <| blk_normal <| zN <| mcont_region 3 rfl (by kernel_rfl) ?_
   refine bD [0, 0] 2 1 [(20, iq (IntKind.i64.wrap ((q.y0 + ((j : Nat) : Int)) + 1)))] [19] <| wI 20 ((q.y0 + ((j : Nat) : Int)) + 1) <| bD [0] 3 0 [(5, iq ((q.y0 + ((j : Nat) : Int)) + 1))] [] <| zDN <| rC 5 (iq (q.y0 + ((j + 1 : Nat) : Int))) rfl (congrArg (Value.int .i64) (by omega)) <| cA (j + 1, b) (show (j + 1) ≤ Int.toNat (q.y1 - q.y0) ∧ Inv (regP (xs.take i) ++ rectP q (j + 1)) (b) from ⟨by omega, by rw [← pts_row (k := k) (by omega)]; exact hI⟩)
  refine mcont_false rfl ?_
  refine mcont_exit ?_
  refine then_exit <| then_exit <| blk_exit <| blk_normal <| zN <| mcont_region 2 rfl (by kernel_rfl) ?_
  refine bD [0] 1 1 [(34, iq (IntKind.i64.wrap ((i : Int) + 1)))] [] <| wI 34 ((i : Int) + 1) <| fG 0 <| bD [0] 2 0 [(9, iq ((i : Int) + 1))] [] <| zDN <| rC 7 (.slice A n cap) rfl (by rw [hra (by omega)]) <| cA (i + 1, b) (show (i + 1) ≤ n ∧ Inv (regP (xs.take (i + 1))) (b) from ⟨by omega, by rw [← pts_rect (by omega) hq (j := j) (by omega)]; exact hI⟩)
 refine mcont_false rfl ?_
 refine mcont_exit ?_
 refine then_exit <| then_exit <| blk_exit ?_
 refine ret_none (.inr rfl) rfl (fun w hT => ?_)
 exact ⟨⟨_, rfl⟩, .inl ⟨_, b, rfl, (by have h9 := hI; rw [show i = n by omega, List.take_of_length_le (by omega)] at h9; exact h9), hT⟩⟩
theorem ptsIter (kb : Nat) (A : Option Addr) (g o n cap : Nat) (xs : List Rect) (hm : n ≤ 9223372036854775807) (hx : ∀ r ∈ xs, R64 r) (w0 : World) : IterC Tryz.prog 109 #[pT kb] (fun z_ : Int × Int => #[iQ z_.1, iQ z_.2]) w0 [.ro kb [.slice A n cap] 23, rD (A) g o n 4 (rvals xs)] (fun _ => []) (fun xs_ => xs_ = regP xs) (fun p_ => p_ <+: regP xs) :=
  fun Inv Tr Jx l e1 e2 W b0 hJx hY h0 hT => ptsIter0 kb A g o n cap xs hm hx w0 Inv Tr Jx l e1 e2 W b0 hJx hY h0 hT
theorem payPoints (A : Option Addr) (n cap : Nat) (w : World) :
    Calls Tryz.prog 88 #[.slice A n cap] w fun e w' => ∃ kb : Nat, e = .returned (.func (.func 109) #[] #[pT kb]) ∧ Tab w w' [.cells kb [.slice A n cap] 23 true] := by
 refine eN [(0, .slice A n cap)] Tryz.func88 Tryz.ntmps88 rfl (Tab.start w) ?_
 refine zSR 2 <| bW [0, 0] 2 0 (fun b1 => [(1, .pointer (pB b1))]) (fun b1 => [.cells b1 [.slice A n cap] 23 true]) [1] fun b1 => ?_
 refine zDNSR 2 <| bS [0, 0] 2 0 [(2, .func (.func 109) #[] #[.pointer (pB b1)])] <| zDNr <| rA rfl 0 (.func (.func 109) #[] #[.pointer (pB b1)]) fun w hT => ?_
 exact ⟨_, rfl, hT⟩
theorem payWithin (Az : Option Addr) (gz oz nz capz : Nat) (xsz : List Rect) (a b c d : Int) (w : World) (hT0 : Tab w w [rD (Az) gz oz nz 4 (rvals xsz)]) (hnz : nz ≤ 200000) (hcz : (canR xsz).length ≤ 200000) :
    Calls Tryz.prog 85 #[.slice Az nz capz, .agg #[iQ a, iQ b, iQ c, iQ d]] w fun e w' => ∃ (A_ : Option Addr) (g_ k_ cp_ : Nat), e = .returned (.slice A_ k_ cp_) ∧ Tab w w' [.gen (rowE (A_) g_ k_ cp_ 32 4 (rvals (regM andB (canR xsz) (canR [(⟨a, b, c, d⟩ : Rect)]))) true)] := by
 obtain ⟨hraz, hrlz⟩ := Rd.factsR (hT0.ok 0 _ rfl)
 have hcb_ := canR_small (l := [(⟨a, b, c, d⟩ : Rect)]) (by simp)
 refine eN [(0, .slice Az nz capz), (1, .agg #[iq a, iq b, iq c, iq d])] Tryz.func85 Tryz.ntmps85 rfl hT0 ?_
 refine zSR 2 <| bW [0, 0] 2 0 (fun b1 => [(0, .slice Az nz capz), (3, .pointer (pB b1))]) (fun b1 => [.cells b1 [iq a, iq b, iq c, iq d] 32 true, rD (Az) gz oz nz 4 (rvals xsz)]) [0, 3] fun b1 => ?_
 refine zDNS <| drawn_enter 7 [] rfl (by kernel_rfl) ?_
 refine tD 0 [] [(0, 0), (2, 0)] 5 [2, 0] [(5, .slice Az nz capz), (7, .agg #[iq a, iq b, iq c, iq d])] [] <| drawn_two 1 3 4 rfl (by kernel_rfl) ?_ ?_
 ·
  refine cG (d := 6) (α := Option Addr × Nat × Nat × Nat) (fun x_ => .slice x_.1 x_.2.2.1 x_.2.2.2) (fun x_ => [.gen (rowE (x_.1) x_.2.1 x_.2.2.1 x_.2.2.2 32 4 (rvals (canR xsz)) true), .cells b1 [iq a, iq b, iq c, iq d] 32 true, rD (Az) gz oz nz 4 (rvals xsz)]) (fun x_ => True) (fun w hT => (regOf Az gz oz nz capz xsz w (hT.viewRo (.cons (i := 1) rfl Vw.rd .nil) rfl) (by omega)).mono fun e w' ⟨A2, g3, k4, cp5, he_, ht_⟩ => ⟨(A2, g3, k4, cp5), he_, trivial, hT.news ht_ rfl⟩) ?_
  rintro ⟨A2, g3, k4, cp5⟩ hf6_
  refine fR 0 k4 A2 g3 cp5 (canR xsz) rfl fun hr7_a hr7_l hr7_c hr7_m => ?_
  refine dX 1 [] <| dO 3 3 <| one_step1 0 (fun b8 => [(6, .slice A2 k4 cp5), (8, .slice (pB b8) 1 1)]) (fun b8 => [.cells b8 [iq a, iq b, iq c, iq d] 32 true, .gen (rowE (A2) g3 k4 cp5 32 4 (rvals (canR xsz)) true), .cells b1 [iq a, iq b, iq c, iq d] 32 true, rD (Az) gz oz nz 4 (rvals xsz)]) (fun b8 => by kernel_rfl) (fun b8 => by kernel_rfl) (fun b8 => ?_)
  refine dX 2 [] <| dO 4 2 <| cont_asRow 0 1 4 rfl (vals := rvals [(⟨a, b, c, d⟩ : Rect)]) rfl rfl (by decide) ?_
  refine cG (d := 9) (α := Option Addr × Nat × Nat × Nat) (fun x_ => .slice x_.1 x_.2.2.1 x_.2.2.2) (fun x_ => [.gen (rowE (x_.1) x_.2.1 x_.2.2.1 x_.2.2.2 32 4 (rvals (canR [(⟨a, b, c, d⟩ : Rect)])) true), .gen (rowE (pB b8) b8 1 1 32 4 (rvals [(⟨a, b, c, d⟩ : Rect)]) true), .gen (rowE (A2) g3 k4 cp5 32 4 (rvals (canR xsz)) true), .cells b1 [iq a, iq b, iq c, iq d] 32 true, rD (Az) gz oz nz 4 (rvals xsz)]) (fun x_ => True) (fun w hT => (regOf (pB b8) b8 0 1 1 [(⟨a, b, c, d⟩ : Rect)] w (hT.viewRo (.cons (i := 0) rfl Vw.rowRd .nil) rfl) (by omega)).mono fun e w' ⟨A9, g10, k11, cp12, he_, ht_⟩ => ⟨(A9, g10, k11, cp12), he_, trivial, hT.news ht_ rfl⟩) ?_
  rintro ⟨A9, g10, k11, cp12⟩ hf13_
  refine fR 0 k11 A9 g10 cp12 (canR [(⟨a, b, c, d⟩ : Rect)]) rfl fun hr14_a hr14_l hr14_c hr14_m => ?_
  refine dX 3 [] <| dO 5 1 <| cG (d := 10) (α := Option Addr × Nat × Nat × Nat) (fun x_ => .slice x_.1 x_.2.2.1 x_.2.2.2) (fun x_ => [.gen (rowE (x_.1) x_.2.1 x_.2.2.1 x_.2.2.2 32 4 (rvals (regM andB (canR xsz) (canR [(⟨a, b, c, d⟩ : Rect)]))) true), .gen (rowE (A9) g10 k11 cp12 32 4 (rvals (canR [(⟨a, b, c, d⟩ : Rect)])) true), .gen (rowE (pB b8) b8 1 1 32 4 (rvals [(⟨a, b, c, d⟩ : Rect)]) true), .gen (rowE (A2) g3 k4 cp5 32 4 (rvals (canR xsz)) true), .cells b1 [iq a, iq b, iq c, iq d] 32 true, rD (Az) gz oz nz 4 (rvals xsz)]) (fun x_ => True) (fun w hT => (regCut A2 g3 0 k4 cp5 (canR xsz) A9 g10 0 k11 cp12 (canR [(⟨a, b, c, d⟩ : Rect)]) w (hT.viewRo (.cons (i := 2) rfl Vw.rowRd (.cons (i := 0) rfl Vw.rowRd .nil)) rfl) (by omega)).mono fun e w' ⟨A15, g16, k17, cp18, he_, ht_⟩ => ⟨(A15, g16, k17, cp18), he_, trivial, hT.news ht_ rfl⟩) ?_
  rintro ⟨A15, g16, k17, cp18⟩ hf19_
  refine fR 0 k17 A15 g16 cp18 (regM andB (canR xsz) (canR [(⟨a, b, c, d⟩ : Rect)])) rfl fun hr20_a hr20_l hr20_c hr20_m => ?_
  refine dX 4 [] <| tD 4 [] [(6, 0)] 0 [6, 5, 4, 3, 1, 2, 0] [(4, .slice A15 k17 cp18)] [] <| dD <| zN <| cont_ret ?_
  refine rA rfl 0 (.slice A15 k17 cp18) fun w hT => ?_
  replace hT := hT.erase 5 (fun e h hw => by cases h; first | rfl | cases hw)
  replace hT := hT.erase 4 (fun e h hw => by cases h; first | rfl | cases hw)
  replace hT := hT.erase 3 (fun e h hw => by cases h; first | rfl | cases hw)
  replace hT := hT.erase 2 (fun e h hw => by cases h; first | rfl | cases hw)
  replace hT := hT.erase 1 (fun e h hw => by cases h; first | rfl | cases hw)
  exact ⟨_, _, _, _, rfl, hT⟩
 refine one_step1 0 (fun b21 => [(5, .slice Az nz capz), (8, .slice (pB b21) 1 1)]) (fun b21 => [.cells b21 [iq a, iq b, iq c, iq d] 32 true, .cells b1 [iq a, iq b, iq c, iq d] 32 true, rD (Az) gz oz nz 4 (rvals xsz)]) (fun b21 => by kernel_rfl) (fun b21 => by kernel_rfl) (fun b21 => ?_)
 refine dX 1 [] <| dO 1 3 <| cG (d := 6) (α := Option Addr × Nat × Nat × Nat) (fun x_ => .slice x_.1 x_.2.2.1 x_.2.2.2) (fun x_ => [.gen (rowE (x_.1) x_.2.1 x_.2.2.1 x_.2.2.2 32 4 (rvals (canR xsz)) true), .cells b21 [iq a, iq b, iq c, iq d] 32 true, .cells b1 [iq a, iq b, iq c, iq d] 32 true, rD (Az) gz oz nz 4 (rvals xsz)]) (fun x_ => True) (fun w hT => (regOf Az gz oz nz capz xsz w (hT.viewRo (.cons (i := 2) rfl Vw.rd .nil) rfl) (by omega)).mono fun e w' ⟨A22, g23, k24, cp25, he_, ht_⟩ => ⟨(A22, g23, k24, cp25), he_, trivial, hT.news ht_ rfl⟩) ?_
 rintro ⟨A22, g23, k24, cp25⟩ hf26_
 refine fR 0 k24 A22 g23 cp25 (canR xsz) rfl fun hr27_a hr27_l hr27_c hr27_m => ?_
 refine dX 2 [] <| dO 4 2 <| cont_asRow 1 1 4 rfl (vals := rvals [(⟨a, b, c, d⟩ : Rect)]) rfl rfl (by decide) ?_
 refine cG (d := 9) (α := Option Addr × Nat × Nat × Nat) (fun x_ => .slice x_.1 x_.2.2.1 x_.2.2.2) (fun x_ => [.gen (rowE (x_.1) x_.2.1 x_.2.2.1 x_.2.2.2 32 4 (rvals (canR [(⟨a, b, c, d⟩ : Rect)])) true), .gen (rowE (A22) g23 k24 cp25 32 4 (rvals (canR xsz)) true), .gen (rowE (pB b21) b21 1 1 32 4 (rvals [(⟨a, b, c, d⟩ : Rect)]) true), .cells b1 [iq a, iq b, iq c, iq d] 32 true, rD (Az) gz oz nz 4 (rvals xsz)]) (fun x_ => True) (fun w hT => (regOf (pB b21) b21 0 1 1 [(⟨a, b, c, d⟩ : Rect)] w (hT.viewRo (.cons (i := 1) rfl Vw.rowRd .nil) rfl) (by omega)).mono fun e w' ⟨A28, g29, k30, cp31, he_, ht_⟩ => ⟨(A28, g29, k30, cp31), he_, trivial, hT.news ht_ rfl⟩) ?_
 rintro ⟨A28, g29, k30, cp31⟩ hf32_
 refine fR 0 k30 A28 g29 cp31 (canR [(⟨a, b, c, d⟩ : Rect)]) rfl fun hr33_a hr33_l hr33_c hr33_m => ?_
 refine dX 3 [] <| dO 5 1 <| cG (d := 10) (α := Option Addr × Nat × Nat × Nat) (fun x_ => .slice x_.1 x_.2.2.1 x_.2.2.2) (fun x_ => [.gen (rowE (x_.1) x_.2.1 x_.2.2.1 x_.2.2.2 32 4 (rvals (regM andB (canR xsz) (canR [(⟨a, b, c, d⟩ : Rect)]))) true), .gen (rowE (A28) g29 k30 cp31 32 4 (rvals (canR [(⟨a, b, c, d⟩ : Rect)])) true), .gen (rowE (A22) g23 k24 cp25 32 4 (rvals (canR xsz)) true), .gen (rowE (pB b21) b21 1 1 32 4 (rvals [(⟨a, b, c, d⟩ : Rect)]) true), .cells b1 [iq a, iq b, iq c, iq d] 32 true, rD (Az) gz oz nz 4 (rvals xsz)]) (fun x_ => True) (fun w hT => (regCut A22 g23 0 k24 cp25 (canR xsz) A28 g29 0 k30 cp31 (canR [(⟨a, b, c, d⟩ : Rect)]) w (hT.viewRo (.cons (i := 1) rfl Vw.rowRd (.cons (i := 0) rfl Vw.rowRd .nil)) rfl) (by omega)).mono fun e w' ⟨A34, g35, k36, cp37, he_, ht_⟩ => ⟨(A34, g35, k36, cp37), he_, trivial, hT.news ht_ rfl⟩) ?_
 rintro ⟨A34, g35, k36, cp37⟩ hf38_
 refine fR 0 k36 A34 g35 cp37 (regM andB (canR xsz) (canR [(⟨a, b, c, d⟩ : Rect)])) rfl fun hr39_a hr39_l hr39_c hr39_m => ?_
 refine dX 4 [] <| tD 4 [] [(6, 0)] 0 [6, 5, 4, 1, 3, 2, 0] [(4, .slice A34 k36 cp37)] [] <| dD <| zN <| cont_ret ?_
 refine rA rfl 0 (.slice A34 k36 cp37) fun w hT => ?_
 replace hT := hT.erase 5 (fun e h hw => by cases h; first | rfl | cases hw)
 replace hT := hT.erase 4 (fun e h hw => by cases h; first | rfl | cases hw)
 replace hT := hT.erase 3 (fun e h hw => by cases h; first | rfl | cases hw)
 replace hT := hT.erase 2 (fun e h hw => by cases h; first | rfl | cases hw)
 replace hT := hT.erase 1 (fun e h hw => by cases h; first | rfl | cases hw)
 exact ⟨_, _, _, _, rfl, hT⟩
theorem payDraw (m : Nat) (W H : Int) (r n cap : Nat) (px : List Int) (m' : Nat) (W' H' : Int) (r' n' cap' : Nat) (px' : List Int) (X Y s al ca cb cc cd : Int) (Az : Option Addr) (gz oz nz capz : Nat) (xsz : List Rect) (w : World) (hT0 : Tab w w [.ro m [iQ W, iQ H, sL r n cap] 116, .gen (rowE (some ⟨r, 0, none⟩) r n cap 52 1 (cV px) false), .ro m' [iQ W', iQ H', .slice (some ⟨r', 0, none⟩) n' cap'] 116, rD (some ⟨r', 0, none⟩) r' 0 n' 1 (cV px'), rD (Az) gz oz nz 4 (rvals xsz)]) (R : List Rect) (hR : R = regM andB (canR xsz) (canR [cutR (shwR W' H' X Y s ca cb cc cd).x0 (shwR W' H' X Y s ca cb cc cd).y0 (shwR W' H' X Y s ca cb cc cd).x1 (shwR W' H' X Y s ca cb cc cd).y1 0 0 W H])) (hne : m' ≠ m) (hcap : n ≤ cap) (hok : ImgOk W H n px) (hmay : AllMay px) (hcap' : n' ≤ cap') (hok' : ImgOk W' H' n' px') (hmay' : AllMay px') (hs : 1 ≤ s ∧ s ≤ 8) (hX : -1000000 ≤ X ∧ X ≤ 1000000) (hY : -1000000 ≤ Y ∧ Y ≤ 1000000) (hnz : nz ≤ 200000) (hcz : (canR xsz).length ≤ 200000) :
    Calls Tryz.prog 60 #[pT m, .agg #[.pointer (some ⟨m', 0, none⟩), iQ X, iQ Y, iQ s, iQ al, iQ ca, iQ cb, iQ cc, iQ cd], .slice Az nz capz] w fun e w' => e = .returned (iQ ((cntL W n R : Nat) : Int)) ∧ Tab w w' [.ro m [iQ W, iQ H, sL r n cap] 116, .gen (rowE (some ⟨r, 0, none⟩) r n cap 52 1 (cV (drawL W R (pcolC W' H' X Y s al ca cb cc cd px') px)) false), .ro m' [iQ W', iQ H', .slice (some ⟨r', 0, none⟩) n' cap'] 116, rD (some ⟨r', 0, none⟩) r' 0 n' 1 (cV px'), rD (Az) gz oz nz 4 (rvals xsz)] := by
 obtain ⟨hraz, hrlz⟩ := Rd.factsR (hT0.ok 4 _ rfl)
 have hOn : OnImg W H R := by rw [hR]; exact onImg_cut _ hok.w1 hok.h1
 have hReg : IsReg R (hasL R) := by rw [hR]; exact (regM_isReg rfl _ _).self
 have hR64 := fun r hr => r64_of (reg_in hReg hOn r hr) hok.w2 hok.h2
 have hRl := regP_len hReg hOn hok.w1 hok.num
 have hcl := cntL_le W n R
 have hle := hok.le
 have hf := pcolC_may hmay' W' H' X Y s al ca cb cc cd
 have hw1 := hok.w1
 have hw2 := hok.w2
 have hh1 := hok.h1
 have hh2 := hok.h2
 refine enterM 57 [(0, .pointer (pB m)), (1, .agg #[.pointer (some ⟨m', 0, none⟩), iq X, iq Y, iq s, iq al, iq ca, iq cb, iq cc, iq cd]), (2, .slice Az nz capz)] [.ro m [iq W, iq H, .slice (pB r) n cap] 116, .gen (rowE (pB r) r n cap 52 1 (cV px) false), .ro m' [iq W', iq H', .slice (some ⟨r', 0, none⟩) n' cap'] 116, rD (some ⟨r', 0, none⟩) r' 0 n' 1 (cV px'), rD (Az) gz oz nz 4 (rvals xsz)] Tryz.func60 rfl Tryz.ntmps60 rfl (by kernel_rfl) hT0 ?_
 refine zSR 3 <| batch2 [0, 0, 0] 3 0 (fun b1 b2 => [(2, .slice Az nz capz), (3, .pointer (pB b1)), (4, .pointer (pB b2))]) (fun b1 b2 => [.cells b2 [.pointer (some ⟨m', 0, none⟩), iq X, iq Y, iq s, iq al, iq ca, iq cb, iq cc, iq cd] 120 true, .cells b1 [.pointer (pB m)] 56 true, .ro m [iq W, iq H, .slice (pB r) n cap] 116, .gen (rowE (pB r) r n cap 52 1 (cV px) false), .ro m' [iq W', iq H', .slice (some ⟨r', 0, none⟩) n' cap'] 116, rD (some ⟨r', 0, none⟩) r' 0 n' 1 (cV px'), rD (Az) gz oz nz 4 (rvals xsz)]) rfl rfl [2, 3, 4] (fun _ _ => rfl) (fun b1 b2 => by kernel_rfl) (fun b1 b2 => by kernel_rfl) (fun b1 b2 => ?_)
 refine zDNSR 3 <| bW [0, 0, 0] 3 0 (fun b3 => [(2, .slice Az nz capz), (3, .pointer (pB b1)), (4, .pointer (pB b2)), (7, .pointer (pB b3))]) (fun b3 => [.cells b3 [.pointer (some ⟨m', 0, none⟩), iq X, iq Y, iq s, iq al, iq ca, iq cb, iq cc, iq cd] 120 true, .cells b2 [.pointer (some ⟨m', 0, none⟩), iq X, iq Y, iq s, iq al, iq ca, iq cb, iq cc, iq cd] 120 true, .cells b1 [.pointer (pB m)] 56 true, .ro m [iq W, iq H, .slice (pB r) n cap] 116, .gen (rowE (pB r) r n cap 52 1 (cV px) false), .ro m' [iq W', iq H', .slice (some ⟨r', 0, none⟩) n' cap'] 116, rD (some ⟨r', 0, none⟩) r' 0 n' 1 (cV px'), rD (Az) gz oz nz 4 (rvals xsz)]) [2, 3, 4, 7] fun b3 => ?_
 refine zDNSSR 4 <| bD [0, 1, 2] 3 1 [(17, .pointer (some ⟨m', 0, none⟩)), (18, .pointer (pB m))] [16] <| pS 4 0 <| sS 19 (bopS .eql 56 (.tmp 17) (.tmp 18) (.pointer (some ⟨m', 0, none⟩)) (.pointer (pB m))) (.bool false) (fun w hT => run_eqPtrNe (te := 116) (sz := 3) (by kernel_rfl) (by kernel_rfl) (by decide) hne (hT.ok 5 _ rfl) (hT.ok 3 _ rfl)) <| zDN <| zFKNSR 2 <| bW [0, 0] 2 0 (fun b4 => [(2, .slice Az nz capz), (3, .pointer (pB b1)), (4, .pointer (pB b2)), (7, .pointer (pB b3)), (8, .pointer (pB b4))]) (fun b4 => [.cells b4 [iq 0] 3 true, .cells b3 [.pointer (some ⟨m', 0, none⟩), iq X, iq Y, iq s, iq al, iq ca, iq cb, iq cc, iq cd] 120 true, .cells b2 [.pointer (some ⟨m', 0, none⟩), iq X, iq Y, iq s, iq al, iq ca, iq cb, iq cc, iq cd] 120 true, .cells b1 [.pointer (pB m)] 56 true, .ro m [iq W, iq H, .slice (pB r) n cap] 116, .gen (rowE (pB r) r n cap 52 1 (cV px) false), .ro m' [iq W', iq H', .slice (some ⟨r', 0, none⟩) n' cap'] 116, rD (some ⟨r', 0, none⟩) r' 0 n' 1 (cV px'), rD (Az) gz oz nz 4 (rvals xsz)]) [2, 3, 4, 7, 8] fun b4 => ?_
 refine zDNS <| cSq <| drawn_enter 8 [] rfl (by kernel_rfl) ?_
 refine tD 0 [] [(0, 0), (1, 2), (3, 3)] 5 [3, 1, 0] [(23, .slice Az nz capz), (24, .agg #[.pointer (some ⟨m', 0, none⟩), iq X, iq Y, iq s, iq al, iq ca, iq cb, iq cc, iq cd]), (26, .pointer (pB m))] [] ?_ (hpo := (pok_then (pok_then pok_np)))
 refine dO 2 4 <| cP 25 (.agg #[iq ((shwR W' H' X Y s ca cb cc cd).x0), iq ((shwR W' H' X Y s ca cb cc cd).y0), iq ((shwR W' H' X Y s ca cb cc cd).x1), iq ((shwR W' H' X Y s ca cb cc cd).y1)]) (fun w hT => layBox m' W' H' r' n' cap' px' X Y s al ca cb cc cd w ⟨hT.ok 6 _ rfl, hT.ok 7 _ rfl, by omega⟩ hok') <| dX 0 [] <| dO 4 3 <| cP 27 (.agg #[iq 0, iq 0, iq W, iq H]) (fun w hT => imgBox m W H r n cap px  w ⟨hT.ok 4 _ rfl, Row.rd (hT.ok 5 _ rfl), Row.capLe (hT.ok 5 _ rfl)⟩ hok) <| dX 0 [] <| dO 5 2 <| cP 28 (.agg #[iq ((cutR ((shwR W' H' X Y s ca cb cc cd).x0) ((shwR W' H' X Y s ca cb cc cd).y0) ((shwR W' H' X Y s ca cb cc cd).x1) ((shwR W' H' X Y s ca cb cc cd).y1) 0 0 W H).x0), iq ((cutR ((shwR W' H' X Y s ca cb cc cd).x0) ((shwR W' H' X Y s ca cb cc cd).y0) ((shwR W' H' X Y s ca cb cc cd).x1) ((shwR W' H' X Y s ca cb cc cd).y1) 0 0 W H).y0), iq ((cutR ((shwR W' H' X Y s ca cb cc cd).x0) ((shwR W' H' X Y s ca cb cc cd).y0) ((shwR W' H' X Y s ca cb cc cd).x1) ((shwR W' H' X Y s ca cb cc cd).y1) 0 0 W H).x1), iq ((cutR ((shwR W' H' X Y s ca cb cc cd).x0) ((shwR W' H' X Y s ca cb cc cd).y0) ((shwR W' H' X Y s ca cb cc cd).x1) ((shwR W' H' X Y s ca cb cc cd).y1) 0 0 W H).y1)]) (fun w hT => rectCut ((shwR W' H' X Y s ca cb cc cd).x0) ((shwR W' H' X Y s ca cb cc cd).y0) ((shwR W' H' X Y s ca cb cc cd).x1) ((shwR W' H' X Y s ca cb cc cd).y1) 0 0 W H w) <| dX 0 [] <| dO 6 1 <| cG (d := 29) (α := Option Addr × Nat × Nat × Nat) (fun x_ => .slice x_.1 x_.2.2.1 x_.2.2.2) (fun x_ => [.gen (rowE (x_.1) x_.2.1 x_.2.2.1 x_.2.2.2 32 4 (rvals (regM andB (canR xsz) (canR [(⟨(cutR ((shwR W' H' X Y s ca cb cc cd).x0) ((shwR W' H' X Y s ca cb cc cd).y0) ((shwR W' H' X Y s ca cb cc cd).x1) ((shwR W' H' X Y s ca cb cc cd).y1) 0 0 W H).x0, (cutR ((shwR W' H' X Y s ca cb cc cd).x0) ((shwR W' H' X Y s ca cb cc cd).y0) ((shwR W' H' X Y s ca cb cc cd).x1) ((shwR W' H' X Y s ca cb cc cd).y1) 0 0 W H).y0, (cutR ((shwR W' H' X Y s ca cb cc cd).x0) ((shwR W' H' X Y s ca cb cc cd).y0) ((shwR W' H' X Y s ca cb cc cd).x1) ((shwR W' H' X Y s ca cb cc cd).y1) 0 0 W H).x1, (cutR ((shwR W' H' X Y s ca cb cc cd).x0) ((shwR W' H' X Y s ca cb cc cd).y0) ((shwR W' H' X Y s ca cb cc cd).x1) ((shwR W' H' X Y s ca cb cc cd).y1) 0 0 W H).y1⟩ : Rect)]))) true), .cells b4 [iq 0] 3 true, .cells b3 [.pointer (some ⟨m', 0, none⟩), iq X, iq Y, iq s, iq al, iq ca, iq cb, iq cc, iq cd] 120 true, .cells b2 [.pointer (some ⟨m', 0, none⟩), iq X, iq Y, iq s, iq al, iq ca, iq cb, iq cc, iq cd] 120 true, .cells b1 [.pointer (pB m)] 56 true, .ro m [iq W, iq H, .slice (pB r) n cap] 116, .gen (rowE (pB r) r n cap 52 1 (cV px) false), .ro m' [iq W', iq H', .slice (some ⟨r', 0, none⟩) n' cap'] 116, rD (some ⟨r', 0, none⟩) r' 0 n' 1 (cV px'), rD (Az) gz oz nz 4 (rvals xsz)]) (fun x_ => True) (fun w hT => (payWithin Az gz oz nz capz xsz ((cutR ((shwR W' H' X Y s ca cb cc cd).x0) ((shwR W' H' X Y s ca cb cc cd).y0) ((shwR W' H' X Y s ca cb cc cd).x1) ((shwR W' H' X Y s ca cb cc cd).y1) 0 0 W H).x0) ((cutR ((shwR W' H' X Y s ca cb cc cd).x0) ((shwR W' H' X Y s ca cb cc cd).y0) ((shwR W' H' X Y s ca cb cc cd).x1) ((shwR W' H' X Y s ca cb cc cd).y1) 0 0 W H).y0) ((cutR ((shwR W' H' X Y s ca cb cc cd).x0) ((shwR W' H' X Y s ca cb cc cd).y0) ((shwR W' H' X Y s ca cb cc cd).x1) ((shwR W' H' X Y s ca cb cc cd).y1) 0 0 W H).x1) ((cutR ((shwR W' H' X Y s ca cb cc cd).x0) ((shwR W' H' X Y s ca cb cc cd).y0) ((shwR W' H' X Y s ca cb cc cd).x1) ((shwR W' H' X Y s ca cb cc cd).y1) 0 0 W H).y1) w (hT.viewRo (.cons (i := 8) rfl Vw.rd .nil) rfl) hnz hcz).mono fun e w' ⟨A5, g6, k7, cp8, he_, ht_⟩ => ⟨(A5, g6, k7, cp8), he_, trivial, hT.news ht_ rfl⟩) ?_
 rintro ⟨A5, g6, k7, cp8⟩ hf9_
 refine fR 0 k7 A5 g6 cp8 (regM andB (canR xsz) (canR [(⟨(cutR ((shwR W' H' X Y s ca cb cc cd).x0) ((shwR W' H' X Y s ca cb cc cd).y0) ((shwR W' H' X Y s ca cb cc cd).x1) ((shwR W' H' X Y s ca cb cc cd).y1) 0 0 W H).x0, (cutR ((shwR W' H' X Y s ca cb cc cd).x0) ((shwR W' H' X Y s ca cb cc cd).y0) ((shwR W' H' X Y s ca cb cc cd).x1) ((shwR W' H' X Y s ca cb cc cd).y1) 0 0 W H).y0, (cutR ((shwR W' H' X Y s ca cb cc cd).x0) ((shwR W' H' X Y s ca cb cc cd).y0) ((shwR W' H' X Y s ca cb cc cd).x1) ((shwR W' H' X Y s ca cb cc cd).y1) 0 0 W H).x1, (cutR ((shwR W' H' X Y s ca cb cc cd).x0) ((shwR W' H' X Y s ca cb cc cd).y0) ((shwR W' H' X Y s ca cb cc cd).x1) ((shwR W' H' X Y s ca cb cc cd).y1) 0 0 W H).y1⟩ : Rect)])) rfl fun hr10_a hr10_l hr10_c hr10_m => ?_
 refine dX 1 [] <| dO 7 0 <| cG (d := 30) (α := Nat) (fun x_ => .func (.func 109) #[] #[.pointer (pB x_)]) (fun x_ => [.cells x_ [.slice A5 k7 cp8] 23 true, .gen (rowE (A5) g6 k7 cp8 32 4 (rvals (regM andB (canR xsz) (canR [(⟨(cutR ((shwR W' H' X Y s ca cb cc cd).x0) ((shwR W' H' X Y s ca cb cc cd).y0) ((shwR W' H' X Y s ca cb cc cd).x1) ((shwR W' H' X Y s ca cb cc cd).y1) 0 0 W H).x0, (cutR ((shwR W' H' X Y s ca cb cc cd).x0) ((shwR W' H' X Y s ca cb cc cd).y0) ((shwR W' H' X Y s ca cb cc cd).x1) ((shwR W' H' X Y s ca cb cc cd).y1) 0 0 W H).y0, (cutR ((shwR W' H' X Y s ca cb cc cd).x0) ((shwR W' H' X Y s ca cb cc cd).y0) ((shwR W' H' X Y s ca cb cc cd).x1) ((shwR W' H' X Y s ca cb cc cd).y1) 0 0 W H).x1, (cutR ((shwR W' H' X Y s ca cb cc cd).x0) ((shwR W' H' X Y s ca cb cc cd).y0) ((shwR W' H' X Y s ca cb cc cd).x1) ((shwR W' H' X Y s ca cb cc cd).y1) 0 0 W H).y1⟩ : Rect)]))) true), .cells b4 [iq 0] 3 true, .cells b3 [.pointer (some ⟨m', 0, none⟩), iq X, iq Y, iq s, iq al, iq ca, iq cb, iq cc, iq cd] 120 true, .cells b2 [.pointer (some ⟨m', 0, none⟩), iq X, iq Y, iq s, iq al, iq ca, iq cb, iq cc, iq cd] 120 true, .cells b1 [.pointer (pB m)] 56 true, .ro m [iq W, iq H, .slice (pB r) n cap] 116, .gen (rowE (pB r) r n cap 52 1 (cV px) false), .ro m' [iq W', iq H', .slice (some ⟨r', 0, none⟩) n' cap'] 116, rD (some ⟨r', 0, none⟩) r' 0 n' 1 (cV px'), rD (Az) gz oz nz 4 (rvals xsz)]) (fun x_ => True) (fun w hT => (payPoints A5 k7 cp8 w).mono fun e w' ⟨kb11, he_, ht_⟩ => ⟨kb11, he_, trivial, hT.news ht_ rfl⟩) ?_
 rintro kb11 hf12_
 refine dX 2 [] <| dD <| zN <| cont_block ?_
 refine fR 1 k7 A5 g6 cp8 (regM andB (canR xsz) (canR [(⟨(cutR ((shwR W' H' X Y s ca cb cc cd).x0) ((shwR W' H' X Y s ca cb cc cd).y0) ((shwR W' H' X Y s ca cb cc cd).x1) ((shwR W' H' X Y s ca cb cc cd).y1) 0 0 W H).x0, (cutR ((shwR W' H' X Y s ca cb cc cd).x0) ((shwR W' H' X Y s ca cb cc cd).y0) ((shwR W' H' X Y s ca cb cc cd).x1) ((shwR W' H' X Y s ca cb cc cd).y1) 0 0 W H).y0, (cutR ((shwR W' H' X Y s ca cb cc cd).x0) ((shwR W' H' X Y s ca cb cc cd).y0) ((shwR W' H' X Y s ca cb cc cd).x1) ((shwR W' H' X Y s ca cb cc cd).y1) 0 0 W H).x1, (cutR ((shwR W' H' X Y s ca cb cc cd).x0) ((shwR W' H' X Y s ca cb cc cd).y0) ((shwR W' H' X Y s ca cb cc cd).x1) ((shwR W' H' X Y s ca cb cc cd).y1) 0 0 W H).y1⟩ : Rect)])) rfl fun hr13_a hr13_l hr13_c hr13_m => ?_
 refine cont_rowEqR 1 (regM andB (canR xsz) (canR [(⟨(cutR ((shwR W' H' X Y s ca cb cc cd).x0) ((shwR W' H' X Y s ca cb cc cd).y0) ((shwR W' H' X Y s ca cb cc cd).x1) ((shwR W' H' X Y s ca cb cc cd).y1) 0 0 W H).x0, (cutR ((shwR W' H' X Y s ca cb cc cd).x0) ((shwR W' H' X Y s ca cb cc cd).y0) ((shwR W' H' X Y s ca cb cc cd).x1) ((shwR W' H' X Y s ca cb cc cd).y1) 0 0 W H).y0, (cutR ((shwR W' H' X Y s ca cb cc cd).x0) ((shwR W' H' X Y s ca cb cc cd).y0) ((shwR W' H' X Y s ca cb cc cd).x1) ((shwR W' H' X Y s ca cb cc cd).y1) 0 0 W H).x1, (cutR ((shwR W' H' X Y s ca cb cc cd).x0) ((shwR W' H' X Y s ca cb cc cd).y0) ((shwR W' H' X Y s ca cb cc cd).x1) ((shwR W' H' X Y s ca cb cc cd).y1) 0 0 W H).y1⟩ : Rect)])) (R) rfl hR.symm ?_
 refine cont_weaken 0 (.ro kb11 [.slice A5 k7 cp8] 23) rfl rfl Vw.roc rfl ?_
 refine cont_weaken 1 (rD (A5) g6 0 k7 4 (rvals R)) rfl rfl Vw.rowRd rfl ?_
 refine cont_norm [(3, .pointer (pB b1)), (7, .pointer (pB b3)), (8, .pointer (pB b4)), (23, .slice Az nz capz), (24, .agg #[.pointer (some ⟨m', 0, none⟩), iq X, iq Y, iq s, iq al, iq ca, iq cb, iq cc, iq cd]), (25, .agg #[iq ((shwR W' H' X Y s ca cb cc cd).x0), iq ((shwR W' H' X Y s ca cb cc cd).y0), iq ((shwR W' H' X Y s ca cb cc cd).x1), iq ((shwR W' H' X Y s ca cb cc cd).y1)]), (26, .pointer (pB m)), (27, .agg #[iq 0, iq 0, iq W, iq H]), (28, .agg #[iq ((cutR ((shwR W' H' X Y s ca cb cc cd).x0) ((shwR W' H' X Y s ca cb cc cd).y0) ((shwR W' H' X Y s ca cb cc cd).x1) ((shwR W' H' X Y s ca cb cc cd).y1) 0 0 W H).x0), iq ((cutR ((shwR W' H' X Y s ca cb cc cd).x0) ((shwR W' H' X Y s ca cb cc cd).y0) ((shwR W' H' X Y s ca cb cc cd).x1) ((shwR W' H' X Y s ca cb cc cd).y1) 0 0 W H).y0), iq ((cutR ((shwR W' H' X Y s ca cb cc cd).x0) ((shwR W' H' X Y s ca cb cc cd).y0) ((shwR W' H' X Y s ca cb cc cd).x1) ((shwR W' H' X Y s ca cb cc cd).y1) 0 0 W H).x1), iq ((cutR ((shwR W' H' X Y s ca cb cc cd).x0) ((shwR W' H' X Y s ca cb cc cd).y0) ((shwR W' H' X Y s ca cb cc cd).x1) ((shwR W' H' X Y s ca cb cc cd).y1) 0 0 W H).y1)]), (29, .slice A5 k7 cp8), (30, .func (.func 109) #[] #[.pointer (pB kb11)])] [.ro kb11 [.slice A5 k7 cp8] 23, rD (A5) g6 0 k7 4 (rvals R), .cells b4 [iq ((([] : List (Int × Int)).length : Nat) : Int)] 3 true, .cells b3 [.pointer (some ⟨m', 0, none⟩), iq X, iq Y, iq s, iq al, iq ca, iq cb, iq cc, iq cd] 120 true, .cells b2 [.pointer (some ⟨m', 0, none⟩), iq X, iq Y, iq s, iq al, iq ca, iq cb, iq cc, iq cd] 120 true, .cells b1 [.pointer (pB m)] 56 true, .ro m [iq W, iq H, .slice (pB r) n cap] 116, .gen (rowE (pB r) r n cap 52 1 (cV px) false), .ro m' [iq W', iq H', .slice (some ⟨r', 0, none⟩) n' cap'] 116, rD (some ⟨r', 0, none⟩) r' 0 n' 1 (cV px'), rD (Az) gz oz nz 4 (rvals xsz)] (by kernel_rfl) (congrArg (fun c_ : List Value => ([.ro kb11 [.slice A5 k7 cp8] 23, rD (A5) g6 0 k7 4 (rvals R), .cells b4 c_ 3 true, .cells b3 [.pointer (some ⟨m', 0, none⟩), iq X, iq Y, iq s, iq al, iq ca, iq cb, iq cc, iq cd] 120 true, .cells b2 [.pointer (some ⟨m', 0, none⟩), iq X, iq Y, iq s, iq al, iq ca, iq cb, iq cc, iq cd] 120 true, .cells b1 [.pointer (pB m)] 56 true, .ro m [iq W, iq H, .slice (pB r) n cap] 116, .gen (rowE (pB r) r n cap 52 1 (cV px) false), .ro m' [iq W', iq H', .slice (some ⟨r', 0, none⟩) n' cap'] 116, rD (some ⟨r', 0, none⟩) r' 0 n' 1 (cV px'), rD (Az) gz oz nz 4 (rvals xsz)] : List Ent)) (by simp)) ?_
 refine cont_rowEq (k := .u32) 7 (px) (drawF W H (pcolC W' H' X Y s al ca cb cc cd px') px ([] : List (Int × Int))) rfl rfl ?_
 refine cont_rangeFunc (X := Int × Int) (β := List (Int × Int)) (γ := Unit) (gf := 109) (lb := #[.pointer (pB kb11)]) (fun z_ : Int × Int => #[iq z_.1, iq z_.2]) [.ro kb11 [.slice A5 k7 cp8] 23, rD (A5) g6 0 k7 4 (rvals R)] (fun z_ : Int × Int => []) (fun xs_ => xs_ = regP R) (fun xs_ => xs_ <+: regP R) (fun (pre : List (Int × Int)) (x_ : List (Int × Int)) => x_ = pre) (fun x_ : List (Int × Int) => [.cells b4 [iq ((x_.length : Nat) : Int)] 3 true, .cells b3 [.pointer (some ⟨m', 0, none⟩), iq X, iq Y, iq s, iq al, iq ca, iq cb, iq cc, iq cd] 120 true, .cells b2 [.pointer (some ⟨m', 0, none⟩), iq X, iq Y, iq s, iq al, iq ca, iq cb, iq cc, iq cd] 120 true, .cells b1 [.pointer (pB m)] 56 true, .ro m [iq W, iq H, .slice (pB r) n cap] 116, .gen (rowE (pB r) r n cap 52 1 (cV (drawF W H (pcolC W' H' X Y s al ca cb cc cd px') px x_)) false), .ro m' [iq W', iq H', .slice (some ⟨r', 0, none⟩) n' cap'] 116, rD (some ⟨r', 0, none⟩) r' 0 n' 1 (cV px'), rD (Az) gz oz nz 4 (rvals xsz)]) (fun (_ : Code) (_ : Unit) => False) (fun x_ : Unit => []) [] rfl (fun _ _ => rfl) (fun _ => rfl) (by kernel_rfl) (ptsIter kb11 A5 g6 0 k7 cp8 R (by omega) hR64 _) rfl rfl ?_ ?_ ?_ ?_
 ·
  rintro l_ z14_ e14_ e14b_ e14q_ pre ⟨x, y⟩ ps B_ hz_ hinv15_ hsp_ hB_
  replace hinv15_ : ps = pre := hinv15_
  replace hsp_ : (pre ++ [(x, y)]) <+: regP R := hsp_
  refine mcont_seq ?_
  refine mcont_region 1 rfl (by kernel_rfl) ?_
  refine bD [0] 1 0 [(9, iq x)] [] <| zDN <| mcont_region 1 rfl (by kernel_rfl) ?_
  refine bD [0] 1 0 [(10, iq y)] [] <| zDN <| hB_ _ [z14_] [e14q_, .ro kb11 [.slice A5 k7 cp8] 23, rD (A5) g6 0 k7 4 (rvals R), .cells b4 [iq ((ps.length : Nat) : Int)] 3 true, .cells b3 [.pointer (some ⟨m', 0, none⟩), iq X, iq Y, iq s, iq al, iq ca, iq cb, iq cc, iq cd] 120 true, .cells b2 [.pointer (some ⟨m', 0, none⟩), iq X, iq Y, iq s, iq al, iq ca, iq cb, iq cc, iq cd] 120 true, .cells b1 [.pointer (pB m)] 56 true, .ro m [iq W, iq H, .slice (pB r) n cap] 116, .gen (rowE (pB r) r n cap 52 1 (cV (drawF W H (pcolC W' H' X Y s al ca cb cc cd px') px ps)) false), .ro m' [iq W', iq H', .slice (some ⟨r', 0, none⟩) n' cap'] 116, rD (some ⟨r', 0, none⟩) r' 0 n' 1 (cV px'), rD (Az) gz oz nz 4 (rvals xsz)] ?_
  have hps := hinv15_
  have hmem := hasL_of_pre hsp_
  obtain ⟨hx0, hx1, hy0, hy1⟩ := hOn _ _ hmem
  have hlen := pre_len hsp_ hRl
  have hat := (hok.drawF (pcolC W' H' X Y s al ca cb cc cd px') ps).atC_range x y
  have hpc := pcolC_in px' W' H' X Y s al ca cb cc cd x y
  obtain ⟨hpc0, hpc1⟩ := hpc
  have hpsl : ps.length < n := by rw [hps]; omega
  refine mcont_block ?_
  refine mcont_seq ?_
  refine mcont_region 9 rfl (by kernel_rfl) ?_
  refine bD [6, 0, 0] 3 6 [(34, .agg #[.pointer (some ⟨m', 0, none⟩), iq X, iq Y, iq s, iq al, iq ca, iq cb, iq cc, iq cd]), (35, iq x), (36, iq y)] [] <| pS 4 5 <| cP 37 (.tuple #[cQ (pcolC W' H' X Y s al ca cb cc cd px' x y), .bool (pcolB W' H' X Y s ca cb cc cd x y)]) (fun w hT => layColor m' W' H' r' n' cap' px' X Y s al ca cb cc cd x y w ⟨hT.ok 11 _ rfl, hT.ok 12 _ rfl, by omega⟩ hok' (by omega) (by omega) (by omega) (by omega) (by omega)) <| bD [0, 0, 0, 0, 0] 9 0 [(11, cQ (pcolC W' H' X Y s al ca cb cc cd px' x y))] [12, 33, 38, 39] <| zDN <| mcont_seq ?_
  refine mcont_region 9 rfl (by kernel_rfl) ?_
  refine bD [8, 0, 0] 3 6 [(41, .pointer (pB m)), (42, iq x), (43, iq y)] [] <| pS 4 5 <| cP 44 (.tuple #[cQ (atC W H (drawF W H (pcolC W' H' X Y s al ca cb cc cd px') px ps) x y), .bool (hasB 0 0 W H x y)]) (fun w hT => imgAt m W H r n cap (drawF W H (pcolC W' H' X Y s al ca cb cc cd px') px ps) x y w ⟨hT.ok 9 _ rfl, Row.rd (hT.ok 10 _ rfl), Row.capLe (hT.ok 10 _ rfl)⟩ (hok.drawF _ _)) <| bD [0, 0, 0, 0, 0] 9 0 [(13, cQ (atC W H (drawF W H (pcolC W' H' X Y s al ca cb cc cd px') px ps) x y))] [14, 40, 45, 46] <| zDN <| mcont_seq ?_
  refine mdrawn_enter 7 [10] rfl (by kernel_rfl) (by kernel_rfl) ?_
  refine tD 0 [10] [(0, 8), (1, 0), (2, 0), (3, 0), (4, 0)] 2 [4, 3, 2, 1, 0] [(47, .pointer (pB m)), (48, iq x), (49, iq y), (50, cQ (pcolC W' H' X Y s al ca cb cc cd px' x y)), (51, cQ (atC W H (drawF W H (pcolC W' H' X Y s al ca cb cc cd px') px ps) x y))] [] ?_ (hpo := (pok_then (pok_blk pok_rq)))
  refine dO 5 1 <| cP 52 (cQ (overC (pcolC W' H' X Y s al ca cb cc cd px' x y) (atC W H (drawF W H (pcolC W' H' X Y s al ca cb cc cd px') px ps) x y))) (fun w hT => colOver (pcolC W' H' X Y s al ca cb cc cd px' x y) (atC W H (drawF W H (pcolC W' H' X Y s al ca cb cc cd px') px ps) x y) w (by omega) (by omega) (by omega) (by omega)) <| dX 0 [10] <| dO 6 0 <| cG (d := 53) (α := Unit) (fun _ => iq (setE W H x y (overC (pcolC W' H' X Y s al ca cb cc cd px' x y) (atC W H (drawF W H (pcolC W' H' X Y s al ca cb cc cd px') px ps) x y)))) (fun _ => [z14_, e14b_, e14q_, .ro kb11 [.slice A5 k7 cp8] 23, rD (A5) g6 0 k7 4 (rvals R), .cells b4 [iq ((ps.length : Nat) : Int)] 3 true, .cells b3 [.pointer (some ⟨m', 0, none⟩), iq X, iq Y, iq s, iq al, iq ca, iq cb, iq cc, iq cd] 120 true, .cells b2 [.pointer (some ⟨m', 0, none⟩), iq X, iq Y, iq s, iq al, iq ca, iq cb, iq cc, iq cd] 120 true, .cells b1 [.pointer (pB m)] 56 true, .ro m [iq W, iq H, .slice (pB r) n cap] 116, .gen (rowE (pB r) r n cap 52 1 (cV (setL W H (drawF W H (pcolC W' H' X Y s al ca cb cc cd px') px ps) x y (overC (pcolC W' H' X Y s al ca cb cc cd px' x y) (atC W H (drawF W H (pcolC W' H' X Y s al ca cb cc cd px') px ps) x y)))) false), .ro m' [iq W', iq H', .slice (some ⟨r', 0, none⟩) n' cap'] 116, rD (some ⟨r', 0, none⟩) r' 0 n' 1 (cV px'), rD (Az) gz oz nz 4 (rvals xsz)]) (fun _ => True) (fun w hT => (imgSet m W H r n cap (drawF W H (pcolC W' H' X Y s al ca cb cc cd px') px ps) x y (overC (pcolC W' H' X Y s al ca cb cc cd px' x y) (atC W H (drawF W H (pcolC W' H' X Y s al ca cb cc cd px') px ps) x y)) w ⟨hT.ok 9 _ rfl, hT.ok 10 _ rfl, fun hne => hT.disj 9 10 _ _ (by omega) rfl rfl (.inr rfl) _ rfl ⟨hne, by simp⟩⟩ (hok.drawF _ _) (overC_in _ _)).mono fun e w' ⟨he_, hk_, hr_⟩ => ⟨(), he_, trivial, hT.keepBut hk_ (i := 10) rfl hr_⟩) (fun _ _ => ?_)
  refine dX 0 [10] <| dD <| zN <| mcont_region 3 rfl (by kernel_rfl) ?_
  refine bD [5, 0] 2 1 [(55, iq (IntKind.i64.wrap (((ps.length : Nat) : Int) + 1)))] [54] <| wI 55 (((ps.length : Nat) : Int) + 1) <| bZ [5] 3 0 [] [z14_, e14b_, e14q_, .ro kb11 [.slice A5 k7 cp8] 23, rD (A5) g6 0 k7 4 (rvals R), .cells b4 [iq (((ps.length : Nat) : Int) + 1)] 3 true, .cells b3 [.pointer (some ⟨m', 0, none⟩), iq X, iq Y, iq s, iq al, iq ca, iq cb, iq cc, iq cd] 120 true, .cells b2 [.pointer (some ⟨m', 0, none⟩), iq X, iq Y, iq s, iq al, iq ca, iq cb, iq cc, iq cd] 120 true, .cells b1 [.pointer (pB m)] 56 true, .ro m [iq W, iq H, .slice (pB r) n cap] 116, .gen (rowE (pB r) r n cap 52 1 (cV (setL W H (drawF W H (pcolC W' H' X Y s al ca cb cc cd px') px ps) x y (overC (pcolC W' H' X Y s al ca cb cc cd px' x y) (atC W H (drawF W H (pcolC W' H' X Y s al ca cb cc cd px') px ps) x y)))) false), .ro m' [iq W', iq H', .slice (some ⟨r', 0, none⟩) n' cap'] 116, rD (some ⟨r', 0, none⟩) r' 0 n' 1 (cV px'), rD (Az) gz oz nz 4 (rvals xsz)] <| cDn <| blk_normal <| cont_rowEq (k := .u32) 10 (setL W H (drawF W H (pcolC W' H' X Y s al ca cb cc cd px') px ps) x y (overC (pcolC W' H' X Y s al ca cb cc cd px' x y) (atC W H (drawF W H (pcolC W' H' X Y s al ca cb cc cd px') px ps) x y))) (drawF W H (pcolC W' H' X Y s al ca cb cc cd px') px (ps ++ [(x, y)])) rfl ((drawF_snoc W H (pcolC W' H' X Y s al ca cb cc cd px') px ps (x, y)).symm) ?_
  refine cont_norm [] [z14_, e14b_, e14q_, .ro kb11 [.slice A5 k7 cp8] 23, rD (A5) g6 0 k7 4 (rvals R), .cells b4 [iq (((ps ++ [(x, y)]).length : Nat) : Int)] 3 true, .cells b3 [.pointer (some ⟨m', 0, none⟩), iq X, iq Y, iq s, iq al, iq ca, iq cb, iq cc, iq cd] 120 true, .cells b2 [.pointer (some ⟨m', 0, none⟩), iq X, iq Y, iq s, iq al, iq ca, iq cb, iq cc, iq cd] 120 true, .cells b1 [.pointer (pB m)] 56 true, .ro m [iq W, iq H, .slice (pB r) n cap] 116, .gen (rowE (pB r) r n cap 52 1 (cV (drawF W H (pcolC W' H' X Y s al ca cb cc cd px') px (ps ++ [(x, y)]))) false), .ro m' [iq W', iq H', .slice (some ⟨r', 0, none⟩) n' cap'] 116, rD (some ⟨r', 0, none⟩) r' 0 n' 1 (cV px'), rD (Az) gz oz nz 4 (rvals xsz)] (by kernel_rfl) (congrArg (fun c_ : List Value => ([z14_, e14b_, e14q_, .ro kb11 [.slice A5 k7 cp8] 23, rD (A5) g6 0 k7 4 (rvals R), .cells b4 c_ 3 true, .cells b3 [.pointer (some ⟨m', 0, none⟩), iq X, iq Y, iq s, iq al, iq ca, iq cb, iq cc, iq cd] 120 true, .cells b2 [.pointer (some ⟨m', 0, none⟩), iq X, iq Y, iq s, iq al, iq ca, iq cb, iq cc, iq cd] 120 true, .cells b1 [.pointer (pB m)] 56 true, .ro m [iq W, iq H, .slice (pB r) n cap] 116, .gen (rowE (pB r) r n cap 52 1 (cV (drawF W H (pcolC W' H' X Y s al ca cb cc cd px') px (ps ++ [(x, y)]))) false), .ro m' [iq W', iq H', .slice (some ⟨r', 0, none⟩) n' cap'] 116, rD (some ⟨r', 0, none⟩) r' 0 n' 1 (cV px'), rD (Az) gz oz nz 4 (rvals xsz)] : List Ent)) (by simp)) ?_
  refine rq_next (ps ++ [(x, y)]) (show ((ps ++ [(x, y)])) = (pre ++ [(x, y)]) from (by rw [hps])) rfl
 ·
  rintro D17_ xs_ ps hS_ hinv16_
  replace hinv16_ : ps = xs_ := hinv16_
  replace hS_ : xs_ = regP R := hS_
  have hps := hinv16_
  refine cont_rowEq (k := .u32) 8 (drawF W H (pcolC W' H' X Y s al ca cb cc cd px') px ps) (drawL W R (pcolC W' H' X Y s al ca cb cc cd px') px) rfl (by rw [hps, hS_]; exact drawF_eq hReg hOn hok hmay hf) ?_
  refine cont_norm [(8, .pointer (pB b4))] [markE D17_, .ro kb11 [.slice A5 k7 cp8] 23, rD (A5) g6 0 k7 4 (rvals R), .cells b4 [iq ((cntL W n R : Nat) : Int)] 3 true, .cells b3 [.pointer (some ⟨m', 0, none⟩), iq X, iq Y, iq s, iq al, iq ca, iq cb, iq cc, iq cd] 120 true, .cells b2 [.pointer (some ⟨m', 0, none⟩), iq X, iq Y, iq s, iq al, iq ca, iq cb, iq cc, iq cd] 120 true, .cells b1 [.pointer (pB m)] 56 true, .ro m [iq W, iq H, .slice (pB r) n cap] 116, .gen (rowE (pB r) r n cap 52 1 (cV (drawL W R (pcolC W' H' X Y s al ca cb cc cd px') px)) false), .ro m' [iq W', iq H', .slice (some ⟨r', 0, none⟩) n' cap'] 116, rD (some ⟨r', 0, none⟩) r' 0 n' 1 (cV px'), rD (Az) gz oz nz 4 (rvals xsz)] (by kernel_rfl) (congrArg (fun c_ : List Value => ([markE D17_, .ro kb11 [.slice A5 k7 cp8] 23, rD (A5) g6 0 k7 4 (rvals R), .cells b4 c_ 3 true, .cells b3 [.pointer (some ⟨m', 0, none⟩), iq X, iq Y, iq s, iq al, iq ca, iq cb, iq cc, iq cd] 120 true, .cells b2 [.pointer (some ⟨m', 0, none⟩), iq X, iq Y, iq s, iq al, iq ca, iq cb, iq cc, iq cd] 120 true, .cells b1 [.pointer (pB m)] 56 true, .ro m [iq W, iq H, .slice (pB r) n cap] 116, .gen (rowE (pB r) r n cap 52 1 (cV (drawL W R (pcolC W' H' X Y s al ca cb cc cd px') px)) false), .ro m' [iq W', iq H', .slice (some ⟨r', 0, none⟩) n' cap'] 116, rD (some ⟨r', 0, none⟩) r' 0 n' 1 (cV px'), rD (Az) gz oz nz 4 (rvals xsz)] : List Ent)) (by rw [hps, hS_, regP_len hReg hOn hok.w1 hok.num])) ?_
  refine blk_normal <| zN <| zSR 2 <| bS [3, 0] 2 0 [(6, iq ((cntL W n R : Nat) : Int))] <| fG 3 <| fG 3 <| fG 3 <| fG 3 <| zDNr <| mark_end 0 rfl (.inl rfl) ?_
  refine rA rfl 0 (iq ((cntL W n R : Nat) : Int)) fun w hT => ?_
  replace hT := hT.erase 2 (fun e h hw => by cases h; first | rfl | cases hw)
  replace hT := hT.erase 1 (fun e h hw => by cases h; first | rfl | cases hw)
  replace hT := hT.erase 0 (fun e h hw => by cases h; first | rfl | cases hw)
  exact ⟨rfl, hT⟩
 ·
  intro D_  c_ h_; exact h_.elim
 ·
  intro D_ id_ c_ h_; exact h_.elim
end Go.Proofs.YtlfahohbkgdabaaGreat
namespace Go.Proofs.YtlfahohbkgdabaaGreat
open Go Go.RowKit
end Go.Proofs.YtlfahohbkgdabaaGreat
namespace Go.Proofs.YtlfahohbkgdabaaGreat
open Go Go.RowKit
variable {dfs : List Deferred}
end Go.Proofs.YtlfahohbkgdabaaGreat
namespace Go.Proofs.YtlfahohbkgdabaaGreat
open Go Go.RowKit
theorem ImgOk.get {W H : Int} {n : Nat} {px : List Int} (hok : ImgOk W H n px) {k : Nat} (hk : k < n) : InC (px.getD k 0) := by
  rw [List.getD_eq_getElem?_getD, List.getElem?_eq_getElem (by rw [hok.len]; exact hk)]
  exact hok.rng _ (List.getElem_mem _)
theorem rowP_length (y x : Int) (k : Nat) : (rowP y x k).length = k := by simp [rowP]
theorem rectP_length (r : Rect) (j : Nat) : (rectP r j).length = j * Int.toNat (r.x1 - r.x0) := by
  induction j with
  | zero => simp [rectP]
  | succ j ih => rw [rectP_succ, List.length_append, ih, rowP_length, Nat.succ_mul]
theorem hasDR {W H W' H' X Y s a b c d x y : Int} (l : List Rect) (hs : 1 ≤ s ∧ s ≤ 8) (hX : -1000000 ≤ X ∧ X ≤ 1000000) (hY : -1000000 ≤ Y ∧ Y ≤ 1000000) (hw : 1 ≤ W' ∧ W' ≤ 256) (hh : 1 ≤ H' ∧ H' ≤ 256) :
    hasL (regM andB (canR l) (canR [cutR (shwR W' H' X Y s a b c d).x0 (shwR W' H' X Y s a b c d).y0 (shwR W' H' X Y s a b c d).x1 (shwR W' H' X Y s a b c d).y1 0 0 W H])) x y = (hasL l x y && (pcolB W' H' X Y s a b c d x y && hasB 0 0 W H x y)) := by
  rw [hasL_and, hasL_can, hasL_can]
  congr 1
  simp only [hasL, List.any_cons, List.any_nil, Bool.or_false]
  rw [Bool.eq_iff_iff, cutR_has, pcol_box hs hX hY hw hh, Bool.and_eq_true]
end Go.Proofs.YtlfahohbkgdabaaGreat
namespace Go.Proofs.YtlfahohbkgdabaaGreat
open Go Go.RowKit
def mixL (W : Int) (B : Int → Int → Bool) (g : Int → Int → Int → Int) (px : List Int) : List Int := (List.range px.length).map fun k => if B (((k : Nat) : Int) % W) (((k : Nat) : Int) / W) then g (((k : Nat) : Int) % W) (((k : Nat) : Int) / W) (px.getD k 0) else px.getD k 0
def mixN (W : Int) (B : Int → Int → Bool) (i : Nat) : Nat := ((List.range i).filter fun k => B (((k : Nat) : Int) % W) (((k : Nat) : Int) / W)).length
theorem mixL_length (W : Int) (B : Int → Int → Bool) (g : Int → Int → Int → Int) (px : List Int) : (mixL W B g px).length = px.length := by simp [mixL]
theorem mixL_get {W : Int} {B : Int → Int → Bool} {g : Int → Int → Int → Int} {px : List Int} {k : Nat} (h : k < px.length) : (mixL W B g px).getD k 0 = if B (((k : Nat) : Int) % W) (((k : Nat) : Int) / W) then g (((k : Nat) : Int) % W) (((k : Nat) : Int) / W) (px.getD k 0) else px.getD k 0 := by
  simp [mixL, List.getD_eq_getElem?_getD, h]
theorem take_getD {l : List Int} {i : Nat} (h : i < l.length) : l.take (i + 1) = l.take i ++ [l.getD i 0] := by
  rw [List.take_add_one, List.getElem?_eq_getElem h, List.getD_eq_getElem?_getD, List.getElem?_eq_getElem h]; rfl
theorem mixL_yes {W : Int} {B : Int → Int → Bool} {g : Int → Int → Int → Int} {px : List Int} {i : Nat} (h : i < px.length) (hb : B (((i : Nat) : Int) % W) (((i : Nat) : Int) / W) = true) : (mixL W B g px).take i ++ [g (((i : Nat) : Int) % W) (((i : Nat) : Int) / W) (px.getD i 0)] = (mixL W B g px).take (i + 1) := by
  rw [take_getD (by rw [mixL_length]; exact h), mixL_get h, if_pos hb]
theorem mixL_no {W : Int} {B : Int → Int → Bool} {g : Int → Int → Int → Int} {px : List Int} {i : Nat} (h : i < px.length) (hb : B (((i : Nat) : Int) % W) (((i : Nat) : Int) / W) = false) : (mixL W B g px).take i ++ [px.getD i 0] = (mixL W B g px).take (i + 1) := by
  rw [take_getD (by rw [mixL_length]; exact h), mixL_get h, if_neg (by rw [hb]; decide)]
theorem mixL_full {W : Int} {B : Int → Int → Bool} {g : Int → Int → Int → Int} {px : List Int} {i : Nat} (h : px.length ≤ i) : (mixL W B g px).take i = mixL W B g px := List.take_of_length_le (by rw [mixL_length]; exact h)
theorem mixN_yes {W : Int} {B : Int → Int → Bool} {i : Nat} (hb : B (((i : Nat) : Int) % W) (((i : Nat) : Int) / W) = true) : mixN W B (i + 1) = mixN W B i + 1 := by
  simp [mixN, List.range_succ, List.filter_append, hb]
theorem mixN_no {W : Int} {B : Int → Int → Bool} {i : Nat} (hb : B (((i : Nat) : Int) % W) (((i : Nat) : Int) / W) = false) : mixN W B (i + 1) = mixN W B i := by
  simp [mixN, List.range_succ, List.filter_append, hb]
theorem mixN_le (W : Int) (B : Int → Int → Bool) (i : Nat) : mixN W B i ≤ i := by
  have := List.length_filter_le (fun k => B (((k : Nat) : Int) % W) (((k : Nat) : Int) / W)) (List.range i)
  simpa [mixN] using this
theorem mixL_congr {W : Int} {B B' : Int → Int → Bool} {g g' : Int → Int → Int → Int} {px : List Int} (h : ∀ k, k < px.length → B (((k : Nat) : Int) % W) (((k : Nat) : Int) / W) = B' (((k : Nat) : Int) % W) (((k : Nat) : Int) / W))
    (hg : ∀ k, k < px.length → B' (((k : Nat) : Int) % W) (((k : Nat) : Int) / W) = true → g (((k : Nat) : Int) % W) (((k : Nat) : Int) / W) (px.getD k 0) = g' (((k : Nat) : Int) % W) (((k : Nat) : Int) / W) (px.getD k 0)) : mixL W B g px = mixL W B' g' px := by
  refine list_getD_ext (by rw [mixL_length, mixL_length]) (fun k hk => ?_)
  rw [mixL_length] at hk
  rw [mixL_get hk, mixL_get hk, h k hk]
  split
  · rename_i hh; exact hg k hk hh
  · rfl
theorem mixN_congr {W : Int} {n : Nat} {B B' : Int → Int → Bool} (h : ∀ k, k < n → B (((k : Nat) : Int) % W) (((k : Nat) : Int) / W) = B' (((k : Nat) : Int) % W) (((k : Nat) : Int) / W)) : mixN W B n = mixN W B' n := by
  unfold mixN
  congr 1
  exact List.filter_congr (fun k hk => h k (List.mem_range.1 hk))
theorem drawL_mix (W : Int) (R : List Rect) (f : Int → Int → Int) (px : List Int) : drawL W R f px = mixL W (hasL R) (fun x y d => overC (f x y) d) px := rfl
theorem cntL_mix (W : Int) (n : Nat) (R : List Rect) : cntL W n R = mixN W (hasL R) n := rfl
theorem ImgOk.mixL {W H : Int} {n : Nat} {px : List Int} (h : ImgOk W H n px) (B : Int → Int → Bool) {g : Int → Int → Int → Int} (hg : ∀ x y d, InC d → InC (g x y d)) : ImgOk W H n (mixL W B g px) :=
  ⟨h.w1, h.w2, h.h1, h.h2, h.num, by rw [mixL_length, h.len], fun c hc => by
    obtain ⟨k, hk, rfl⟩ := List.mem_map.1 hc
    have hk := List.mem_range.1 hk
    have hd : InC (px.getD k 0) := h.get (by rw [← h.len]; exact hk)
    split
    · exact hg _ _ _ hd
    · exact hd⟩
def drwB (W H X Y s a b c d : Int) (l : List Rect) (x y : Int) : Bool := pcolB W H X Y s a b c d x y && hasL l x y
def drwG (f : Int → Int → Int) (x y d : Int) : Int := overC (f x y) d
def clrB (c : Int) (l : List Rect) (x y : Int) : Bool := mayB c && hasL l x y
def clrG (c _x _y _d : Int) : Int := c
theorem draw_same {W H W' H' X Y s a b c d : Int} {n : Nat} {px : List Int} {f : Int → Int → Int} (l : List Rect) (hok : ImgOk W H n px) (hs : 1 ≤ s ∧ s ≤ 8) (hX : -1000000 ≤ X ∧ X ≤ 1000000) (hY : -1000000 ≤ Y ∧ Y ≤ 1000000) (hw : 1 ≤ W' ∧ W' ≤ 256) (hh : 1 ≤ H' ∧ H' ≤ 256) :
    drawL W (regM andB (canR l) (canR [cutR (shwR W' H' X Y s a b c d).x0 (shwR W' H' X Y s a b c d).y0 (shwR W' H' X Y s a b c d).x1 (shwR W' H' X Y s a b c d).y1 0 0 W H])) f px = mixL W (drwB W' H' X Y s a b c d l) (drwG f) px := by
  rw [drawL_mix]
  refine mixL_congr (fun k hk => ?_) (fun _ _ _ => rfl)
  rw [hasDR _ hs hX hY hw hh, in_box hok.w1 hok.num (by rw [← hok.len]; exact hk), Bool.and_true, drwB, Bool.and_comm]
theorem draw_cnt {W H W' H' X Y s a b c d : Int} {n : Nat} (l : List Rect) (hW : 1 ≤ W) (hn : (n : Int) = W * H) (hs : 1 ≤ s ∧ s ≤ 8) (hX : -1000000 ≤ X ∧ X ≤ 1000000) (hY : -1000000 ≤ Y ∧ Y ≤ 1000000) (hw : 1 ≤ W' ∧ W' ≤ 256) (hh : 1 ≤ H' ∧ H' ≤ 256) :
    cntL W n (regM andB (canR l) (canR [cutR (shwR W' H' X Y s a b c d).x0 (shwR W' H' X Y s a b c d).y0 (shwR W' H' X Y s a b c d).x1 (shwR W' H' X Y s a b c d).y1 0 0 W H])) = mixN W (drwB W' H' X Y s a b c d l) n := by
  rw [cntL_mix]
  refine mixN_congr (fun k hk => ?_)
  rw [hasDR _ hs hX hY hw hh, in_box hW hn hk, Bool.and_true, drwB, Bool.and_comm]
theorem hasL_take_succ {R : List Rect} {i : Nat} (h : i < R.length) (x y : Int) : hasL (R.take (i + 1)) x y = (hasL (R.take i) x y || hasB (rget R i).x0 (rget R i).y0 (rget R i).x1 (rget R i).y1 x y) := by
  rw [take_succ_rget h, hasL_append]
  simp [hasL]
theorem clear_step {W H : Int} {n : Nat} {px : List Int} {R : List Rect} {i : Nat} {c : Int} (hok : ImgOk W H n px) (h : i < R.length) :
    fillA W H (mixL W (clrB c (R.take i)) (clrG c) px) (rget R i).x0 (rget R i).y0 (rget R i).x1 (rget R i).y1 c = mixL W (clrB c (R.take (i + 1))) (clrG c) px := by
  unfold fillA
  split
  · rename_i hm
    refine list_getD_ext (by rw [fillP_length, mixL_length, mixL_length]) (fun k hk => ?_)
    rw [fillP_length, mixL_length] at hk
    rw [List.getD_eq_getElem?_getD, fillP_get, List.getElem?_eq_getElem (by rw [mixL_length]; exact hk), mixL_get hk]
    have e : (mixL W (clrB c (R.take i)) (clrG c) px)[k]'(by rw [mixL_length]; exact hk) = (mixL W (clrB c (R.take i)) (clrG c) px).getD k 0 := by
      rw [List.getD_eq_getElem?_getD, List.getElem?_eq_getElem (by rw [mixL_length]; exact hk)]; rfl
    rw [Option.map_some, Option.getD_some, e, mixL_get hk]
    have hb := in_box hok.w1 hok.num (show k < n by rw [← hok.len]; exact hk)
    have hc : hasB (cutR (rget R i).x0 (rget R i).y0 (rget R i).x1 (rget R i).y1 0 0 W H).x0 (cutR (rget R i).x0 (rget R i).y0 (rget R i).x1 (rget R i).y1 0 0 W H).y0 (cutR (rget R i).x0 (rget R i).y0 (rget R i).x1 (rget R i).y1 0 0 W H).x1 (cutR (rget R i).x0 (rget R i).y0 (rget R i).x1 (rget R i).y1 0 0 W H).y1 (((k : Nat) : Int) % W) (((k : Nat) : Int) / W) = hasB (rget R i).x0 (rget R i).y0 (rget R i).x1 (rget R i).y1 (((k : Nat) : Int) % W) (((k : Nat) : Int) / W) := by
      rw [Bool.eq_iff_iff, cutR_has, hb]; simp
    rw [hc]
    simp only [clrB, clrG, hm, Bool.true_and, hasL_take_succ h]
    cases hasL (R.take i) (((k : Nat) : Int) % W) (((k : Nat) : Int) / W) <;> cases hasB (rget R i).x0 (rget R i).y0 (rget R i).x1 (rget R i).y1 (((k : Nat) : Int) % W) (((k : Nat) : Int) / W) <;> simp
  · rename_i hm
    refine mixL_congr (fun k hk => ?_) (fun _ _ _ => rfl)
    simp [clrB, hm]
theorem clear_none (W : Int) (px : List Int) (c : Int) : px = mixL W (clrB c (([] : List Rect))) (clrG c) px := by
  refine list_getD_ext (by rw [mixL_length]) (fun k hk => ?_)
  rw [mixL_get hk, clrB, show hasL [] (((k : Nat) : Int) % W) (((k : Nat) : Int) / W) = false from rfl, Bool.and_false]; rfl
theorem regP_area : ∀ {R : List Rect}, (∀ r ∈ R, emptyR r = false) → (((regP R).length : Nat) : Int) = areaL R := by
  intro R
  induction R with
  | nil => intro _; rfl
  | cons r R ih =>
    intro h
    have h1 := emptyB_false.1 (show emptyB r.x0 r.y0 r.x1 r.y1 = false from h r (List.mem_cons_self ..))
    have e : regP (r :: R) = rectP r (Int.toNat (r.y1 - r.y0)) ++ regP R := by simp [regP]
    have e2 : areaL (r :: R) = areaI r.x0 r.y0 r.x1 r.y1 + areaL R := by simp [areaL]
    rw [e, e2, List.length_append, Int.natCast_add, ih (fun q hq => h q (List.mem_cons_of_mem _ hq)), rectP_length]
    unfold areaI
    rw [if_neg (by rw [show emptyB r.x0 r.y0 r.x1 r.y1 = false from h r (List.mem_cons_self ..)]; simp), Int.natCast_mul, Int.toNat_of_nonneg (by omega), Int.toNat_of_nonneg (by omega), Int.mul_comm (r.y1 - r.y0)]
theorem reg_ne {R : List Rect} {F : Int → Int → Bool} {W H : Int} (hR : IsReg R F) (hin : OnImg W H R) : ∀ r ∈ R, emptyR r = false := fun r hr => by
  have := reg_in hR hin r hr
  exact emptyB_false.2 ⟨this.2.1, this.2.2.2.2.1⟩
theorem clear_area {W H : Int} {n : Nat} {R : List Rect} {F : Int → Int → Bool} (hR : IsReg R F) (hin : OnImg W H R) (hW : 1 ≤ W) (hn : (n : Int) = W * H) : areaL R = ((cntL W n R : Nat) : Int) := by
  rw [← regP_len hR hin hW hn, regP_area (reg_ne hR hin)]
theorem fillN_in {W H : Int} {R : List Rect} {F : Int → Int → Bool} (hR : IsReg R F) (hin : OnImg W H R) {i : Nat} (h : i < R.length) (c : Int) : fillN W H (rget R i).x0 (rget R i).y0 (rget R i).x1 (rget R i).y1 c = if mayB c then areaI (rget R i).x0 (rget R i).y0 (rget R i).x1 (rget R i).y1 else 0 := by
  obtain ⟨h1, h2, h3, h4, h5, h6⟩ := reg_in hR hin _ (rget_mem h)
  unfold fillN
  congr 1
  have : cutR (rget R i).x0 (rget R i).y0 (rget R i).x1 (rget R i).y1 0 0 W H = rget R i := by
    unfold cutR
    rw [show max (rget R i).x0 0 = (rget R i).x0 by omega, show max (rget R i).y0 0 = (rget R i).y0 by omega, show min (rget R i).x1 W = (rget R i).x1 by omega, show min (rget R i).y1 H = (rget R i).y1 by omega, emptyB_false.2 ⟨h2, h5⟩]
    rfl
  rw [this]
theorem clear_same {W H : Int} {n : Nat} {px : List Int} {c : Int} (l : List Rect) (hok : ImgOk W H n px) : mixL W (clrB c (regM andB (canR l) (canR [(⟨0, 0, W, H⟩ : Rect)]))) (clrG c) px = mixL W (clrB c l) (clrG c) px := by
  refine mixL_congr (fun k hk => ?_) (fun _ _ _ => rfl)
  unfold clrB
  rw [hasL_and, hasL_can, hasL_can]
  simp only [hasL, List.any_cons, List.any_nil, Bool.or_false]
  rw [in_box hok.w1 hok.num (by rw [← hok.len]; exact hk), Bool.and_true]
theorem clear_cnt {W H : Int} {n : Nat} {c : Int} (l : List Rect) (hW : 1 ≤ W) (hn : (n : Int) = W * H) : (if mayB c then ((cntL W n (regM andB (canR l) (canR [(⟨0, 0, W, H⟩ : Rect)])) : Nat) : Int) else 0) = ((mixN W (clrB c l) n : Nat) : Int) := by
  cases hm : mayB c with
  | true =>
    rw [if_pos rfl, cntL_mix]
    congr 1
    refine mixN_congr (fun k hk => ?_)
    unfold clrB
    rw [hm, Bool.true_and, hasL_and, hasL_can, hasL_can]
    simp only [hasL, List.any_cons, List.any_nil, Bool.or_false]
    rw [in_box hW hn hk, Bool.and_true]
  | false =>
    rw [if_neg (by decide)]
    have : mixN W (clrB c l) n = mixN W (fun _ _ => false) n := mixN_congr (fun k _ => by simp [clrB, hm])
    rw [this, mixN, List.filter_eq_nil_iff.2 (by simp)]
    rfl
def clrN (c x : Int) : Int := if mayB c then x else 0
theorem clrN_add (c a b : Int) : clrN c (a + b) = clrN c a + clrN c b := by unfold clrN; split <;> omega
theorem clrN_range (c : Int) {x m : Int} (h : 0 ≤ x ∧ x ≤ m) : 0 ≤ clrN c x ∧ clrN c x ≤ m := by unfold clrN; split <;> omega
theorem area_take {R : List Rect} {F : Int → Int → Bool} {W H : Int} {n : Nat} (hR : IsReg R F) (hin : OnImg W H R) (hW : 1 ≤ W) (hn : (n : Int) = W * H) (i : Nat) : 0 ≤ areaL (R.take i) ∧ areaL (R.take i) ≤ (n : Int) := by
  have hne := reg_ne hR hin
  have h1 := regP_area (R := R.take i) (fun r hr => hne r (List.mem_of_mem_take hr))
  have h2 := regP_area (R := R.drop i) (fun r hr => hne r (List.mem_of_mem_drop hr))
  have h3 : areaL R = areaL (R.take i) + areaL (R.drop i) := by rw [← areaL_append, List.take_append_drop]
  have h4 := clear_area hR hin hW hn
  have h5 := cntL_le W n R
  omega
theorem clear_n {W H : Int} {R : List Rect} {F : Int → Int → Bool} (hR : IsReg R F) (hin : OnImg W H R) {i : Nat} (h : i < R.length) (c : Int) : fillN W H (rget R i).x0 (rget R i).y0 (rget R i).x1 (rget R i).y1 c = clrN c (areaI (rget R i).x0 (rget R i).y0 (rget R i).x1 (rget R i).y1) := fillN_in hR hin h c
theorem drwB_yes {W H X Y s a b c d : Int} {l : List Rect} {x y : Int} (h1 : pcolB W H X Y s a b c d x y = true) (h2 : hasL l x y = true) : drwB W H X Y s a b c d l x y = true := by rw [drwB, h1, h2]; rfl
theorem drwB_no {W H X Y s a b c d : Int} {l : List Rect} {x y : Int} (h : pcolB W H X Y s a b c d x y = false ∨ hasL l x y = false) : drwB W H X Y s a b c d l x y = false := by rcases h with h | h <;> simp [drwB, h]
theorem clrB_yes {c : Int} {l : List Rect} {x y : Int} (h1 : mayB c = true) (h2 : hasL l x y = true) : clrB c l x y = true := by rw [clrB, h1, h2]; rfl
theorem clrB_no {c : Int} {l : List Rect} {x y : Int} (h : mayB c = false ∨ hasL l x y = false) : clrB c l x y = false := by rcases h with h | h <;> simp [clrB, h]
end Go.Proofs.YtlfahohbkgdabaaGreat
namespace Go.Proofs.YtlfahohbkgdabaaGreat
open Go Go.RowKit
set_option maxRecDepth 100000
set_option maxHeartbeats 8000000
theorem payClear (m : Nat) (W H : Int) (r n cap : Nat) (px : List Int) (Az : Option Addr) (gz oz nz capz : Nat) (xsz : List Rect) (c : Int) (w : World) (hT0 : Tab w w [.ro m [iQ W, iQ H, sL r n cap] 116, .gen (rowE (some ⟨r, 0, none⟩) r n cap 52 1 (cV px) false), rD (Az) gz oz nz 4 (rvals xsz)]) (R : List Rect) (hR : R = regM andB (canR xsz) (canR [(⟨0, 0, W, H⟩ : Rect)])) (hcap : n ≤ cap) (hok : ImgOk W H n px) (hc : InC c) (hnz : nz ≤ 200000) (hcz : (canR xsz).length ≤ 200000) :
    Calls Tryz.prog 59 #[pT m, .slice Az nz capz, cQ c] w fun e w' => e = .returned (iQ (clrN c ((cntL W n R : Nat) : Int))) ∧ Tab w w' [.ro m [iQ W, iQ H, sL r n cap] 116, .gen (rowE (some ⟨r, 0, none⟩) r n cap 52 1 (cV (mixL W (clrB c R) (clrG c) px)) false), rD (Az) gz oz nz 4 (rvals xsz)] := by
 have hw1 := hok.w1
 have hw2 := hok.w2
 have hh1 := hok.h1
 have hh2 := hok.h2
 have hnum := hok.num
 have hlen := hok.len
 have hle := hok.le
 obtain ⟨hraz, hrlz⟩ := Rd.factsR (hT0.ok 2 _ rfl)
 have hOn : OnImg W H R := by rw [hR]; exact onImg_and _ (onImg_can (onImg_one ⟨by simp only; omega, by simp only; omega, by simp only; omega, by simp only; omega⟩))
 have hReg : IsReg R (hasL R) := by rw [hR]; exact (regM_isReg rfl _ _).self
 refine eN [(0, .pointer (pB m)), (1, .slice Az nz capz), (2, cQ c)] Tryz.func59 Tryz.ntmps59 rfl hT0 ?_
 refine zSR 1 <| bD [0] 1 0 [] [6] <| zDNSR 1 <| bD [0] 1 0 [(7, iq 0)] [] <| zDNSSR 6 <| bD [0, 0] 2 4 [(10, .slice Az nz capz), (11, .pointer (pB m))] [] <| pS 3 3 <| cP 12 (.agg #[iq 0, iq 0, iq W, iq H]) (fun w hT => imgBox m W H r n cap px  w ⟨hT.ok 0 _ rfl, Row.rd (hT.ok 1 _ rfl), Row.capLe (hT.ok 1 _ rfl)⟩ hok) <| pS 4 2 <| cG (d := 13) (α := Option Addr × Nat × Nat × Nat) (fun x_ => .slice x_.1 x_.2.2.1 x_.2.2.2) (fun x_ => [.gen (rowE (x_.1) x_.2.1 x_.2.2.1 x_.2.2.2 32 4 (rvals (regM andB (canR xsz) (canR [(⟨0, 0, W, H⟩ : Rect)]))) true), .ro m [iq W, iq H, .slice (pB r) n cap] 116, .gen (rowE (pB r) r n cap 52 1 (cV px) false), rD (Az) gz oz nz 4 (rvals xsz)]) (fun x_ => True) (fun w hT => (payWithin Az gz oz nz capz xsz 0 0 W H w (hT.viewRo (.cons (i := 2) rfl Vw.rd .nil) rfl) hnz hcz).mono fun e w' ⟨A1, g2, k3, cp4, he_, ht_⟩ => ⟨(A1, g2, k3, cp4), he_, trivial, hT.news ht_ rfl⟩) ?_
 rintro ⟨A1, g2, k3, cp4⟩ hf5_
 refine fR 0 k3 A1 g2 cp4 (regM andB (canR xsz) (canR [(⟨0, 0, W, H⟩ : Rect)])) rfl fun hr6_a hr6_l hr6_c hr6_m => ?_
 refine bD [0, 0] 6 0 [(14, iq (k3 : Int)), (15, iq 0)] [] <| zDNB <| cont_rowEqR 0 (regM andB (canR xsz) (canR [(⟨0, 0, W, H⟩ : Rect)])) (R) rfl hR.symm ?_
 refine fR 0 k3 A1 g2 cp4 R rfl fun hr7_a hr7_l hr7_c hr7_m => ?_
 refine cont_rowEq (k := .u32) 2 (px) (mixL W (clrB c (R.take 0)) (clrG c) px) rfl (clear_none W px c) ?_
 refine rC 7 (iq (clrN c (areaL (R.take 0)))) rfl (congrArg (Value.int .i64) (by unfold clrN; split <;> rfl)) <| cL (α := Nat) (fun x_ : Nat => x_ ≤ k3) (fun x_ : Nat => [(0, .pointer (pB m)), (2, cQ c), (7, iq (clrN c (areaL (R.take x_)))), (13, .slice A1 k3 cp4), (14, iq (k3 : Int)), (15, iq ((x_ : Nat) : Int))]) (fun x_ : Nat => [.gen (rowE (A1) g2 k3 cp4 32 4 (rvals R) true), .ro m [iq W, iq H, .slice (pB r) n cap] 116, .gen (rowE (pB r) r n cap 52 1 (cV (mixL W (clrB c (R.take x_)) (clrG c) px)) false), rD (Az) gz oz nz 4 (rvals xsz)]) (fun x_ : Nat => k3 - x_) 0 (by omega) ?_
 rintro i hinv8_
 replace hinv8_ : i ≤ k3 := hinv8_
 have hi := hinv8_
 have hat := area_take hReg hOn hw1 hnum i
 have hat1 := area_take hReg hOn hw1 hnum (i + 1)
 have hq1 := clrN_range c hat
 have hq2 := clrN_range c hat1
 have hsucc : i < k3 → areaL (R.take (i + 1)) = areaL (R.take i) + areaI (rget R i).x0 (rget R i).y0 (rget R i).x1 (rget R i).y1 := fun h_ => areaL_take (by omega)
 refine zSR 1 <| bD [0] 1 0 [(16, .bool (decide (((i : Nat) : Int) < (k3 : Int))))] [] <| zDNS <| sD 16 rfl (fun c9_ => ?_) fun c9_ => ?_
 ·
  refine zTKNSBSR 4 <| pS 1 3 <| rC 13 (.slice (pB g2) k3 cp4) rfl (by rw [hr7_a (by omega)]) <| sS 17 (Instr.indexAt 23 (.slice (pB g2) k3 cp4) (iq ((i : Nat) : Int))) (.pointer (some ⟨g2, (i : Nat) * 4, none⟩)) (fun w hT => rI 32 4 w) <| pS 2 2 <| sS 18 (Instr.loadAt 32 (.pointer (some ⟨g2, (i : Nat) * 4, none⟩))) (.agg #[iq ((rget R (i : Nat)).x0), iq ((rget R (i : Nat)).y0), iq ((rget R (i : Nat)).x1), iq ((rget R (i : Nat)).y1)]) (fun w hT => rM 4 (rcells (rget R (i : Nat))) (Rd.rect0 (Row.rd (hT.ok 0 _ rfl)) (by omega))) <| bW [0, 0] 4 0 (fun b10 => [(0, .pointer (pB m)), (2, cQ c), (7, iq (clrN c (areaL (R.take i)))), (9, .pointer (pB b10)), (13, .slice (pB g2) k3 cp4), (14, iq (k3 : Int)), (15, iq ((i : Nat) : Int))]) (fun b10 => [.cells b10 [iq ((rget R (i : Nat)).x0), iq ((rget R (i : Nat)).y0), iq ((rget R (i : Nat)).x1), iq ((rget R (i : Nat)).y1)] 32 true, .gen (rowE (A1) g2 k3 cp4 32 4 (rvals R) true), .ro m [iq W, iq H, .slice (pB r) n cap] 116, .gen (rowE (pB r) r n cap 52 1 (cV (mixL W (clrB c (R.take i)) (clrG c) px)) false), rD (Az) gz oz nz 4 (rvals xsz)]) [0, 2, 7, 9, 13, 14, 15] fun b10 => ?_
  refine zDNR 7 <| bD [0, 0, 0, 0] 4 3 [(19, iq (clrN c (areaL (R.take i)))), (20, .pointer (pB m)), (21, .agg #[iq ((rget R (i : Nat)).x0), iq ((rget R (i : Nat)).y0), iq ((rget R (i : Nat)).x1), iq ((rget R (i : Nat)).y1)]), (22, cQ c)] [] <| fG 0 <| pS 5 2 <| cG (d := 23) (α := Unit) (fun _ => iq (fillN W H ((rget R (i : Nat)).x0) ((rget R (i : Nat)).y0) ((rget R (i : Nat)).x1) ((rget R (i : Nat)).y1) c)) (fun _ => [.gen (rowE (A1) g2 k3 cp4 32 4 (rvals R) true), .ro m [iq W, iq H, .slice (pB r) n cap] 116, .gen (rowE (pB r) r n cap 52 1 (cV (fillA W H (mixL W (clrB c (R.take i)) (clrG c) px) ((rget R (i : Nat)).x0) ((rget R (i : Nat)).y0) ((rget R (i : Nat)).x1) ((rget R (i : Nat)).y1) c)) false), rD (Az) gz oz nz 4 (rvals xsz)]) (fun _ => True) (fun w hT => (imgFill m W H r n cap (mixL W (clrB c (R.take i)) (clrG c) px) ((rget R (i : Nat)).x0) ((rget R (i : Nat)).y0) ((rget R (i : Nat)).x1) ((rget R (i : Nat)).y1) c w ⟨hT.ok 1 _ rfl, hT.ok 2 _ rfl, fun hne => hT.disj 1 2 _ _ (by omega) rfl rfl (.inr rfl) _ rfl ⟨hne, by simp⟩⟩ (hok.mixL _ (fun _ _ _ _ => hc)) hc).mono fun e w' ⟨he_, hk_, hr_⟩ => ⟨(), he_, trivial, hT.keepBut hk_ (i := 2) rfl hr_⟩) (fun _ _ => ?_)
  have hsucc := hsucc (by omega)
  rw [hsucc, clrN_add] at hq2
  refine rC 23 (iq (clrN c (areaI (rget R i).x0 (rget R i).y0 (rget R i).x1 (rget R i).y1))) rfl (congrArg (Value.int .i64) (clear_n hReg hOn (by omega) c)) <| bD [0] 6 1 [(24, iq (IntKind.i64.wrap ((clrN c (areaL (R.take i))) + (clrN c (areaI (rget R i).x0 (rget R i).y0 (rget R i).x1 (rget R i).y1)))))] [] <| wI 24 ((clrN c (areaL (R.take i))) + (clrN c (areaI (rget R i).x0 (rget R i).y0 (rget R i).x1 (rget R i).y1))) <| bD [0] 7 0 [(7, iq ((clrN c (areaL (R.take i))) + (clrN c (areaI (rget R i).x0 (rget R i).y0 (rget R i).x1 (rget R i).y1))))] [] <| zDbNR 2 <| bD [0] 1 1 [(25, iq (IntKind.i64.wrap (((i : Nat) : Int) + 1)))] [] <| wI 25 (((i : Nat) : Int) + 1) <| bD [0] 2 0 [(15, iq (((i : Nat) : Int) + 1))] [] <| zDN <| rC 13 (.slice A1 k3 cp4) rfl (by rw [hr7_a (by omega)]) <| cont_rowEq (k := .u32) 2 (fillA W H (mixL W (clrB c (R.take i)) (clrG c) px) ((rget R (i : Nat)).x0) ((rget R (i : Nat)).y0) ((rget R (i : Nat)).x1) ((rget R (i : Nat)).y1) c) (mixL W (clrB c (R.take (i + 1))) (clrG c) px) rfl (clear_step hok (by omega)) ?_
  refine rC 7 (iq (clrN c (areaL (R.take (i + 1))))) rfl (congrArg (Value.int .i64) (by rw [hsucc, clrN_add])) <| cA (i + 1) (show (i + 1) ≤ k3 from (by omega))
 refine zFXxxeNSR 2 <| bS [0, 0] 2 0 [(6, iq (clrN c (areaL (R.take i))))] <| zDNr <| rA rfl 0 (iq (clrN c (areaL (R.take i)))) fun w hT => ?_
 replace hT := hT.erase 0 (fun e h hw => by cases h; first | rfl | cases hw)
 have hik : i = R.length := by omega
 subst hik
 rw [List.take_length] at hT
 exact ⟨ret_int (by rw [List.take_length, clear_area hReg hOn hw1 hnum]), hT⟩
theorem refDraw5 (W H : Int) (r n cap : Nat) (px : List Int) (W' H' : Int) (r' n' cap' : Nat) (px' : List Int) (X Y s al ca cb cc cd : Int) (Az : Option Addr) (gz oz nz capz : Nat) (xsz : List Rect) (w : World) (hT0 : Tab w w [rD (some ⟨r, 0, none⟩) r 0 n 1 (cV px), rD (some ⟨r', 0, none⟩) r' 0 n' 1 (cV px'), rD (Az) gz oz nz 4 (rvals xsz)]) (hok : ImgOk W H n px) (hok' : ImgOk W' H' n' px') (hs : 1 ≤ s ∧ s ≤ 8) (hX : -1000000 ≤ X ∧ X ≤ 1000000) (hY : -1000000 ≤ Y ∧ Y ≤ 1000000) (hnz : nz ≤ 200000) :
    Calls Tryz.prog 63 #[.agg #[iQ W, iQ H, sL r n cap], .agg #[.bool true, iQ W', iQ H', .slice (some ⟨r', 0, none⟩) n' cap', iQ X, iQ Y, iQ s, iQ al, iQ ca, iQ cb, iQ cc, iQ cd], .slice Az nz capz] w fun e w' => ∃ (g cp : Nat), e = .returned (.tuple #[.agg #[iQ W, iQ H, sL g n cp], iQ ((mixN W (drwB W' H' X Y s ca cb cc cd xsz) n : Nat) : Int)]) ∧ Tab w w' [oE g n cp 52 1 (cV (mixL W (drwB W' H' X Y s ca cb cc cd xsz) (drwG (pcolC W' H' X Y s al ca cb cc cd px')) px))] := by
 have hw1 := hok.w1
 have hw2 := hok.w2
 have hh1 := hok.h1
 have hh2 := hok.h2
 have hnum := hok.num
 have hlen := hok.len
 have hle := hok.le
 obtain ⟨hraz, hrlz⟩ := Rd.factsR (hT0.ok 2 _ rfl)
 refine eN [(0, .agg #[iq W, iq H, .slice (pB r) n cap]), (1, .agg #[.bool true, iq W', iq H', .slice (some ⟨r', 0, none⟩) n' cap', iq X, iq Y, iq s, iq al, iq ca, iq cb, iq cc, iq cd]), (2, .slice Az nz capz)] Tryz.func63 Tryz.ntmps63 rfl hT0 ?_
 refine zSR 4 <| batch3 [0, 0, 0, 0] 4 0 (fun b1 b2 b3 => [(2, .slice Az nz capz), (3, .pointer (pB b1)), (4, .pointer (pB b2)), (6, .pointer (pB b3))]) (fun b1 b2 b3 => [.cells b3 [iq 0, iq 0, .slice none 0 0] 59 true, .cells b2 [.bool true, iq W', iq H', .slice (some ⟨r', 0, none⟩) n' cap', iq X, iq Y, iq s, iq al, iq ca, iq cb, iq cc, iq cd] 82 true, .cells b1 [iq W, iq H, .slice (pB r) n cap] 59 true, rD (pB r) r 0 n 1 (cV px), rD (some ⟨r', 0, none⟩) r' 0 n' 1 (cV px'), rD (Az) gz oz nz 4 (rvals xsz)]) rfl rfl [2, 3, 4, 6] (fun _ _ _ => rfl) (fun b1 b2 b3 => by kernel_rfl) (fun b1 b2 b3 => by kernel_rfl) (fun b1 b2 b3 => ?_)
 refine zDNSR 1 <| bD [0] 1 0 [(8, .slice none 0 0)] [] <| zDNSR 1 <| bD [0] 1 0 [(9, iq 0)] [] <| zDNSSR 1 <| bD [0] 1 0 [(10, iq 0)] [] <| zDNB <| cont_nilrow 52 1 ?_
 refine cont_rowEq (k := .u32) 0 ([]) ((mixL W (drwB W' H' X Y s ca cb cc cd xsz) (drwG (pcolC W' H' X Y s al ca cb cc cd px')) px).take 0) rfl (by simp) ?_
 refine rC 9 (iq ((mixN W (drwB W' H' X Y s ca cb cc cd xsz) 0 : Nat) : Int)) rfl (congrArg (Value.int .i64) (by simp [mixN])) <| cL (α := Nat × Option Addr × Nat × Nat) (fun x_ : Nat × Option Addr × Nat × Nat => x_.1 ≤ n) (fun x_ : Nat × Option Addr × Nat × Nat => [(2, .slice Az nz capz), (3, .pointer (pB b1)), (4, .pointer (pB b2)), (6, .pointer (pB b3)), (8, .slice x_.2.1 x_.1 x_.2.2.2), (9, iq ((mixN W (drwB W' H' X Y s ca cb cc cd xsz) x_.1 : Nat) : Int)), (10, iq ((x_.1 : Nat) : Int))]) (fun x_ : Nat × Option Addr × Nat × Nat => [.gen (rowE (x_.2.1) x_.2.2.1 x_.1 x_.2.2.2 52 1 (cV ((mixL W (drwB W' H' X Y s ca cb cc cd xsz) (drwG (pcolC W' H' X Y s al ca cb cc cd px')) px).take x_.1)) true), .cells b3 [iq 0, iq 0, .slice none 0 0] 59 true, .cells b2 [.bool true, iq W', iq H', .slice (some ⟨r', 0, none⟩) n' cap', iq X, iq Y, iq s, iq al, iq ca, iq cb, iq cc, iq cd] 82 true, .cells b1 [iq W, iq H, .slice (pB r) n cap] 59 true, rD (pB r) r 0 n 1 (cV px), rD (some ⟨r', 0, none⟩) r' 0 n' 1 (cV px'), rD (Az) gz oz nz 4 (rvals xsz)]) (fun x_ : Nat × Option Addr × Nat × Nat => n - x_.1) (0, none, 0, 0) (show (0) ≤ n from (by omega)) ?_
 rintro ⟨i, A, g, cp⟩ hinv5_
 replace hinv5_ : i ≤ n := hinv5_
 have hi := hinv5_
 have hem := emod_range i hw1
 have hmn := mixN_le W (drwB W' H' X Y s ca cb cc cd xsz) i
 have hge : i < n → InC (px.getD i 0) := fun h_ => hok.get h_
 refine zSSR 5 <| bD [0, 0, 3, 0, 0] 5 0 [(19, .bool (decide (((i : Nat) : Int) < (n : Int))))] [15, 16, 17, 18] <| zDN <| sD 19 rfl (fun c6_ => ?_) fun c6_ => ?_
 ·
  refine zTKNSBSR 5 <| bD [0, 0, 3] 3 2 [(22, iq ((i : Nat) : Int)), (24, iq W)] [23] <| pS 4 1 <| sS 25 (bopS .rem 3 (.tmp 22) (.tmp 24) (iq ((i : Nat) : Int)) (iq W)) (iq (((i : Nat) : Int).tmod W)) (fun w hT => run_rem (by omega) w) <| rC 25 (iq (((i : Nat) : Int) % W)) rfl (tmodI (by omega)) <| bD [0] 5 0 [(11, iq (((i : Nat) : Int) % W))] [] <| zDNSR 5 <| bD [0, 0, 3] 3 2 [(26, iq ((i : Nat) : Int)), (28, iq W)] [27] <| pS 4 1 <| sS 29 (bopS .quo 3 (.tmp 26) (.tmp 28) (iq ((i : Nat) : Int)) (iq W)) (iq (IntKind.i64.wrap (((i : Nat) : Int).tdiv W))) (fun w hT => run_quo (by omega) w) <| rC 29 (iq (((i : Nat) : Int) / W)) rfl (tdivI (by omega) (by omega) (by omega)) <| bD [0] 5 0 [(12, iq (((i : Nat) : Int) / W))] [] <| zDNSR 9 <| bD [2, 0, 0] 3 6 [(31, .agg #[.bool true, iq W', iq H', .slice (some ⟨r', 0, none⟩) n' cap', iq X, iq Y, iq s, iq al, iq ca, iq cb, iq cc, iq cd]), (32, iq (((i : Nat) : Int) % W)), (33, iq (((i : Nat) : Int) / W))] [] <| pS 4 5 <| cP 34 (.tuple #[cQ (pcolC W' H' X Y s al ca cb cc cd px' (((i : Nat) : Int) % W) (((i : Nat) : Int) / W)), .bool (pcolB W' H' X Y s ca cb cc cd (((i : Nat) : Int) % W) (((i : Nat) : Int) / W))]) (fun w hT => refColor5 W' H' r' n' cap' px' X Y s al ca cb cc cd (((i : Nat) : Int) % W) (((i : Nat) : Int) / W) w (hT.viewRo (.cons (i := 5) rfl Vw.rd .nil) rfl) hok' (by omega) (by omega) (by omega) (by omega) (by omega)) <| bD [0, 0, 0, 0, 0] 9 0 [(13, cQ (pcolC W' H' X Y s al ca cb cc cd px' (((i : Nat) : Int) % W) (((i : Nat) : Int) / W))), (14, .bool (pcolB W' H' X Y s ca cb cc cd (((i : Nat) : Int) % W) (((i : Nat) : Int) / W)))] [30, 35, 36] <| zDNSR 7 <| bD [0, 0] 2 5 [(38, .bool (pcolB W' H' X Y s ca cb cc cd (((i : Nat) : Int) % W) (((i : Nat) : Int) / W)))] [37] <| cSp 38 _ rfl (fun c7_ => ?_) fun c7_ => ?_
  ·
   refine bD [0, 0, 0] 5 2 [(39, .slice Az nz capz), (40, iq (((i : Nat) : Int) % W)), (41, iq (((i : Nat) : Int) / W))] [] <| pS 6 1 <| cP 42 (.bool (hasL xsz (((i : Nat) : Int) % W) (((i : Nat) : Int) / W))) (fun w hT => refHasL Az gz oz nz capz xsz (((i : Nat) : Int) % W) (((i : Nat) : Int) / W) w (hT.viewRo (.cons (i := 6) rfl Vw.rd .nil) rfl) (by omega)) <| bD [0] 7 0 [(43, .bool (hasL xsz (((i : Nat) : Int) % W) (((i : Nat) : Int) / W)))] [] <| zDN <| cSp 43 _ rfl (fun c8_ => ?_) fun c8_ => ?_
   ·
    refine rC 42 (.bool true) rfl (congrArg Value.bool c8_) ?_
    have hB_ : (drwB W' H' X Y s ca cb cc cd xsz) ((i : Int) % W) ((i : Int) / W) = true := drwB_yes c7_ c8_
    refine zTSR 11 <| bD [0, 0, 0, 3, 0] 5 6 [(44, .slice A i cp), (45, cQ (pcolC W' H' X Y s al ca cb cc cd px' (((i : Nat) : Int) % W) (((i : Nat) : Int) / W))), (47, .slice (pB r) n cap), (48, iq ((i : Nat) : Int))] [46] <| pS 6 5 <| sS 49 (Instr.indexAt 50 (.slice (pB r) n cap) (iq ((i : Nat) : Int))) (.pointer (some ⟨r, (i : Nat), none⟩)) (fun w hT => rI 52 1 w) <| pS 7 4 <| sS 50 (Instr.loadAt 52 (.pointer (some ⟨r, (i : Nat), none⟩))) (cQ (px.getD (i : Nat) 0)) (fun w hT => rL (Rd.cell0 (hT.ok 4 _ rfl) ((i : Nat)) _ (ivals_get (by omega)))) ?_
    obtain ⟨hge0, hge1⟩ := hge (by omega)
    have hpc := pcolC_in px' W' H' X Y s al ca cb cc cd ((i : Int) % W) ((i : Int) / W)
    obtain ⟨hpc0, hpc1⟩ := hpc
    refine pS 8 3 <| cP 51 (cQ (overC (pcolC W' H' X Y s al ca cb cc cd px' (((i : Nat) : Int) % W) (((i : Nat) : Int) / W)) (px.getD (i : Nat) 0))) (fun w hT => refOver (pcolC W' H' X Y s al ca cb cc cd px' (((i : Nat) : Int) % W) (((i : Nat) : Int) / W)) (px.getD (i : Nat) 0) w (by omega) (by omega) (by omega) (by omega)) <| bW [0] 9 2 (fun b9 => [(2, .slice Az nz capz), (3, .pointer (pB b1)), (4, .pointer (pB b2)), (6, .pointer (pB b3)), (9, iq ((mixN W (drwB W' H' X Y s ca cb cc cd xsz) i : Nat) : Int)), (10, iq ((i : Nat) : Int)), (39, .slice Az nz capz), (40, iq (((i : Nat) : Int) % W)), (41, iq (((i : Nat) : Int) / W)), (42, .bool true), (44, .slice A i cp), (52, .slice (pB b9) 1 1)]) (fun b9 => [.cells b9 [cQ (overC (pcolC W' H' X Y s al ca cb cc cd px' (((i : Nat) : Int) % W) (((i : Nat) : Int) / W)) (px.getD (i : Nat) 0))] 52 true, .gen (rowE (A) g i cp 52 1 (cV ((mixL W (drwB W' H' X Y s ca cb cc cd xsz) (drwG (pcolC W' H' X Y s al ca cb cc cd px')) px).take i)) true), .cells b3 [iq 0, iq 0, .slice none 0 0] 59 true, .cells b2 [.bool true, iq W', iq H', .slice (some ⟨r', 0, none⟩) n' cap', iq X, iq Y, iq s, iq al, iq ca, iq cb, iq cc, iq cd] 82 true, .cells b1 [iq W, iq H, .slice (pB r) n cap] 59 true, rD (pB r) r 0 n 1 (cV px), rD (some ⟨r', 0, none⟩) r' 0 n' 1 (cV px'), rD (Az) gz oz nz 4 (rvals xsz)]) [2, 3, 4, 6, 9, 10, 39, 40, 41, 42, 44, 52] fun b9 => ?_
    refine pS 10 1 <| sSW (α := Option Addr × Nat × Nat) 53 (Builtin.append_ #[50, 50] 50 #[.slice A i cp, .slice (pB b9) 1 1]) (fun x_ => .slice x_.1 (i + 1) x_.2.2) (fun x_ => [.cells b9 [cQ (overC (pcolC W' H' X Y s al ca cb cc cd px' (((i : Nat) : Int) % W) (((i : Nat) : Int) / W)) (px.getD (i : Nat) 0))] 52 true, .gen (rowE (x_.1) x_.2.1 (i + 1) x_.2.2 52 1 (cV (((mixL W (drwB W' H' X Y s ca cb cc cd xsz) (drwG (pcolC W' H' X Y s al ca cb cc cd px')) px).take i) ++ [overC (pcolC W' H' X Y s al ca cb cc cd px' (((i : Nat) : Int) % W) (((i : Nat) : Int) / W)) (px.getD (i : Nat) 0)])) true), .cells b3 [iq 0, iq 0, .slice none 0 0] 59 true, .cells b2 [.bool true, iq W', iq H', .slice (some ⟨r', 0, none⟩) n' cap', iq X, iq Y, iq s, iq al, iq ca, iq cb, iq cc, iq cd] 82 true, .cells b1 [iq W, iq H, .slice (pB r) n cap] 59 true, rD (pB r) r 0 n 1 (cV px), rD (some ⟨r', 0, none⟩) r' 0 n' 1 (cV px'), rD (Az) gz oz nz 4 (rvals xsz)]) (fun _ => True) (by kernel_rfl) (fun w hT => append_own (n' := (i + 1)) (z := cQ 0) hT (i := 1) (bytes := 4) rfl (by kernel_rfl) (by kernel_rfl) rfl (by decide) (by decide) (Rd.ofCells (vals := ivals .u32 [overC (pcolC W' H' X Y s al ca cb cc cd px' (((i : Nat) : Int) % W) (((i : Nat) : Int) / W)) (px.getD (i : Nat) 0)]) (hT.ok 0 _ rfl) rfl rfl) (ivals_one .u32 [overC (pcolC W' H' X Y s al ca cb cc cd px' (((i : Nat) : Int) % W) (((i : Nat) : Int) / W)) (px.getD (i : Nat) 0)]) (by omega) (ivals_append .u32 ((mixL W (drwB W' H' X Y s ca cb cc cd xsz) (drwG (pcolC W' H' X Y s al ca cb cc cd px')) px).take i) [overC (pcolC W' H' X Y s al ca cb cc cd px' (((i : Nat) : Int) % W) (((i : Nat) : Int) / W)) (px.getD (i : Nat) 0)]) rfl) ?_
    rintro ⟨A10, g10, cp10⟩ -
    refine fI 1 (i + 1) A10 g10 cp10 (((mixL W (drwB W' H' X Y s ca cb cc cd xsz) (drwG (pcolC W' H' X Y s al ca cb cc cd px')) px).take i) ++ [overC (pcolC W' H' X Y s al ca cb cc cd px' (((i : Nat) : Int) % W) (((i : Nat) : Int) / W)) (px.getD (i : Nat) 0)]) rfl fun hr11_a hr11_l hr11_c hr11_m => ?_
    refine bD [0] 11 0 [(8, .slice A10 (i + 1) cp10)] [] <| fG 0 <| zDNR 3 <| bS [0, 0] 2 1 [(2, .slice Az nz capz), (3, .pointer (pB b1)), (4, .pointer (pB b2)), (6, .pointer (pB b3)), (8, .slice A10 (i + 1) cp10), (10, iq ((i : Nat) : Int)), (39, .slice Az nz capz), (40, iq (((i : Nat) : Int) % W)), (41, iq (((i : Nat) : Int) / W)), (42, .bool true), (55, iq (IntKind.i64.wrap (((mixN W (drwB W' H' X Y s ca cb cc cd xsz) i : Nat) : Int) + 1)))] <| wI 55 (((mixN W (drwB W' H' X Y s ca cb cc cd xsz) i : Nat) : Int) + 1) <| bD [0] 3 0 [(9, iq (((mixN W (drwB W' H' X Y s ca cb cc cd xsz) i : Nat) : Int) + 1))] [] <| zDbNR 3 <| bD [0, 0] 2 1 [(21, iq (IntKind.i64.wrap (((i : Nat) : Int) + 1)))] [20] <| wI 21 (((i : Nat) : Int) + 1) <| bD [0] 3 0 [(10, iq (((i : Nat) : Int) + 1))] [] <| zDN <| cont_rowEq (k := .u32) 0 (((mixL W (drwB W' H' X Y s ca cb cc cd xsz) (drwG (pcolC W' H' X Y s al ca cb cc cd px')) px).take i) ++ [overC (pcolC W' H' X Y s al ca cb cc cd px' (((i : Nat) : Int) % W) (((i : Nat) : Int) / W)) (px.getD (i : Nat) 0)]) ((mixL W (drwB W' H' X Y s ca cb cc cd xsz) (drwG (pcolC W' H' X Y s al ca cb cc cd px')) px).take (i + 1)) rfl (mixL_yes (by omega) hB_) ?_
    refine rC 9 (iq ((mixN W (drwB W' H' X Y s ca cb cc cd xsz) (i + 1) : Nat) : Int)) rfl (congrArg (Value.int .i64) (by rw [mixN_yes hB_]; omega)) <| cA (i + 1, A10, g10, cp10) (show (i + 1) ≤ n from (by omega))
   refine rC 42 (.bool false) rfl (congrArg Value.bool c8_) ?_
   have hB_ : (drwB W' H' X Y s ca cb cc cd xsz) ((i : Int) % W) ((i : Int) / W) = false := drwB_no (.inr c8_)
   refine cFa rfl <| cRg 9 rfl <| bD [0, 0, 3, 0] 4 5 [(56, .slice A i cp), (58, .slice (pB r) n cap), (59, iq ((i : Nat) : Int))] [57] <| pS 5 4 <| sS 60 (Instr.indexAt 50 (.slice (pB r) n cap) (iq ((i : Nat) : Int))) (.pointer (some ⟨r, (i : Nat), none⟩)) (fun w hT => rI 52 1 w) <| pS 6 3 <| sS 61 (Instr.loadAt 52 (.pointer (some ⟨r, (i : Nat), none⟩))) (cQ (px.getD (i : Nat) 0)) (fun w hT => rL (Rd.cell0 (hT.ok 4 _ rfl) ((i : Nat)) _ (ivals_get (by omega)))) <| bW [0] 7 2 (fun b12 => [(2, .slice Az nz capz), (3, .pointer (pB b1)), (4, .pointer (pB b2)), (6, .pointer (pB b3)), (9, iq ((mixN W (drwB W' H' X Y s ca cb cc cd xsz) i : Nat) : Int)), (10, iq ((i : Nat) : Int)), (39, .slice Az nz capz), (40, iq (((i : Nat) : Int) % W)), (41, iq (((i : Nat) : Int) / W)), (42, .bool false), (56, .slice A i cp), (62, .slice (pB b12) 1 1)]) (fun b12 => [.cells b12 [cQ (px.getD (i : Nat) 0)] 52 true, .gen (rowE (A) g i cp 52 1 (cV ((mixL W (drwB W' H' X Y s ca cb cc cd xsz) (drwG (pcolC W' H' X Y s al ca cb cc cd px')) px).take i)) true), .cells b3 [iq 0, iq 0, .slice none 0 0] 59 true, .cells b2 [.bool true, iq W', iq H', .slice (some ⟨r', 0, none⟩) n' cap', iq X, iq Y, iq s, iq al, iq ca, iq cb, iq cc, iq cd] 82 true, .cells b1 [iq W, iq H, .slice (pB r) n cap] 59 true, rD (pB r) r 0 n 1 (cV px), rD (some ⟨r', 0, none⟩) r' 0 n' 1 (cV px'), rD (Az) gz oz nz 4 (rvals xsz)]) [2, 3, 4, 6, 9, 10, 39, 40, 41, 42, 56, 62] fun b12 => ?_
   refine pS 8 1 <| sSW (α := Option Addr × Nat × Nat) 63 (Builtin.append_ #[50, 50] 50 #[.slice A i cp, .slice (pB b12) 1 1]) (fun x_ => .slice x_.1 (i + 1) x_.2.2) (fun x_ => [.cells b12 [cQ (px.getD (i : Nat) 0)] 52 true, .gen (rowE (x_.1) x_.2.1 (i + 1) x_.2.2 52 1 (cV (((mixL W (drwB W' H' X Y s ca cb cc cd xsz) (drwG (pcolC W' H' X Y s al ca cb cc cd px')) px).take i) ++ [px.getD (i : Nat) 0])) true), .cells b3 [iq 0, iq 0, .slice none 0 0] 59 true, .cells b2 [.bool true, iq W', iq H', .slice (some ⟨r', 0, none⟩) n' cap', iq X, iq Y, iq s, iq al, iq ca, iq cb, iq cc, iq cd] 82 true, .cells b1 [iq W, iq H, .slice (pB r) n cap] 59 true, rD (pB r) r 0 n 1 (cV px), rD (some ⟨r', 0, none⟩) r' 0 n' 1 (cV px'), rD (Az) gz oz nz 4 (rvals xsz)]) (fun _ => True) (by kernel_rfl) (fun w hT => append_own (n' := (i + 1)) (z := cQ 0) hT (i := 1) (bytes := 4) rfl (by kernel_rfl) (by kernel_rfl) rfl (by decide) (by decide) (Rd.ofCells (vals := ivals .u32 [px.getD (i : Nat) 0]) (hT.ok 0 _ rfl) rfl rfl) (ivals_one .u32 [px.getD (i : Nat) 0]) (by omega) (ivals_append .u32 ((mixL W (drwB W' H' X Y s ca cb cc cd xsz) (drwG (pcolC W' H' X Y s al ca cb cc cd px')) px).take i) [px.getD (i : Nat) 0]) rfl) ?_
   rintro ⟨A13, g13, cp13⟩ -
   refine fI 1 (i + 1) A13 g13 cp13 (((mixL W (drwB W' H' X Y s ca cb cc cd xsz) (drwG (pcolC W' H' X Y s al ca cb cc cd px')) px).take i) ++ [px.getD (i : Nat) 0]) rfl fun hr14_a hr14_l hr14_c hr14_m => ?_
   refine bD [0] 9 0 [(8, .slice A13 (i + 1) cp13)] [] <| fG 0 <| zDbNR 3 <| bS [0, 0] 2 1 [(2, .slice Az nz capz), (3, .pointer (pB b1)), (4, .pointer (pB b2)), (6, .pointer (pB b3)), (8, .slice A13 (i + 1) cp13), (9, iq ((mixN W (drwB W' H' X Y s ca cb cc cd xsz) i : Nat) : Int)), (21, iq (IntKind.i64.wrap (((i : Nat) : Int) + 1))), (39, .slice Az nz capz), (40, iq (((i : Nat) : Int) % W)), (41, iq (((i : Nat) : Int) / W)), (42, .bool false)] <| wI 21 (((i : Nat) : Int) + 1) <| bD [0] 3 0 [(10, iq (((i : Nat) : Int) + 1))] [] <| zDN <| cont_rowEq (k := .u32) 0 (((mixL W (drwB W' H' X Y s ca cb cc cd xsz) (drwG (pcolC W' H' X Y s al ca cb cc cd px')) px).take i) ++ [px.getD (i : Nat) 0]) ((mixL W (drwB W' H' X Y s ca cb cc cd xsz) (drwG (pcolC W' H' X Y s al ca cb cc cd px')) px).take (i + 1)) rfl (mixL_no (by omega) hB_) ?_
   refine rC 9 (iq ((mixN W (drwB W' H' X Y s ca cb cc cd xsz) (i + 1) : Nat) : Int)) rfl (congrArg (Value.int .i64) (by rw [mixN_no hB_])) <| cA (i + 1, A13, g13, cp13) (show (i + 1) ≤ n from (by omega))
  have hB_ : (drwB W' H' X Y s ca cb cc cd xsz) ((i : Int) % W) ((i : Int) / W) = false := drwB_no (.inl c7_)
  refine bD [0, 0, 0, 0, 0] 7 0 [(39, undef), (40, undef), (41, undef), (42, undef), (43, .bool false)] [] <| zDN <| cFa rfl <| cRg 9 rfl <| bD [0, 0, 3, 0] 4 5 [(56, .slice A i cp), (58, .slice (pB r) n cap), (59, iq ((i : Nat) : Int))] [57] <| pS 5 4 <| sS 60 (Instr.indexAt 50 (.slice (pB r) n cap) (iq ((i : Nat) : Int))) (.pointer (some ⟨r, (i : Nat), none⟩)) (fun w hT => rI 52 1 w) <| pS 6 3 <| sS 61 (Instr.loadAt 52 (.pointer (some ⟨r, (i : Nat), none⟩))) (cQ (px.getD (i : Nat) 0)) (fun w hT => rL (Rd.cell0 (hT.ok 4 _ rfl) ((i : Nat)) _ (ivals_get (by omega)))) <| bW [0] 7 2 (fun b15 => [(2, .slice Az nz capz), (3, .pointer (pB b1)), (4, .pointer (pB b2)), (6, .pointer (pB b3)), (9, iq ((mixN W (drwB W' H' X Y s ca cb cc cd xsz) i : Nat) : Int)), (10, iq ((i : Nat) : Int)), (39, undef), (40, undef), (41, undef), (42, undef), (56, .slice A i cp), (62, .slice (pB b15) 1 1)]) (fun b15 => [.cells b15 [cQ (px.getD (i : Nat) 0)] 52 true, .gen (rowE (A) g i cp 52 1 (cV ((mixL W (drwB W' H' X Y s ca cb cc cd xsz) (drwG (pcolC W' H' X Y s al ca cb cc cd px')) px).take i)) true), .cells b3 [iq 0, iq 0, .slice none 0 0] 59 true, .cells b2 [.bool true, iq W', iq H', .slice (some ⟨r', 0, none⟩) n' cap', iq X, iq Y, iq s, iq al, iq ca, iq cb, iq cc, iq cd] 82 true, .cells b1 [iq W, iq H, .slice (pB r) n cap] 59 true, rD (pB r) r 0 n 1 (cV px), rD (some ⟨r', 0, none⟩) r' 0 n' 1 (cV px'), rD (Az) gz oz nz 4 (rvals xsz)]) [2, 3, 4, 6, 9, 10, 39, 40, 41, 42, 56, 62] fun b15 => ?_
  refine pS 8 1 <| sSW (α := Option Addr × Nat × Nat) 63 (Builtin.append_ #[50, 50] 50 #[.slice A i cp, .slice (pB b15) 1 1]) (fun x_ => .slice x_.1 (i + 1) x_.2.2) (fun x_ => [.cells b15 [cQ (px.getD (i : Nat) 0)] 52 true, .gen (rowE (x_.1) x_.2.1 (i + 1) x_.2.2 52 1 (cV (((mixL W (drwB W' H' X Y s ca cb cc cd xsz) (drwG (pcolC W' H' X Y s al ca cb cc cd px')) px).take i) ++ [px.getD (i : Nat) 0])) true), .cells b3 [iq 0, iq 0, .slice none 0 0] 59 true, .cells b2 [.bool true, iq W', iq H', .slice (some ⟨r', 0, none⟩) n' cap', iq X, iq Y, iq s, iq al, iq ca, iq cb, iq cc, iq cd] 82 true, .cells b1 [iq W, iq H, .slice (pB r) n cap] 59 true, rD (pB r) r 0 n 1 (cV px), rD (some ⟨r', 0, none⟩) r' 0 n' 1 (cV px'), rD (Az) gz oz nz 4 (rvals xsz)]) (fun _ => True) (by kernel_rfl) (fun w hT => append_own (n' := (i + 1)) (z := cQ 0) hT (i := 1) (bytes := 4) rfl (by kernel_rfl) (by kernel_rfl) rfl (by decide) (by decide) (Rd.ofCells (vals := ivals .u32 [px.getD (i : Nat) 0]) (hT.ok 0 _ rfl) rfl rfl) (ivals_one .u32 [px.getD (i : Nat) 0]) (by omega) (ivals_append .u32 ((mixL W (drwB W' H' X Y s ca cb cc cd xsz) (drwG (pcolC W' H' X Y s al ca cb cc cd px')) px).take i) [px.getD (i : Nat) 0]) rfl) ?_
  rintro ⟨A16, g16, cp16⟩ -
  refine fI 1 (i + 1) A16 g16 cp16 (((mixL W (drwB W' H' X Y s ca cb cc cd xsz) (drwG (pcolC W' H' X Y s al ca cb cc cd px')) px).take i) ++ [px.getD (i : Nat) 0]) rfl fun hr17_a hr17_l hr17_c hr17_m => ?_
  refine bD [0] 9 0 [(8, .slice A16 (i + 1) cp16)] [] <| fG 0 <| zDbNR 3 <| bD [0, 0] 2 1 [(21, iq (IntKind.i64.wrap (((i : Nat) : Int) + 1)))] [20] <| wI 21 (((i : Nat) : Int) + 1) <| bS [0] 3 0 [(2, .slice Az nz capz), (3, .pointer (pB b1)), (4, .pointer (pB b2)), (6, .pointer (pB b3)), (8, .slice A16 (i + 1) cp16), (9, iq ((mixN W (drwB W' H' X Y s ca cb cc cd xsz) i : Nat) : Int)), (10, iq (((i : Nat) : Int) + 1)), (39, undef), (40, undef), (41, undef), (42, undef)] <| zDN <| cont_rowEq (k := .u32) 0 (((mixL W (drwB W' H' X Y s ca cb cc cd xsz) (drwG (pcolC W' H' X Y s al ca cb cc cd px')) px).take i) ++ [px.getD (i : Nat) 0]) ((mixL W (drwB W' H' X Y s ca cb cc cd xsz) (drwG (pcolC W' H' X Y s al ca cb cc cd px')) px).take (i + 1)) rfl (mixL_no (by omega) hB_) ?_
  refine rC 9 (iq ((mixN W (drwB W' H' X Y s ca cb cc cd xsz) (i + 1) : Nat) : Int)) rfl (congrArg (Value.int .i64) (by rw [mixN_no hB_])) <| cA (i + 1, A16, g16, cp16) (show (i + 1) ≤ n from (by omega))
 refine zFXxxeNSR 3 <| bZ [0, 0, 3] 3 0 [(3, .pointer (pB b1)), (6, .pointer (pB b3)), (9, iq ((mixN W (drwB W' H' X Y s ca cb cc cd xsz) i : Nat) : Int))] [.gen (rowE (A) g i cp 52 1 (cV ((mixL W (drwB W' H' X Y s ca cb cc cd xsz) (drwG (pcolC W' H' X Y s al ca cb cc cd px')) px).take i)) true), .cells b3 [iq 0, iq 0, .slice none 0 0] 59 true, .cells b2 [.bool true, iq W', iq H', .slice (some ⟨r', 0, none⟩) n' cap', iq X, iq Y, iq s, iq al, iq ca, iq cb, iq cc, iq cd] 82 true, .cells b1 [iq W, iq H, .slice A i cp] 59 true, rD (pB r) r 0 n 1 (cV px), rD (some ⟨r', 0, none⟩) r' 0 n' 1 (cV px'), rD (Az) gz oz nz 4 (rvals xsz)] <| fG 2 <| zDNSR 4 <| bZ [2, 0, 1, 0] 4 0 [(6, .pointer (pB b3)), (7, iq ((mixN W (drwB W' H' X Y s ca cb cc cd xsz) i : Nat) : Int))] [.gen (rowE (A) g i cp 52 1 (cV ((mixL W (drwB W' H' X Y s ca cb cc cd xsz) (drwG (pcolC W' H' X Y s al ca cb cc cd px')) px).take i)) true), .cells b3 [iq W, iq H, .slice A i cp] 59 true, .cells b1 [iq W, iq H, .slice A i cp] 59 true, rD (pB r) r 0 n 1 (cV px), rD (some ⟨r', 0, none⟩) r' 0 n' 1 (cV px'), rD (Az) gz oz nz 4 (rvals xsz)] <| fG 2 <| zDNr <| rB rfl 1 0 (.agg #[iq W, iq H, .slice A i cp]) (iq ((mixN W (drwB W' H' X Y s ca cb cc cd xsz) i : Nat) : Int)) fun w hT => ?_
 replace hT := hT.erase 4 (fun e h hw => by cases h; first | rfl | cases hw)
 replace hT := hT.erase 3 (fun e h hw => by cases h; first | rfl | cases hw)
 replace hT := hT.erase 2 (fun e h hw => by cases h; first | rfl | cases hw)
 replace hT := hT.erase 1 (fun e h hw => by cases h; first | rfl | cases hw)
 rw [mixL_full (by omega)] at hT
 have hin : i = n := by omega
 subst hin
 have hA := (Row.facts (hT.ok 0 _ rfl)).1 (by omega)
 subst hA
 exact ⟨_, _, rfl, hT⟩
theorem refClear5 (W H : Int) (r n cap : Nat) (px : List Int) (Az : Option Addr) (gz oz nz capz : Nat) (xsz : List Rect) (c : Int) (w : World) (hT0 : Tab w w [rD (some ⟨r, 0, none⟩) r 0 n 1 (cV px), rD (Az) gz oz nz 4 (rvals xsz)]) (hok : ImgOk W H n px) (hc : InC c) (hnz : nz ≤ 200000) :
    Calls Tryz.prog 62 #[.agg #[iQ W, iQ H, sL r n cap], .slice Az nz capz, cQ c] w fun e w' => ∃ (g cp : Nat), e = .returned (.tuple #[.agg #[iQ W, iQ H, sL g n cp], iQ ((mixN W (clrB c xsz) n : Nat) : Int)]) ∧ Tab w w' [oE g n cp 52 1 (cV (mixL W (clrB c xsz) (clrG c) px))] := by
 have hw1 := hok.w1
 have hw2 := hok.w2
 have hh1 := hok.h1
 have hh2 := hok.h2
 have hnum := hok.num
 have hlen := hok.len
 have hle := hok.le
 obtain ⟨hraz, hrlz⟩ := Rd.factsR (hT0.ok 1 _ rfl)
 obtain ⟨hc0, hc1⟩ := hc
 refine eN [(0, .agg #[iq W, iq H, .slice (pB r) n cap]), (1, .slice Az nz capz), (2, cQ c)] Tryz.func62 Tryz.ntmps62 rfl hT0 ?_
 refine zSR 3 <| batch2 [0, 0, 0] 3 0 (fun b1 b2 => [(1, .slice Az nz capz), (2, cQ c), (3, .pointer (pB b1)), (6, .pointer (pB b2))]) (fun b1 b2 => [.cells b2 [iq 0, iq 0, .slice none 0 0] 59 true, .cells b1 [iq W, iq H, .slice (pB r) n cap] 59 true, rD (pB r) r 0 n 1 (cV px), rD (Az) gz oz nz 4 (rvals xsz)]) rfl rfl [1, 2, 3, 6] (fun _ _ => rfl) (fun b1 b2 => by kernel_rfl) (fun b1 b2 => by kernel_rfl) (fun b1 b2 => ?_)
 refine zDNSR 3 <| bD [0] 1 2 [(12, cQ c)] [] <| pS 2 1 <| cP 13 (.bool (mayB c)) (fun w hT => refMay c w (by omega) (by omega)) <| bD [0] 3 0 [(8, .bool (mayB c))] [] <| zDNSR 1 <| bD [0] 1 0 [(9, .slice none 0 0)] [] <| zDNSR 1 <| bD [0] 1 0 [(10, iq 0)] [] <| zDNSSR 1 <| bD [0] 1 0 [(11, iq 0)] [] <| zDNB <| cont_nilrow 52 1 ?_
 refine cont_rowEq (k := .u32) 0 ([]) ((mixL W (clrB c xsz) (clrG c) px).take 0) rfl (by simp) ?_
 refine rC 10 (iq ((mixN W (clrB c xsz) 0 : Nat) : Int)) rfl (congrArg (Value.int .i64) (by simp [mixN])) <| cL (α := Nat × Option Addr × Nat × Nat) (fun x_ : Nat × Option Addr × Nat × Nat => x_.1 ≤ n) (fun x_ : Nat × Option Addr × Nat × Nat => [(1, .slice Az nz capz), (2, cQ c), (3, .pointer (pB b1)), (6, .pointer (pB b2)), (8, .bool (mayB c)), (9, .slice x_.2.1 x_.1 x_.2.2.2), (10, iq ((mixN W (clrB c xsz) x_.1 : Nat) : Int)), (11, iq ((x_.1 : Nat) : Int))]) (fun x_ : Nat × Option Addr × Nat × Nat => [.gen (rowE (x_.2.1) x_.2.2.1 x_.1 x_.2.2.2 52 1 (cV ((mixL W (clrB c xsz) (clrG c) px).take x_.1)) true), .cells b2 [iq 0, iq 0, .slice none 0 0] 59 true, .cells b1 [iq W, iq H, .slice (pB r) n cap] 59 true, rD (pB r) r 0 n 1 (cV px), rD (Az) gz oz nz 4 (rvals xsz)]) (fun x_ : Nat × Option Addr × Nat × Nat => n - x_.1) (0, none, 0, 0) (show (0) ≤ n from (by omega)) ?_
 rintro ⟨i, A, g, cp⟩ hinv4_
 replace hinv4_ : i ≤ n := hinv4_
 have hi := hinv4_
 have hem := emod_range i hw1
 have hmn := mixN_le W (clrB c xsz) i
 have hge : i < n → InC (px.getD i 0) := fun h_ => hok.get h_
 refine zSSR 5 <| bD [0, 0, 2, 0, 0] 5 0 [(18, .bool (decide (((i : Nat) : Int) < (n : Int))))] [14, 15, 16, 17] <| zDN <| sD 18 rfl (fun c5_ => ?_) fun c5_ => ?_
 ·
  refine cTr rfl <| cont_skip <| zN <| cSq <| cont_block <| cSq <| drawn_enter 13 [] rfl (by kernel_rfl) ?_
  refine tD 0 [] [(0, 0), (1, 0)] 11 [1, 0] [(22, .bool (mayB c))] [21] <| cSp 22 _ rfl (fun c6_ => ?_) fun c6_ => ?_
  ·
   refine rC 8 (.bool true) rfl (congrArg Value.bool c6_) <| tD 0 [] [(2, 0), (3, 0), (4, 0), (7, 0), (8, 0), (5, 2), (9, 2)] 4 [9, 5, 8, 7, 4, 3, 2, 1, 0] [(23, .slice Az nz capz), (24, iq ((i : Nat) : Int)), (25, .pointer (pB b1)), (26, iq W), (28, iq ((i : Nat) : Int)), (29, .pointer (pB b1)), (30, iq W)] [] <| sT 0 [] 6 3 27 (bopS .rem 3 (.tmp 24) (.tmp 26) (iq ((i : Nat) : Int)) (iq W)) (iq (((i : Nat) : Int).tmod W)) (fun w hT => run_rem (by omega) w) <| rC 27 (iq (((i : Nat) : Int) % W)) rfl (tmodI (by omega)) <| sT 0 [] 10 2 31 (bopS .quo 3 (.tmp 28) (.tmp 30) (iq ((i : Nat) : Int)) (iq W)) (iq (IntKind.i64.wrap (((i : Nat) : Int).tdiv W))) (fun w hT => run_quo (by omega) w) <| rC 31 (iq (((i : Nat) : Int) / W)) rfl (tdivI (by omega) (by omega) (by omega)) <| dO 11 1 <| cP 32 (.bool (hasL xsz (((i : Nat) : Int) % W) (((i : Nat) : Int) / W))) (fun w hT => refHasL Az gz oz nz capz xsz (((i : Nat) : Int) % W) (((i : Nat) : Int) / W) w (hT.viewRo (.cons (i := 4) rfl Vw.rd .nil) rfl) (by omega)) <| dX 0 [] <| tD 0 [] [(12, 0)] 0 [12, 11, 10, 6, 9, 5, 8, 7, 4, 3, 2, 1, 0] [(33, .bool (hasL xsz (((i : Nat) : Int) % W) (((i : Nat) : Int) / W)))] [] <| dD <| zN <| cSp 33 _ rfl (fun c7_ => ?_) fun c7_ => ?_
   ·
    refine rC 32 (.bool true) rfl (congrArg Value.bool c7_) ?_
    have hB_ : (clrB c xsz) ((i : Int) % W) ((i : Int) / W) = true := clrB_yes c6_ c7_
    refine zTSR 5 <| bW [0, 0, 0] 3 2 (fun b8 => [(1, .slice Az nz capz), (2, cQ c), (3, .pointer (pB b1)), (6, .pointer (pB b2)), (8, .bool true), (10, iq ((mixN W (clrB c xsz) i : Nat) : Int)), (11, iq ((i : Nat) : Int)), (23, .slice Az nz capz), (24, iq ((i : Nat) : Int)), (25, .pointer (pB b1)), (26, iq W), (27, iq (((i : Nat) : Int) % W)), (28, iq ((i : Nat) : Int)), (29, .pointer (pB b1)), (30, iq W), (31, iq (((i : Nat) : Int) / W)), (32, .bool true), (34, .slice A i cp), (36, .slice (pB b8) 1 1)]) (fun b8 => [.cells b8 [cQ c] 52 true, .gen (rowE (A) g i cp 52 1 (cV ((mixL W (clrB c xsz) (clrG c) px).take i)) true), .cells b2 [iq 0, iq 0, .slice none 0 0] 59 true, .cells b1 [iq W, iq H, .slice (pB r) n cap] 59 true, rD (pB r) r 0 n 1 (cV px), rD (Az) gz oz nz 4 (rvals xsz)]) [1, 2, 3, 6, 8, 10, 11, 23, 24, 25, 26, 27, 28, 29, 30, 31, 32, 34, 36] fun b8 => ?_
    refine pS 4 1 <| sSW (α := Option Addr × Nat × Nat) 37 (Builtin.append_ #[50, 50] 50 #[.slice A i cp, .slice (pB b8) 1 1]) (fun x_ => .slice x_.1 (i + 1) x_.2.2) (fun x_ => [.cells b8 [cQ c] 52 true, .gen (rowE (x_.1) x_.2.1 (i + 1) x_.2.2 52 1 (cV (((mixL W (clrB c xsz) (clrG c) px).take i) ++ [c])) true), .cells b2 [iq 0, iq 0, .slice none 0 0] 59 true, .cells b1 [iq W, iq H, .slice (pB r) n cap] 59 true, rD (pB r) r 0 n 1 (cV px), rD (Az) gz oz nz 4 (rvals xsz)]) (fun _ => True) (by kernel_rfl) (fun w hT => append_own (n' := (i + 1)) (z := cQ 0) hT (i := 1) (bytes := 4) rfl (by kernel_rfl) (by kernel_rfl) rfl (by decide) (by decide) (Rd.ofCells (vals := ivals .u32 [c]) (hT.ok 0 _ rfl) rfl rfl) (ivals_one .u32 [c]) (by omega) (ivals_append .u32 ((mixL W (clrB c xsz) (clrG c) px).take i) [c]) rfl) ?_
    rintro ⟨A9, g9, cp9⟩ -
    refine fI 1 (i + 1) A9 g9 cp9 (((mixL W (clrB c xsz) (clrG c) px).take i) ++ [c]) rfl fun hr10_a hr10_l hr10_c hr10_m => ?_
    refine bD [0] 5 0 [(9, .slice A9 (i + 1) cp9)] [] <| fG 0 <| zDNR 3 <| bD [0, 0] 2 1 [(39, iq (IntKind.i64.wrap (((mixN W (clrB c xsz) i : Nat) : Int) + 1)))] [38] <| wI 39 (((mixN W (clrB c xsz) i : Nat) : Int) + 1) <| bD [0] 3 0 [(10, iq (((mixN W (clrB c xsz) i : Nat) : Int) + 1))] [] <| zDbNR 3 <| bD [0, 0] 2 1 [(20, iq (IntKind.i64.wrap (((i : Nat) : Int) + 1)))] [19] <| wI 20 (((i : Nat) : Int) + 1) <| bD [0] 3 0 [(11, iq (((i : Nat) : Int) + 1))] [] <| zDN <| rC 8 (.bool (mayB c)) rfl (congrArg Value.bool c6_.symm) <| cont_rowEq (k := .u32) 0 (((mixL W (clrB c xsz) (clrG c) px).take i) ++ [c]) ((mixL W (clrB c xsz) (clrG c) px).take (i + 1)) rfl (mixL_yes (by omega) hB_) ?_
    refine rC 10 (iq ((mixN W (clrB c xsz) (i + 1) : Nat) : Int)) rfl (congrArg (Value.int .i64) (by rw [mixN_yes hB_]; omega)) <| cA (i + 1, A9, g9, cp9) (show (i + 1) ≤ n from (by omega))
   refine rC 32 (.bool false) rfl (congrArg Value.bool c7_) ?_
   have hB_ : (clrB c xsz) ((i : Int) % W) ((i : Int) / W) = false := clrB_no (.inr c7_)
   refine cFa rfl <| cRg 9 rfl <| bD [0, 0, 2, 0] 4 5 [(40, .slice A i cp), (42, .slice (pB r) n cap), (43, iq ((i : Nat) : Int))] [41] <| pS 5 4 <| sS 44 (Instr.indexAt 50 (.slice (pB r) n cap) (iq ((i : Nat) : Int))) (.pointer (some ⟨r, (i : Nat), none⟩)) (fun w hT => rI 52 1 w) <| pS 6 3 <| sS 45 (Instr.loadAt 52 (.pointer (some ⟨r, (i : Nat), none⟩))) (cQ (px.getD (i : Nat) 0)) (fun w hT => rL (Rd.cell0 (hT.ok 3 _ rfl) ((i : Nat)) _ (ivals_get (by omega)))) <| bW [0] 7 2 (fun b11 => [(1, .slice Az nz capz), (2, cQ c), (3, .pointer (pB b1)), (6, .pointer (pB b2)), (8, .bool true), (10, iq ((mixN W (clrB c xsz) i : Nat) : Int)), (11, iq ((i : Nat) : Int)), (23, .slice Az nz capz), (24, iq ((i : Nat) : Int)), (25, .pointer (pB b1)), (26, iq W), (27, iq (((i : Nat) : Int) % W)), (28, iq ((i : Nat) : Int)), (29, .pointer (pB b1)), (30, iq W), (31, iq (((i : Nat) : Int) / W)), (32, .bool false), (40, .slice A i cp), (46, .slice (pB b11) 1 1)]) (fun b11 => [.cells b11 [cQ (px.getD (i : Nat) 0)] 52 true, .gen (rowE (A) g i cp 52 1 (cV ((mixL W (clrB c xsz) (clrG c) px).take i)) true), .cells b2 [iq 0, iq 0, .slice none 0 0] 59 true, .cells b1 [iq W, iq H, .slice (pB r) n cap] 59 true, rD (pB r) r 0 n 1 (cV px), rD (Az) gz oz nz 4 (rvals xsz)]) [1, 2, 3, 6, 8, 10, 11, 23, 24, 25, 26, 27, 28, 29, 30, 31, 32, 40, 46] fun b11 => ?_
   refine pS 8 1 <| sSW (α := Option Addr × Nat × Nat) 47 (Builtin.append_ #[50, 50] 50 #[.slice A i cp, .slice (pB b11) 1 1]) (fun x_ => .slice x_.1 (i + 1) x_.2.2) (fun x_ => [.cells b11 [cQ (px.getD (i : Nat) 0)] 52 true, .gen (rowE (x_.1) x_.2.1 (i + 1) x_.2.2 52 1 (cV (((mixL W (clrB c xsz) (clrG c) px).take i) ++ [px.getD (i : Nat) 0])) true), .cells b2 [iq 0, iq 0, .slice none 0 0] 59 true, .cells b1 [iq W, iq H, .slice (pB r) n cap] 59 true, rD (pB r) r 0 n 1 (cV px), rD (Az) gz oz nz 4 (rvals xsz)]) (fun _ => True) (by kernel_rfl) (fun w hT => append_own (n' := (i + 1)) (z := cQ 0) hT (i := 1) (bytes := 4) rfl (by kernel_rfl) (by kernel_rfl) rfl (by decide) (by decide) (Rd.ofCells (vals := ivals .u32 [px.getD (i : Nat) 0]) (hT.ok 0 _ rfl) rfl rfl) (ivals_one .u32 [px.getD (i : Nat) 0]) (by omega) (ivals_append .u32 ((mixL W (clrB c xsz) (clrG c) px).take i) [px.getD (i : Nat) 0]) rfl) ?_
   rintro ⟨A12, g12, cp12⟩ -
   refine fI 1 (i + 1) A12 g12 cp12 (((mixL W (clrB c xsz) (clrG c) px).take i) ++ [px.getD (i : Nat) 0]) rfl fun hr13_a hr13_l hr13_c hr13_m => ?_
   refine bD [0] 9 0 [(9, .slice A12 (i + 1) cp12)] [] <| fG 0 <| zDbNR 3 <| bD [0, 0] 2 1 [(20, iq (IntKind.i64.wrap (((i : Nat) : Int) + 1)))] [19] <| wI 20 (((i : Nat) : Int) + 1) <| bD [0] 3 0 [(11, iq (((i : Nat) : Int) + 1))] [] <| zDN <| rC 8 (.bool (mayB c)) rfl (congrArg Value.bool c6_.symm) <| cont_rowEq (k := .u32) 0 (((mixL W (clrB c xsz) (clrG c) px).take i) ++ [px.getD (i : Nat) 0]) ((mixL W (clrB c xsz) (clrG c) px).take (i + 1)) rfl (mixL_no (by omega) hB_) ?_
   refine rC 10 (iq ((mixN W (clrB c xsz) (i + 1) : Nat) : Int)) rfl (congrArg (Value.int .i64) (by rw [mixN_no hB_])) <| cA (i + 1, A12, g12, cp12) (show (i + 1) ≤ n from (by omega))
  refine rC 8 (.bool false) rfl (congrArg Value.bool c6_) ?_
  have hB_ : (clrB c xsz) ((i : Int) % W) ((i : Int) / W) = false := clrB_no (.inl c6_)
  refine tD 0 [] [(2, 0), (3, 0), (4, 0), (7, 0), (8, 0), (5, 0), (9, 0), (6, 0), (10, 0)] 2 [10, 6, 9, 5, 8, 7, 4, 3, 2, 1, 0] [(23, undef), (24, undef), (25, undef), (26, undef), (27, undef), (28, undef), (29, undef), (30, undef), (31, undef)] [] <| dO 11 1 <| oS 0 [(1, .slice Az nz capz), (2, cQ c), (3, .pointer (pB b1)), (6, .pointer (pB b2)), (8, .bool false), (9, .slice A i cp), (10, iq ((mixN W (clrB c xsz) i : Nat) : Int)), (11, iq ((i : Nat) : Int)), (22, .bool false), (23, undef), (24, undef), (25, undef), (26, undef), (27, undef), (28, undef), (29, undef), (30, undef), (31, undef), (32, undef)] [.gen (rowE (A) g i cp 52 1 (cV ((mixL W (clrB c xsz) (clrG c) px).take i)) true), .cells b2 [iq 0, iq 0, .slice none 0 0] 59 true, .cells b1 [iq W, iq H, .slice (pB r) n cap] 59 true, rD (pB r) r 0 n 1 (cV px), rD (Az) gz oz nz 4 (rvals xsz)] <| dX 0 [] <| tD 0 [] [(12, 0)] 0 [12, 11, 10, 6, 9, 5, 8, 7, 4, 3, 2, 1, 0] [(33, .bool false)] [] <| dD <| zN <| cFa rfl <| cRg 9 rfl <| bD [0, 0, 2, 0] 4 5 [(40, .slice A i cp), (42, .slice (pB r) n cap), (43, iq ((i : Nat) : Int))] [41] <| pS 5 4 <| sS 44 (Instr.indexAt 50 (.slice (pB r) n cap) (iq ((i : Nat) : Int))) (.pointer (some ⟨r, (i : Nat), none⟩)) (fun w hT => rI 52 1 w) <| pS 6 3 <| sS 45 (Instr.loadAt 52 (.pointer (some ⟨r, (i : Nat), none⟩))) (cQ (px.getD (i : Nat) 0)) (fun w hT => rL (Rd.cell0 (hT.ok 3 _ rfl) ((i : Nat)) _ (ivals_get (by omega)))) <| bW [0] 7 2 (fun b14 => [(1, .slice Az nz capz), (2, cQ c), (3, .pointer (pB b1)), (6, .pointer (pB b2)), (8, .bool false), (10, iq ((mixN W (clrB c xsz) i : Nat) : Int)), (11, iq ((i : Nat) : Int)), (23, undef), (24, undef), (25, undef), (26, undef), (27, undef), (28, undef), (29, undef), (30, undef), (31, undef), (32, undef), (40, .slice A i cp), (46, .slice (pB b14) 1 1)]) (fun b14 => [.cells b14 [cQ (px.getD (i : Nat) 0)] 52 true, .gen (rowE (A) g i cp 52 1 (cV ((mixL W (clrB c xsz) (clrG c) px).take i)) true), .cells b2 [iq 0, iq 0, .slice none 0 0] 59 true, .cells b1 [iq W, iq H, .slice (pB r) n cap] 59 true, rD (pB r) r 0 n 1 (cV px), rD (Az) gz oz nz 4 (rvals xsz)]) [1, 2, 3, 6, 8, 10, 11, 23, 24, 25, 26, 27, 28, 29, 30, 31, 32, 40, 46] fun b14 => ?_
  refine pS 8 1 <| sSW (α := Option Addr × Nat × Nat) 47 (Builtin.append_ #[50, 50] 50 #[.slice A i cp, .slice (pB b14) 1 1]) (fun x_ => .slice x_.1 (i + 1) x_.2.2) (fun x_ => [.cells b14 [cQ (px.getD (i : Nat) 0)] 52 true, .gen (rowE (x_.1) x_.2.1 (i + 1) x_.2.2 52 1 (cV (((mixL W (clrB c xsz) (clrG c) px).take i) ++ [px.getD (i : Nat) 0])) true), .cells b2 [iq 0, iq 0, .slice none 0 0] 59 true, .cells b1 [iq W, iq H, .slice (pB r) n cap] 59 true, rD (pB r) r 0 n 1 (cV px), rD (Az) gz oz nz 4 (rvals xsz)]) (fun _ => True) (by kernel_rfl) (fun w hT => append_own (n' := (i + 1)) (z := cQ 0) hT (i := 1) (bytes := 4) rfl (by kernel_rfl) (by kernel_rfl) rfl (by decide) (by decide) (Rd.ofCells (vals := ivals .u32 [px.getD (i : Nat) 0]) (hT.ok 0 _ rfl) rfl rfl) (ivals_one .u32 [px.getD (i : Nat) 0]) (by omega) (ivals_append .u32 ((mixL W (clrB c xsz) (clrG c) px).take i) [px.getD (i : Nat) 0]) rfl) ?_
  rintro ⟨A15, g15, cp15⟩ -
  refine fI 1 (i + 1) A15 g15 cp15 (((mixL W (clrB c xsz) (clrG c) px).take i) ++ [px.getD (i : Nat) 0]) rfl fun hr16_a hr16_l hr16_c hr16_m => ?_
  refine bD [0] 9 0 [(9, .slice A15 (i + 1) cp15)] [] <| fG 0 <| zDbNR 3 <| bD [0, 0] 2 1 [(20, iq (IntKind.i64.wrap (((i : Nat) : Int) + 1)))] [19] <| wI 20 (((i : Nat) : Int) + 1) <| bD [0] 3 0 [(11, iq (((i : Nat) : Int) + 1))] [] <| zDN <| rC 8 (.bool (mayB c)) rfl (congrArg Value.bool c6_.symm) <| cont_rowEq (k := .u32) 0 (((mixL W (clrB c xsz) (clrG c) px).take i) ++ [px.getD (i : Nat) 0]) ((mixL W (clrB c xsz) (clrG c) px).take (i + 1)) rfl (mixL_no (by omega) hB_) ?_
  refine rC 10 (iq ((mixN W (clrB c xsz) (i + 1) : Nat) : Int)) rfl (congrArg (Value.int .i64) (by rw [mixN_no hB_])) <| cA (i + 1, A15, g15, cp15) (show (i + 1) ≤ n from (by omega))
 refine zFXxxeNSR 3 <| bZ [0, 0, 2] 3 0 [(3, .pointer (pB b1)), (6, .pointer (pB b2)), (10, iq ((mixN W (clrB c xsz) i : Nat) : Int))] [.gen (rowE (A) g i cp 52 1 (cV ((mixL W (clrB c xsz) (clrG c) px).take i)) true), .cells b2 [iq 0, iq 0, .slice none 0 0] 59 true, .cells b1 [iq W, iq H, .slice A i cp] 59 true, rD (pB r) r 0 n 1 (cV px), rD (Az) gz oz nz 4 (rvals xsz)] <| zDNSR 4 <| bZ [2, 0, 1, 0] 4 0 [(6, .pointer (pB b2)), (7, iq ((mixN W (clrB c xsz) i : Nat) : Int))] [.gen (rowE (A) g i cp 52 1 (cV ((mixL W (clrB c xsz) (clrG c) px).take i)) true), .cells b2 [iq W, iq H, .slice A i cp] 59 true, .cells b1 [iq W, iq H, .slice A i cp] 59 true, rD (pB r) r 0 n 1 (cV px), rD (Az) gz oz nz 4 (rvals xsz)] <| fG 2 <| zDNr <| rB rfl 1 0 (.agg #[iq W, iq H, .slice A i cp]) (iq ((mixN W (clrB c xsz) i : Nat) : Int)) fun w hT => ?_
 replace hT := hT.erase 3 (fun e h hw => by cases h; first | rfl | cases hw)
 replace hT := hT.erase 2 (fun e h hw => by cases h; first | rfl | cases hw)
 replace hT := hT.erase 1 (fun e h hw => by cases h; first | rfl | cases hw)
 rw [mixL_full (by omega)] at hT
 have hin : i = n := by omega
 subst hin
 have hA := (Row.facts (hT.ok 0 _ rfl)).1 (by omega)
 subst hA
 exact ⟨_, _, rfl, hT⟩
end Go.Proofs.YtlfahohbkgdabaaGreat
namespace Go.Proofs.YtlfahohbkgdabaaGreat
open Go Go.RowKit
set_option maxRecDepth 100000
set_option maxHeartbeats 8000000
theorem planDoC (K : Int) (A : Option Addr) (n cap : Nat) (m : Nat) (W H : Int) (r n9 cap9 : Nat) (px : List Int) (x a b c d col : Int) (w : World) (hT0 : Tab w w [.ro m [iQ W, iQ H, sL r n9 cap9] 116, .gen (rowE (some ⟨r, 0, none⟩) r n9 cap9 52 1 (cV px) false)]) (hok : ImgOk W H n9 px) (hmay : AllMay px) (hcap : n9 ≤ cap9) (hc : InC col) (hx : x = -1) :
    Calls Tryz.prog 30 #[.agg #[iQ K, .slice A n cap], pT m, .agg #[iQ x, iQ a, iQ b, iQ c, iQ d], cQ col] w fun e w' => e = .returned (iQ (clrN col ((cntL W n9 (regM andB (canR [(⟨a, b, c, d⟩ : Rect)]) (canR [(⟨0, 0, W, H⟩ : Rect)])) : Nat) : Int))) ∧ Tab w w' [.ro m [iQ W, iQ H, sL r n9 cap9] 116, .gen (rowE (some ⟨r, 0, none⟩) r n9 cap9 52 1 (cV (mixL W (clrB col (regM andB (canR [(⟨a, b, c, d⟩ : Rect)]) (canR [(⟨0, 0, W, H⟩ : Rect)]))) (clrG col) px)) false)] := by
  have hw1 := hok.w1
  have hw2 := hok.w2
  have hh1 := hok.h1
  have hh2 := hok.h2
  have hlen := hok.len
  have hle := hok.le
  obtain ⟨hc0, hc1⟩ := hc
  refine eN [(0, .agg #[iQ K, .slice A n cap]), (1, pT m), (2, .agg #[iQ x, iQ a, iQ b, iQ c, iQ d]), (3, cQ col)] Tryz.func30 Tryz.ntmps30 rfl hT0 ?_
  refine zSR 3 <| batch2 [0, 0, 0] 3 0 (fun b1 b2 => [(1, pT m), (3, cQ col), (4, pT b1), (6, pT b2)]) (fun b1 b2 => [.cells b2 [iQ x, iQ a, iQ b, iQ c, iQ d] 68 true, .cells b1 [iQ K, .slice A n cap] 28 true, .ro m [iQ W, iQ H, sL r n9 cap9] 116, .gen (rowE (some ⟨r, 0, none⟩) r n9 cap9 52 1 (cV px) false)]) rfl rfl [1, 3, 4, 6] (fun _ _ => rfl) (fun b1 b2 => by kernel_rfl) (fun b1 b2 => by kernel_rfl) (fun b1 b2 => ?_)
  refine zDNSR 4 <| bW [0, 0, 0, 0] 4 0 (fun b3 => [(1, pT m), (3, cQ col), (4, pT b1), (6, pT b2), (9, sL b3 1 1)]) (fun b3 => [.cells b3 [iQ a, iQ b, iQ c, iQ d] 32 true, .cells b2 [iQ x, iQ a, iQ b, iQ c, iQ d] 68 true, .cells b1 [iQ K, .slice A n cap] 28 true, .ro m [iQ W, iQ H, sL r n9 cap9] 116, .gen (rowE (some ⟨r, 0, none⟩) r n9 cap9 52 1 (cV px) false)]) [1, 3, 4, 6, 9] fun b3 => ?_
  refine zDNS <| cont_block <| zSR 4 <| bD [0, 1, 0, 0] 4 0 [(13, .bool (x == (-1)))] [14, 15, 16] <| zDN <| rC 13 (.bool true) rfl (congrArg Value.bool (beq_iff_eq.2 hx)) <| zTSR 5 <| bS [0, 0, 0] 3 2 [(17, pT m), (18, sL b3 1 1), (19, cQ col)] <| fG 1 <| fG 1 <| pS 4 1 <| cont_asRow 0 1 4 rfl (vals := rvals [(⟨a, b, c, d⟩ : Rect)]) rfl rfl (by decide) ?_
  refine cG (d := 20) (α := Unit) (fun _ => iQ (clrN col ((cntL W n9 (regM andB (canR [(⟨a, b, c, d⟩ : Rect)]) (canR [(⟨0, 0, W, H⟩ : Rect)])) : Nat) : Int))) (fun _ => [oE b3 1 1 32 4 (rvals [(⟨a, b, c, d⟩ : Rect)]), .ro m [iQ W, iQ H, sL r n9 cap9] 116, .gen (rowE (some ⟨r, 0, none⟩) r n9 cap9 52 1 (cV (mixL W (clrB col (regM andB (canR [(⟨a, b, c, d⟩ : Rect)]) (canR [(⟨0, 0, W, H⟩ : Rect)]))) (clrG col) px)) false)]) (fun _ => True) (fun w hT => (payClear m W H r n9 cap9 px (some ⟨b3, 0, none⟩) b3 0 1 1 [(⟨a, b, c, d⟩ : Rect)] col w (hT.view (.cons (i := 1) rfl Vw.ro (.cons (i := 2) rfl Vw.row (.cons (i := 0) rfl Vw.rowRd .nil))) (by decide)) _ rfl (Row.capLe (hT.ok 2 _ rfl)) hok ⟨hc0, hc1⟩ (by simp) (Nat.le_trans (canR_small (by simp)) (by decide))).mono fun e w' ⟨he_, ht_⟩ => ⟨(), he_, trivial, hT.merge (N := []) (s := [1, 2, 0]) ht_ (.skip rfl (.cons (i := 2) rfl Mg.row (.skip rfl .nil))) (by decide) (fun i e h => by simp at h)⟩) (fun _ _ => ?_)
  have hcn6_ := cntL_le W n9 (regM andB (canR [(⟨a, b, c, d⟩ : Rect)]) (canR [(⟨0, 0, W, H⟩ : Rect)]))
  have hmx5_ := ImgOk.mixL hok (clrB col (regM andB (canR [(⟨a, b, c, d⟩ : Rect)]) (canR [(⟨0, 0, W, H⟩ : Rect)]))) (g := clrG col) (fun _ _ _ _ => ⟨hc0, hc1⟩)
  refine bS [0] 5 0 [(8, iQ (clrN col ((cntL W n9 (regM andB (canR [(⟨a, b, c, d⟩ : Rect)]) (canR [(⟨0, 0, W, H⟩ : Rect)])) : Nat) : Int)))] <| zDNrut <| rA rfl 0 (iQ (clrN col ((cntL W n9 (regM andB (canR [(⟨a, b, c, d⟩ : Rect)]) (canR [(⟨0, 0, W, H⟩ : Rect)])) : Nat) : Int))) fun w hT => ?_
  replace hT := hT.erase 0 (fun e h hw => by cases h; first | rfl | cases hw)
  exact ⟨rfl, hT⟩
theorem planDoN (K : Int) (A : Option Addr) (n cap : Nat) (m : Nat) (x a b c d col : Int) (w : World) (hx : x ≠ -1) (hx2 : ¬ (0 ≤ x ∧ x < (n : Int))) :
    Calls Tryz.prog 30 #[.agg #[iQ K, .slice A n cap], pT m, .agg #[iQ x, iQ a, iQ b, iQ c, iQ d], cQ col] w fun e w' => e = .returned (iQ 0) ∧ Below w.heap.size w w' := by
  refine eN [(0, .agg #[iQ K, .slice A n cap]), (1, pT m), (2, .agg #[iQ x, iQ a, iQ b, iQ c, iQ d]), (3, cQ col)] Tryz.func30 Tryz.ntmps30 rfl (Tab.start w) ?_
  refine zSR 3 <| batch2 [0, 0, 0] 3 0 (fun b1 b2 => [(1, pT m), (3, cQ col), (4, pT b1), (6, pT b2)]) (fun b1 b2 => [.cells b2 [iQ x, iQ a, iQ b, iQ c, iQ d] 68 true, .cells b1 [iQ K, .slice A n cap] 28 true]) rfl rfl [1, 3, 4, 6] (fun _ _ => rfl) (fun b1 b2 => by kernel_rfl) (fun b1 b2 => by kernel_rfl) (fun b1 b2 => ?_)
  refine zDNSR 4 <| bW [0, 0, 0, 0] 4 0 (fun b3 => [(1, pT m), (3, cQ col), (4, pT b1), (6, pT b2), (9, sL b3 1 1)]) (fun b3 => [.cells b3 [iQ a, iQ b, iQ c, iQ d] 32 true, .cells b2 [iQ x, iQ a, iQ b, iQ c, iQ d] 68 true, .cells b1 [iQ K, .slice A n cap] 28 true]) [1, 3, 4, 6, 9] fun b3 => ?_
  refine zDNS <| cont_block <| zSR 4 <| bD [0, 1, 0, 0] 4 0 [(13, .bool (x == (-1)))] [14, 15, 16] <| zDN <| rC 13 (.bool false) rfl (congrArg Value.bool (beq_eq_false_iff_ne.2 hx)) <| cFa rfl <| zSR 12 <| bD [0, 1, 0, 0] 4 8 [(25, .bool (decide (x < 0)))] [22, 23, 24] <| sD 25 rfl (fun c5_ => ?_) fun c5_ => ?_
  ·
    refine bD [0, 0, 0, 0, 0, 0, 0, 0] 12 0 [(21, .bool true)] [26, 27, 28, 29, 30, 31, 32] <| zDN <| zTSR 1 <| bS [0] 1 0 [(8, iQ 0)] <| fG 0 <| fG 0 <| fG 0 <| zDNrut <| rA rfl 0 (iQ 0) fun w hT => ?_
    exact ⟨rfl, hT.post rfl⟩
  refine bD [0, 1, 0, 2, 0, 0, 0, 0] 12 0 [(21, .bool (decide (x ≥ (n : Int))))] [26, 27, 28, 29, 30, 31, 32] <| zDN <| sD 21 rfl (fun c6_ => ?_) fun c6_ => ?_
  ·
    refine zTSR 1 <| bS [0] 1 0 [(8, iQ 0)] <| fG 0 <| fG 0 <| fG 0 <| zDNrut <| rA rfl 0 (iQ 0) fun w hT => ?_
    exact ⟨rfl, hT.post rfl⟩
  exfalso; omega
theorem planDoD (K : Int) (A : Option Addr) (g o n cap : Nat) (its : List IT) (m : Nat) (W H : Int) (r n9 cap9 : Nat) (px : List Int) (x a b c d col : Int) (w : World) (hT0 : Tab w w [rD (A) g o n 14 (dvals IT.cells its), .gen (subE n (IT.hds 116 its)), .gen (subE n (IT.pxs its)), .ro m [iQ W, iQ H, sL r n9 cap9] 116, .gen (rowE (some ⟨r, 0, none⟩) r n9 cap9 52 1 (cV px) false)]) (hok : ImgOk W H n9 px) (hmay : AllMay px) (hcap : n9 ≤ cap9) (hc : InC col) (hx0 : 0 ≤ x) (hx1 : x < (n : Int)) (hn : n ≤ 100) (hits : ∀ x ∈ its, TS.Ok x.t) (hmb : ∀ x ∈ its, x.b ≠ m) :
    Calls Tryz.prog 30 #[.agg #[iQ K, .slice A n cap], pT m, .agg #[iQ x, iQ a, iQ b, iQ c, iQ d], cQ col] w fun e w' => e = .returned (iQ (((cntL W n9 (regM andB (canR [(⟨a, b, c, d⟩ : Rect)]) (canR [cutR (shwR (dget its (Int.toNat x)).t.W (dget its (Int.toNat x)).t.H (dget its (Int.toNat x)).t.X (dget its (Int.toNat x)).t.Y (dget its (Int.toNat x)).t.s (dget its (Int.toNat x)).t.ca (dget its (Int.toNat x)).t.cb (dget its (Int.toNat x)).t.cc (dget its (Int.toNat x)).t.cd).x0 (shwR (dget its (Int.toNat x)).t.W (dget its (Int.toNat x)).t.H (dget its (Int.toNat x)).t.X (dget its (Int.toNat x)).t.Y (dget its (Int.toNat x)).t.s (dget its (Int.toNat x)).t.ca (dget its (Int.toNat x)).t.cb (dget its (Int.toNat x)).t.cc (dget its (Int.toNat x)).t.cd).y0 (shwR (dget its (Int.toNat x)).t.W (dget its (Int.toNat x)).t.H (dget its (Int.toNat x)).t.X (dget its (Int.toNat x)).t.Y (dget its (Int.toNat x)).t.s (dget its (Int.toNat x)).t.ca (dget its (Int.toNat x)).t.cb (dget its (Int.toNat x)).t.cc (dget its (Int.toNat x)).t.cd).x1 (shwR (dget its (Int.toNat x)).t.W (dget its (Int.toNat x)).t.H (dget its (Int.toNat x)).t.X (dget its (Int.toNat x)).t.Y (dget its (Int.toNat x)).t.s (dget its (Int.toNat x)).t.ca (dget its (Int.toNat x)).t.cb (dget its (Int.toNat x)).t.cc (dget its (Int.toNat x)).t.cd).y1 0 0 W H])) : Nat) : Int))) ∧ Tab w w' [rD (A) g o n 14 (dvals IT.cells its), .gen (subE n (IT.hds 116 its)), .gen (subE n (IT.pxs its)), .ro m [iQ W, iQ H, sL r n9 cap9] 116, .gen (rowE (some ⟨r, 0, none⟩) r n9 cap9 52 1 (cV (drawL W (regM andB (canR [(⟨a, b, c, d⟩ : Rect)]) (canR [cutR (shwR (dget its (Int.toNat x)).t.W (dget its (Int.toNat x)).t.H (dget its (Int.toNat x)).t.X (dget its (Int.toNat x)).t.Y (dget its (Int.toNat x)).t.s (dget its (Int.toNat x)).t.ca (dget its (Int.toNat x)).t.cb (dget its (Int.toNat x)).t.cc (dget its (Int.toNat x)).t.cd).x0 (shwR (dget its (Int.toNat x)).t.W (dget its (Int.toNat x)).t.H (dget its (Int.toNat x)).t.X (dget its (Int.toNat x)).t.Y (dget its (Int.toNat x)).t.s (dget its (Int.toNat x)).t.ca (dget its (Int.toNat x)).t.cb (dget its (Int.toNat x)).t.cc (dget its (Int.toNat x)).t.cd).y0 (shwR (dget its (Int.toNat x)).t.W (dget its (Int.toNat x)).t.H (dget its (Int.toNat x)).t.X (dget its (Int.toNat x)).t.Y (dget its (Int.toNat x)).t.s (dget its (Int.toNat x)).t.ca (dget its (Int.toNat x)).t.cb (dget its (Int.toNat x)).t.cc (dget its (Int.toNat x)).t.cd).x1 (shwR (dget its (Int.toNat x)).t.W (dget its (Int.toNat x)).t.H (dget its (Int.toNat x)).t.X (dget its (Int.toNat x)).t.Y (dget its (Int.toNat x)).t.s (dget its (Int.toNat x)).t.ca (dget its (Int.toNat x)).t.cb (dget its (Int.toNat x)).t.cc (dget its (Int.toNat x)).t.cd).y1 0 0 W H])) (pcolC (dget its (Int.toNat x)).t.W (dget its (Int.toNat x)).t.H (dget its (Int.toNat x)).t.X (dget its (Int.toNat x)).t.Y (dget its (Int.toNat x)).t.s (dget its (Int.toNat x)).t.al (dget its (Int.toNat x)).t.ca (dget its (Int.toNat x)).t.cb (dget its (Int.toNat x)).t.cc (dget its (Int.toNat x)).t.cd (dget its (Int.toNat x)).t.px) px)) false)] := by
  have hw1 := hok.w1
  have hw2 := hok.w2
  have hh1 := hok.h1
  have hh2 := hok.h2
  have hlen := hok.len
  have hle := hok.le
  obtain ⟨hc0, hc1⟩ := hc
  obtain ⟨hra, hrl⟩ := Rd.factsD IT.size (by decide) (hT0.ok 0 _ rfl)
  refine eN [(0, .agg #[iQ K, .slice A n cap]), (1, pT m), (2, .agg #[iQ x, iQ a, iQ b, iQ c, iQ d]), (3, cQ col)] Tryz.func30 Tryz.ntmps30 rfl hT0 ?_
  refine zSR 3 <| batch2 [0, 0, 0] 3 0 (fun b1 b2 => [(1, pT m), (3, cQ col), (4, pT b1), (6, pT b2)]) (fun b1 b2 => [.cells b2 [iQ x, iQ a, iQ b, iQ c, iQ d] 68 true, .cells b1 [iQ K, .slice A n cap] 28 true, rD (A) g o n 14 (dvals IT.cells its), .gen (subE n (IT.hds 116 its)), .gen (subE n (IT.pxs its)), .ro m [iQ W, iQ H, sL r n9 cap9] 116, .gen (rowE (some ⟨r, 0, none⟩) r n9 cap9 52 1 (cV px) false)]) rfl rfl [1, 3, 4, 6] (fun _ _ => rfl) (fun b1 b2 => by kernel_rfl) (fun b1 b2 => by kernel_rfl) (fun b1 b2 => ?_)
  refine zDNSR 4 <| bW [0, 0, 0, 0] 4 0 (fun b3 => [(1, pT m), (3, cQ col), (4, pT b1), (6, pT b2), (9, sL b3 1 1)]) (fun b3 => [.cells b3 [iQ a, iQ b, iQ c, iQ d] 32 true, .cells b2 [iQ x, iQ a, iQ b, iQ c, iQ d] 68 true, .cells b1 [iQ K, .slice A n cap] 28 true, rD (A) g o n 14 (dvals IT.cells its), .gen (subE n (IT.hds 116 its)), .gen (subE n (IT.pxs its)), .ro m [iQ W, iQ H, sL r n9 cap9] 116, .gen (rowE (some ⟨r, 0, none⟩) r n9 cap9 52 1 (cV px) false)]) [1, 3, 4, 6, 9] fun b3 => ?_
  refine zDNS <| cont_block <| zSR 4 <| bD [0, 1, 0, 0] 4 0 [(13, .bool (x == (-1)))] [14, 15, 16] <| zDN <| rC 13 (.bool false) rfl (congrArg Value.bool (beq_eq_false_iff_ne.2 (by omega))) <| cFa rfl <| zSR 12 <| bD [0, 1, 0, 0] 4 8 [(25, .bool (decide (x < 0)))] [22, 23, 24] <| rC 25 (.bool false) rfl (congrArg Value.bool (decide_eq_false (by omega))) <| bD [0, 1, 0, 2, 0, 0, 0, 0] 12 0 [(21, .bool (decide (x ≥ (n : Int))))] [26, 27, 28, 29, 30, 31, 32] <| zDN <| rC 21 (.bool false) rfl (congrArg Value.bool (decide_eq_false (by omega))) <| cFa rfl <| cont_skip <| blk_normal <| zN <| zSR 12 ?_
  have hne9 := hmb _ (dget_mem (l := its) (i := Int.toNat x) (by omega))
  have hitk := hits _ (dget_mem (l := its) (i := (Int.toNat x)) (by omega))
  generalize hit : dget its (Int.toNat x) = it at *
  obtain ⟨hitw1, hitw2⟩ : 1 ≤ it.t.W ∧ it.t.W ≤ 16 := ⟨hitk.img.w1, hitk.w16⟩
  obtain ⟨hith1, hith2⟩ : 1 ≤ it.t.H ∧ it.t.H ≤ 16 := ⟨hitk.img.h1, hitk.h16⟩
  obtain ⟨hits1, hits2⟩ := hitk.s_
  obtain ⟨hitx1, hitx2⟩ := hitk.x_
  obtain ⟨hity1, hity2⟩ := hitk.y_
  obtain ⟨hita1, hita2⟩ := hitk.a_
  have hitl := hitk.img.le
  refine cont_see 5 (rD (some ⟨it.q, 0, none⟩) it.q 0 it.t.n 1 (cV it.t.px)) rfl rfl (by rw [← hit]; exact Vw.subAt (Int.toNat x) (by omega) rfl rfl) rfl ?_
  refine cM ?_
  refine cont_see 5 (.ro it.b [iQ it.t.W, iQ it.t.H, sL it.q it.t.n it.t.n] 116) rfl rfl (by rw [← hit]; exact Vw.subAtRo (Int.toNat x) (by omega) rfl) rfl ?_
  refine cM ?_
  refine bD [0, 0, 4, 0, 3] 5 7 [(33, pT m), (35, .slice A n cap), (37, iQ x)] [34, 36] <| fG 3 <| fG 3 <| pS 6 6 <| rC 35 (.slice (some ⟨g, o, none⟩) n cap) rfl (by rw [hra (by omega)]) <| sS 38 (Instr.indexAt 26 (.slice (some ⟨g, o, none⟩) n cap) (iQ x)) (.pointer (some ⟨g, o + (Int.toNat x) * 14, none⟩)) (fun w hT => rI 94 14 w) <| bD [0] 7 5 [(39, .pointer (some ⟨g, o + (Int.toNat x) * 14 + 2, none⟩))] [] <| pS 8 4 <| sS 40 (Instr.loadAt 90 (.pointer (some ⟨g, o + (Int.toNat x) * 14 + 2, none⟩))) (.agg #[pT it.b, iQ it.t.X, iQ it.t.Y, iQ it.t.s, iQ it.t.al, iQ it.t.ca, iQ it.t.cb, iQ it.t.cc, iQ it.t.cd, .slice it.t.A it.t.k it.t.cp, .string ⟨#[]⟩]) (fun w hT => rM 11 ([pT it.b, iQ it.t.X, iQ it.t.Y, iQ it.t.s, iQ it.t.al, iQ it.t.ca, iQ it.t.cb, iQ it.t.cc, iQ it.t.cd, .slice it.t.A it.t.k it.t.cp, .string ⟨#[]⟩]) (by have h_ := Rd.dsub IT.size (hT.ok 3 _ rfl) (i := (Int.toNat x)) (by omega) 2 11 rfl; rw [hit] at h_; exact h_)) <| pS 9 3 <| cP 41 (.agg #[pT it.b, iQ it.t.X, iQ it.t.Y, iQ it.t.s, iQ it.t.al, iQ it.t.ca, iQ it.t.cb, iQ it.t.cc, iQ it.t.cd]) (fun w hT => surfLayer it.b it.t.X it.t.Y it.t.s it.t.al it.t.ca it.t.cb it.t.cc it.t.cd it.t.A it.t.k it.t.cp w) <| bD [0] 10 2 [(42, sL b3 1 1)] [] <| pS 11 1 <| cont_asRow 2 1 4 rfl (vals := rvals [(⟨a, b, c, d⟩ : Rect)]) rfl rfl (by decide) ?_
  refine cG (d := 43) (α := Unit) (fun _ => iQ ((cntL W n9 (regM andB (canR [(⟨a, b, c, d⟩ : Rect)]) (canR [cutR (shwR it.t.W it.t.H it.t.X it.t.Y it.t.s it.t.ca it.t.cb it.t.cc it.t.cd).x0 (shwR it.t.W it.t.H it.t.X it.t.Y it.t.s it.t.ca it.t.cb it.t.cc it.t.cd).y0 (shwR it.t.W it.t.H it.t.X it.t.Y it.t.s it.t.ca it.t.cb it.t.cc it.t.cd).x1 (shwR it.t.W it.t.H it.t.X it.t.Y it.t.s it.t.ca it.t.cb it.t.cc it.t.cd).y1 0 0 W H])) : Nat) : Int)) (fun _ => [.ro it.b [iQ it.t.W, iQ it.t.H, sL it.q it.t.n it.t.n] 116, rD (some ⟨it.q, 0, none⟩) it.q 0 it.t.n 1 (cV it.t.px), oE b3 1 1 32 4 (rvals [(⟨a, b, c, d⟩ : Rect)]), rD (A) g o n 14 (dvals IT.cells its), .gen (subE n (IT.hds 116 its)), .gen (subE n (IT.pxs its)), .ro m [iQ W, iQ H, sL r n9 cap9] 116, .gen (rowE (some ⟨r, 0, none⟩) r n9 cap9 52 1 (cV (drawL W (regM andB (canR [(⟨a, b, c, d⟩ : Rect)]) (canR [cutR (shwR it.t.W it.t.H it.t.X it.t.Y it.t.s it.t.ca it.t.cb it.t.cc it.t.cd).x0 (shwR it.t.W it.t.H it.t.X it.t.Y it.t.s it.t.ca it.t.cb it.t.cc it.t.cd).y0 (shwR it.t.W it.t.H it.t.X it.t.Y it.t.s it.t.ca it.t.cb it.t.cc it.t.cd).x1 (shwR it.t.W it.t.H it.t.X it.t.Y it.t.s it.t.ca it.t.cb it.t.cc it.t.cd).y1 0 0 W H])) (pcolC it.t.W it.t.H it.t.X it.t.Y it.t.s it.t.al it.t.ca it.t.cb it.t.cc it.t.cd it.t.px) px)) false)]) (fun _ => True) (fun w hT => (payDraw m W H r n9 cap9 px it.b it.t.W it.t.H it.q it.t.n it.t.n it.t.px it.t.X it.t.Y it.t.s it.t.al it.t.ca it.t.cb it.t.cc it.t.cd (some ⟨b3, 0, none⟩) b3 0 1 1 [(⟨a, b, c, d⟩ : Rect)] w (hT.view (.cons (i := 6) rfl Vw.ro (.cons (i := 7) rfl Vw.row (.cons (i := 0) rfl Vw.ro (.cons (i := 1) rfl Vw.rd (.cons (i := 2) rfl Vw.rowRd .nil))))) (by decide)) _ rfl hne9 (Row.capLe (hT.ok 7 _ rfl)) hok hmay (by omega) hitk.img hitk.may (by omega) (by omega) (by omega) (by simp) (Nat.le_trans (canR_small (by simp)) (by decide))).mono fun e w' ⟨he_, ht_⟩ => ⟨(), he_, trivial, hT.merge (N := []) (s := [6, 7, 0, 1, 2]) ht_ (.skip rfl (.cons (i := 7) rfl Mg.row (.skip rfl (.skip rfl (.skip rfl .nil))))) (by decide) (fun i e h => by simp at h)⟩) (fun _ _ => ?_)
  have hcn7_ := cntL_le W n9 (regM andB (canR [(⟨a, b, c, d⟩ : Rect)]) (canR [cutR (shwR it.t.W it.t.H it.t.X it.t.Y it.t.s it.t.ca it.t.cb it.t.cc it.t.cd).x0 (shwR it.t.W it.t.H it.t.X it.t.Y it.t.s it.t.ca it.t.cb it.t.cc it.t.cd).y0 (shwR it.t.W it.t.H it.t.X it.t.Y it.t.s it.t.ca it.t.cb it.t.cc it.t.cd).x1 (shwR it.t.W it.t.H it.t.X it.t.Y it.t.s it.t.ca it.t.cb it.t.cc it.t.cd).y1 0 0 W H]))
  refine bS [0] 12 0 [(8, iQ ((cntL W n9 (regM andB (canR [(⟨a, b, c, d⟩ : Rect)]) (canR [cutR (shwR it.t.W it.t.H it.t.X it.t.Y it.t.s it.t.ca it.t.cb it.t.cc it.t.cd).x0 (shwR it.t.W it.t.H it.t.X it.t.Y it.t.s it.t.ca it.t.cb it.t.cc it.t.cd).y0 (shwR it.t.W it.t.H it.t.X it.t.Y it.t.s it.t.ca it.t.cb it.t.cc it.t.cd).x1 (shwR it.t.W it.t.H it.t.X it.t.Y it.t.s it.t.ca it.t.cb it.t.cc it.t.cd).y1 0 0 W H])) : Nat) : Int))] <| zDNr <| rA rfl 0 (iQ ((cntL W n9 (regM andB (canR [(⟨a, b, c, d⟩ : Rect)]) (canR [cutR (shwR it.t.W it.t.H it.t.X it.t.Y it.t.s it.t.ca it.t.cb it.t.cc it.t.cd).x0 (shwR it.t.W it.t.H it.t.X it.t.Y it.t.s it.t.ca it.t.cb it.t.cc it.t.cd).y0 (shwR it.t.W it.t.H it.t.X it.t.Y it.t.s it.t.ca it.t.cb it.t.cc it.t.cd).x1 (shwR it.t.W it.t.H it.t.X it.t.Y it.t.s it.t.ca it.t.cb it.t.cc it.t.cd).y1 0 0 W H])) : Nat) : Int)) fun w hT => ?_
  replace hT := hT.erase 2 (fun e h hw => by cases h; first | rfl | cases hw)
  replace hT := hT.erase 1 (fun e h hw => by cases h; first | rfl | cases hw)
  replace hT := hT.erase 0 (fun e h hw => by cases h; first | rfl | cases hw)
  exact ⟨rfl, hT⟩
theorem refDoC (A : Option Addr) (n cap : Nat) (W H : Int) (r n9 cap9 : Nat) (px : List Int) (x a b c d col : Int) (w : World) (hT0 : Tab w w [rD (some ⟨r, 0, none⟩) r 0 n9 1 (cV px)]) (hok : ImgOk W H n9 px) (hc : InC col) (hx : x = -1) :
    Calls Tryz.prog 32 #[.slice A n cap, .agg #[iQ W, iQ H, sL r n9 cap9], .agg #[iQ x, iQ a, iQ b, iQ c, iQ d], cQ col] w fun e w' => ∃ g_ cp_ : Nat, e = .returned (.tuple #[.agg #[iQ W, iQ H, sL g_ n9 cp_], iQ ((mixN W (clrB col [(⟨a, b, c, d⟩ : Rect)]) n9 : Nat) : Int)]) ∧ Tab w w' [oE g_ n9 cp_ 52 1 (cV (mixL W (clrB col [(⟨a, b, c, d⟩ : Rect)]) (clrG col) px))] := by
  have hw1 := hok.w1
  have hw2 := hok.w2
  have hh1 := hok.h1
  have hh2 := hok.h2
  have hlen := hok.len
  have hle := hok.le
  obtain ⟨hc0, hc1⟩ := hc
  refine eN [(0, .slice A n cap), (1, .agg #[iQ W, iQ H, sL r n9 cap9]), (2, .agg #[iQ x, iQ a, iQ b, iQ c, iQ d]), (3, cQ col)] Tryz.func32 Tryz.ntmps32 rfl hT0 ?_
  refine zSR 4 <| batch3 [0, 0, 0, 0] 4 0 (fun b1 b2 b3 => [(0, .slice A n cap), (3, cQ col), (5, pT b1), (6, pT b2), (8, pT b3)]) (fun b1 b2 b3 => [.cells b3 [iQ 0, iQ 0, .slice none 0 0] 59 true, .cells b2 [iQ x, iQ a, iQ b, iQ c, iQ d] 75 true, .cells b1 [iQ W, iQ H, sL r n9 cap9] 59 true, rD (some ⟨r, 0, none⟩) r 0 n9 1 (cV px)]) rfl rfl [0, 3, 5, 6, 8] (fun _ _ _ => rfl) (fun b1 b2 b3 => by kernel_rfl) (fun b1 b2 b3 => by kernel_rfl) (fun b1 b2 b3 => ?_)
  refine zDNSSR 3 <| bD [0, 1, 0] 3 0 [(12, .bool (x == (-1)))] [10, 11] <| zDN <| rC 12 (.bool true) rfl (congrArg Value.bool (beq_iff_eq.2 hx)) <| zTSR 10 <| bW [2, 0, 1, 0, 0] 5 5 (fun b5 => [(8, pT b3), (13, .agg #[iQ W, iQ H, sL r n9 cap9]), (16, sL b5 1 1), (17, cQ col)]) (fun b5 => [.cells b5 [iQ a, iQ b, iQ c, iQ d] 32 true, .cells b3 [iQ 0, iQ 0, .slice none 0 0] 59 true, .cells b2 [iQ x, iQ a, iQ b, iQ c, iQ d] 75 true, .cells b1 [iQ W, iQ H, sL r n9 cap9] 59 true, rD (some ⟨r, 0, none⟩) r 0 n9 1 (cV px)]) [8, 13, 16, 17] fun b5 => ?_
  refine fG 2 <| fG 2 <| pS 6 4 <| cont_asRow 0 1 4 rfl (vals := rvals [(⟨a, b, c, d⟩ : Rect)]) rfl rfl (by decide) ?_
  refine cG (d := 18) (α := Nat × Nat) (fun x_ => .tuple #[.agg #[iQ W, iQ H, sL x_.1 n9 x_.2], iQ ((mixN W (clrB col [(⟨a, b, c, d⟩ : Rect)]) n9 : Nat) : Int)]) (fun x_ => [.gen (rowE (some ⟨x_.1, 0, none⟩) x_.1 n9 x_.2 52 1 (cV (mixL W (clrB col [(⟨a, b, c, d⟩ : Rect)]) (clrG col) px)) true), oE b5 1 1 32 4 (rvals [(⟨a, b, c, d⟩ : Rect)]), .cells b3 [iQ 0, iQ 0, .slice none 0 0] 59 true, rD (some ⟨r, 0, none⟩) r 0 n9 1 (cV px)]) (fun x_ => True) (fun w hT => (refClear5 W H r n9 cap9 px (some ⟨b5, 0, none⟩) b5 0 1 1 [(⟨a, b, c, d⟩ : Rect)] col w (hT.viewRo (.cons (i := 2) rfl Vw.rd (.cons (i := 0) rfl Vw.rowRd .nil)) rfl) hok ⟨hc0, hc1⟩ (by omega)).mono fun e w' ⟨g6, cp7, he_, ht_⟩ => ⟨(g6, cp7), he_, trivial, hT.news ht_ rfl⟩) ?_
  rintro ⟨g6, cp7⟩ hf8_
  refine cM ?_
  have hM9_ := ImgOk.mixL hok (clrB col [(⟨a, b, c, d⟩ : Rect)]) (g := clrG col) (fun _ _ _ _ => ⟨hc0, hc1⟩)
  refine bZ [0, 0, 2, 0] 10 0 [(8, pT b3), (9, iQ ((mixN W (clrB col [(⟨a, b, c, d⟩ : Rect)]) n9 : Nat) : Int))] [oE g6 n9 cp7 52 1 (cV (mixL W (clrB col [(⟨a, b, c, d⟩ : Rect)]) (clrG col) px)), oE b5 1 1 32 4 (rvals [(⟨a, b, c, d⟩ : Rect)]), .cells b3 [iQ W, iQ H, sL g6 n9 cp7] 59 true, rD (some ⟨r, 0, none⟩) r 0 n9 1 (cV px)] <| zDNrt <| rB rfl 2 0 (.agg #[iQ W, iQ H, sL g6 n9 cp7]) (iQ ((mixN W (clrB col [(⟨a, b, c, d⟩ : Rect)]) n9 : Nat) : Int)) fun w hT => ?_
  replace hT := hT.erase 3 (fun e h hw => by cases h; first | rfl | cases hw)
  replace hT := hT.erase 2 (fun e h hw => by cases h; first | rfl | cases hw)
  replace hT := hT.erase 1 (fun e h hw => by cases h; first | rfl | cases hw)
  exact ⟨_, _, rfl, hT⟩
theorem refDoN (A : Option Addr) (n cap : Nat) (W H : Int) (r n9 cap9 : Nat) (px : List Int) (x a b c d col : Int) (w : World) (hT0 : Tab w w [rD (some ⟨r, 0, none⟩) r 0 n9 1 (cV px)])(hx : x ≠ -1) (hx2 : ¬ (0 ≤ x ∧ x < (n : Int))) :
    Calls Tryz.prog 32 #[.slice A n cap, .agg #[iQ W, iQ H, sL r n9 cap9], .agg #[iQ x, iQ a, iQ b, iQ c, iQ d], cQ col] w fun e w' => e = .returned (.tuple #[.agg #[iQ W, iQ H, sL r n9 cap9], iQ 0]) ∧ Below w.heap.size w w' := by
  refine eN [(0, .slice A n cap), (1, .agg #[iQ W, iQ H, sL r n9 cap9]), (2, .agg #[iQ x, iQ a, iQ b, iQ c, iQ d]), (3, cQ col)] Tryz.func32 Tryz.ntmps32 rfl hT0 ?_
  refine zSR 4 <| batch3 [0, 0, 0, 0] 4 0 (fun b1 b2 b3 => [(0, .slice A n cap), (3, cQ col), (5, pT b1), (6, pT b2), (8, pT b3)]) (fun b1 b2 b3 => [.cells b3 [iQ 0, iQ 0, .slice none 0 0] 59 true, .cells b2 [iQ x, iQ a, iQ b, iQ c, iQ d] 75 true, .cells b1 [iQ W, iQ H, sL r n9 cap9] 59 true, rD (some ⟨r, 0, none⟩) r 0 n9 1 (cV px)]) rfl rfl [0, 3, 5, 6, 8] (fun _ _ _ => rfl) (fun b1 b2 b3 => by kernel_rfl) (fun b1 b2 b3 => by kernel_rfl) (fun b1 b2 b3 => ?_)
  refine zDNSSR 3 <| bD [0, 1, 0] 3 0 [(12, .bool (x == (-1)))] [10, 11] <| zDN <| rC 12 (.bool false) rfl (congrArg Value.bool (beq_eq_false_iff_ne.2 hx)) <| zFKNSSR 10 <| bD [0, 1, 0, 0] 4 6 [(24, .bool (decide (x < 0)))] [21, 22, 23] <| sD 24 rfl (fun c5_ => ?_) fun c5_ => ?_
  ·
    refine bD [0, 0, 0, 0, 0, 0] 10 0 [(30, .bool true)] [25, 26, 27, 28, 29] <| zDN <| zTSR 3 <| bZ [2, 0, 0] 3 0 [(8, pT b3), (9, iQ 0)] [.cells b3 [iQ W, iQ H, sL r n9 cap9] 59 true, .cells b2 [iQ x, iQ a, iQ b, iQ c, iQ d] 75 true, .cells b1 [iQ W, iQ H, sL r n9 cap9] 59 true, rD (some ⟨r, 0, none⟩) r 0 n9 1 (cV px)] <| fG 1 <| fG 1 <| zDNrt <| rB rfl 0 0 (.agg #[iQ W, iQ H, sL r n9 cap9]) (iQ 0) fun w hT => ?_
    exact ⟨rfl, hT.post rfl⟩
  refine bD [0, 1, 0, 0, 0, 0] 10 0 [(30, .bool (decide (x ≥ (n : Int))))] [25, 26, 27, 28, 29] <| zDN <| sD 30 rfl (fun c6_ => ?_) fun c6_ => ?_
  ·
    refine zTSR 3 <| bZ [2, 0, 0] 3 0 [(8, pT b3), (9, iQ 0)] [.cells b3 [iQ W, iQ H, sL r n9 cap9] 59 true, .cells b2 [iQ x, iQ a, iQ b, iQ c, iQ d] 75 true, .cells b1 [iQ W, iQ H, sL r n9 cap9] 59 true, rD (some ⟨r, 0, none⟩) r 0 n9 1 (cV px)] <| fG 1 <| fG 1 <| zDNrt <| rB rfl 0 0 (.agg #[iQ W, iQ H, sL r n9 cap9]) (iQ 0) fun w hT => ?_
    exact ⟨rfl, hT.post rfl⟩
  exfalso; omega
theorem refDoD (A : Option Addr) (g o n cap : Nat) (ts : List TS) (W H : Int) (r n9 cap9 : Nat) (px : List Int) (x a b c d col : Int) (w : World) (hT0 : Tab w w [rD (A) g o n 14 (dvals TS.cells ts), .gen (subE n (TS.pxs ts)), rD (some ⟨r, 0, none⟩) r 0 n9 1 (cV px)]) (hok : ImgOk W H n9 px) (hc : InC col) (hx0 : 0 ≤ x) (hx1 : x < (n : Int)) (hn : n ≤ 100) (hts : ∀ t ∈ ts, TS.Ok t) :
    Calls Tryz.prog 32 #[.slice A n cap, .agg #[iQ W, iQ H, sL r n9 cap9], .agg #[iQ x, iQ a, iQ b, iQ c, iQ d], cQ col] w fun e w' => ∃ g_ cp_ : Nat, e = .returned (.tuple #[.agg #[iQ W, iQ H, sL g_ n9 cp_], iQ ((mixN W (drwB (dget ts (Int.toNat x)).W (dget ts (Int.toNat x)).H (dget ts (Int.toNat x)).X (dget ts (Int.toNat x)).Y (dget ts (Int.toNat x)).s (dget ts (Int.toNat x)).ca (dget ts (Int.toNat x)).cb (dget ts (Int.toNat x)).cc (dget ts (Int.toNat x)).cd [(⟨a, b, c, d⟩ : Rect)]) n9 : Nat) : Int)]) ∧ Tab w w' [oE g_ n9 cp_ 52 1 (cV (mixL W (drwB (dget ts (Int.toNat x)).W (dget ts (Int.toNat x)).H (dget ts (Int.toNat x)).X (dget ts (Int.toNat x)).Y (dget ts (Int.toNat x)).s (dget ts (Int.toNat x)).ca (dget ts (Int.toNat x)).cb (dget ts (Int.toNat x)).cc (dget ts (Int.toNat x)).cd [(⟨a, b, c, d⟩ : Rect)]) (drwG (pcolC (dget ts (Int.toNat x)).W (dget ts (Int.toNat x)).H (dget ts (Int.toNat x)).X (dget ts (Int.toNat x)).Y (dget ts (Int.toNat x)).s (dget ts (Int.toNat x)).al (dget ts (Int.toNat x)).ca (dget ts (Int.toNat x)).cb (dget ts (Int.toNat x)).cc (dget ts (Int.toNat x)).cd (dget ts (Int.toNat x)).px)) px))] := by
  have hw1 := hok.w1
  have hw2 := hok.w2
  have hh1 := hok.h1
  have hh2 := hok.h2
  have hlen := hok.len
  have hle := hok.le
  obtain ⟨hc0, hc1⟩ := hc
  obtain ⟨hra, hrl⟩ := Rd.factsD TS.size (by decide) (hT0.ok 0 _ rfl)
  refine eN [(0, .slice A n cap), (1, .agg #[iQ W, iQ H, sL r n9 cap9]), (2, .agg #[iQ x, iQ a, iQ b, iQ c, iQ d]), (3, cQ col)] Tryz.func32 Tryz.ntmps32 rfl hT0 ?_
  refine zSR 4 <| batch3 [0, 0, 0, 0] 4 0 (fun b1 b2 b3 => [(0, .slice A n cap), (3, cQ col), (5, pT b1), (6, pT b2), (8, pT b3)]) (fun b1 b2 b3 => [.cells b3 [iQ 0, iQ 0, .slice none 0 0] 59 true, .cells b2 [iQ x, iQ a, iQ b, iQ c, iQ d] 75 true, .cells b1 [iQ W, iQ H, sL r n9 cap9] 59 true, rD (A) g o n 14 (dvals TS.cells ts), .gen (subE n (TS.pxs ts)), rD (some ⟨r, 0, none⟩) r 0 n9 1 (cV px)]) rfl rfl [0, 3, 5, 6, 8] (fun _ _ _ => rfl) (fun b1 b2 b3 => by kernel_rfl) (fun b1 b2 b3 => by kernel_rfl) (fun b1 b2 b3 => ?_)
  refine zDNSSR 3 <| bD [0, 1, 0] 3 0 [(12, .bool (x == (-1)))] [10, 11] <| zDN <| rC 12 (.bool false) rfl (congrArg Value.bool (beq_eq_false_iff_ne.2 (by omega))) <| zFKNSSR 10 <| bD [0, 1, 0, 0] 4 6 [(24, .bool (decide (x < 0)))] [21, 22, 23] <| rC 24 (.bool false) rfl (congrArg Value.bool (decide_eq_false (by omega))) <| bD [0, 1, 0, 0, 0, 0] 10 0 [(30, .bool (decide (x ≥ (n : Int))))] [25, 26, 27, 28, 29] <| zDN <| rC 30 (.bool false) rfl (congrArg Value.bool (decide_eq_false (by omega))) <| cFa rfl <| cont_skip <| zN <| cSq ?_
  have htk := hts _ (dget_mem (l := ts) (i := (Int.toNat x)) (by omega))
  generalize ht : dget ts (Int.toNat x) = t at *
  obtain ⟨htw1, htw2⟩ : 1 ≤ t.W ∧ t.W ≤ 16 := ⟨htk.img.w1, htk.w16⟩
  obtain ⟨hth1, hth2⟩ : 1 ≤ t.H ∧ t.H ≤ 16 := ⟨htk.img.h1, htk.h16⟩
  obtain ⟨hts1, hts2⟩ := htk.s_
  obtain ⟨htx1, htx2⟩ := htk.x_
  obtain ⟨hty1, hty2⟩ := htk.y_
  obtain ⟨hta1, hta2⟩ := htk.a_
  have htl := htk.img.le
  refine cont_see 4 (rD (some ⟨t.r, 0, none⟩) t.r 0 t.n 1 (cV t.px)) rfl rfl (by rw [← ht]; exact Vw.subAt (Int.toNat x) (by omega) rfl rfl) rfl ?_
  refine cM ?_
  refine drawn_enter 15 [1] rfl (by kernel_rfl) ?_
  refine tD 0 [1] [(0, 3), (1, 0), (2, 0), (7, 0), (3, 2), (8, 2)] 9 [8, 3, 7, 2, 1, 0] [(32, .agg #[iQ W, iQ H, sL r n9 cap9]), (33, .slice A n cap), (35, iQ x), (40, .agg #[iQ a, iQ b, iQ c, iQ d])] [34, 39] <| rC 33 (.slice (some ⟨g, o, none⟩) n cap) rfl (by rw [hra (by omega)]) <| sT 0 [1] 4 8 36 (Instr.indexAt 24 (.slice (some ⟨g, o, none⟩) n cap) (iQ x)) (.pointer (some ⟨g, o + (Int.toNat x) * 14, none⟩)) (fun w hT => rI 87 14 w) <| sT 0 [1] 5 7 37 (Instr.loadAt 87 (.pointer (some ⟨g, o + (Int.toNat x) * 14, none⟩))) (.agg #[.bool true, iQ t.W, iQ t.H, sL t.r t.n t.cap, iQ t.X, iQ t.Y, iQ t.s, iQ t.al, iQ t.ca, iQ t.cb, iQ t.cc, iQ t.cd, .slice t.A t.k t.cp, .string ⟨#[]⟩]) (fun w hT => rM 14 ([.bool true, iQ t.W, iQ t.H, sL t.r t.n t.cap, iQ t.X, iQ t.Y, iQ t.s, iQ t.al, iQ t.ca, iQ t.cb, iQ t.cc, iQ t.cd, .slice t.A t.k t.cp, .string ⟨#[]⟩]) (by have h_ := Rd.dcell TS.size (hT 4 _ rfl) (i := (Int.toNat x)) (by omega); rw [ht] at h_; exact h_)) <| drawn_two 6 9 6 rfl (by kernel_rfl) ?_ ?_
  ·
    refine cP 38 (.agg #[.bool true, iQ t.W, iQ t.H, sL t.r t.n t.cap, iQ t.X, iQ t.Y, iQ t.s, iQ t.al, iQ t.ca, iQ t.cb, iQ t.cc, iQ t.cd]) (fun w hT => refLayer13 t.W t.H t.r t.n t.cap t.X t.Y t.s t.al t.ca t.cb t.cc t.cd t.A t.k t.cp w) <| dX 0 [1] <| dO 9 5 <| one_step1 0 (fun b7 => [(8, pT b3), (32, .agg #[iQ W, iQ H, sL r n9 cap9]), (38, .agg #[.bool true, iQ t.W, iQ t.H, sL t.r t.n t.cap, iQ t.X, iQ t.Y, iQ t.s, iQ t.al, iQ t.ca, iQ t.cb, iQ t.cc, iQ t.cd]), (41, sL b7 1 1)]) (fun b7 => [.cells b7 [iQ a, iQ b, iQ c, iQ d] 32 true, rD (some ⟨t.r, 0, none⟩) t.r 0 t.n 1 (cV t.px), .cells b3 [iQ 0, iQ 0, .slice none 0 0] 59 true, .cells b2 [iQ x, iQ a, iQ b, iQ c, iQ d] 75 true, .cells b1 [iQ W, iQ H, sL r n9 cap9] 59 true, rD (A) g o n 14 (dvals TS.cells ts), .gen (subE n (TS.pxs ts)), rD (some ⟨r, 0, none⟩) r 0 n9 1 (cV px)]) (fun b7 => by kernel_rfl) (fun b7 => by kernel_rfl) (fun b7 => ?_)
    refine dX 1 [1] <| dO 10 4 <| cont_asRow 0 1 4 rfl (vals := rvals [(⟨a, b, c, d⟩ : Rect)]) rfl rfl (by decide) ?_
    refine cG (d := 42) (α := Nat × Nat) (fun x_ => .tuple #[.agg #[iQ W, iQ H, sL x_.1 n9 x_.2], iQ ((mixN W (drwB t.W t.H t.X t.Y t.s t.ca t.cb t.cc t.cd [(⟨a, b, c, d⟩ : Rect)]) n9 : Nat) : Int)]) (fun x_ => [.gen (rowE (some ⟨x_.1, 0, none⟩) x_.1 n9 x_.2 52 1 (cV (mixL W (drwB t.W t.H t.X t.Y t.s t.ca t.cb t.cc t.cd [(⟨a, b, c, d⟩ : Rect)]) (drwG (pcolC t.W t.H t.X t.Y t.s t.al t.ca t.cb t.cc t.cd t.px)) px)) true), oE b7 1 1 32 4 (rvals [(⟨a, b, c, d⟩ : Rect)]), rD (some ⟨t.r, 0, none⟩) t.r 0 t.n 1 (cV t.px), .cells b3 [iQ 0, iQ 0, .slice none 0 0] 59 true, .cells b2 [iQ x, iQ a, iQ b, iQ c, iQ d] 75 true, .cells b1 [iQ W, iQ H, sL r n9 cap9] 59 true, rD (A) g o n 14 (dvals TS.cells ts), .gen (subE n (TS.pxs ts)), rD (some ⟨r, 0, none⟩) r 0 n9 1 (cV px)]) (fun x_ => True) (fun w hT => (refDraw5 W H r n9 cap9 px t.W t.H t.r t.n t.cap t.px t.X t.Y t.s t.al t.ca t.cb t.cc t.cd (some ⟨b7, 0, none⟩) b7 0 1 1 [(⟨a, b, c, d⟩ : Rect)] w (hT.viewRo (.cons (i := 7) rfl Vw.rd (.cons (i := 1) rfl Vw.rd (.cons (i := 0) rfl Vw.rowRd .nil))) rfl) hok htk.img (by omega) (by omega) (by omega) (by omega)).mono fun e w' ⟨g8, cp9, he_, ht_⟩ => ⟨(g8, cp9), he_, trivial, hT.news ht_ rfl⟩) ?_
    rintro ⟨g8, cp9⟩ hf10_
    refine cM ?_
    have hM11_ := ImgOk.mixL hok (drwB t.W t.H t.X t.Y t.s t.ca t.cb t.cc t.cd [(⟨a, b, c, d⟩ : Rect)]) (g := drwG (pcolC t.W t.H t.X t.Y t.s t.al t.ca t.cb t.cc t.cd t.px)) (fun _ _ _ _ => overC_in _ _)
    refine dX 2 [1] <| tD 2 [1] [(11, 0), (12, 0)] 2 [12, 11, 10, 9, 6, 5, 4, 8, 3, 7, 2, 1, 0] [(43, .agg #[iQ W, iQ H, sL g8 n9 cp9]), (44, iQ ((mixN W (drwB t.W t.H t.X t.Y t.s t.ca t.cb t.cc t.cd [(⟨a, b, c, d⟩ : Rect)]) n9 : Nat) : Int))] [] <| dO 13 1 <| oS 3 [(8, pT b3), (44, iQ ((mixN W (drwB t.W t.H t.X t.Y t.s t.ca t.cb t.cc t.cd [(⟨a, b, c, d⟩ : Rect)]) n9 : Nat) : Int))] [oE g8 n9 cp9 52 1 (cV (mixL W (drwB t.W t.H t.X t.Y t.s t.ca t.cb t.cc t.cd [(⟨a, b, c, d⟩ : Rect)]) (drwG (pcolC t.W t.H t.X t.Y t.s t.al t.ca t.cb t.cc t.cd t.px)) px)), oE b7 1 1 32 4 (rvals [(⟨a, b, c, d⟩ : Rect)]), rD (some ⟨t.r, 0, none⟩) t.r 0 t.n 1 (cV t.px), .cells b3 [iQ W, iQ H, sL g8 n9 cp9] 59 true, .cells b2 [iQ x, iQ a, iQ b, iQ c, iQ d] 75 true, .cells b1 [iQ W, iQ H, sL r n9 cap9] 59 true, rD (A) g o n 14 (dvals TS.cells ts), .gen (subE n (TS.pxs ts)), rD (some ⟨r, 0, none⟩) r 0 n9 1 (cV px)] <| dX 2 [1] <| tD 2 [1] [(14, 0)] 0 [14, 13, 12, 11, 10, 9, 6, 5, 4, 8, 3, 7, 2, 1, 0] [(9, iQ ((mixN W (drwB t.W t.H t.X t.Y t.s t.ca t.cb t.cc t.cd [(⟨a, b, c, d⟩ : Rect)]) n9 : Nat) : Int))] [] <| dD <| zN <| cont_ret ?_
    refine rB rfl 3 0 (.agg #[iQ W, iQ H, sL g8 n9 cp9]) (iQ ((mixN W (drwB t.W t.H t.X t.Y t.s t.ca t.cb t.cc t.cd [(⟨a, b, c, d⟩ : Rect)]) n9 : Nat) : Int)) fun w hT => ?_
    replace hT := hT.erase 8 (fun e h hw => by cases h; first | rfl | cases hw)
    replace hT := hT.erase 7 (fun e h hw => by cases h; first | rfl | cases hw)
    replace hT := hT.erase 6 (fun e h hw => by cases h; first | rfl | cases hw)
    replace hT := hT.erase 5 (fun e h hw => by cases h; first | rfl | cases hw)
    replace hT := hT.erase 4 (fun e h hw => by cases h; first | rfl | cases hw)
    replace hT := hT.erase 3 (fun e h hw => by cases h; first | rfl | cases hw)
    replace hT := hT.erase 2 (fun e h hw => by cases h; first | rfl | cases hw)
    replace hT := hT.erase 1 (fun e h hw => by cases h; first | rfl | cases hw)
    exact ⟨_, _, rfl, hT⟩
  refine one_step1 0 (fun b12 => [(8, pT b3), (32, .agg #[iQ W, iQ H, sL r n9 cap9]), (37, .agg #[.bool true, iQ t.W, iQ t.H, sL t.r t.n t.cap, iQ t.X, iQ t.Y, iQ t.s, iQ t.al, iQ t.ca, iQ t.cb, iQ t.cc, iQ t.cd, .slice t.A t.k t.cp, .string ⟨#[]⟩]), (41, sL b12 1 1)]) (fun b12 => [.cells b12 [iQ a, iQ b, iQ c, iQ d] 32 true, rD (some ⟨t.r, 0, none⟩) t.r 0 t.n 1 (cV t.px), .cells b3 [iQ 0, iQ 0, .slice none 0 0] 59 true, .cells b2 [iQ x, iQ a, iQ b, iQ c, iQ d] 75 true, .cells b1 [iQ W, iQ H, sL r n9 cap9] 59 true, rD (A) g o n 14 (dvals TS.cells ts), .gen (subE n (TS.pxs ts)), rD (some ⟨r, 0, none⟩) r 0 n9 1 (cV px)]) (fun b12 => by kernel_rfl) (fun b12 => by kernel_rfl) (fun b12 => ?_)
  refine dX 1 [1] <| dO 6 5 <| cP 38 (.agg #[.bool true, iQ t.W, iQ t.H, sL t.r t.n t.cap, iQ t.X, iQ t.Y, iQ t.s, iQ t.al, iQ t.ca, iQ t.cb, iQ t.cc, iQ t.cd]) (fun w hT => refLayer13 t.W t.H t.r t.n t.cap t.X t.Y t.s t.al t.ca t.cb t.cc t.cd t.A t.k t.cp w) <| dX 1 [1] <| dO 10 4 <| cont_asRow 0 1 4 rfl (vals := rvals [(⟨a, b, c, d⟩ : Rect)]) rfl rfl (by decide) ?_
  refine cG (d := 42) (α := Nat × Nat) (fun x_ => .tuple #[.agg #[iQ W, iQ H, sL x_.1 n9 x_.2], iQ ((mixN W (drwB t.W t.H t.X t.Y t.s t.ca t.cb t.cc t.cd [(⟨a, b, c, d⟩ : Rect)]) n9 : Nat) : Int)]) (fun x_ => [.gen (rowE (some ⟨x_.1, 0, none⟩) x_.1 n9 x_.2 52 1 (cV (mixL W (drwB t.W t.H t.X t.Y t.s t.ca t.cb t.cc t.cd [(⟨a, b, c, d⟩ : Rect)]) (drwG (pcolC t.W t.H t.X t.Y t.s t.al t.ca t.cb t.cc t.cd t.px)) px)) true), oE b12 1 1 32 4 (rvals [(⟨a, b, c, d⟩ : Rect)]), rD (some ⟨t.r, 0, none⟩) t.r 0 t.n 1 (cV t.px), .cells b3 [iQ 0, iQ 0, .slice none 0 0] 59 true, .cells b2 [iQ x, iQ a, iQ b, iQ c, iQ d] 75 true, .cells b1 [iQ W, iQ H, sL r n9 cap9] 59 true, rD (A) g o n 14 (dvals TS.cells ts), .gen (subE n (TS.pxs ts)), rD (some ⟨r, 0, none⟩) r 0 n9 1 (cV px)]) (fun x_ => True) (fun w hT => (refDraw5 W H r n9 cap9 px t.W t.H t.r t.n t.cap t.px t.X t.Y t.s t.al t.ca t.cb t.cc t.cd (some ⟨b12, 0, none⟩) b12 0 1 1 [(⟨a, b, c, d⟩ : Rect)] w (hT.viewRo (.cons (i := 7) rfl Vw.rd (.cons (i := 1) rfl Vw.rd (.cons (i := 0) rfl Vw.rowRd .nil))) rfl) hok htk.img (by omega) (by omega) (by omega) (by omega)).mono fun e w' ⟨g13, cp14, he_, ht_⟩ => ⟨(g13, cp14), he_, trivial, hT.news ht_ rfl⟩) ?_
  rintro ⟨g13, cp14⟩ hf15_
  refine cM ?_
  have hM16_ := ImgOk.mixL hok (drwB t.W t.H t.X t.Y t.s t.ca t.cb t.cc t.cd [(⟨a, b, c, d⟩ : Rect)]) (g := drwG (pcolC t.W t.H t.X t.Y t.s t.al t.ca t.cb t.cc t.cd t.px)) (fun _ _ _ _ => overC_in _ _)
  refine dX 2 [1] <| tD 2 [1] [(11, 0), (12, 0)] 2 [12, 11, 10, 6, 9, 5, 4, 8, 3, 7, 2, 1, 0] [(43, .agg #[iQ W, iQ H, sL g13 n9 cp14]), (44, iQ ((mixN W (drwB t.W t.H t.X t.Y t.s t.ca t.cb t.cc t.cd [(⟨a, b, c, d⟩ : Rect)]) n9 : Nat) : Int))] [] <| dO 13 1 <| oS 3 [(8, pT b3), (44, iQ ((mixN W (drwB t.W t.H t.X t.Y t.s t.ca t.cb t.cc t.cd [(⟨a, b, c, d⟩ : Rect)]) n9 : Nat) : Int))] [oE g13 n9 cp14 52 1 (cV (mixL W (drwB t.W t.H t.X t.Y t.s t.ca t.cb t.cc t.cd [(⟨a, b, c, d⟩ : Rect)]) (drwG (pcolC t.W t.H t.X t.Y t.s t.al t.ca t.cb t.cc t.cd t.px)) px)), oE b12 1 1 32 4 (rvals [(⟨a, b, c, d⟩ : Rect)]), rD (some ⟨t.r, 0, none⟩) t.r 0 t.n 1 (cV t.px), .cells b3 [iQ W, iQ H, sL g13 n9 cp14] 59 true, .cells b2 [iQ x, iQ a, iQ b, iQ c, iQ d] 75 true, .cells b1 [iQ W, iQ H, sL r n9 cap9] 59 true, rD (A) g o n 14 (dvals TS.cells ts), .gen (subE n (TS.pxs ts)), rD (some ⟨r, 0, none⟩) r 0 n9 1 (cV px)] <| dX 2 [1] <| tD 2 [1] [(14, 0)] 0 [14, 13, 12, 11, 10, 6, 9, 5, 4, 8, 3, 7, 2, 1, 0] [(9, iQ ((mixN W (drwB t.W t.H t.X t.Y t.s t.ca t.cb t.cc t.cd [(⟨a, b, c, d⟩ : Rect)]) n9 : Nat) : Int))] [] <| dD <| zN <| cont_ret ?_
  refine rB rfl 3 0 (.agg #[iQ W, iQ H, sL g13 n9 cp14]) (iQ ((mixN W (drwB t.W t.H t.X t.Y t.s t.ca t.cb t.cc t.cd [(⟨a, b, c, d⟩ : Rect)]) n9 : Nat) : Int)) fun w hT => ?_
  replace hT := hT.erase 8 (fun e h hw => by cases h; first | rfl | cases hw)
  replace hT := hT.erase 7 (fun e h hw => by cases h; first | rfl | cases hw)
  replace hT := hT.erase 6 (fun e h hw => by cases h; first | rfl | cases hw)
  replace hT := hT.erase 5 (fun e h hw => by cases h; first | rfl | cases hw)
  replace hT := hT.erase 4 (fun e h hw => by cases h; first | rfl | cases hw)
  replace hT := hT.erase 3 (fun e h hw => by cases h; first | rfl | cases hw)
  replace hT := hT.erase 2 (fun e h hw => by cases h; first | rfl | cases hw)
  replace hT := hT.erase 1 (fun e h hw => by cases h; first | rfl | cases hw)
  exact ⟨_, _, rfl, hT⟩
end Go.Proofs.YtlfahohbkgdabaaGreat
namespace Go.Proofs.YtlfahohbkgdabaaGreat
open Go Go.RowKit
end Go.Proofs.YtlfahohbkgdabaaGreat
namespace Go.Proofs.YtlfahohbkgdabaaGreat
open Go Go.RowKit
end Go.Proofs.YtlfahohbkgdabaaGreat
namespace Go.Proofs.YtlfahohbkgdabaaGreat
open Go Go.RowKit
variable {dfs : List Deferred}
section
variable {P : Program}
end
end Go.Proofs.YtlfahohbkgdabaaGreat
namespace Go.Proofs.YtlfahohbkgdabaaGreat
open Go Go.RowKit
variable {P : Program} {dfs : List Deferred} {n : Nat} {w0 : World} {L : List (Tmp × Value)} {T : List Ent} {Q : Exit → Act → World → Prop}
end Go.Proofs.YtlfahohbkgdabaaGreat
namespace Go.Proofs.YtlfahohbkgdabaaGreat
open Go Go.RowKit
section
variable {P : Program}
end
end Go.Proofs.YtlfahohbkgdabaaGreat
namespace Go.Proofs.YtlfahohbkgdabaaGreat
open Go Go.RowKit
variable {P : Program} {dfs : List Deferred} {n : Nat} {w0 : World} {L : List (Tmp × Value)} {T : List Ent} {Q : Exit → Act → World → Prop}
end Go.Proofs.YtlfahohbkgdabaaGreat
namespace Go.Proofs.YtlfahohbkgdabaaGreat
open Go Go.RowKit
variable {dfs : List Deferred}
end Go.Proofs.YtlfahohbkgdabaaGreat
namespace Go.Proofs.YtlfahohbkgdabaaGreat
open Go Go.RowKit
section
variable {P : Program} {dfs : List Deferred} {Q : Exit → Act → World → Prop} {n : Nat} {w0 : World} {L : List (Nat × Value)} {T : List Ent}
end
end Go.Proofs.YtlfahohbkgdabaaGreat
