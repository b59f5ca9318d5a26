/- A client's ids, kind by kind. -/
import Derived.Test.YtekgdfaggagfmaaPdRo2
set_option linter.unusedVariables false
namespace Go.Proofs.Ytekgdfaggagfmaa
open Go Go.RowKit
theorem getD_memI {l : List Int} {j : Nat} (h : j < l.length) : l.getD j 0 ∈ l := by
  rw [List.getD_eq_getElem?_getD, List.getElem?_eq_getElem h]; exact List.getElem_mem h
theorem ofL_get {l : IL} {k : Int} {j : Nat} (h : j < (ofL l k).length) : ((ofL l k).getD j 0, k) ∈ l := ofL_mem.1 (getD_memI h)
theorem iget_nodup {x v : Int} : ∀ {l : IL}, (l.map (·.1)).Nodup → (x, v) ∈ l → iget l x = some v := by
  intro l
  induction l with
  | nil => intro _ h; cases h
  | cons p l ih =>
    intro hn hm
    rw [List.map_cons, List.nodup_cons] at hn
    rcases List.mem_cons.1 hm with e | e
    · subst e; simp [iget]
    · have hne : x ≠ p.1 := fun h => hn.1 (h ▸ List.mem_map.2 ⟨(x, v), e, rfl⟩)
      have := ih hn.2 e
      simp [iget, hne, this]
theorem IdsOk.kindOf {most : Int} {l : IL} (h : IdsOk most l) {x k : Int} (hm : (x, k) ∈ l) : kindL l x = k := by
  unfold kindL; rw [iget_nodup h.keys hm]; rfl
theorem ofL_kind {most : Int} {l : IL} (h : IdsOk most l) {k : Int} {j : Nat} (hj : j < (ofL l k).length) : kindL l ((ofL l k).getD j 0) = k := h.kindOf (ofL_get hj)
theorem ofL_find {most : Int} {l : IL} (h : IdsOk most l) {k : Int} {j : Nat} (hj : j < (ofL l k).length) : findE l ((ofL l k).getD j 0) k = 0 := by
  have h1 := h.rng _ (ofL_get hj)
  have h2 := ofL_kind h hj
  unfold findE; rw [h2, if_neg (by simp only at h1; omega), if_pos rfl]
theorem ofL_role {most : Int} {l : IL} (h : IdsOk most l) {k : Int} {j : Nat} (hj : j < (ofL l k).length) : findE l ((ofL l k).getD j 0) (k % 8 + 1) = 9 := by
  have h1 := h.rng _ (ofL_get hj)
  have h2 := ofL_kind h hj
  simp only at h1
  unfold findE; rw [h2, if_neg (by omega), if_neg (by omega)]
theorem ofL_nodup {most : Int} {l : IL} (h : IdsOk most l) (k : Int) : (ofL l k).Nodup := by
  have h1 : (keysK l k).Nodup := List.Nodup.sublist (List.Sublist.map _ List.filter_sublist) h.keys
  exact (List.mergeSort_perm (keysK l k) _).nodup_iff.2 h1
theorem ofL_lt {most : Int} {l : IL} (h : IdsOk most l) {k : Int} {i j : Nat} (hij : i < j) (hj : j < (ofL l k).length) : (ofL l k).getD i 0 < (ofL l k).getD j 0 := by
  have h1 := List.pairwise_iff_getElem.1 (sortL_sorted (keysK l k)) i j (by show i < (ofL l k).length; omega) hj hij
  have h2 := (List.pairwise_iff_getElem.1 (ofL_nodup h k)) i j (by omega) hj hij
  have e1 : (ofL l k).getD i 0 = (ofL l k)[i]'(by omega) := by rw [List.getD_eq_getElem?_getD, List.getElem?_eq_getElem (by omega)]; rfl
  have e2 : (ofL l k).getD j 0 = (ofL l k)[j]'hj := by rw [List.getD_eq_getElem?_getD, List.getElem?_eq_getElem hj]; rfl
  rw [e1, e2]
  have h3 : (ofL l k)[i]'(by omega) ≤ (ofL l k)[j]'hj := h1
  omega
def cntK (l : IL) (q : Int) : Int := ((l.filter fun p => decide (p.2 < q)).length : Nat)
theorem cnt_one {most : Int} {l : IL} (h : IdsOk most l) : cntK l 1 = 0 := by
  unfold cntK
  rw [List.filter_eq_nil_iff.2 (fun p hp => by have := h.rng p hp; simp only [decide_eq_true_eq]; omega)]; rfl
theorem cnt_all {most : Int} {l : IL} (h : IdsOk most l) : cntK l 9 = l.length := by
  unfold cntK
  rw [List.filter_eq_self.2 (fun p hp => by have := h.rng p hp; simp only [decide_eq_true_eq]; omega)]
theorem cnt_succ (l : IL) (q : Int) : cntK l (q + 1) = cntK l q + (ofL l q).length := by
  unfold ofL; rw [sortL_length]; unfold keysK cntK; rw [List.length_map]
  induction l with
  | nil => rfl
  | cons p l ih =>
    simp only [List.filter_cons]
    by_cases h1 : p.2 < q
    · have h2 : p.2 < q + 1 := by omega
      have h3 : (p.2 == q) = false := by simp; omega
      simp only [h1, h2, h3, decide_true, if_true, List.length_cons]; simp only [Bool.false_eq_true, if_false]; omega
    · by_cases h4 : p.2 = q
      · have h2 : p.2 < q + 1 := by omega
        have h3 : (p.2 == q) = true := by simp [h4]
        simp only [h1, h2, h3, decide_true, decide_false, if_true, List.length_cons]; simp only [Bool.false_eq_true, if_false]; omega
      · have h2 : ¬ p.2 < q + 1 := by omega
        have h3 : (p.2 == q) = false := by simp [h4]
        simp only [h1, h2, h3, decide_false, Bool.false_eq_true, if_false]; omega
theorem cnt_range {most : Int} {l : IL} (h : IdsOk most l) (q : Int) : 0 ≤ cntK l q ∧ cntK l q ≤ 32 := by
  unfold cntK
  have h1 := List.length_filter_le (fun p : Int × Int => decide (p.2 < q)) l
  have := h.le; have := h.hi
  omega
end Go.Proofs.Ytekgdfaggagfmaa

