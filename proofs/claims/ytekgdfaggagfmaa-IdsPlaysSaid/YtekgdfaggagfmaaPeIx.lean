/- A client's ids as the document has them: a row that rises; the plain laws. -/
import Derived.Test.YtekgdfaggagfmaaPeDkX
import Derived.Test.YtekgdfaggagfmaaPeDo
import Derived.Test.YtekgdfaggagfmaaPeRo3
set_option linter.unusedVariables false
set_option linter.unusedSimpArgs false
namespace Go.Proofs.Ytekgdfaggagfmaa
open Go Go.RowKit

def toP (x : X11) : Int × Int := (x.x0, x.x1)
def kindX (l : List X11) (id : Int) : Int := ((l.find? fun x => x.x0 == id).map (·.x1)).getD 0
theorem kindX_spec (l : List X11) (id : Int) : (∃ y ∈ l, y.x0 = id ∧ kindX l id = y.x1) ∨ ((∀ y ∈ l, y.x0 ≠ id) ∧ kindX l id = 0) := by
  unfold kindX
  cases h : l.find? fun x => x.x0 == id with
  | none =>
    refine .inr ⟨fun y hy => ?_, rfl⟩
    have := List.find?_eq_none.1 h y hy
    simpa using this
  | some y => exact .inl ⟨y, List.mem_of_find?_eq_some h, by simpa using List.find?_some h, rfl⟩
theorem dget_succ' {l : List X11} {i : Nat} (h : i < l.length) : l.take (i + 1) = l.take i ++ [dget l i] := by
  have e : dget l i = l[i] := by unfold dget; rw [List.getD_eq_getElem?_getD, List.getElem?_eq_getElem h]; rfl
  rw [e, List.take_succ_eq_append_getElem h]
theorem kindX_cons_ne {x : X11} {l : List X11} {id : Int} (h : x.x0 ≠ id) : kindX (x :: l) id = kindX l id := by
  unfold kindX; rw [List.find?_cons_of_neg (by simpa using h)]
theorem kindX_hit {id : Int} : ∀ {l : List X11} {i : Nat}, i < l.length → (∀ j, j < i → (dget l j).x0 ≠ id) → (dget l i).x0 = id → kindX l id = (dget l i).x1 := by
  intro l
  induction l with
  | nil => intro i h; simp at h
  | cons x l ih =>
    intro i h h1 h2
    cases i with
    | zero => rw [dget_zero] at h2 ⊢; unfold kindX; rw [List.find?_cons_of_pos (by simpa using h2)]; rfl
    | succ i =>
      rw [dget_succ] at h2 ⊢
      have h0 := h1 0 (by omega)
      rw [dget_zero] at h0
      rw [kindX_cons_ne h0]
      exact ih (by simpa using h) (fun j hj => by have := h1 (j + 1) (by omega); rwa [dget_succ] at this) h2
theorem kindX_none {id : Int} : ∀ {l : List X11}, (∀ j, j < l.length → (dget l j).x0 ≠ id) → kindX l id = 0 := by
  intro l
  induction l with
  | nil => intro _; rfl
  | cons x l ih =>
    intro h
    have h0 := h 0 (by simp)
    rw [dget_zero] at h0
    rw [kindX_cons_ne h0]
    exact ih (fun j hj => by have := h (j + 1) (by simpa using hj); rwa [dget_succ] at this)
def dropX (l : List X11) (id : Int) : List X11 := l.filter fun x => x.x0 != id
theorem dropX_yes {l : List X11} {i : Nat} {id : Int} (hi : i < l.length) (h : (dget l i).x0 ≠ id) : dropX (l.take i) id ++ [(⟨(dget l i).x0, (dget l i).x1⟩ : X11)] = dropX (l.take (i + 1)) id := by
  rw [dget_succ' hi]; unfold dropX; rw [List.filter_append]; simp [h]
theorem dropX_no {l : List X11} {i : Nat} {id : Int} (hi : i < l.length) (h : (dget l i).x0 = id) : dropX (l.take i) id = dropX (l.take (i + 1)) id := by
  rw [dget_succ' hi]; unfold dropX; rw [List.filter_append]; simp [h]
theorem dropX_len (l : List X11) (id : Int) : (dropX l id).length ≤ l.length := List.length_filter_le _ _
def ofX (l : List X11) (k : Int) : List Int := (l.filter fun x => x.x1 == k).map (·.x0)
theorem ofX_yes {l : List X11} {i : Nat} {k : Int} (hi : i < l.length) (h : (dget l i).x1 = k) : ofX (l.take i) k ++ [(dget l i).x0] = ofX (l.take (i + 1)) k := by
  rw [dget_succ' hi]; unfold ofX; rw [List.filter_append, List.map_append]; simp [h]
theorem ofX_no {l : List X11} {i : Nat} {k : Int} (hi : i < l.length) (h : (dget l i).x1 ≠ k) : ofX (l.take i) k = ofX (l.take (i + 1)) k := by
  rw [dget_succ' hi]; unfold ofX; rw [List.filter_append, List.map_append]; simp [h]
theorem ofX_len (l : List X11) (k : Int) : (ofX l k).length ≤ l.length := by unfold ofX; rw [List.length_map]; exact List.length_filter_le _ _
def findX (l : List X11) (id k : Int) : Int := if kindX l id = 0 then 5 else if kindX l id = k then 0 else 9
def addEX (mo : Int) (l : List X11) (id k : Int) : Int := if id < 1 ∨ id > 4294967295 ∨ k < 1 ∨ k > 8 then 1 else if kindX l id > 0 then 6 else if (l.length : Int) ≥ mo then 10 else 0
def addX (l : List X11) (id k : Int) (p : Nat) : List X11 := l.take p ++ [(⟨id, k⟩ : X11)] ++ l.drop p
theorem addX_len (l : List X11) (id k : Int) {p : Nat} (h : p ≤ l.length) : (addX l id k p).length = l.length + 1 := by unfold addX; simp; omega

/-! ### The document's row and the program's map -/
structure RelX (l : IL) (L : List X11) : Prop where
  perm : (L.map toP).Perm l
  sort : (L.map (·.x0)).Pairwise (· < ·)
theorem RelX.nil : RelX [] [] := ⟨List.Perm.refl _, List.Pairwise.nil⟩
theorem RelX.len {l : IL} {L : List X11} (h : RelX l L) : L.length = l.length := by have := h.perm.length_eq; rwa [List.length_map] at this
theorem RelX.mem {l : IL} {L : List X11} (h : RelX l L) {x : X11} (hx : x ∈ L) : (x.x0, x.x1) ∈ l := h.perm.mem_iff.1 (List.mem_map.2 ⟨x, hx, rfl⟩)
theorem RelX.kind {most : Int} {l : IL} {L : List X11} (hk : IdsOk most l) (h : RelX l L) (id : Int) : kindX L id = kindL l id := by
  rcases kindX_spec L id with ⟨y, hy, rfl, e⟩ | ⟨hn, e⟩
  · rw [e]; exact (hk.kindOf (h.mem hy)).symm
  · rw [e]
    unfold kindL
    cases hg : iget l id with
    | none => rfl
    | some v =>
      have h1 := h.perm.mem_iff.2 (iget_mem hg)
      obtain ⟨y, hy, e2⟩ := List.mem_map.1 h1
      exact absurd (congrArg Prod.fst e2) (hn y hy)
theorem RelX.find {most : Int} {l : IL} {L : List X11} (hk : IdsOk most l) (h : RelX l L) (id k : Int) : findX L id k = findE l id k := by
  unfold findX findE; rw [h.kind hk]
theorem kind_rng {most : Int} {l : IL} (hk : IdsOk most l) (id : Int) : 0 ≤ kindL l id ∧ kindL l id ≤ 8 := by
  unfold kindL
  cases hg : iget l id with
  | none => decide
  | some v => have := hk.rng _ (iget_mem hg); simp only [Option.getD_some] at this ⊢; omega
theorem RelX.addC {most : Int} {l : IL} {L : List X11} (hk : IdsOk most l) (h : RelX l L) (id k : Int) : addEX most L id k = addE most l id k := by
  unfold addEX addE
  rw [h.kind hk, h.len]
  have h1 := kind_rng hk id
  have h2 := hk.le
  by_cases a : id < 1 ∨ id > 4294967295 ∨ k < 1 ∨ k > 8
  · rw [if_pos a, if_pos a]
  · rw [if_neg a, if_neg a]
    by_cases b : kindL l id > 0
    · rw [if_pos b, if_pos (show kindL l id ≠ 0 by omega)]
    · rw [if_neg b, if_neg (show ¬ kindL l id ≠ 0 by omega)]
      by_cases c : (l.length : Int) ≥ most
      · rw [if_pos c, if_pos (show most - (l.length : Int) = 0 by omega)]
      · rw [if_neg c, if_neg (show ¬ most - (l.length : Int) = 0 by omega)]
theorem idel_filter {x : Int} : ∀ {l : IL}, (l.map (·.1)).Nodup → idel l x = l.filter fun p => p.1 != x := by
  intro l
  induction l with
  | nil => intro _; rfl
  | cons p l ih =>
    intro hn
    rw [List.map_cons, List.nodup_cons] at hn
    by_cases e : p.1 = x
    · have h1 : (l.filter fun p => p.1 != x) = l := List.filter_eq_self.2 fun q hq => by
        have : q.1 ≠ x := fun h => hn.1 (by rw [e, ← h]; exact List.mem_map.2 ⟨q, hq, rfl⟩)
        simpa using this
      rw [List.filter_cons_of_neg (by simp [e]), h1]
      simp [idel, e]
    · rw [List.filter_cons_of_pos (by simp [e]), ← ih hn.2]
      have e' : ¬ x = p.1 := fun h => e h.symm
      simp [idel, e, e']
theorem RelX.drop {most : Int} {l : IL} {L : List X11} (hk : IdsOk most l) (h : RelX l L) (id : Int) : RelX (idel l id) (dropX L id) := by
  refine ⟨?_, ?_⟩
  · rw [idel_filter hk.keys]
    have e : (dropX L id).map toP = (L.map toP).filter fun p => p.1 != id := by unfold dropX; rw [List.filter_map]; rfl
    rw [e]; exact h.perm.filter _
  · exact List.Pairwise.sublist (List.Sublist.map _ List.filter_sublist) h.sort
theorem RelX.was {most : Int} {l : IL} {L : List X11} (hk : IdsOk most l) (h : RelX l L) (id : Int) : decide (((dropX L id).length : Int) < (L.length : Int)) = (kindL l id != 0) := by
  have h1 := (h.drop hk id).len
  have h2 := h.len
  have h3 := len_del hk id
  rw [h1, h2, Bool.eq_iff_iff, decide_eq_true_eq, bne_iff_ne]
  by_cases e : kindL l id = 0
  · rw [if_pos e] at h3; exact ⟨fun h9 => absurd h9 (by rw [h3]; exact Int.lt_irrefl _), fun h9 => absurd e h9⟩
  · rw [if_neg e] at h3; exact ⟨fun _ => e, fun _ => by
      have h8 : 0 < l.length := by
        cases l with
        | nil => exact absurd rfl e
        | cons => simp
      rw [h3]; omega⟩
theorem RelX.of {l : IL} {L : List X11} (h : RelX l L) (k : Int) : ofX L k = ofL l k := by
  refine sorted_unique ?_ (sortL_sorted _) ?_
  · have h1 : (ofX L k).Pairwise (· < ·) := List.Pairwise.sublist (List.Sublist.map _ List.filter_sublist) h.sort
    exact h1.imp (fun h => by omega)
  · have e : ofX L k = keysK (L.map toP) k := by unfold ofX keysK; rw [List.filter_map, List.map_map]; rfl
    rw [e]
    exact (keysK_perm h.perm k).trans (List.mergeSort_perm _ _).symm
theorem RelX.add {most : Int} {l : IL} {L : List X11} (hk : IdsOk most l) (h : RelX l L) {id k : Int} (h0 : addE most l id k = 0) {p : Nat} (hp : p ≤ L.length) (hlo : p = 0 ∨ (dget L (p - 1)).x0 ≤ id) (hhi : ∀ j, p ≤ j → j < L.length → id < (dget L j).x0) : RelX (addL most l id k) (addX L id k p) := by
  have hz := addE_zero.1 h0
  have hnone : iget l id = none := hk.kind.1 hz.2.2.2.2.1
  refine ⟨?_, ?_⟩
  · have e1 : addL most l id k = l ++ [(id, k)] := by unfold addL; rw [if_pos h0, iput_new hnone]
    rw [e1]
    have e2 : (addX L id k p).map toP = (L.take p).map toP ++ (id, k) :: (L.drop p).map toP := by unfold addX; simp [toP]
    rw [e2]
    refine List.perm_middle.trans ?_
    rw [← List.map_append, List.take_append_drop]
    exact ((h.perm.cons _).trans (List.perm_append_singleton (id, k) l).symm)
  · have e2 : (addX L id k p).map (·.x0) = (L.take p).map (·.x0) ++ id :: (L.drop p).map (·.x0) := by unfold addX; simp
    rw [e2]
    have hs : ((L.take p).map (·.x0) ++ (L.drop p).map (·.x0)).Pairwise (· < ·) := by rw [← List.map_append, List.take_append_drop]; exact h.sort
    rw [List.pairwise_append] at hs
    obtain ⟨s1, s2, s3⟩ := hs
    have hL : ∀ i, (hi : i < L.length) → dget L i = L[i] := fun i hi => by unfold dget; rw [List.getD_eq_getElem?_getD, List.getElem?_eq_getElem hi]; rfl
    have hlow : ∀ x ∈ (L.take p).map (·.x0), x < id := by
      intro x hx
      obtain ⟨y, hy, rfl⟩ := List.mem_map.1 hx
      obtain ⟨i, hi, rfl⟩ := List.getElem_of_mem hy
      rw [List.length_take] at hi
      have hne : (L[i]'(by omega)).x0 ≠ id := fun e => by
        have := hk.kindOf (h.mem (List.getElem_mem (show i < L.length by omega)))
        have h9 := hk.rng _ (h.mem (List.getElem_mem (show i < L.length by omega)))
        rw [e] at this
        simp only at h9
        omega
      rcases hlo with h8 | h8
      · omega
      · rw [hL (p - 1) (by omega)] at h8
        rw [List.getElem_take]
        by_cases e : i = p - 1
        · subst e; omega
        · have := List.pairwise_iff_getElem.1 h.sort i (p - 1) (by rw [List.length_map]; omega) (by rw [List.length_map]; omega) (by omega)
          rw [List.getElem_map, List.getElem_map] at this
          omega
    have hhigh : ∀ x ∈ (L.drop p).map (·.x0), id < x := by
      intro x hx
      obtain ⟨y, hy, rfl⟩ := List.mem_map.1 hx
      obtain ⟨i, hi, rfl⟩ := List.getElem_of_mem hy
      rw [List.length_drop] at hi
      have := hhi (p + i) (by omega) (by omega)
      rw [hL (p + i) (by omega)] at this
      rw [List.getElem_drop]
      exact this
    rw [List.pairwise_append]
    refine ⟨s1, List.pairwise_cons.2 ⟨hhigh, s2⟩, fun a ha b hb => ?_⟩
    rcases List.mem_cons.1 hb with rfl | hb
    · exact hlow a ha
    · exact s3 a ha b hb
theorem RelX.addY {most : Int} {l : IL} {L : List X11} (hk : IdsOk most l) (h : RelX l L) {id k : Int} (h0 : addEX most L id k = 0) {p : Nat} (hp : p ≤ L.length) (hlo : p = 0 ∨ (dget L (p - 1)).x0 ≤ id) (hhi : ∀ j, p ≤ j → j < L.length → id < (dget L j).x0) : RelX (addL most l id k) (addX L id k p) :=
  h.add hk (by rw [← h.addC hk]; exact h0) hp hlo hhi
theorem RelX.addN {most : Int} {l : IL} {L : List X11} (hk : IdsOk most l) (h : RelX l L) {id k : Int} (h0 : ¬ addEX most L id k = 0) : RelX (addL most l id k) L := by
  unfold addL
  rw [if_neg (by rw [← h.addC hk]; exact h0)]
  exact h
end Go.Proofs.Ytekgdfaggagfmaa

