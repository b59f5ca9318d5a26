/- Range over a map of whole numbers: in any order, each entry once. -/
import Derived.Test.YtlfahohbkgdabaaRf
import Derived.Test.YtlfahohbkgdabaaId
import Derived.Maps.RangeRun
set_option linter.unusedVariables false
set_option linter.unusedSimpArgs false
namespace Go.Proofs.Ytlfahohbkgdabaa
open Go Go.RowKit
variable {P : Program} {dfs : List Deferred} {n : Nat} {w0 : World} {L : List (Tmp × Value)} {T : List Ent} {Q : Exit → Act → World → Prop}

def roObjE (b : Nat) (o : Obj) : Ent := .gen { blk := (· = b), wr := false, own := false, ok := fun w => w.heap[b]? = some o, stable := fun w w' h hk => (h b rfl).trans hk, inb := fun w k hk hb => by cases hb; exact (Array.getElem?_eq_some_iff.1 hk).1 }
def enc2 (p : Int × Int) : Value × Value := (.int .i64 p.1, .int .i64 p.2)
def kvOf (e : MapEntry) : Value × Value := (e.key, e.val)
structure MapF (es : Array MapEntry) (ck : Nat) (l : IL) : Prop where
  kv : es.toList.map kvOf = l.map enc2
  lt : ∀ e ∈ es.toList, e.born < ck
  nd : (es.toList.map (·.born)).Nodup
theorem Tab.swapRo {w : World} (hT : Tab w0 w T) {i : Nat} {e e' : Ent} (h : T[i]? = some e) (hw : e.wr = false) (hw' : e'.wr = false) (ho' : e'.own = false) (hb : ∀ k, e'.blk k → e.blk k) (hok : e'.ok w) : Tab w0 w (T.set i e') := by
  refine ⟨hT.os, hT.tape, hT.output, hT.size, ?_, ?_, ?_, ?_⟩
  · intro j x hx
    rcases getElem?_set_cases _ _ _ _ _ hx with ⟨_, rfl⟩ | ⟨hj, hx⟩
    · exact hok
    · exact hT.ok j x hx
  · intro k hk hno
    refine hT.frame k hk (fun j x hx hxm => ?_)
    by_cases hj : j = i
    · subst hj; rw [h] at hx; cases hx; rw [hw] at hxm; cases hxm
    · exact hno j x (by rw [List.getElem?_set_ne (Ne.symm hj)]; exact hx) hxm
  · intro j x hx hxo k hk
    rcases getElem?_set_cases _ _ _ _ _ hx with ⟨_, rfl⟩ | ⟨hj, hx⟩
    · rw [ho'] at hxo; cases hxo
    · exact hT.own j x hx hxo k hk
  · intro j l x y hjl hx hy hxy k hk hk'
    rcases getElem?_set_cases _ _ _ _ _ hx with ⟨rfl, rfl⟩ | ⟨hj, hx2⟩
    · rcases getElem?_set_cases _ _ _ _ _ hy with ⟨rfl, _⟩ | ⟨hl, hy2⟩
      · exact absurd rfl hjl
      · refine hT.disj j l e y hjl h hy2 ?_ k (hb k hk) hk'
        rcases hxy with h9 | h9
        · rw [hw'] at h9; cases h9
        · exact .inr h9
    · rcases getElem?_set_cases _ _ _ _ _ hy with ⟨rfl, rfl⟩ | ⟨hl, hy2⟩
      · refine hT.disj j l x e hjl hx2 h ?_ k hk (hb k hk')
        rcases hxy with h9 | h9
        · exact .inl h9
        · rw [hw'] at h9; cases h9
      · exact hT.disj j l x y hjl hx2 hy2 hxy k hk hk'
theorem cont_openMap {K : Act → World → Prop} (i : Nat) {b : Nat} {l : IL} (hi : T[i]? = some (.gen (mapR b (imsV l)))) (h : ∀ (es : Array MapEntry) (ck : Nat), MapF es ck l → Cont dfs K n w0 L (T.set i (roObjE b (.map es ck)))) : Cont dfs K n w0 L T := by
  intro a w ha hf hT
  have hk : MapAt w b (imsV l) := hT.ok i _ hi
  obtain ⟨es, ck, h1, h2, h3, h4⟩ := hk.here
  refine h es ck ⟨?_, h3, h4⟩ a w ha hf (hT.swapRo hi rfl rfl rfl (fun k hk => hk) h1)
  show es.toList.map (fun e => (e.key, e.val)) = _
  rw [h2]
  unfold imsV
  rw [List.map_map]; rfl
/-- What the loop has had, and what is left. -/
structure IterP (es : Array MapEntry) (l : IL) (sn : Array Nat) (dn : IL) : Prop where
  left : ∃ lf : IL, (leftOf es sn).toList.map kvOf = lf.map enc2 ∧ (dn ++ lf).Perm l
theorem IterP.start {es : Array MapEntry} {ck : Nat} {l : IL} (h : MapF es ck l) : IterP es l #[] [] :=
  ⟨l, by rw [← h.kv, show (leftOf es #[]).toList = es.toList by simp only [leftOf, Array.toList_filter]; exact List.filter_eq_self.2 (fun _ _ => by simp)], List.Perm.refl _⟩
theorem IterP.done {es : Array MapEntry} {l : IL} {sn : Array Nat} {dn : IL} (h : IterP es l sn dn) (h0 : (leftOf es sn).size = 0) : dn.Perm l := by
  obtain ⟨lf, h1, h2⟩ := h.left
  have h3 := congrArg List.length h1
  simp only [List.length_map, Array.length_toList] at h3
  have : lf = [] := List.length_eq_zero_iff.1 (by omega)
  subst this
  simpa using h2
theorem IterP.len {es : Array MapEntry} {l : IL} {sn : Array Nat} {dn : IL} (h : IterP es l sn dn) : dn.length ≤ l.length := by
  obtain ⟨lf, h1, h2⟩ := h.left
  have := h2.length_eq
  rw [List.length_append] at this
  omega
theorem leftOf_push (es : Array MapEntry) (sn : Array Nat) (b : Nat) : (leftOf es (sn.push b)).toList = (leftOf es sn).toList.filter fun x => x.born != b := by
  simp only [leftOf, Array.toList_filter, List.filter_filter]
  congr 1
  funext x
  simp only [Array.contains_push]
  cases h : sn.contains x.born <;> cases h2 : (x.born == b) <;> simp_all [bne]
theorem strike_born {L : List MapEntry} {e : MapEntry} (hn : (L.map (·.born)).Nodup) (he : e ∈ L) : ∃ A B, L = A ++ e :: B ∧ (L.filter fun x => x.born != e.born) = A ++ B := by
  obtain ⟨A, B, rfl⟩ := List.append_of_mem he
  refine ⟨A, B, rfl, ?_⟩
  rw [List.map_append, List.map_cons, List.nodup_append] at hn
  obtain ⟨_, h2, h3⟩ := hn
  rw [List.nodup_cons] at h2
  rw [List.filter_append, List.filter_cons]
  have e1 : (A.filter fun x => x.born != e.born) = A := List.filter_eq_self.2 fun x hx => by
    have := h3 x.born (List.mem_map.2 ⟨x, hx, rfl⟩) e.born (List.mem_cons_self ..)
    simpa using this
  have e2 : (B.filter fun x => x.born != e.born) = B := List.filter_eq_self.2 fun x hx => by
    have : x.born ≠ e.born := fun h => h2.1 (h ▸ List.mem_map.2 ⟨x, hx, rfl⟩)
    simpa using this
  rw [e1, e2]; simp
theorem IterP.step {es : Array MapEntry} {ck : Nat} {l : IL} {sn : Array Nat} {dn : IL} (hF : MapF es ck l) (h : IterP es l sn dn) {e : MapEntry} (he : e ∈ (leftOf es sn).toList) :
    ∃ p : Int × Int, e.key = .int .i64 p.1 ∧ e.val = .int .i64 p.2 ∧ p ∈ l ∧ IterP es l (sn.push e.born) (dn ++ [p]) := by
  obtain ⟨lf, h1, h2⟩ := h.left
  have hsub : ((leftOf es sn).toList.map (·.born)).Nodup := by
    refine List.Nodup.sublist (List.Sublist.map _ ?_) hF.nd
    simp only [leftOf, Array.toList_filter]
    exact List.filter_sublist
  obtain ⟨A, B, e1, e2⟩ := strike_born hsub he
  rw [e1, List.map_append, List.map_cons] at h1
  obtain ⟨a, r, rfl, ha, hr⟩ := List.map_eq_append_iff.1 h1.symm
  obtain ⟨p, b, rfl, hp, hb⟩ := List.map_eq_cons_iff.1 hr
  have hp' : enc2 p = kvOf e := hp
  refine ⟨p, (congrArg Prod.fst hp').symm, (congrArg Prod.snd hp').symm, h2.mem_iff.1 (by simp), ⟨a ++ b, ?_, ?_⟩⟩
  · rw [leftOf_push, e2, List.map_append, List.map_append, ha, hb]
  · refine List.Perm.trans ?_ h2
    rw [List.append_assoc]
    exact (List.perm_append_left_iff dn).2 (by simpa using List.perm_middle.symm)
/-- The entry that came last. -/
def LastE (es : Array MapEntry) (sn : Array Nat) (x v : Int) : Prop := ∃ (s : Array Nat) (e : MapEntry), sn = s.push e.born ∧ e ∈ es.toList ∧ e.key = .int .i64 x ∧ e.val = .int .i64 v
theorem sem_range {ops : Array Oper} {i : Nat} {K : Act → World → Prop} (d : Tmp) {m bm ck : Nat} {es : Array MapEntry} {t k e : TypeId} (H : opS ops n i L = some (some d, valS (Instr.range t (.map (some bm))))) (ht : P.underlying t = some (.map k e)) (hb : T[m]? = some (roObjE bm (.map es ck)))
    (hk : ∀ r : Nat, Cont dfs K n w0 ((d, .pointer (some ⟨r, 0, none⟩)) :: L) (objE r (.mapIter (some bm) ck #[] ck) :: T)) : Cont dfs (wpOp P ops Q i K) n w0 L T :=
  sem_stepW d _ (α := Nat) (fun r => .pointer (some ⟨r, 0, none⟩)) (fun r => objE r (.mapIter (some bm) ck #[] ck) :: T) (fun _ => True) H
    (fun w hT => ⟨w.heap.size, _, run_range_map w t k e bm es ck ht (hT.ok m _ hb), trivial, hT.allocObj _⟩) (fun r _ => hk r)
theorem sem_next {ops : Array Oper} {i : Nat} {K : Act → World → Prop} (d : Tmp) {j m r bm ck : Nat} {es : Array MapEntry} {sn : Array Nat} {l dn : IL} {ty : TypeId} (H : opS ops n i L = some (some d, valS (Instr.next (.pointer (some ⟨r, 0, none⟩)) false ty)))
    (hr : T[j]? = some (objE r (.mapIter (some bm) ck sn ck))) (hb : T[m]? = some (roObjE bm (.map es ck))) (hF : MapF es ck l) (hP : IterP es l sn dn)
    (h0 : dn.Perm l → Cont dfs K n w0 ((d, .tuple #[.bool false]) :: L) T)
    (h1 : ∀ (x v : Int) (sn' : Array Nat), (x, v) ∈ l → IterP es l sn' (dn ++ [(x, v)]) → LastE es sn' x v → Cont dfs K n w0 ((d, .tuple #[.bool true, .int .i64 x, .int .i64 v]) :: L) (T.set j (objE r (.mapIter (some bm) ck sn' ck)))) : Cont dfs (wpOp P ops Q i K) n w0 L T := by
  intro a w ha hf hT
  obtain ⟨o, ho, hdst, hd, hw, he⟩ := opS_core H hf
  have hr' : w.heap[r]? = some (.mapIter (some bm) ck sn ck) := hT.ok j _ hr
  have hb' : w.heap[bm]? = some (.map es ck) := hT.ok m _ hb
  unfold wpOp
  simp only [ho, hw, if_true]
  refine .inl ?_
  unfold Oper.wp
  rcases run_next_at (P := P) w ty r bm ck ck sn es ck hr' hb' hF.lt (Nat.le_refl _) with ⟨hz, hrun⟩ | ⟨e, he', w1, hw1, hrun⟩
  · rw [he, valS_run hrun]
    show K (a.put o.dst _) w
    rw [hdst]
    exact h0 (hP.done hz) _ _ (by rw [put_defers]; exact ha) (frok_putD hf hd) hT
  · obtain ⟨⟨x, v⟩, hk, hv, hm, hP'⟩ := hP.step hF he'
    rw [he, valS_run hrun, hk, hv]
    show K (a.put o.dst _) _
    rw [hdst]
    have hmem : e ∈ es.toList := by
      simp only [leftOf, Array.toList_filter] at he'
      exact (List.mem_filter.1 he').1
    refine h1 x v _ hm hP' ⟨sn, e, rfl, hmem, hk, hv⟩ _ _ (by rw [put_defers]; exact ha) (frok_putD hf hd) ?_
    rcases hw1 with rfl | rfl
    · exact hT.putObj hr _
    · exact hT.drew.putObj hr _
theorem run_entryL {w : World} {r bm ck : Nat} {es : Array MapEntry} {sn : Array Nat} {l : IL} {x v : Int} (hr : w.heap[r]? = some (.mapIter (some bm) ck sn ck)) (hb : w.heap[bm]? = some (.map es ck)) (hF : MapF es ck l) (hl : LastE es sn x v) :
    (Instr.entry (.pointer (some ⟨r, 0, none⟩))).run P w = .ok (.tuple #[.int .i64 x, .int .i64 v]) w := by
  obtain ⟨s, e, rfl, he, hk, hv⟩ := hl
  have := run_entry_at (P := P) w r bm ck s es ck e hr hb he hF.nd
  rwa [hk, hv] at this
/-- The keys of a kind. -/
def keysK (l : IL) (k : Int) : List Int := (l.filter fun p => p.2 == k).map (·.1)
theorem keysK_yes {l : IL} {x v k : Int} (h : (v == k) = true) : keysK l k ++ [x] = keysK (l ++ [(x, v)]) k := by simp [keysK, h]
theorem keysK_no {l : IL} {x v k : Int} (h : (v == k) = false) : keysK l k = keysK (l ++ [(x, v)]) k := by simp [keysK, h]
theorem keysK_len (l : IL) (k : Int) : (keysK l k).length ≤ l.length := by unfold keysK; rw [List.length_map]; exact List.length_filter_le _ _
theorem keysK_perm {l l' : IL} (h : l.Perm l') (k : Int) : (keysK l k).Perm (keysK l' k) := (h.filter _).map _
end Go.Proofs.Ytlfahohbkgdabaa
