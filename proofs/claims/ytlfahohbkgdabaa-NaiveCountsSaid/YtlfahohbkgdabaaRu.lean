/- Range over a map with colors (u32) as keys: in any order, each entry once. -/
import Derived.Test.YtlfahohbkgdabaaRo
import Derived.Test.YtlfahohbkgdabaaMu
set_option linter.unusedVariables false
set_option linter.unusedSimpArgs false
namespace Go.Proofs.Ytlfahohbkgdabaa
open Go Go.RowKit
variable {P : Program} {dfs : List Deferred} {n : Nat} {w0 : World} {L : List (Tmp × Value)} {T : List Ent} {Q : Exit → Act → World → Prop}

def enc2U (p : Int × Int) : Value × Value := (.int .u32 p.1, .int .i64 p.2)
structure MapFU (es : Array MapEntry) (ck : Nat) (l : IL) : Prop where
  kv : es.toList.map kvOf = l.map enc2U
  lt : ∀ e ∈ es.toList, e.born < ck
  nd : (es.toList.map (·.born)).Nodup
theorem cont_openMapU {K : Act → World → Prop} (i : Nat) {b : Nat} {l : IL} (hi : T[i]? = some (.gen (mapRU b (imsV l)))) (h : ∀ (es : Array MapEntry) (ck : Nat), MapFU es ck l → Cont dfs K n w0 L (T.set i (roObjE b (.map es ck)))) : Cont dfs K n w0 L T := by
  intro a w ha hf hT
  have hk : MapAtU w b (imsV l) := hT.ok i _ hi
  obtain ⟨es, ck, h1, h2, h3, h4⟩ := hk.here
  refine h es ck ⟨?_, h3, h4⟩ a w ha hf (hT.swapRo hi rfl rfl rfl (fun k hk => hk) h1)
  show es.toList.map (fun e => (e.key, e.val)) = _
  rw [h2]
  unfold imsV
  rw [List.map_map]; rfl
/-- What the loop has had, and what is left. -/
structure IterPU (es : Array MapEntry) (l : IL) (sn : Array Nat) (dn : IL) : Prop where
  left : ∃ lf : IL, (leftOf es sn).toList.map kvOf = lf.map enc2U ∧ (dn ++ lf).Perm l
theorem IterPU.start {es : Array MapEntry} {ck : Nat} {l : IL} (h : MapFU es ck l) : IterPU es l #[] [] :=
  ⟨l, by rw [← h.kv, show (leftOf es #[]).toList = es.toList by simp only [leftOf, Array.toList_filter]; exact List.filter_eq_self.2 (fun _ _ => by simp)], List.Perm.refl _⟩
theorem IterPU.done {es : Array MapEntry} {l : IL} {sn : Array Nat} {dn : IL} (h : IterPU es l sn dn) (h0 : (leftOf es sn).size = 0) : dn.Perm l := by
  obtain ⟨lf, h1, h2⟩ := h.left
  have h3 := congrArg List.length h1
  simp only [List.length_map, Array.length_toList] at h3
  have : lf = [] := List.length_eq_zero_iff.1 (by omega)
  subst this
  simpa using h2
theorem IterPU.len {es : Array MapEntry} {l : IL} {sn : Array Nat} {dn : IL} (h : IterPU es l sn dn) : dn.length ≤ l.length := by
  obtain ⟨lf, h1, h2⟩ := h.left
  have := h2.length_eq
  rw [List.length_append] at this
  omega
theorem IterPU.step {es : Array MapEntry} {ck : Nat} {l : IL} {sn : Array Nat} {dn : IL} (hF : MapFU es ck l) (h : IterPU es l sn dn) {e : MapEntry} (he : e ∈ (leftOf es sn).toList) :
    ∃ p : Int × Int, e.key = .int .u32 p.1 ∧ e.val = .int .i64 p.2 ∧ p ∈ l ∧ IterPU es l (sn.push e.born) (dn ++ [p]) := by
  obtain ⟨lf, h1, h2⟩ := h.left
  have hsub : ((leftOf es sn).toList.map (·.born)).Nodup := by
    refine List.Nodup.sublist (List.Sublist.map _ ?_) hF.nd
    simp only [leftOf, Array.toList_filter]
    exact List.filter_sublist
  obtain ⟨A, B, e1, e2⟩ := strike_born hsub he
  rw [e1, List.map_append, List.map_cons] at h1
  obtain ⟨a, r, rfl, ha, hr⟩ := List.map_eq_append_iff.1 h1.symm
  obtain ⟨p, b, rfl, hp, hb⟩ := List.map_eq_cons_iff.1 hr
  have hp' : enc2U p = kvOf e := hp
  refine ⟨p, (congrArg Prod.fst hp').symm, (congrArg Prod.snd hp').symm, h2.mem_iff.1 (by simp), ⟨a ++ b, ?_, ?_⟩⟩
  · rw [leftOf_push, e2, List.map_append, List.map_append, ha, hb]
  · refine List.Perm.trans ?_ h2
    rw [List.append_assoc]
    exact (List.perm_append_left_iff dn).2 (by simpa using List.perm_middle.symm)
/-- The entry that came last. -/
def LastEU (es : Array MapEntry) (sn : Array Nat) (x v : Int) : Prop := ∃ (s : Array Nat) (e : MapEntry), sn = s.push e.born ∧ e ∈ es.toList ∧ e.key = .int .u32 x ∧ e.val = .int .i64 v
theorem sem_rangeU {ops : Array Oper} {i : Nat} {K : Act → World → Prop} (d : Tmp) {m bm ck : Nat} {es : Array MapEntry} {t k e : TypeId} (H : opS ops n i L = some (some d, valS (Instr.range t (.map (some bm))))) (ht : P.underlying t = some (.map k e)) (hb : T[m]? = some (roObjE bm (.map es ck)))
    (hk : ∀ r : Nat, Cont dfs K n w0 ((d, .pointer (some ⟨r, 0, none⟩)) :: L) (objE r (.mapIter (some bm) ck #[] ck) :: T)) : Cont dfs (wpOp P ops Q i K) n w0 L T :=
  sem_stepW d _ (α := Nat) (fun r => .pointer (some ⟨r, 0, none⟩)) (fun r => objE r (.mapIter (some bm) ck #[] ck) :: T) (fun _ => True) H
    (fun w hT => ⟨w.heap.size, _, run_range_map w t k e bm es ck ht (hT.ok m _ hb), trivial, hT.allocObj _⟩) (fun r _ => hk r)
theorem sem_nextU {ops : Array Oper} {i : Nat} {K : Act → World → Prop} (d : Tmp) {j m r bm ck : Nat} {es : Array MapEntry} {sn : Array Nat} {l dn : IL} {ty : TypeId} (H : opS ops n i L = some (some d, valS (Instr.next (.pointer (some ⟨r, 0, none⟩)) false ty)))
    (hr : T[j]? = some (objE r (.mapIter (some bm) ck sn ck))) (hb : T[m]? = some (roObjE bm (.map es ck))) (hF : MapFU es ck l) (hP : IterPU es l sn dn)
    (h0 : dn.Perm l → Cont dfs K n w0 ((d, .tuple #[.bool false]) :: L) T)
    (h1 : ∀ (x v : Int) (sn' : Array Nat), (x, v) ∈ l → IterPU es l sn' (dn ++ [(x, v)]) → LastEU es sn' x v → Cont dfs K n w0 ((d, .tuple #[.bool true, .int .u32 x, .int .i64 v]) :: L) (T.set j (objE r (.mapIter (some bm) ck sn' ck)))) : Cont dfs (wpOp P ops Q i K) n w0 L T := by
  intro a w ha hf hT
  obtain ⟨o, ho, hdst, hd, hw, he⟩ := opS_core H hf
  have hr' : w.heap[r]? = some (.mapIter (some bm) ck sn ck) := hT.ok j _ hr
  have hb' : w.heap[bm]? = some (.map es ck) := hT.ok m _ hb
  unfold wpOp
  simp only [ho, hw, if_true]
  refine .inl ?_
  unfold Oper.wp
  rcases run_next_at (P := P) w ty r bm ck ck sn es ck hr' hb' hF.lt (Nat.le_refl _) with ⟨hz, hrun⟩ | ⟨e, he', w1, hw1, hrun⟩
  · rw [he, valS_run hrun]
    show K (a.put o.dst _) w
    rw [hdst]
    exact h0 (hP.done hz) _ _ (by rw [put_defers]; exact ha) (frok_putD hf hd) hT
  · obtain ⟨⟨x, v⟩, hk, hv, hm, hP'⟩ := hP.step hF he'
    rw [he, valS_run hrun, hk, hv]
    show K (a.put o.dst _) _
    rw [hdst]
    have hmem : e ∈ es.toList := by
      simp only [leftOf, Array.toList_filter] at he'
      exact (List.mem_filter.1 he').1
    refine h1 x v _ hm hP' ⟨sn, e, rfl, hmem, hk, hv⟩ _ _ (by rw [put_defers]; exact ha) (frok_putD hf hd) ?_
    rcases hw1 with rfl | rfl
    · exact hT.putObj hr _
    · exact hT.drew.putObj hr _
theorem run_entryLU {w : World} {r bm ck : Nat} {es : Array MapEntry} {sn : Array Nat} {l : IL} {x v : Int} (hr : w.heap[r]? = some (.mapIter (some bm) ck sn ck)) (hb : w.heap[bm]? = some (.map es ck)) (hF : MapFU es ck l) (hl : LastEU es sn x v) :
    (Instr.entry (.pointer (some ⟨r, 0, none⟩))).run P w = .ok (.tuple #[.int .u32 x, .int .i64 v]) w := by
  obtain ⟨s, e, rfl, he, hk, hv⟩ := hl
  have := run_entry_at (P := P) w r bm ck s es ck e hr hb he hF.nd
  rwa [hk, hv] at this
theorem run_lookupIU {w : World} {b : Nat} {l : IL} (h : MapAtU w b (imsV l)) {t kt et : TypeId} {kf : IntKind} (ht : P.underlying t = some (.map kt et)) (hk : P.underlying kt = some (.int kf)) (hz : (P.info? et).map (·.zero) = some (some (.int .i64 0))) (x : Int) :
    (Instr.lookup t (.map (some b)) (.int .u32 x) false).run P w = .ok (.int .i64 (kindL l x)) w := by
  rw [run_lookupU h ht hk hz, mget_imsV]
  unfold kindL
  cases iget l x <;> rfl
theorem run_updateIU {w0 w : World} {T : List Ent} (hT : Tab w0 w T) {i b : Nat} {l : IL} {own : Bool} (hi : T[i]? = some (.gen (mapEU b (imsV l) own))) {t kt et : TypeId} {kf : IntKind} (ht : P.underlying t = some (.map kt et)) (hk : P.underlying kt = some (.int kf)) (x u : Int) :
    ∃ (y : Unit) (w' : World), (Instr.mapUpdate t (.map (some b)) (.int .u32 x) (.int .i64 u)).run P w = .ok () w' ∧ True ∧ Tab w0 w' (T.set i (.gen (mapEU b (imsV (iput l x u)) own))) := by
  rw [← mput_imsV]
  exact run_updateU hT hi ht hk x _
theorem run_deleteIU {w0 w : World} {T : List Ent} (hT : Tab w0 w T) {i b : Nat} {l : IL} {own : Bool} (hi : T[i]? = some (.gen (mapEU b (imsV l) own))) {t kt et ty : TypeId} {ts : Array TypeId} {kf : IntKind} (hts : ts[0]? = some t) (ht : P.underlying t = some (.map kt et)) (hk : P.underlying kt = some (.int kf)) (x : Int) :
    ∃ (y : Unit) (w' : World), (∃ v, (Builtin.delete_ ts ty #[.map (some b), .int .u32 x]).run P w = .ok v w') ∧ True ∧ Tab w0 w' (T.set i (.gen (mapEU b (imsV (idel l x)) own))) := by
  rw [← mdel_imsV]
  exact run_deleteU hT hi hts ht hk x
theorem run_lenIU {w : World} {b : Nat} {l : IL} (h : MapAtU w b (imsV l)) {t kt et ty : TypeId} {ts : Array TypeId} (hts : ts[0]? = some t) (ht : P.underlying t = some (.map kt et)) : (Builtin.len_ ts ty #[.map (some b)]).run P w = .ok (.int .i64 (l.length : Int)) w := by
  rw [run_len_mapU h hts ht, imsV_length]
end Go.Proofs.Ytlfahohbkgdabaa
