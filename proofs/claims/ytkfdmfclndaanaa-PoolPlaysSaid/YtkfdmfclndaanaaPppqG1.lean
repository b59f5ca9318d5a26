/- Texts of this proof's own, put together: what each holds is told ahead of it. -/
import Derived.Test.YtkfdmfclndaanaaPppqG0
import Derived.Maps.AppendAt
import Derived.Laws.CopyRow
import Derived.Test.YtkfdmfclndaanaaProg
import Derived.Laws.BytesString
import Derived.Shelf.Sort.Plain
import Derived.Shelf.Slices.In.SortNone
import Derived.Lib.SlicesCompact
import Derived.Lib.SliceRun
import Derived.RangeFuncSeq
import Derived.Maps.RangeRun
import Derived.Test.YtkfdmfclndaanaaRows
import Derived.ProofKit
import Derived.OpenShut
import Derived.Carry
import Derived.ChangeSame
import Derived.ChangeSlices
import Derived.Deep.Slices
import Derived.Deep.Fields
import Derived.Lib.SmallJoins
set_option linter.unusedSimpArgs false
set_option linter.unusedVariables false
namespace Go.Proofs.Ytkfdmfclndaanaa
open Go Go.RowKit
abbrev MS := List (Int × Value)
def mget : MS → Int → Option Value
  | [], _ => none
  | (k, v) :: r, x => if x = k then some v else mget r x
def mput : MS → Int → Value → MS
  | [], x, u => [(x, u)]
  | (k, v) :: r, x, u => if x = k then (x, u) :: r else (k, v) :: mput r x u
def mdel : MS → Int → MS
  | [], _ => []
  | (k, v) :: r, x => if x = k then r else (k, v) :: mdel r x
structure MapAt (w : World) (b : Nat) (ms : MS) : Prop where
  here : ∃ es clock, w.heap[b]? = some (.map es clock) ∧ es.toList.map (fun e => (e.key, e.val)) = ms.map (fun p => (Value.int .i64 p.1, p.2)) ∧ (∀ e ∈ es.toList, e.born < clock) ∧ (es.toList.map (·.born)).Nodup
def mapE (b : Nat) (ms : MS) (own : Bool) : GenEnt :=
  { blk := fun k => k = b, wr := true, own := own, ok := fun w => MapAt w b ms,
    stable := fun w w' hb h => by
      obtain ⟨es, c, h1, h2⟩ := h.here
      exact ⟨es, c, (hb b rfl).trans h1, h2⟩,
    inb := fun w k h hk => by
      obtain ⟨es, c, h1, h2⟩ := h.here
      rw [hk]
      exact (Array.getElem?_eq_some_iff.1 h1).1 }
section
variable {P : Program}
theorem findNow_ms {kf : IntKind} (x : Int) : ∀ (es : List MapEntry) (ms : MS) (i : Nat), es.map (fun e => (e.key, e.val)) = ms.map (fun p => (Value.int .i64 p.1, p.2)) →
    ∃ r, Instr.findNow (.int kf) (.int .i64 x) es i = some r ∧ r.map (·.2) = mget ms x ∧ (∀ j v, r = some (j, v) → i ≤ j ∧ j - i < es.length ∧ (∃ p, ms[j - i]? = some p ∧ p.1 = x) ∧ ∀ l, l < j - i → ∀ p, ms[l]? = some p → p.1 ≠ x) := by
  intro es
  induction es with
  | nil =>
    intro ms i h
    cases ms with
    | nil => exact ⟨none, rfl, rfl, fun j v hj => by cases hj⟩
    | cons p r => simp at h
  | cons e es ih =>
    intro ms i h
    cases ms with
    | nil => simp at h
    | cons p r =>
      obtain ⟨k, v⟩ := p
      simp only [List.map_cons, List.cons.injEq, Prod.mk.injEq] at h
      obtain ⟨⟨hk, hv⟩, hr⟩ := h
      by_cases hx : x = k
      · subst hx
        refine ⟨some (i, e.val), ?_, ?_, ?_⟩
        · simp [Instr.findNow, hk, Instr.sameNow]
        · simp [mget, hv]
        · intro j u hj
          simp only [Option.some.injEq, Prod.mk.injEq] at hj
          obtain ⟨rfl, rfl⟩ := hj
          refine ⟨Nat.le_refl _, by simp, ⟨_, by simp; rfl, rfl⟩, fun l hl => by omega⟩
      · obtain ⟨q, h1, h2, h3⟩ := ih r (i + 1) hr
        refine ⟨q, ?_, ?_, ?_⟩
        · have : (x == k) = false := by simpa using hx
          simp [Instr.findNow, hk, Instr.sameNow, this, h1]
        · simp [mget, hx, h2]
        · intro j u hj
          obtain ⟨a1, a2, ⟨p, hp, hpx⟩, a3⟩ := h3 j u hj
          refine ⟨by omega, by simp; omega, ⟨p, ?_, hpx⟩, ?_⟩
          · rw [show j - i = (j - (i + 1)) + 1 by omega]; simpa using hp
          · intro l hl p' hp'
            cases l with
            | zero => simp at hp'; subst hp'; exact fun h => hx h.symm
            | succ l => exact a3 l (by omega) p' (by simpa using hp')
theorem checkKey_intN {t : TypeId} {kf : IntKind} (hu : P.underlying t = some (.int kf)) (b : Bool) (x : Int) (n : Nat) (w : World) : (Instr.checkKey b (n + 1) t (.int .i64 x)).run P w = .ok () w := by
  simp [Instr.checkKey, run_underlying hu]
theorem checkKey_int {t : TypeId} {kf : IntKind} (hu : P.underlying t = some (.int kf)) (b : Bool) (x : Int) (w : World) : (Instr.checkKey b 10000 t (.int .i64 x)).run P w = .ok () w := checkKey_intN hu b x 9999 w
theorem getMap {w : World} {b : Nat} {es : Array MapEntry} {c : Nat} (h : w.heap[b]? = some (.map es c)) : (getObj b).run P w = .ok (.map es c) w := by
  simp [getObj, Sem.run, h]
theorem findKey_run {t : TypeId} {kf : IntKind} (hu : P.underlying t = some (.int kf)) {x : Int} {es : List MapEntry} {r : Option (Nat × Value)} (h : Instr.findNow (.int kf) (.int .i64 x) es 0 = some r) (w : World) : (Instr.findKey t (.int .i64 x) es).run P w = .ok r w := by
  simp [Instr.findKey, Sem.run_bind, run_underlying hu, h]
theorem run_lookup {w : World} {b : Nat} {ms : MS} (h : MapAt w b ms) {t kt et : TypeId} {kf : IntKind} {z : Value} (ht : P.underlying t = some (.map kt et)) (hk : P.underlying kt = some (.int kf)) (hz : (P.info? et).map (·.zero) = some (some z)) (x : Int) :
    (Instr.lookup t (.map (some b)) (.int .i64 x) false).run P w = .ok ((mget ms x).getD z) w := by
  obtain ⟨es, c, h1, h2, h3, h4⟩ := h.here
  obtain ⟨r, hr, hg, _⟩ := findNow_ms (kf := kf) x es.toList ms 0 h2
  obtain ⟨i, hi, hiz⟩ := Option.map_eq_some_iff.1 hz
  have hzv : (zeroValue et).run P w = .ok z w := by simp [zeroValue, Sem.run_bind, typeInfo, hi, hiz]
  simp only [Instr.lookup, Sem.run_bind, run_underlying ht, Result.andThen_ok, getMap h1, Sem.run_pure, checkKey_int hk, findKey_run hk hr]
  rw [← hg]
  cases r with
  | none => simp [hzv]
  | some p => simp
theorem mput_at {x : Int} {u : Value} : ∀ (ms : MS) (j : Nat) (p : Int × Value), ms[j]? = some p → p.1 = x → (∀ l, l < j → ∀ q, ms[l]? = some q → q.1 ≠ x) → mput ms x u = ms.set j (x, u) := by
  intro ms
  induction ms with
  | nil => intro j p h; simp at h
  | cons q r ih =>
    intro j p h hp hl
    obtain ⟨k, v⟩ := q
    cases j with
    | zero =>
      simp at h; subst h
      simp only at hp
      subst hp
      simp [mput]
    | succ j =>
      have hk : x ≠ k := fun e => hl 0 (by omega) (k, v) (by simp) e.symm
      simp only [mput, if_neg hk, List.set_cons_succ]
      rw [ih j p (by simpa using h) hp (fun l hlj q hq => hl (l + 1) (by omega) q (by simpa using hq))]
theorem mput_new {x : Int} {u : Value} : ∀ (ms : MS), mget ms x = none → mput ms x u = ms ++ [(x, u)] := by
  intro ms
  induction ms with
  | nil => intro _; rfl
  | cons q r ih =>
    intro h
    obtain ⟨k, v⟩ := q
    by_cases hk : x = k
    · simp [mget, hk] at h
    · simp only [mget, if_neg hk] at h
      simp only [mput, if_neg hk, ih h]; rfl
theorem mdel_at {x : Int} : ∀ (ms : MS) (j : Nat) (p : Int × Value), ms[j]? = some p → p.1 = x → (∀ l, l < j → ∀ q, ms[l]? = some q → q.1 ≠ x) → mdel ms x = ms.eraseIdx j := by
  intro ms
  induction ms with
  | nil => intro j p h; simp at h
  | cons q r ih =>
    intro j p h hp hl
    obtain ⟨k, v⟩ := q
    cases j with
    | zero =>
      simp at h; subst h
      simp only at hp
      subst hp
      simp [mdel]
    | succ j =>
      have hk : x ≠ k := fun e => hl 0 (by omega) (k, v) (by simp) e.symm
      simp only [mdel, if_neg hk, List.eraseIdx_cons_succ]
      rw [ih j p (by simpa using h) hp (fun l hlj q hq => hl (l + 1) (by omega) q (by simpa using hq))]
theorem mdel_none {x : Int} : ∀ (ms : MS), mget ms x = none → mdel ms x = ms := by
  intro ms
  induction ms with
  | nil => intro _; rfl
  | cons q r ih =>
    intro h
    obtain ⟨k, v⟩ := q
    by_cases hk : x = k
    · simp [mget, hk] at h
    · simp only [mget, if_neg hk] at h
      simp only [mdel, if_neg hk, ih h]
theorem map_erase {α β : Type} (f : α → β) : ∀ (l : List α) (j : Nat), (l.eraseIdx j).map f = (l.map f).eraseIdx j := by
  intro l
  induction l with
  | nil => intro j; simp
  | cons a r ih =>
    intro j
    cases j with
    | zero => rfl
    | succ j => simp only [List.eraseIdx_cons_succ, List.map_cons, ih]
def World.setO (w : World) (b : Nat) (o : Obj) : World := { w with heap := w.heap.setIfInBounds b o }
theorem setO_run {w : World} {b : Nat} {es : Array MapEntry} {c : Nat} (h : w.heap[b]? = some (.map es c)) (o : Obj) : (setObj b o).run P w = .ok () (World.setO w b o) := by
  simp [setObj, Sem.run, h, World.setO]
theorem Tab.setMap {w0 w : World} {T : List Ent} (hT : Tab w0 w T) {i b : Nat} {ms ms' : MS} {own : Bool} (hi : T[i]? = some (.gen (mapE b ms own))) {es : Array MapEntry} {c : Nat}
    (h2 : es.toList.map (fun e => (e.key, e.val)) = ms'.map (fun p => (Value.int .i64 p.1, p.2))) (h3 : ∀ e ∈ es.toList, e.born < c) (h4 : (es.toList.map (·.born)).Nodup) : Tab w0 (World.setO w b (.map es c)) (T.set i (.gen (mapE b ms' own))) := by
  have hb : b < w.heap.size := (mapE b ms own).inb w b (hT.ok i _ hi) rfl
  refine hT.replace (e := .gen (mapE b ms own)) (e' := .gen (mapE b ms' own)) hi rfl rfl id (fun k hk => .inl hk) (fun k _ hk _ => hk) rfl rfl rfl (by simp [World.setO]) (fun k hk hne => ?_) ?_
  · simp only [World.setO]
    rw [Array.getElem?_setIfInBounds_ne (fun e => hne e.symm)]
  · exact ⟨es, c, by simp [World.setO, hb], h2, h3, h4⟩
theorem run_update {w0 w : World} {T : List Ent} (hT : Tab w0 w T) {i b : Nat} {ms : MS} {own : Bool} (hi : T[i]? = some (.gen (mapE b ms own))) {t kt et : TypeId} {kf : IntKind} (ht : P.underlying t = some (.map kt et)) (hk : P.underlying kt = some (.int kf)) (x : Int) (u : Value) :
    ∃ (y : Unit) (w' : World), (Instr.mapUpdate t (.map (some b)) (.int .i64 x) u).run P w = .ok () w' ∧ True ∧ Tab w0 w' (T.set i (.gen (mapE b (mput ms x u) own))) := by
  have hm : MapAt w b ms := hT.ok i _ hi
  obtain ⟨es, c, h1, h2, h3, h4⟩ := hm.here
  obtain ⟨r, hr, hg, hj⟩ := findNow_ms (kf := kf) x es.toList ms 0 h2
  have hlen : es.toList.length = ms.length := by have := congrArg List.length h2; simpa using this
  cases r with
  | none =>
    refine ⟨(), World.setO w b (.map (es.push { key := .int .i64 x, val := u, born := c }) (c + 1)), ?_, trivial, ?_⟩
    · simp only [Instr.mapUpdate, Sem.run_bind, run_underlying ht, Result.andThen_ok, getMap h1, checkKey_int hk, findKey_run hk hr]
      exact setO_run h1 _
    · refine hT.setMap hi ?_ ?_ ?_
      · rw [mput_new ms (by rw [← hg]; rfl)]
        simp [h2]
      · intro e he
        simp only [Array.toList_push, List.mem_append, List.mem_singleton] at he
        rcases he with he | rfl
        · have := h3 e he; omega
        · simp
      · simp only [Array.toList_push, List.map_append, List.map_cons, List.map_nil]
        refine List.nodup_append.2 ⟨h4, by simp, fun a ha b hb => ?_⟩
        simp only [List.mem_singleton] at hb
        subst hb
        obtain ⟨e, he, rfl⟩ := List.mem_map.1 ha
        have := h3 e he
        omega
  | some p =>
    obtain ⟨j, v⟩ := p
    obtain ⟨_, hjl, ⟨q, hq, hqx⟩, hno⟩ := hj j v rfl
    simp only [Nat.sub_zero] at hjl hq hno
    have hes : es[j]? = some es[j] := Array.getElem?_eq_getElem (by simpa using hjl)
    have hkey : es[j].key = .int .i64 x := by
      have := congrArg (fun l => l[j]?) h2
      simp only [List.getElem?_map, hq, Option.map_some] at this
      rw [Array.getElem?_toList, hes] at this
      simp only [Option.map_some, Option.some.injEq, Prod.mk.injEq] at this
      rw [this.1, hqx]
    have hstay : (Instr.keyThatStays (.int .i64 x) (.int .i64 x)).run P w = .ok (.int .i64 x) w := by
      simp [Instr.keyThatStays, Instr.sameBits]
    refine ⟨(), World.setO w b (.map (es.modify j fun e => { e with key := .int .i64 x, val := u }) c), ?_, trivial, ?_⟩
    · simp only [Instr.mapUpdate, Sem.run_bind, run_underlying ht, Result.andThen_ok, getMap h1, checkKey_int hk, findKey_run hk hr, hes, Option.map_some, Option.getD_some, hkey, hstay]
      exact setO_run h1 _
    · have hmod : (es.modify j fun e => { e with key := .int .i64 x, val := u }).toList = es.toList.set j { es[j] with key := .int .i64 x, val := u } := by
        apply List.ext_getElem?
        intro l
        rw [Array.getElem?_toList, Array.getElem?_modify, List.getElem?_set]
        by_cases hl : j = l
        · subst hl
          have hjl' : j < es.size := by simpa using hjl
          simp [hes, hjl']
        · simp [hl]
      refine hT.setMap hi ?_ ?_ ?_
      · rw [hmod, mput_at ms j q hq hqx hno, List.map_set, h2, List.map_set]
      · intro e he
        rw [hmod] at he
        rcases List.mem_or_eq_of_mem_set he with he | rfl
        · exact h3 e he
        · exact h3 es[j] (by simp)
      · rw [hmod, List.map_set]
        have : (es.toList.map (·.born)).set j ({ es[j] with key := Value.int .i64 x, val := u } : MapEntry).born = es.toList.map (·.born) := by
          apply List.ext_getElem?
          intro l
          rw [List.getElem?_set]
          by_cases hl : j = l
          · subst hl
            have hjl' : j < es.size := by simpa using hjl
            simp [hes, hjl']
          · simp [hl]
        rw [this]; exact h4
theorem run_delete {w0 w : World} {T : List Ent} (hT : Tab w0 w T) {i b : Nat} {ms : MS} {own : Bool} (hi : T[i]? = some (.gen (mapE b ms own))) {t kt et ty : TypeId} {ts : Array TypeId} {kf : IntKind} (hts : ts[0]? = some t) (ht : P.underlying t = some (.map kt et)) (hk : P.underlying kt = some (.int kf)) (x : Int) :
    ∃ (y : Unit) (w' : World), (∃ v, (Builtin.delete_ ts ty #[.map (some b), .int .i64 x]).run P w = .ok v w') ∧ True ∧ Tab w0 w' (T.set i (.gen (mapE b (mdel ms x) own))) := by
  have hm : MapAt w b ms := hT.ok i _ hi
  obtain ⟨es, c, h1, h2, h3, h4⟩ := hm.here
  obtain ⟨r, hr, hg, hj⟩ := findNow_ms (kf := kf) x es.toList ms 0 h2
  cases r with
  | none =>
    refine ⟨(), World.setO w b (.map es c), ⟨.tuple #[], ?_⟩, trivial, ?_⟩
    · simp only [Builtin.delete_, hts, Sem.run_bind, run_underlying ht, Result.andThen_ok, getMap h1, checkKey_int hk, findKey_run hk hr]
      simp [Sem.run_bind, run_underlying ht, getMap h1, checkKey_int hk, findKey_run hk hr, setO_run h1]
    · rw [mdel_none ms (by rw [← hg]; rfl)]
      exact hT.setMap hi h2 h3 h4
  | some p =>
    obtain ⟨j, v⟩ := p
    obtain ⟨_, hjl, ⟨q, hq, hqx⟩, hno⟩ := hj j v rfl
    simp only [Nat.sub_zero] at hjl hq hno
    refine ⟨(), World.setO w b (.map (es.eraseIdxIfInBounds j) c), ⟨.tuple #[], ?_⟩, trivial, ?_⟩
    · simp only [Builtin.delete_, hts, Sem.run_bind, run_underlying ht, Result.andThen_ok, getMap h1, checkKey_int hk, findKey_run hk hr]
      simp [Sem.run_bind, run_underlying ht, getMap h1, checkKey_int hk, findKey_run hk hr, setO_run h1]
    · have her : (es.eraseIdxIfInBounds j).toList = es.toList.eraseIdx j := by
        have hj' : j < es.size := by simpa using hjl
        simp [Array.eraseIdxIfInBounds, hj']
      refine hT.setMap hi ?_ ?_ ?_
      · rw [her, mdel_at ms j q hq hqx hno]
        rw [map_erase, map_erase, h2]
      · intro e he
        rw [her] at he
        exact h3 e (List.mem_of_mem_eraseIdx he)
      · rw [her, map_erase]
        exact h4.sublist (List.eraseIdx_sublist _ _)
theorem run_makeMap' {w0 w : World} {T : List Ent} (hT : Tab w0 w T) (t : TypeId) : ∃ (b : Nat) (w' : World), (Instr.makeMap t none).run P w = .ok (.map (some b)) w' ∧ True ∧ Tab w0 w' (.gen (mapE b [] true) :: T) := by
  refine ⟨w.heap.size, w.alloc (.map #[] 0), ?_, trivial, ?_⟩
  · rfl
  · refine hT.push (e := .gen (mapE w.heap.size [] true)) rfl rfl rfl (by simp) (fun k hk => Below.heap_alloc w _ k hk) ⟨#[], 0, ?_, rfl, (fun e he => by simp at he), by simp⟩ (fun k hk => by rw [show k = w.heap.size from hk]; exact Nat.le_refl _)
    rw [heap_alloc_new]
end
end Go.Proofs.Ytkfdmfclndaanaa
namespace Go.Proofs.Ytkfdmfclndaanaa
open Go Go.RowKit
structure Vw (e e0 : Ent) : Prop where
  ok : ∀ w, e.ok w → e0.ok w
  blk : ∀ w, e.ok w → ∀ k, e0.blk k → e.blk k
  wr : e0.wr = true → e.wr = true
  own : e0.own = false
structure Mg (e e1 e' : Ent) : Prop where
  ok : ∀ w, e1.ok w → e'.ok w
  blk1 : ∀ k, e1.blk k → e'.blk k
  blk2 : ∀ k, e'.blk k ↔ e.blk k
  own : e'.own = true → e.own = true
  wr : e1.wr = true ∧ e'.wr = true ∧ e.wr = true
inductive VwL (T : List Ent) : List Nat → List Ent → Prop
  | nil : VwL T [] []
  | cons {i : Nat} {s : List Nat} {e e0 : Ent} {T0 : List Ent} : T[i]? = some e → Vw e e0 → VwL T s T0 → VwL T (i :: s) (e0 :: T0)
theorem VwL.get {T : List Ent} {s : List Nat} {T0 : List Ent} (h : VwL T s T0) : ∀ (j : Nat) (e0 : Ent), T0[j]? = some e0 → ∃ i e, s[j]? = some i ∧ T[i]? = some e ∧ Vw e e0 := by
  induction h with
  | nil => intro j e0 h; simp at h
  | cons hi hv _ ih =>
    intro j e0 hj
    cases j with
    | zero => simp at hj; subst hj; exact ⟨_, _, rfl, hi, hv⟩
    | succ j => simpa using ih j e0 (by simpa using hj)
theorem nodup_ne {s : List Nat} (h : s.Nodup) {i j a b : Nat} (hij : i ≠ j) (hi : s[i]? = some a) (hj : s[j]? = some b) : a ≠ b := by
  intro hab
  subst hab
  have h1 := List.getElem?_eq_some_iff.1 hi
  have h2 := List.getElem?_eq_some_iff.1 hj
  obtain ⟨l1, e1⟩ := h1
  obtain ⟨l2, e2⟩ := h2
  exact hij ((List.getElem_inj h).1 (e1.trans e2.symm))
theorem Tab.view {w0 w : World} {T : List Ent} (hT : Tab w0 w T) {s : List Nat} {T0 : List Ent} (h : VwL T s T0) (hn : s.Nodup) : Tab w w T0 := by
  refine ⟨rfl, rfl, rfl, Nat.le_refl _, ?_, fun _ _ _ => rfl, ?_, ?_⟩
  · intro i e0 hi
    obtain ⟨j, e, _, he, hv⟩ := h.get i e0 hi
    exact hv.ok w (hT.ok j e he)
  · intro i e0 hi ho
    obtain ⟨j, e, _, he, hv⟩ := h.get i e0 hi
    rw [hv.own] at ho; cases ho
  · intro i j e0 e0' hij hi hj hw k hk hk'
    obtain ⟨a, e, ha, he, hv⟩ := h.get i e0 hi
    obtain ⟨b, e', hb, he', hv'⟩ := h.get j e0' hj
    exact hT.disj a b e e' (nodup_ne hn hij ha hb) he he' (hw.imp hv.wr hv'.wr) k (hv.blk w (hT.ok a e he) k hk) (hv'.blk w (hT.ok b e' he') k hk')
def allRo : List Ent → Bool
  | [] => true
  | e :: r => !e.wr && allRo r
theorem allRo_get : ∀ {N : List Ent}, allRo N = true → ∀ (i : Nat) (e : Ent), N[i]? = some e → e.wr = false := by
  intro N
  induction N with
  | nil => intro _ i e h; simp at h
  | cons x r ih =>
    intro h i e hi
    simp only [allRo, Bool.and_eq_true, Bool.not_eq_true'] at h
    cases i with
    | zero => simp at hi; subst hi; exact h.1
    | succ i => exact ih h.2 i e (by simpa using hi)
theorem Tab.viewRo {w0 w : World} {T : List Ent} (hT : Tab w0 w T) {s : List Nat} {T0 : List Ent} (h : VwL T s T0) (hn : allRo T0 = true) : Tab w w T0 := by
  refine ⟨rfl, rfl, rfl, Nat.le_refl _, ?_, fun _ _ _ => rfl, ?_, ?_⟩
  · intro i e0 hi
    obtain ⟨j, e, _, he, hv⟩ := h.get i e0 hi
    exact hv.ok w (hT.ok j e he)
  · intro i e0 hi ho
    obtain ⟨j, e, _, he, hv⟩ := h.get i e0 hi
    rw [hv.own] at ho; cases ho
  · intro i j e0 e0' hij hi hj hw
    rw [allRo_get hn i e0 hi, allRo_get hn j e0' hj] at hw
    rcases hw with h | h <;> cases h
theorem Vw.ro {b : Nat} {cs : List Value} {t : TypeId} : Vw (.ro b cs t) (.ro b cs t) := ⟨fun _ h => h, fun _ _ _ h => h, id, rfl⟩
theorem Vw.roc {b : Nat} {cs : List Value} {t : TypeId} {o : Bool} : Vw (.cells b cs t o) (.ro b cs t) := ⟨fun _ h => h, fun _ _ _ h => h, fun _ => rfl, rfl⟩
theorem Vw.rd {A : Option Addr} {g o n sz : Nat} {vals : List Value} : Vw (.gen (rdE A g o n sz vals)) (.gen (rdE A g o n sz vals)) := ⟨fun _ h => h, fun _ _ _ h => h, id, rfl⟩
theorem Vw.rowRd {A : Option Addr} {g n cap sz : Nat} {e : TypeId} {vals : List Value} {o : Bool} : Vw (.gen (rowE A g n cap e sz vals o)) (.gen (rdE A g 0 n sz vals)) :=
  ⟨fun _ h => Row.rd h, fun w hr k h => by
    obtain ⟨h1, h2⟩ := h
    refine ⟨h1, fun hA => ?_⟩
    have hr : Row w A g n cap e sz vals := hr
    have h0 : n = 0 := by
      rcases Nat.eq_zero_or_pos n with h | h
      · exact h
      · have := hr.at_ h; rw [hA] at this; cases this
    have := hr.rd.len
    rw [h0] at this
    exact h2 (List.length_eq_zero_iff.1 (by omega)), fun _ => rfl, rfl⟩
theorem Vw.row {A : Option Addr} {g n cap sz : Nat} {e : TypeId} {vals : List Value} {o : Bool} : Vw (.gen (rowE A g n cap e sz vals o)) (.gen (rowE A g n cap e sz vals false)) := ⟨fun _ h => h, fun _ _ _ h => h, fun _ => rfl, rfl⟩
def mapR (b : Nat) (ms : MS) : GenEnt := { mapE b ms false with wr := false }
theorem Vw.mapRE {b : Nat} {ms : MS} {o : Bool} : Vw (.gen (mapE b ms o)) (.gen (Go.Proofs.Ytkfdmfclndaanaa.mapR b ms)) := ⟨fun _ h => h, fun _ _ _ h => h, fun _ => rfl, rfl⟩
theorem Mg.row {A : Option Addr} {g n cap sz n' cap' : Nat} {e : TypeId} {vals vals' : List Value} {o : Bool} : Mg (.gen (rowE A g n cap e sz vals o)) (.gen (rowE A g n' cap' e sz vals' false)) (.gen (rowE A g n' cap' e sz vals' o)) := ⟨fun _ h => h, fun _ h => h, fun _ => Iff.rfl, id, rfl, rfl, rfl⟩
inductive MgL (T : List Ent) : List Nat → List Ent → List Ent → Prop
  | nil : MgL T [] [] T
  | skip {i : Nat} {s : List Nat} {e1 : Ent} {O T2 : List Ent} : e1.wr = false → MgL T s O T2 → MgL T (i :: s) (e1 :: O) T2
  | cons {i : Nat} {s : List Nat} {e e1 e' : Ent} {O T2 : List Ent} : T[i]? = some e → Mg e e1 e' → MgL T s O T2 → MgL T (i :: s) (e1 :: O) (T2.set i e')
theorem MgL.get {T : List Ent} {s : List Nat} {O T2 : List Ent} (h : MgL T s O T2) : (T2.length = T.length) ∧ (∀ (j : Nat) (e1 : Ent), O[j]? = some e1 → e1.wr = true → ∃ i e e', s[j]? = some i ∧ T[i]? = some e ∧ Mg e e1 e') ∧
    (∀ (i : Nat) (e' : Ent), T2[i]? = some e' → (∃ (j : Nat) (e1 e : Ent), s[j]? = some i ∧ O[j]? = some e1 ∧ e1.wr = true ∧ T[i]? = some e ∧ Mg e e1 e') ∨ (T[i]? = some e' ∧ ∀ (j : Nat) (e1 : Ent), s[j]? = some i → O[j]? = some e1 → e1.wr = false)) := by
  induction h with
  | nil => exact ⟨rfl, fun j e1 h => by simp at h, fun i e' h => .inr ⟨h, fun j e1 hj => by simp at hj⟩⟩
  | skip hw _ ih =>
    obtain ⟨h1, h2, h3⟩ := ih
    refine ⟨h1, ?_, ?_⟩
    · intro j e1 hj hw1
      cases j with
      | zero => simp at hj; subst hj; rw [hw] at hw1; cases hw1
      | succ j => simpa using h2 j e1 (by simpa using hj) hw1
    · intro i e' hi
      rcases h3 i e' hi with ⟨j, e1, e, a, b, c, d⟩ | ⟨a, b⟩
      · exact .inl ⟨j + 1, e1, e, by simpa using a, by simpa using b, c, d⟩
      · refine .inr ⟨a, fun j e1 hj ho => ?_⟩
        cases j with
        | zero => simp at ho; subst ho; exact hw
        | succ j => exact b j e1 (by simpa using hj) (by simpa using ho)
  | @cons i0 s0 e0 e1' e'0 O0 T20 hi0 hm _ ih =>
    obtain ⟨h1, h2, h3⟩ := ih
    refine ⟨by simpa using h1, ?_, ?_⟩
    · intro j e1 hj hw1
      cases j with
      | zero => simp at hj; subst hj; exact ⟨i0, e0, e'0, rfl, hi0, hm⟩
      | succ j => simpa using h2 j e1 (by simpa using hj) hw1
    · intro i e' hi
      by_cases hii : i0 = i
      · subst hii
        have hlt : i0 < T20.length := by
          rw [h1]
          exact (List.getElem?_eq_some_iff.1 hi0).1
        rw [List.getElem?_set_self hlt] at hi
        cases hi
        exact .inl ⟨0, e1', e0, rfl, rfl, hm.wr.1, hi0, hm⟩
      · rw [List.getElem?_set_ne hii] at hi
        rcases h3 i e' hi with ⟨j, e1, e, a, b, c, d⟩ | ⟨a, b⟩
        · exact .inl ⟨j + 1, e1, e, by simpa using a, by simpa using b, c, d⟩
        · refine .inr ⟨a, fun j e1 hj ho => ?_⟩
          cases j with
          | zero => simp at hj; exact absurd hj hii
          | succ j => exact b j e1 (by simpa using hj) (by simpa using ho)
theorem app_get {α : Type} (N O : List α) {i : Nat} {x : α} (h : (N ++ O)[i]? = some x) : (i < N.length ∧ N[i]? = some x) ∨ (N.length ≤ i ∧ O[i - N.length]? = some x) := by
  by_cases hi : i < N.length
  · rw [List.getElem?_append_left hi] at h; exact .inl ⟨hi, h⟩
  · rw [List.getElem?_append_right (by omega)] at h; exact .inr ⟨by omega, h⟩
theorem Tab.merge {w0 w w' : World} {T : List Ent} (hT : Tab w0 w T) {N O T2 : List Ent} {s : List Nat} (h1 : Tab w w' (N ++ O)) (hM : MgL T s O T2) (hn : s.Nodup) (hN : ∀ (i : Nat) (e : Ent), N[i]? = some e → e.own = true) : Tab w0 w' (N ++ T2) := by
  obtain ⟨hlen, hO, hT2⟩ := hM.get
  have oldO : ∀ (j : Nat) (e1 : Ent), O[j]? = some e1 → (N ++ O)[N.length + j]? = some e1 := fun j e1 h => by
    rw [List.getElem?_append_right (by omega)]; rw [show N.length + j - N.length = j by omega]; exact h
  have oldN : ∀ (j : Nat) (e1 : Ent), N[j]? = some e1 → (N ++ O)[j]? = some e1 := fun j e1 h => by
    rw [List.getElem?_append_left (List.getElem?_eq_some_iff.1 h).1]; exact h
  have newb : ∀ (j : Nat) (e1 : Ent), N[j]? = some e1 → ∀ k, e1.blk k → w.heap.size ≤ k := fun j e1 h => h1.own j e1 (oldN j e1 h) (hN j e1 h)
  have key : ∀ (i : Nat) (e' : Ent), T2[i]? = some e' → ∃ e, T[i]? = some e ∧ (∀ k, e'.blk k ↔ e.blk k) ∧ (e'.wr = e.wr) ∧ (e'.own = true → e.own = true) ∧ e'.ok w' := by
    intro i e' hi
    rcases hT2 i e' hi with ⟨j, e1, e, hs, ho, hw, ht, hm⟩ | ⟨ht, hno⟩
    · exact ⟨e, ht, hm.blk2, hm.wr.2.1.trans hm.wr.2.2.symm, hm.own, hm.ok w' (h1.ok _ _ (oldO j e1 ho))⟩
    · refine ⟨e', ht, fun _ => Iff.rfl, rfl, id, e'.stable w w' (fun k hk => ?_) (hT.ok i e' ht)⟩
      have hlt := e'.inb w k (hT.ok i e' ht) hk
      refine h1.frame k hlt (fun q x hx hw hb => ?_)
      rcases app_get N O hx with ⟨_, hx⟩ | ⟨_, hx⟩
      · have := newb q x hx k hb; omega
      · obtain ⟨i2, e, e2, hs, ht2, hm⟩ := hO _ x hx hw
        have hne : i2 ≠ i := fun h => by
          subst h
          rw [hno _ x hs hx] at hw; cases hw
        exact hT.disj i2 i e e' hne ht2 ht (.inl hm.wr.2.2) k ((hm.blk2 k).1 (hm.blk1 k hb)) hk
  have back : ∀ (i : Nat) (e : Ent), T[i]? = some e → ∃ e', T2[i]? = some e' ∧ (∀ k, e'.blk k ↔ e.blk k) ∧ e'.wr = e.wr := by
    intro i e hi
    have hl : i < T2.length := by rw [hlen]; exact (List.getElem?_eq_some_iff.1 hi).1
    obtain ⟨e2, h2, h3, h4, _⟩ := key i _ (List.getElem?_eq_getElem hl)
    rw [hi] at h2; cases h2
    exact ⟨_, List.getElem?_eq_getElem hl, h3, h4⟩
  refine ⟨h1.os.trans hT.os, h1.tape.trans hT.tape, h1.output.trans hT.output, Nat.le_trans hT.size h1.size, ?_, ?_, ?_, ?_⟩
  · intro i e hi
    rcases app_get N T2 hi with ⟨_, hi⟩ | ⟨_, hi⟩
    · exact h1.ok i e (oldN i e hi)
    · obtain ⟨_, _, _, _, _, h⟩ := key _ e hi; exact h
  · intro k hk hno
    have hk' : k < w.heap.size := Nat.lt_of_lt_of_le hk hT.size
    have hT2no : ∀ (i : Nat) (e : Ent), T[i]? = some e → e.wr = true → ¬ e.blk k := by
      intro i e hi hw hb
      obtain ⟨e', h2, h3, h4⟩ := back i e hi
      refine hno (N.length + i) e' ?_ (h4.trans hw) ((h3 k).2 hb)
      rw [List.getElem?_append_right (by omega), show N.length + i - N.length = i by omega]; exact h2
    refine (h1.frame k hk' (fun q x hx hw hb => ?_)).trans (hT.frame k hk hT2no)
    rcases app_get N O hx with ⟨_, hx⟩ | ⟨_, hx⟩
    · have := newb q x hx k hb; omega
    · obtain ⟨i2, e, e2, hs, ht2, hm⟩ := hO _ x hx hw
      exact hT2no i2 e ht2 hm.wr.2.2 ((hm.blk2 k).1 (hm.blk1 k hb))
  · intro i e hi ho k hk
    rcases app_get N T2 hi with ⟨_, hi⟩ | ⟨_, hi⟩
    · exact Nat.le_trans hT.size (newb i e hi k hk)
    · obtain ⟨e0, h2, h3, _, h5, _⟩ := key _ e hi
      exact hT.own _ e0 h2 (h5 ho) k ((h3 k).1 hk)
  · intro i j e e' hij hi hj hw k hk hk'
    rcases app_get N T2 hi with ⟨hli, hi⟩ | ⟨hli, hi⟩ <;> rcases app_get N T2 hj with ⟨hlj, hj⟩ | ⟨hlj, hj⟩
    · exact h1.disj i j e e' hij (oldN i e hi) (oldN j e' hj) hw k hk hk'
    · obtain ⟨e0, h2, h3, _⟩ := key _ e' hj
      have := newb i e hi k hk
      have := e0.inb w k (hT.ok _ e0 h2) ((h3 k).1 hk')
      omega
    · obtain ⟨e0, h2, h3, _⟩ := key _ e hi
      have := newb j e' hj k hk'
      have := e0.inb w k (hT.ok _ e0 h2) ((h3 k).1 hk)
      omega
    · obtain ⟨e0, h2, h3, h4, _⟩ := key _ e hi
      obtain ⟨f0, g2, g3, g4, _⟩ := key _ e' hj
      exact hT.disj _ _ e0 f0 (by omega) h2 g2 (hw.imp (fun h => h4.symm.trans h) (fun h => g4.symm.trans h)) k ((h3 k).1 hk) ((g3 k).1 hk')
def allOwn : List Ent → Bool
  | [] => true
  | e :: r => e.own && allOwn r
theorem allOwn_get : ∀ {N : List Ent}, allOwn N = true → ∀ (i : Nat) (e : Ent), N[i]? = some e → e.own = true := by
  intro N
  induction N with
  | nil => intro _ i e h; simp at h
  | cons x r ih =>
    intro h i e hi
    simp only [allOwn, Bool.and_eq_true] at h
    cases i with
    | zero => simp at hi; subst hi; exact h.1
    | succ i => exact ih h.2 i e (by simpa using hi)
theorem Tab.news {w0 w w' : World} {T N : List Ent} (hT : Tab w0 w T) (h1 : Tab w w' N) (hN : allOwn N = true) : Tab w0 w' (N ++ T) :=
  hT.merge (O := []) (s := []) (by rw [List.append_nil]; exact h1) .nil List.nodup_nil (allOwn_get hN)
section
variable {dfs : List Deferred}
def dropOk : List Ent → Nat → List Nat → Bool
  | [], _, _ => true
  | e :: r, i, σ => (σ.contains i || !e.wr || e.own) && dropOk r (i + 1) σ
theorem dropOk_get : ∀ {T : List Ent} {i : Nat} {σ : List Nat}, dropOk T i σ = true → ∀ (j : Nat) (e : Ent), T[j]? = some e → i + j ∈ σ ∨ e.wr = false ∨ e.own = true := by
  intro T
  induction T with
  | nil => intro i σ _ j e h; simp at h
  | cons x r ih =>
    intro i σ h j e he
    simp only [dropOk, Bool.and_eq_true, Bool.or_eq_true, List.contains_iff_mem, Bool.not_eq_true'] at h
    cases j with
    | zero =>
      simp at he; subst he
      rcases h.1 with (h1 | h1) | h1
      · exact .inl (by simpa using h1)
      · exact .inr (.inl h1)
      · exact .inr (.inr h1)
    | succ j =>
      have := ih h.2 j e (by simpa using he)
      rwa [show i + 1 + j = i + (j + 1) by omega] at this
theorem Tab.pick {w0 w : World} {T T' : List Ent} (hT : Tab w0 w T) (σ : List Nat) (hn : σ.Nodup) (hm : T'.map some = σ.map fun i => T[i]?) (hd : dropOk T 0 σ = true) : Tab w0 w T' := by
  have key : ∀ (i : Nat) (e : Ent), T'[i]? = some e → ∃ j, σ[i]? = some j ∧ T[j]? = some e := by
    intro i e he
    have h1 : (T'.map some)[i]? = some (some e) := by rw [List.getElem?_map, he]; rfl
    rw [hm, List.getElem?_map] at h1
    cases hs : σ[i]? with
    | none => rw [hs] at h1; cases h1
    | some j => rw [hs] at h1; exact ⟨j, rfl, by simpa using h1⟩
  have back : ∀ (j : Nat) (e : Ent), T[j]? = some e → j ∈ σ → ∃ i : Nat, T'[i]? = some e := by
    intro j e he hj
    obtain ⟨i, hi, hij⟩ := List.mem_iff_getElem.1 hj
    have h1 : (T'.map some)[i]? = some (T[j]?) := by rw [hm, List.getElem?_map, List.getElem?_eq_getElem hi, hij]; rfl
    rw [List.getElem?_map] at h1
    cases ht : T'[i]? with
    | none => rw [ht] at h1; cases h1
    | some x => rw [ht, he] at h1; exact ⟨i, by rw [ht]; simpa using h1⟩
  refine ⟨hT.os, hT.tape, hT.output, hT.size, ?_, ?_, ?_, ?_⟩
  · intro i e he
    obtain ⟨j, _, h⟩ := key i e he
    exact hT.ok j e h
  · intro k hk hno
    refine hT.frame k hk (fun j e he hw hb => ?_)
    rcases dropOk_get hd j e he with h | h | h
    · rw [Nat.zero_add] at h
      obtain ⟨i, hi⟩ := back j e he h
      exact hno i e hi hw hb
    · rw [hw] at h; cases h
    · have := hT.own j e he h k hb; omega
  · intro i e he ho k hk
    obtain ⟨j, _, h⟩ := key i e he
    exact hT.own j e h ho k hk
  · intro i j e e' hij he he'
    obtain ⟨a, ha, h1⟩ := key i e he
    obtain ⟨b, hb, h2⟩ := key j e' he'
    exact hT.disj a b e e' (nodup_ne hn hij ha hb) h1 h2
theorem cont_pick {K : Act → World → Prop} {n : Nat} {w0 : World} {L : List (Nat × Value)} {T : List Ent} (σ : List Nat) (T' : List Ent) (hn : σ.Nodup) (hm : T'.map some = σ.map fun i => T[i]?) (hd : dropOk T 0 σ = true) (h : Cont dfs K n w0 L T') : Cont dfs K n w0 L T :=
  fun a w ha hf hT => h a w ha hf (hT.pick σ hn hm hd)
end
end Go.Proofs.Ytkfdmfclndaanaa
namespace Go.Proofs.Ytkfdmfclndaanaa
open Go Go.RowKit
variable {dfs : List Deferred}
section
variable {P : Program}
theorem cont_fact {K : Act → World → Prop} {n : Nat} {w0 : World} {L : List (Tmp × Value)} {T : List Ent} {F : Prop} (h : ∀ w, Tab w0 w T → F) (hk : F → Cont dfs K n w0 L T) : Cont dfs K n w0 L T :=
  fun a w ha hf hT => hk (h w hT) a w ha hf hT
theorem Tab.fresh {w0 w : World} {T : List Ent} (hT : Tab w0 w T) (e : Ent) (hok : e.ok w) (hb : ∀ k, ¬ e.blk k) : Tab w0 w (e :: T) :=
  hT.push rfl rfl rfl (Nat.le_refl _) (fun _ _ => rfl) hok (fun k hk => absurd hk (hb k))
theorem cont_nilrow {K : Act → World → Prop} {n : Nat} {w0 : World} {L : List (Tmp × Value)} {T : List Ent} (e : TypeId) (sz : Nat) (hk : Cont dfs K n w0 L (.gen (rowE none 0 0 0 e sz [] true) :: T)) : Cont dfs K n w0 L T :=
  fun a w ha hf hT => hk a w ha hf (hT.fresh _ (show Row w none 0 0 0 e sz [] from ⟨⟨by simp, .inl ⟨rfl, rfl⟩⟩, fun h => by omega, fun a ha => by cases ha⟩) (fun k hk => hk.2 rfl))
theorem Rd.ofCells {w : World} {b m sz : Nat} {cs vals : List Value} {e : TypeId} (h : w.heap[b]? = some (.cells cs.toArray e (0, 0))) (hv : cs = vals) (hl : cs.length = m * sz) : Rd w (some ⟨b, 0, none⟩) b 0 m sz vals := by
  subst hv
  refine ⟨hl, fun _ => rfl, fun j v hj => ?_⟩
  simp only [Nat.zero_add]
  simp [World.cell?, h, hj]
theorem ivals_append (k : IntKind) (xs ys : List Int) : ivals k xs ++ ivals k ys = ivals k (xs ++ ys) := by simp [ivals]
theorem ivals_one (k : IntKind) (xs : List Int) : ∀ u ∈ ivals k xs, u.oneCell' = true := by
  intro u hu
  obtain ⟨x, _, rfl⟩ := List.mem_map.1 hu
  rfl
theorem addr_add (b o j : Nat) : (⟨b, o, none⟩ : Addr).add j = ⟨b, o + j, none⟩ := by unfold Addr.add; split <;> simp_all
theorem append_own {w0 w : World} {T : List Ent} (hT : Tab w0 w T) {t ty e : TypeId} {A : Option Addr} {i g n cap sz bytes n' : Nat} {vals vals' news : List Value} {z : Value} (hi : T[i]? = some (.gen (rowE A g n cap e sz vals true)))
    (ht : P.underlying t = some (.slice e)) (hinf : (P.info? e).map (fun i => (i.zero, i.size, i.bytes)) = some (some z, sz, bytes)) (hzs : z.cells.size = sz) (hsz : 0 < sz) (hby : 0 < bytes)
    {SA : Option Addr} {sg so m sc : Nat} (hsrc : Rd w SA sg so m sz news) (h1 : ∀ u ∈ news, u.oneCell' = true) (hb : (n + m) * bytes ≤ 140737488355328) (hv : vals ++ news = vals') (hn' : n' = n + m) :
    ∃ (x : Option Addr × Nat × Nat) (w' : World), (Builtin.append_ #[t, t] ty #[.slice A n cap, .slice SA m sc]).run P w = .ok (.slice x.1 n' x.2.2) w' ∧ True ∧ Tab w0 w' (T.set i (.gen (rowE x.1 x.2.1 n' x.2.2 e sz vals' true))) := by
  subst hv hn'
  have hrow : Row w A g n cap e sz vals := hT.ok i _ hi
  obtain ⟨inf, hinf1, hinf2⟩ := Option.map_eq_some_iff.1 hinf
  simp only [Prod.mk.injEq] at hinf2
  obtain ⟨hz, hs, hbt⟩ := hinf2
  by_cases hm : m = 0
  · subst hm
    have hnil : news = [] := List.length_eq_zero_iff.1 (by have := hsrc.len; simpa using this)
    subst hnil
    refine ⟨(A, g, cap), w, ?_, trivial, ?_⟩
    · have hle : n ≤ cap := hrow.capLe
      cases A <;> cases SA <;> simp [Builtin.append_, run_underlying ht, sizeOf, typeInfo, hinf1, Builtin.lenOf, hle, Builtin.firstCells, storeCells, loadCells, loadCellsFrom]
    · simp only [List.append_nil, Nat.add_zero]
      have : T.set i (.gen (rowE A g n cap e sz vals true)) = T := by
        obtain ⟨hlt, he⟩ := List.getElem?_eq_some_iff.1 hi
        rw [← he]
        exact List.set_getElem_self hlt
      rw [this]; exact hT
  · have hSA := hsrc.at_ (by omega)
    subst hSA
    have hml : n + m ≤ maxLen := by
      have h2 : (n + m) * 1 ≤ (n + m) * bytes := Nat.mul_le_mul_left _ hby
      unfold maxLen; omega
    obtain ⟨v', w', hr, hown, hg, _, hat⟩ := run_append_own_at (P := P) w 0 t ty e inf z sz bytes ht hinf1 hz hs hbt hzs hsz (.slice A n cap) n vals hrow.own ⟨sg, so, none⟩ m sc news hsrc.len (fun j u hj => by rw [addr_add]; exact hsrc.cell j u hj) h1 hml hb (Nat.zero_le _)
    rcases hown.2 with ⟨hv0, h0⟩ | ⟨g', cap', cur, hv', _, hg', hle, hcm, hcs, htk⟩
    · omega
    · subst hv'
      refine ⟨(some ⟨g', 0, none⟩, g', cap'), w', hr, trivial, ?_⟩
      have hwhere : (k : Nat) → k = g' → (k = g ∧ A ≠ none) ∨ w.heap.size ≤ k := by
        intro k hk
        subst hk
        rcases hat with hat | hat
        · left
          cases A with
          | none => simp [Value.ownBlock] at hat
          | some a =>
            have := hrow.spot a rfl
            subst this
            simp [Value.ownBlock] at hat
            exact ⟨hat, by simp⟩
        · right
          simp [Value.ownBlock] at hat
          omega
      refine hT.replace (e := .gen (rowE A g n cap e sz vals true)) (e' := .gen (rowE (some ⟨g', 0, none⟩) g' (n + m) cap' e sz (vals ++ news) true)) hi rfl rfl id (fun k hk => hwhere k hk.1) (fun k _ hk hlt => ?_) hg.os hg.tape hg.output hg.size (fun k hk hne => ?_) ?_
      · have := hT.own i _ hi rfl k hk
        omega
      · refine hg.block k hk (fun hek => hne ?_)
        cases A with
        | none => simp [Value.ownBlock] at hek
        | some a =>
          have := hrow.spot a rfl
          subst this
          simp [Value.ownBlock] at hek
          exact ⟨hek, by simp⟩
      · exact ⟨hown, fun _ => rfl, fun a ha => by cases ha; rfl⟩
theorem copy_row {w0 w : World} {T : List Ent} (hT : Tab w0 w T) {dT sT ty e : TypeId} {i g n cap o dl dc : Nat} {k : IntKind} {xs ys : List Int} {own : Bool} {A SA : Option Addr} {sg so m sc : Nat} (hi : T[i]? = some (.gen (rowE (some ⟨g, 0, none⟩) g n cap e 1 (ivals k xs) own)))
    (hu : P.underlying dT = some (.slice e)) (hs : (P.info? e).map (·.size) = some 1) (hA : 0 < dl → A = some ⟨g, o, none⟩) (hfit : o + dl ≤ n) (hsrc : Rd w SA sg so m 1 (ivals k ys)) {xs' : List Int} (hx : xs.take o ++ ys.take (min m dl) ++ xs.drop (o + min m dl) = xs') :
    ∃ (x : Unit) (w' : World), (Builtin.copy_ #[dT, sT] ty #[.slice A dl dc, .slice SA m sc]).run P w = .ok (.int .i64 (min m dl : Nat)) w' ∧ True ∧ Tab w0 w' (T.set i (.gen (rowE (some ⟨g, 0, none⟩) g n cap e 1 (ivals k xs') own))) := by
  subst hx
  have hrow : Row w (some ⟨g, 0, none⟩) g n cap e 1 (ivals k xs) := hT.ok i _ hi
  have hxl : xs.length = n := by have := hrow.own.1; rw [ivals_length] at this; omega
  have hyl : ys.length = m := by have := hsrc.len; rw [ivals_length] at this; omega
  by_cases h0 : min m dl = 0
  · refine ⟨(), w, ?_, trivial, ?_⟩
    · rw [h0]
      exact run_copy_none (P := P) w dT sT ty e A SA dl dc m sc hu hs h0
    · rw [h0, List.take_zero, List.append_nil, Nat.add_zero, List.take_append_drop]
      have : T.set i (.gen (rowE (some ⟨g, 0, none⟩) g n cap e 1 (ivals k xs) own)) = T := by
        obtain ⟨hlt, he⟩ := List.getElem?_eq_some_iff.1 hi
        rw [← he]
        exact List.set_getElem_self hlt
      rw [this]; exact hT
  · have hd : 0 < dl := by omega
    have hm : 0 < m := by omega
    have hAA := hA hd
    have hSA := hsrc.at_ hm
    subst hAA hSA
    rcases hrow.own.2 with ⟨h, _⟩ | ⟨g', cap', cur, hv, _, hg, hle, hcm, hcs, htk⟩
    · cases h
    cases hv
    simp only [Nat.mul_one] at hcs htk
    have hcl : (ivals k (ys.take (min m dl))).length = Nat.min m dl := by rw [ivals_length, List.length_take]; simp only [Nat.min_def] at *; split <;> split <;> omega
    have hmin : Nat.min m dl = min m dl := rfl
    have hr := run_copy_row (P := P) w dT sT ty e g o dl dc ⟨sg, so, none⟩ m sc cur e (ivals k (ys.take (min m dl))) hu hs hg hcl (fun j v hj => by
      rw [addr_add]
      refine hsrc.cell j v ?_
      rw [← hj]
      have hjl : j < (ivals k (ys.take (min m dl))).length := (List.getElem?_eq_some_iff.1 hj).1
      rw [hcl, hmin] at hjl
      simp only [ivals, List.getElem?_map, List.getElem?_take, if_pos hjl]) (by rw [hcl, hmin]; omega) (ivals_one _ _)
    rw [hcl] at hr
    refine ⟨(), _, hr, trivial, ?_⟩
    have hsz : min m dl ≤ dl := Nat.min_le_right _ _
    refine hT.replace (e := .gen (rowE (some ⟨g, 0, none⟩) g n cap e 1 (ivals k xs) own)) (e' := .gen (rowE (some ⟨g, 0, none⟩) g n cap e 1 _ own)) hi rfl rfl id (fun k hk => .inl hk) (fun k _ hk _ => hk) rfl rfl rfl (by simp) (fun q hq hne => setRow_other w g q _ (fun he => hne ⟨he, by simp⟩)) ?_
    refine ⟨⟨?_, .inr ⟨g, cap, _, rfl, Nat.zero_le _, setRow_heap w g cur _ e _ hg, hle, hcm, ?_, ?_⟩⟩, fun _ => rfl, fun a ha => by cases ha; rfl⟩
    · rw [ivals_length]
      simp only [List.length_append, List.length_take, List.length_drop, hxl, hyl]
      omega
    · simp only [List.size_toArray, List.length_append, List.length_take, List.length_drop, Array.length_toList, hcl, hmin]
      omega
    · simp only [Nat.mul_one]
      rw [hmin]
      apply List.ext_getElem?
      intro j
      have htk' : ∀ j, j < n → cur.toList[j]? = (ivals k xs)[j]? := fun j hj => by rw [← htk, List.getElem?_take, if_pos hj]
      have e2 : ivals k (xs.take o ++ ys.take (min m dl) ++ xs.drop (o + min m dl)) = (ivals k xs).take o ++ ivals k (ys.take (min m dl)) ++ (ivals k xs).drop (o + min m dl) := by simp [ivals, List.map_take, List.map_drop]
      rw [e2]
      by_cases hjn : j < n
      · rw [List.getElem?_take, if_pos hjn]
        rw [List.getElem?_append, List.getElem?_append, List.getElem?_append, List.getElem?_append]
        have la : ((cur.toList.take o).length = o) := by simp; omega
        have lb : (((ivals k xs).take o).length = o) := by simp [ivals_length, hxl]; omega
        have lc : ((ivals k (ys.take (min m dl))).length = min m dl) := hcl
        simp only [List.length_append, la, lb, lc]
        split
        · split
          · rw [List.getElem?_take, List.getElem?_take, if_pos (by omega), if_pos (by omega)]
            exact htk' j hjn
          · rfl
        · rw [List.getElem?_drop, List.getElem?_drop]
          exact htk' _ (by omega)
      · rw [List.getElem?_take, if_neg hjn]
        symm
        apply List.getElem?_eq_none
        simp only [List.length_append, List.length_take, List.length_drop, ivals_length, hxl, hcl, hmin]
        omega
theorem Row.facts {w : World} {A : Option Addr} {g n cap : Nat} {e : TypeId} {k : IntKind} {xs : List Int} (h : Row w A g n cap e 1 (ivals k xs)) : (0 < n → A = some ⟨g, 0, none⟩) ∧ xs.length = n ∧ n ≤ cap ∧ cap ≤ maxLen := by
  refine ⟨h.at_, ?_, h.capLe, ?_⟩
  · have := h.own.1; rw [ivals_length] at this; omega
  · rcases h.own.2 with ⟨h1, _⟩ | ⟨g', cap', cur, hv, _, _, _, hm, _⟩
    · cases h1; unfold maxLen; omega
    · cases hv; exact hm
theorem Rd.flen {w : World} {A : Option Addr} {g o n : Nat} {k : IntKind} {xs : List Int} (h : Rd w A g o n 1 (ivals k xs)) : xs.length = n := by
  have := h.len; rw [ivals_length] at this; omega
theorem Rd.facts {w : World} {A : Option Addr} {g o n : Nat} {k : IntKind} {xs : List Int} (h : Rd w A g o n 1 (ivals k xs)) : (0 < n → A = some ⟨g, o, none⟩) ∧ xs.length = n := ⟨h.at_, h.flen⟩
theorem Rd.sub {w : World} {g o n cap : Nat} {k : IntKind} {xs : List Int} {A : Option Addr} (h : Rd w A g o n 1 (ivals k xs)) {J m : Nat} (hJ : J + m ≤ n) (hc : n ≤ cap) : Rd w (sliceA g o J cap 1) g (o + J * 1) m 1 (ivals k ((xs.drop J).take m)) := by
  have hl : xs.length = n := by have := h.len; rw [ivals_length] at this; omega
  refine ⟨by rw [ivals_length, List.length_take, List.length_drop]; omega, fun hm => sliceA_pos (by omega), fun j v hj => ?_⟩
  have hjm : j < m := by
    have := (List.getElem?_eq_some_iff.1 hj).1
    rw [ivals_length, List.length_take, List.length_drop] at this
    omega
  rw [show o + J * 1 + j = o + (J + j) by omega]
  refine h.cell (J + j) v ?_
  rw [← hj]
  simp only [ivals, List.getElem?_map, List.getElem?_take, if_pos hjm, List.getElem?_drop]
theorem Row.sub {w : World} {g n cap : Nat} {e : TypeId} {k : IntKind} {xs : List Int} {A : Option Addr} (h : Row w A g n cap e 1 (ivals k xs)) {J m : Nat} (hJ : J + m ≤ n) : Rd w (sliceA g 0 J cap 1) g (0 + J * 1) m 1 (ivals k ((xs.drop J).take m)) :=
  Rd.sub h.rd hJ h.capLe
end
theorem fI {K : Act → World → Prop} {n : Nat} {w0 : World} {L : List (Tmp × Value)} {T : List Ent} (i m : Nat) (A : Option Addr) (g c : Nat) (l : List Int) {e : TypeId} {k : IntKind} {own : Bool} (hi : T[i]? = some (.gen (rowE A g m c e 1 (ivals k l) own))) (hk : (0 < m → A = some ⟨g, 0, none⟩) → l.length = m → m ≤ c → c ≤ 2 ^ 63 - 1 → Cont dfs K n w0 L T) : Cont dfs K n w0 L T :=
  cont_fact (fun w hT => Row.facts (show Row w A g m c e 1 (ivals k l) from hT.ok i _ hi)) (fun h => hk h.1 h.2.1 h.2.2.1 h.2.2.2)
end Go.Proofs.Ytkfdmfclndaanaa
namespace Go.Proofs.Ytkfdmfclndaanaa
open Go Go.RowKit
def aroundI (n m : Int) : Int := (if n < 0 then 0 - (n + 1) else n) % m
theorem aroundI_range (n : Int) {m : Int} (h : 0 < m) : 0 ≤ aroundI n m ∧ aroundI n m < m := ⟨Int.emod_nonneg _ (by omega), Int.emod_lt_of_pos _ h⟩
def AllMay (px : List Int) : Prop := ∀ c ∈ px, mayB c = true ∧ InC c
theorem AllMay.rep (n : Nat) : AllMay (List.replicate n 0) := fun c hc => by rw [(List.mem_replicate.1 hc).2]; exact ⟨by decide, by decide, by decide⟩
theorem place_inv (i : Nat) {W : Int} (hW : 1 ≤ W) : (i : Int) / W * W + (i : Int) % W = i := by
  rw [Int.mul_comm]; exact Int.mul_ediv_add_emod _ _
theorem in_box {W H : Int} {n i : Nat} (hW : 1 ≤ W) (hn : (n : Int) = W * H) (hi : i < n) : hasB 0 0 W H ((i : Int) % W) ((i : Int) / W) = true := by
  have h1 := Int.emod_nonneg (i : Int) (show W ≠ 0 by omega)
  have h2 := Int.emod_lt_of_pos (i : Int) (show 0 < W by omega)
  have h3 := Int.ediv_nonneg (show 0 ≤ (i : Int) by omega) (show 0 ≤ W by omega)
  refine hasB_true.2 ⟨h1, h2, h3, ?_⟩
  exact Int.ediv_lt_of_lt_mul (by omega) (by rw [Int.mul_comm, ← hn]; omega)
theorem atC_at {W H : Int} {n i : Nat} (px : List Int) (hW : 1 ≤ W) (hn : (n : Int) = W * H) (hi : i < n) : atC W H px ((i : Int) % W) ((i : Int) / W) = px.getD i 0 := by
  unfold atC
  rw [in_box hW hn hi, if_pos rfl, place_inv i hW]
  rfl
end Go.Proofs.Ytkfdmfclndaanaa
namespace Go.Proofs.Ytkfdmfclndaanaa
open Go Go.RowKit
end Go.Proofs.Ytkfdmfclndaanaa
namespace Go.Proofs.Ytkfdmfclndaanaa
open Go Go.RowKit
set_option maxRecDepth 100000
set_option maxHeartbeats 8000000
theorem refAround (n m : Int) (w : World) (hn : -9223372036854775808 ≤ n ∧ n ≤ 9223372036854775807) (hm : 1 ≤ m ∧ m ≤ 9223372036854775807) :
    Calls Try.prog 8 #[iQ n, iQ m] w fun e w' => e = .returned (iQ (aroundI n m)) ∧ Below w.heap.size w w' := by
 refine eN [(0, iq n), (1, iq m)] Try.func8 Try.ntmps8 rfl (Tab.start w) ?_
 refine zSR 1 <| bD [0] 1 0 [] [4] <| zDNSSR 2 <| bD [0, 0] 2 0 [(6, .bool (decide (n < 0)))] [5] <| zDN <| sD 6 rfl (fun c1_ => ?_) fun c1_ => ?_
 ·
  refine cTr rfl <| cRg 4 rfl <| bD [0, 0] 2 2 [(8, iq (IntKind.i64.wrap (n + 1)))] [7] <| wI 8 (n + 1) <| bD [0] 3 1 [(9, iq (IntKind.i64.wrap (0 - (n + 1))))] [] <| wI 9 (0 - (n + 1)) <| bD [0] 4 0 [(0, iq (0 - (n + 1)))] [] <| zDNSR 4 <| bS [0, 0] 2 2 [(10, iq (0 - (n + 1))), (11, iq m)] <| pS 3 1 <| sS 12 (bopS .rem 3 (.tmp 10) (.tmp 11) (iq (0 - (n + 1))) (iq m)) (iq ((0 - (n + 1)).tmod m)) (fun w hT => run_rem (by omega) w) <| rC 12 (iq ((0 - (n + 1)) % m)) rfl (tmodI (by omega)) <| bS [0] 4 0 [(4, iq ((0 - (n + 1)) % m))] <| zDNr <| rA rfl 0 (iq ((0 - (n + 1)) % m)) fun w hT => ?_
  exact ⟨ret_int (by simp [aroundI, *]), hT.post rfl⟩
 refine zFKNSR 4 <| bS [0, 0] 2 2 [(10, iq n), (11, iq m)] <| pS 3 1 <| sS 12 (bopS .rem 3 (.tmp 10) (.tmp 11) (iq n) (iq m)) (iq (n.tmod m)) (fun w hT => run_rem (by omega) w) <| rC 12 (iq (n % m)) rfl (tmodI (by omega)) <| bS [0] 4 0 [(4, iq (n % m))] <| zDNr <| rA rfl 0 (iq (n % m)) fun w hT => ?_
 exact ⟨ret_int (by simp [aroundI, *]), hT.post rfl⟩
theorem refParts (c : Int) (w : World) (h0 : 0 ≤ c) (h1 : c < 4294967296) :
    Calls Try.prog 75 #[cQ c] w fun e w' => e = .returned (.agg #[iQ (pa c), iQ (pr c), iQ (pg c), iQ (pb c)]) ∧ Below w.heap.size w w' := by
 refine eN [(0, cQ c)] Try.func75 Try.ntmps75 rfl (Tab.start w) ?_
 refine zSR 1 <| bW [0] 1 0 (fun b1 => [(0, cQ c), (2, .pointer (pB b1))]) (fun b1 => [.cells b1 [iq 0, iq 0, iq 0, iq 0] 116 true]) [0, 2] fun b1 => ?_
 refine zDNSR 3 <| bD [0, 0] 2 1 [(5, iq (IntKind.i64.wrap c))] [4] <| wI 5 c <| bD [0] 3 0 [(3, iq c)] [] <| zDNSR 12 <| bD [0, 0] 2 10 [(7, iq (IntKind.i64.wrap (c.tdiv 16777216)))] [6] <| rC 7 (iq (c / 16777216)) rfl (tdivI (by omega) (by omega) (by omega)) <| bD [0, 0] 4 8 [(9, iq (IntKind.i64.wrap (c.tdiv 65536)))] [8] <| rC 9 (iq (c / 65536)) rfl (tdivI (by omega) (by omega) (by omega)) <| bD [0] 5 7 [(10, iq ((c / 65536).tmod 256))] [] <| rC 10 (iq ((c / 65536) % 256)) rfl (tmodI (by omega)) <| bD [0, 0] 7 5 [(12, iq (IntKind.i64.wrap (c.tdiv 256)))] [11] <| rC 12 (iq (c / 256)) rfl (tdivI (by omega) (by omega) (by omega)) <| bD [0] 8 4 [(13, iq ((c / 256).tmod 256))] [] <| rC 13 (iq ((c / 256) % 256)) rfl (tmodI (by omega)) <| bD [0, 0] 10 2 [(15, iq (c.tmod 256))] [14] <| rC 15 (iq (c % 256)) rfl (tmodI (by omega)) <| bZ [0, 0] 12 0 [(2, .pointer (pB b1))] [.cells b1 [iq (c / 16777216), iq ((c / 65536) % 256), iq ((c / 256) % 256), iq (c % 256)] 116 true] <| zDNr <| rA rfl 0 (.agg #[iq (c / 16777216), iq ((c / 65536) % 256), iq ((c / 256) % 256), iq (c % 256)]) fun w hT => ?_
 exact ⟨rfl, hT.post rfl⟩
theorem refMake (a r g b : Int) (w : World) :
    Calls Try.prog 61 #[iQ a, iQ r, iQ g, iQ b] w fun e w' => e = .returned (cQ (mkC a r g b)) ∧ Below w.heap.size w w' := by
 have ha : 0 ≤ mn (mx a 0) 255 ∧ mn (mx a 0) 255 ≤ 255 := by unfold mn mx; omega
 have hr : 0 ≤ mn (mx r 0) 255 ∧ mn (mx r 0) 255 ≤ 255 := by unfold mn mx; omega
 have hg : 0 ≤ mn (mx g 0) 255 ∧ mn (mx g 0) 255 ≤ 255 := by unfold mn mx; omega
 have hb : 0 ≤ mn (mx b 0) 255 ∧ mn (mx b 0) 255 ≤ 255 := by unfold mn mx; omega
 refine eN [(0, iq a), (1, iq r), (2, iq g), (3, iq b)] Try.func61 Try.ntmps61 rfl (Tab.start w) ?_
 refine zSR 1 <| bD [0] 1 0 [] [8] <| zDNSR 4 <| bD [0, 0, 0, 0] 4 0 [(0, iq (mn (mx a 0) 255))] [9, 10, 11] <| zDNSR 4 <| bD [0, 0, 0, 0] 4 0 [(1, iq (mn (mx r 0) 255))] [12, 13, 14] <| zDNSR 4 <| bD [0, 0, 0, 0] 4 0 [(2, iq (mn (mx g 0) 255))] [15, 16, 17] <| zDNSR 4 <| bD [0, 0, 0, 0] 4 0 [(3, iq (mn (mx b 0) 255))] [18, 19, 20] <| zDNSR 12 <| bD [0, 0] 2 10 [(22, iq (IntKind.i64.wrap ((mn (mx a 0) 255) * 16777216)))] [21] <| wI 22 ((mn (mx a 0) 255) * 16777216) <| bD [0, 0] 4 8 [(24, iq (IntKind.i64.wrap ((mn (mx r 0) 255) * 65536)))] [23] <| wI 24 ((mn (mx r 0) 255) * 65536) <| bD [0] 5 7 [(25, iq (IntKind.i64.wrap (((mn (mx a 0) 255) * 16777216) + ((mn (mx r 0) 255) * 65536))))] [] <| wI 25 (((mn (mx a 0) 255) * 16777216) + ((mn (mx r 0) 255) * 65536)) <| bD [0, 0] 7 5 [(27, iq (IntKind.i64.wrap ((mn (mx g 0) 255) * 256)))] [26] <| wI 27 ((mn (mx g 0) 255) * 256) <| bD [0] 8 4 [(28, iq (IntKind.i64.wrap ((((mn (mx a 0) 255) * 16777216) + ((mn (mx r 0) 255) * 65536)) + ((mn (mx g 0) 255) * 256))))] [] <| wI 28 ((((mn (mx a 0) 255) * 16777216) + ((mn (mx r 0) 255) * 65536)) + ((mn (mx g 0) 255) * 256)) <| bS [0, 0] 10 2 [(30, iq (IntKind.i64.wrap (((((mn (mx a 0) 255) * 16777216) + ((mn (mx r 0) 255) * 65536)) + ((mn (mx g 0) 255) * 256)) + (mn (mx b 0) 255))))] <| wI 30 (((((mn (mx a 0) 255) * 16777216) + ((mn (mx r 0) 255) * 65536)) + ((mn (mx g 0) 255) * 256)) + (mn (mx b 0) 255)) <| bS [0] 11 1 [(31, cQ (IntKind.u32.wrap (((((mn (mx a 0) 255) * 16777216) + ((mn (mx r 0) 255) * 65536)) + ((mn (mx g 0) 255) * 256)) + (mn (mx b 0) 255))))] <| wU 31 (((((mn (mx a 0) 255) * 16777216) + ((mn (mx r 0) 255) * 65536)) + ((mn (mx g 0) 255) * 256)) + (mn (mx b 0) 255)) <| bS [0] 12 0 [(8, cQ (((((mn (mx a 0) 255) * 16777216) + ((mn (mx r 0) 255) * 65536)) + ((mn (mx g 0) 255) * 256)) + (mn (mx b 0) 255)))] <| zDNr <| rA rfl 0 (cQ (((((mn (mx a 0) 255) * 16777216) + ((mn (mx r 0) 255) * 65536)) + ((mn (mx g 0) 255) * 256)) + (mn (mx b 0) 255))) fun w hT => ?_
 exact ⟨ret_int (by simp only [mkC, clip, mx_eq, mn_eq]), hT.post rfl⟩
theorem refNew4 (W H : Int) (w : World) (hwh : 1 ≤ W ∧ W ≤ 256 ∧ 1 ≤ H ∧ H ≤ 256) :
    Calls Try.prog 47 #[iQ W, iQ H] w fun e w' => ∃ r n : Nat, e = .returned (.agg #[iQ W, iQ H, sL r n n]) ∧ (n : Int) = W * H ∧ Tab w w' [oE r n n 48 1 (cV (List.replicate n 0))] := by
 have hm : W * H ≤ 256 * 256 := mul_le_of (by omega) (by omega) (by omega) (by omega)
 have hm0 : 0 ≤ W * H := Int.mul_nonneg (by omega) (by omega)
 obtain ⟨n, hn⟩ : ∃ n : Nat, (n : Int) = W * H := ⟨(W * H).toNat, by omega⟩
 refine eN [(0, iq W), (1, iq H)] Try.func47 Try.ntmps47 rfl (Tab.start w) ?_
 refine zSR 1 <| bW [0] 1 0 (fun b1 => [(0, iq W), (1, iq H), (4, .pointer (pB b1))]) (fun b1 => [.cells b1 [iq 0, iq 0, .slice none 0 0] 92 true]) [0, 1, 4] fun b1 => ?_
 refine zDNSR 8 <| bD [0, 0, 0, 0, 0] 5 3 [(5, iq W), (6, iq H), (9, iq (IntKind.i64.wrap (W * H)))] [7, 8] <| rC 9 (iq (n : Int)) rfl (by rw [hn]; exact wrapI (by omega) (by omega)) <| pS 6 2 <| sSW 10 (Instr.makeSlice 79 (iq (n : Int)) (iq (n : Int))) (fun r2 => .slice (pB r2) n n) (fun r2 => [.gen (rowE (pB r2) r2 n n 48 1 (cV (List.replicate n 0)) true), .cells b1 [iq 0, iq 0, .slice none 0 0] 92 true]) (fun _ => True) (by kernel_rfl) (fun w hT => make_row hT (bytes := 4) n (by kernel_rfl) (by kernel_rfl) (by omega) (by omega)) (fun r2 _ => ?_)
 refine bZ [0, 1] 8 0 [(4, .pointer (pB b1))] [.gen (rowE (pB r2) r2 n n 48 1 (cV (List.replicate n 0)) true), .cells b1 [iq W, iq H, .slice (pB r2) n n] 92 true] <| zDNr <| rA rfl 1 (.agg #[iq W, iq H, .slice (pB r2) n n]) fun w hT => ?_
 replace hT := hT.erase 1 (fun e h hw => by cases h; first | rfl | cases hw)
 exact ⟨_, _, rfl, hn, hT⟩
theorem refBox (W H : Int) (s : Value) (w : World) :
    Calls Try.prog 37 #[.agg #[iQ W, iQ H, s]] w fun e w' => e = .returned (.agg #[iQ 0, iQ 0, iQ W, iQ H]) ∧ Below w.heap.size w w' := by
 refine eN [(0, .agg #[iq W, iq H, s])] Try.func37 Try.ntmps37 rfl (Tab.start w) ?_
 refine zSR 2 <| batch2 [0, 0] 2 0 (fun b1 b2 => [(1, .pointer (pB b1)), (2, .pointer (pB b2))]) (fun b1 b2 => [.cells b2 [iq 0, iq 0, iq 0, iq 0] 37 true, .cells b1 [iq W, iq H, s] 92 true]) rfl rfl [1, 2] (fun _ _ => rfl) (fun b1 b2 => by kernel_rfl) (fun b1 b2 => by kernel_rfl) (fun b1 b2 => ?_)
 refine zDNSR 6 <| bZ [0, 1, 0, 1, 0, 0] 6 0 [(2, .pointer (pB b2))] [.cells b2 [iq 0, iq 0, iq W, iq H] 37 true, .cells b1 [iq W, iq H, s] 92 true] <| fG 1 <| zDNr <| rA rfl 0 (.agg #[iq 0, iq 0, iq W, iq H]) fun w hT => ?_
 exact ⟨rfl, hT.post rfl⟩
theorem refMay (c : Int) (w : World) (h0 : 0 ≤ c) (h1 : c < 4294967296) :
    Calls Try.prog 62 #[cQ c] w fun e w' => e = .returned (.bool (mayB c)) ∧ Below w.heap.size w w' := by
 refine eN [(0, cQ c)] Try.func62 Try.ntmps62 rfl (Tab.start w) ?_
 refine zSR 1 <| bD [0] 1 0 [] [2] <| zDNSR 4 <| bS [0] 1 3 [(4, cQ c)] <| pS 2 2 <| cP 5 (.agg #[iq (pa c), iq (pr c), iq (pg c), iq (pb c)]) (fun w hT => refParts c w (by omega) (by omega)) <| bW [0, 0] 4 0 (fun b1 => [(3, .pointer (pB b1))]) (fun b1 => [.cells b1 [iq (pa c), iq (pr c), iq (pg c), iq (pb c)] 116 true]) [3] fun b1 => ?_
 refine zDNSR 20 <| bD [0, 0, 0, 0, 0, 0] 6 14 [(11, .bool (decide ((pr c) ≤ (pa c))))] [6, 7, 8, 9, 10] <| sD 11 rfl (fun c2_ => ?_) fun c2_ => ?_
 ·
  refine bD [0, 0, 0, 0, 0, 0, 0] 13 7 [(18, .bool (decide ((pg c) ≤ (pa c))))] [12, 13, 14, 15, 16, 17] <| sD 18 rfl (fun c3_ => ?_) fun c3_ => ?_
  ·
   refine bS [0, 0, 0, 0, 0, 0, 0] 20 0 [(2, .bool (decide ((pb c) ≤ (pa c))))] <| fG 0 <| zDNr <| rA rfl 0 (.bool (decide ((pb c) ≤ (pa c)))) fun w hT => ?_
   exact ⟨ret_bool (by simp [mayB, *] <;> omega), hT.post rfl⟩
  refine bS [0, 0, 0, 0, 0, 0, 0] 20 0 [(2, .bool false)] <| fG 0 <| zDNr <| rA rfl 0 (.bool false) fun w hT => ?_
  exact ⟨ret_bool (by simp [mayB, *] <;> omega), hT.post rfl⟩
 refine bS [0, 0, 0, 0, 0, 0, 0, 0, 0, 0, 0, 0, 0, 0] 20 0 [(2, .bool false)] <| fG 0 <| zDNr <| rA rfl 0 (.bool false) fun w hT => ?_
 exact ⟨ret_bool (by simp [mayB, *] <;> omega), hT.post rfl⟩
end Go.Proofs.Ytkfdmfclndaanaa
namespace Go.Proofs.Ytkfdmfclndaanaa
open Go Go.RowKit
section
variable {P : Program}
end
end Go.Proofs.Ytkfdmfclndaanaa
namespace Go.Proofs.Ytkfdmfclndaanaa
open Go Go.RowKit
def insB (W H a b c d : Int) : Bool := !emptyB a b c d && coversB 0 0 W H a b c d
theorem insB_true {W H a b c d : Int} (h : insB W H a b c d = true) : a < c ∧ b < d ∧ 0 ≤ a ∧ 0 ≤ b ∧ c ≤ W ∧ d ≤ H := by
  unfold insB coversB at h
  rw [Bool.and_eq_true, Bool.not_eq_true'] at h
  obtain ⟨h1, h2⟩ := h
  have he := emptyB_false.1 h1
  rw [h1] at h2
  simp only [Bool.false_or, Bool.and_eq_true, decide_eq_true_eq] at h2
  omega
end Go.Proofs.Ytkfdmfclndaanaa
namespace Go.Proofs.Ytkfdmfclndaanaa
open Go Go.RowKit
set_option maxRecDepth 100000
set_option maxHeartbeats 8000000
theorem refEmpty (a b c d : Int) (w : World) :
    Calls Try.prog 59 #[.agg #[iQ a, iQ b, iQ c, iQ d]] w fun e w' => e = .returned (.bool (emptyB a b c d)) ∧ Below w.heap.size w w' := by
 refine eN [(0, .agg #[iq a, iq b, iq c, iq d])] Try.func59 Try.ntmps59 rfl (Tab.start w) ?_
 refine zSR 2 <| bW [0, 0] 2 0 (fun b1 => [(1, .pointer (pB b1))]) (fun b1 => [.cells b1 [iq a, iq b, iq c, iq d] 37 true]) [1] fun b1 => ?_
 refine zDNSR 13 <| bD [0, 0, 0, 0, 0, 0] 6 7 [(8, .bool (decide (a ≥ c)))] [3, 4, 5, 6, 7] <| sD 8 rfl (fun c2_ => ?_) fun c2_ => ?_
 ·
  refine bS [0, 0, 0, 0, 0, 0, 0] 13 0 [(2, .bool true)] <| fG 0 <| zDNr <| rA rfl 0 (.bool true) fun w hT => ?_
  exact ⟨ret_bool (by simp [emptyB, *] <;> omega), hT.post rfl⟩
 refine bS [0, 0, 0, 0, 0, 0, 0] 13 0 [(2, .bool (decide (b ≥ d)))] <| fG 0 <| zDNr <| rA rfl 0 (.bool (decide (b ≥ d))) fun w hT => ?_
 exact ⟨ret_bool (by simp [emptyB, *] <;> omega), hT.post rfl⟩
theorem refArea (a b c d : Int) (w : World) (ha : -2000000 ≤ a ∧ a ≤ 2000000) (hb : -2000000 ≤ b ∧ b ≤ 2000000) (hc : -2000000 ≤ c ∧ c ≤ 2000000) (hd : -2000000 ≤ d ∧ d ≤ 2000000) :
    Calls Try.prog 60 #[.agg #[iQ a, iQ b, iQ c, iQ d]] w fun e w' => e = .returned (iQ (areaI a b c d)) ∧ Below w.heap.size w w' := by
 refine eN [(0, .agg #[iq a, iq b, iq c, iq d])] Try.func60 Try.ntmps60 rfl (Tab.start w) ?_
 refine zSR 2 <| bW [0, 0] 2 0 (fun b1 => [(1, .pointer (pB b1))]) (fun b1 => [.cells b1 [iq a, iq b, iq c, iq d] 37 true]) [1] fun b1 => ?_
 refine zDNSSR 2 <| bD [0] 1 1 [(3, .agg #[iq a, iq b, iq c, iq d])] [] <| pS 2 0 <| cP 4 (.bool (emptyB a b c d)) (fun w hT => refEmpty a b c d w) <| zDN <| cSp 4 _ rfl (fun c2_ => ?_) fun c2_ => ?_
 ·
  refine zTSR 1 <| bS [0] 1 0 [(2, iq 0)] <| fG 0 <| zDNrt <| rA rfl 0 (iq 0) fun w hT => ?_
  exact ⟨ret_int (by simp [areaI, *]), hT.post rfl⟩
 have hem := emptyB_false.1 c2_
 have hp : (c - a) * (d - b) ≤ 4000000 * 4000000 := mul_le_of (by omega) (by omega) (by omega) (by omega)
 have hq : 0 ≤ (c - a) * (d - b) := Int.mul_nonneg (by omega) (by omega)
 refine zFKNSR 12 <| bD [0, 0, 0, 0, 0] 5 7 [(9, iq (IntKind.i64.wrap (c - a)))] [5, 6, 7, 8] <| wI 9 (c - a) <| bD [0, 0, 0, 0, 0] 10 2 [(14, iq (IntKind.i64.wrap (d - b)))] [10, 11, 12, 13] <| wI 14 (d - b) <| fG 0 <| bS [0] 11 1 [(15, iq (IntKind.i64.wrap ((c - a) * (d - b))))] <| wI 15 ((c - a) * (d - b)) <| bS [0] 12 0 [(2, iq ((c - a) * (d - b)))] <| zDNr <| rA rfl 0 (iq ((c - a) * (d - b))) fun w hT => ?_
 exact ⟨ret_int (by simp [areaI, *]), hT.post rfl⟩
theorem imgIns (m : Nat) (W H : Int) (r n cap : Nat) (px : List Int) (a b c d : Int) (w : World) (hI : ImgR 81 w m W H r n cap px) (hok : ImgOk W H n px) :
    Calls Try.prog 41 #[pT m, .agg #[iQ a, iQ b, iQ c, iQ d]] w fun e w' => e = .returned (.bool (insB W H a b c d)) ∧ Below w.heap.size w w' := by
 have hcap := hI.cap
 refine enter 14 [(0, .pointer (pB m)), (1, .agg #[iq a, iq b, iq c, iq d])] [.ro m [iq W, iq H, .slice (pB r) n cap] 81, rD (pB r) r 0 n 1 (cV px)] Try.func41 rfl Try.ntmps41 rfl (by kernel_rfl) hI.tab ?_
 refine zSR 2 <| bW [0, 0] 2 0 (fun b1 => [(0, .pointer (pB m)), (3, .pointer (pB b1))]) (fun b1 => [.cells b1 [iq a, iq b, iq c, iq d] 37 true, .ro m [iq W, iq H, .slice (pB r) n cap] 81, rD (pB r) r 0 n 1 (cV px)]) [0, 3] fun b1 => ?_
 refine zDNS <| drawn_enter 10 [] rfl (by kernel_rfl) ?_
 refine tD 0 [] [(0, 0)] 9 [0] [(5, .agg #[iq a, iq b, iq c, iq d])] [] <| dO 1 8 <| cP 6 (.bool (emptyB a b c d)) (fun w hT => rectEmpty a b c d w) <| dX 0 [] <| tD 0 [] [(2, 0), (3, 0)] 6 [3, 2, 1, 0] [(8, .bool (!(emptyB a b c d)))] [7] <| cSp 8 _ rfl (fun c2_ => ?_) fun c2_ => ?_
 ·
  replace c2_ : (emptyB a b c d) = false := by simpa using c2_
  refine tD 0 [] [(4, 0), (6, 0)] 4 [6, 4, 3, 2, 1, 0] [(9, .pointer (pB m)), (11, .agg #[iq a, iq b, iq c, iq d])] [] <| dO 5 3 <| cP 10 (.agg #[iq 0, iq 0, iq W, iq H]) (fun w hT => imgBox m W H r n cap px  w ⟨hT.ok 1 _ rfl, hT.ok 2 _ rfl, by omega⟩ hok) <| dX 0 [] <| dO 7 2 <| cP 12 (.bool (coversB 0 0 W H a b c d)) (fun w hT => rectCovers 0 0 W H a b c d w) <| dX 0 [] <| tD 0 [] [(8, 0), (9, 0)] 0 [9, 8, 7, 5, 6, 4, 3, 2, 1, 0] [(4, .bool (coversB 0 0 W H a b c d))] [13] <| dD <| zN <| cont_ret ?_
  refine rA rfl 0 (.bool (coversB 0 0 W H a b c d)) fun w hT => ?_
  exact ⟨ret_bool (by simp [insB, *]), hT.post rfl⟩
 replace c2_ : (emptyB a b c d) = true := by simpa using c2_
 refine tD 0 [] [(4, 0), (6, 0)] 4 [6, 4, 3, 2, 1, 0] [(9, undef), (11, undef)] [] <| dO 5 3 <| oS 0 [(8, .bool false), (10, undef), (11, undef)] [.cells b1 [iq a, iq b, iq c, iq d] 37 true, .ro m [iq W, iq H, .slice (pB r) n cap] 81, rD (pB r) r 0 n 1 (cV px)] <| dX 0 [] <| dO 7 2 <| oS 0 [(8, .bool false), (12, undef)] [.cells b1 [iq a, iq b, iq c, iq d] 37 true, .ro m [iq W, iq H, .slice (pB r) n cap] 81, rD (pB r) r 0 n 1 (cV px)] <| dX 0 [] <| tD 0 [] [(8, 0), (9, 0)] 0 [9, 8, 7, 5, 6, 4, 3, 2, 1, 0] [(4, .bool false)] [13] <| dD <| zN <| cont_ret ?_
 refine rA rfl 0 (.bool false) fun w hT => ?_
 exact ⟨ret_bool (by simp [insB, *]), hT.post rfl⟩
end Go.Proofs.Ytkfdmfclndaanaa
namespace Go.Proofs
open Go.Shelf
def Try.lays189_ren : Go.Shelf.Ren := ⟨fun | 189 => 39 | 125 => 52 | 257 => 51 | 128 => 72 | 129 => 73 | 294 => 63 | 295 => 64 | 296 => 65 | 297 => 66 | 298 => 67 | 299 => 68 | 216 => 69 | 300 => 70 | 301 => 71 | 328 => 76 | 329 => 77 | 330 => 78 | 331 => 79 | 332 => 80 | 215 => 81 | 343 => 82 | n => n, fun | 28 => 22 | 3 => 3 | 46 => 113 | 0 => 0 | 51 => 47 | 53 => 128 | 4 => 4 | 183 => 120 | 182 => 119 | 131 => 40 | 5 => 5 | 9 => 9 | 218 => 130 | 222 => 134 | 228 => 136 | 229 => 137 | n => n, fun | n => n⟩
theorem Try.lays189 : Go.Proofs.Lays.n189 Try.prog Try.lays189_ren := {
  mixed := by kernel_rfl
  f125 := Try.func52.trans (congrArg some (by kernel_rfl))
  f128 := Try.func72.trans (congrArg some (by kernel_rfl))
  f129 := Try.func73.trans (congrArg some (by kernel_rfl))
  f189 := Try.func39.trans (congrArg some (by kernel_rfl))
  f215 := Try.func81.trans (congrArg some (by kernel_rfl))
  f216 := Try.func69.trans (congrArg some (by kernel_rfl))
  f257 := Try.func51.trans (congrArg some (by kernel_rfl))
  f294 := Try.func63.trans (congrArg some (by kernel_rfl))
  f295 := Try.func64.trans (congrArg some (by kernel_rfl))
  f296 := Try.func65.trans (congrArg some (by kernel_rfl))
  f297 := Try.func66.trans (congrArg some (by kernel_rfl))
  f298 := Try.func67.trans (congrArg some (by kernel_rfl))
  f299 := Try.func68.trans (congrArg some (by kernel_rfl))
  f300 := Try.func70.trans (congrArg some (by kernel_rfl))
  f301 := Try.func71.trans (congrArg some (by kernel_rfl))
  f328 := Try.func76.trans (congrArg some (by kernel_rfl))
  f329 := Try.func77.trans (congrArg some (by kernel_rfl))
  f330 := Try.func78.trans (congrArg some (by kernel_rfl))
  f331 := Try.func79.trans (congrArg some (by kernel_rfl))
  f332 := Try.func80.trans (congrArg some (by kernel_rfl))
  f343 := Try.func82.trans (congrArg some (by kernel_rfl))
  t0 := Try.underlying0
  a0 := Try.isAgg0
  z0 := Try.sizeOf0
  v0 := Try.zeroValue0
  t3 := Try.underlying3
  a3 := Try.isAgg3
  z3 := Try.sizeOf3
  v3 := Try.zeroValue3
  t4 := Try.underlying4
  a4 := Try.isAgg4
  z4 := Try.sizeOf4
  v4 := Try.zeroValue4
  t5 := Try.underlying5
  a5 := Try.isAgg5
  z5 := Try.sizeOf5
  v5 := Try.zeroValue5
  t9 := Try.underlying9
  a9 := Try.isAgg9
  z9 := Try.sizeOf9
  v9 := Try.zeroValue9
  t28 := Try.underlying22
  a28 := Try.isAgg22
  z28 := Try.sizeOf22
  v28 := Try.zeroValue22
  t46 := Try.underlying113
  a46 := Try.isAgg113
  z46 := Try.sizeOf113
  v46 := Try.zeroValue113
  t51 := Try.underlying47
  a51 := Try.isAgg47
  z51 := Try.sizeOf47
  v51 := Try.zeroValue47
  t53 := Try.underlying128
  a53 := Try.isAgg128
  z53 := Try.sizeOf128
  v53 := Try.zeroValue128
  t131 := Try.underlying40
  a131 := Try.isAgg40
  z131 := Try.sizeOf40
  v131 := Try.zeroValue40
  t182 := Try.underlying119
  a182 := Try.isAgg119
  z182 := Try.sizeOf119
  v182 := Try.zeroValue119
  t183 := Try.underlying120
  a183 := Try.isAgg120
  z183 := Try.sizeOf120
  v183 := Try.zeroValue120
  t218 := Try.underlying130
  a218 := Try.isAgg130
  z218 := Try.sizeOf130
  v218 := Try.zeroValue130
  t222 := Try.underlying134
  a222 := Try.isAgg134
  z222 := Try.sizeOf134
  v222 := Try.zeroValue134
  t228 := Try.underlying136
  a228 := Try.isAgg136
  z228 := Try.sizeOf136
  v228 := Try.zeroValue136
  t229 := Try.underlying137
  a229 := Try.isAgg137
  z229 := Try.sizeOf137
  v229 := Try.zeroValue137 }
open Go.Sort Go.RowKit in
theorem Try.slices_Sort_int (blk off cap : Nat) (zs : List Int) (w : World) (hH : Holds (Value.int .i64) w blk off zs.toArray) (hblk : blk < w.heap.size) (hsz : zs.length < 4611686018427387904) :
    Calls Try.prog 39 #[.slice (some ⟨blk, off, none⟩) zs.length cap] w fun e w' =>
      e = .returned (.tuple #[]) ∧ ∃ n os, w' = grow (putRow (Value.int .i64) (Sort.ahead w n) blk off (zs.mergeSort fun x y => decide (x ≤ y)).toArray) os := Any.slices_Sort_int Try.lays189 blk off cap zs w hH hblk hsz
open Go.RowKit Go.Sort in
theorem Try.slices_Sort_int_none (p : Option Addr) (cap : Nat) (w : World) :
    Calls Try.prog 39 #[.slice p 0 cap] w fun e w' => e = .returned (.tuple #[]) ∧ w' = w := Any.slices_Sort_int_none Try.lays189 p cap w
end Go.Proofs
namespace Go.Proofs.Ytkfdmfclndaanaa
open Go Go.RowKit
section
variable {β : Type}
abbrev Run (β : Type) := Int × Int × β
def look : List (Run β) → Int → Option β
  | [], _ => none
  | r :: t, p => if r.1 ≤ p ∧ p < r.2.1 then some r.2.2 else look t p
end
end Go.Proofs.Ytkfdmfclndaanaa
namespace Go.Proofs.Ytkfdmfclndaanaa
open Go Go.RowKit
theorem arr_get (l : List Int) (i : Nat) : l.toArray[i]! = l.getD i 0 := by
  rw [List.getD_eq_getElem?_getD]
  by_cases h : i < l.length
  · rw [getElem!_pos _ i (by simpa using h)]; simp [h]
  · rw [getElem!_neg _ i (by simpa using h), List.getElem?_eq_none (by omega)]; rfl
def sortL (l : List Int) : List Int := l.mergeSort fun x y => decide (x ≤ y)
theorem sortL_length (l : List Int) : (sortL l).length = l.length := List.length_mergeSort l
theorem sortL_sorted (l : List Int) : (sortL l).Pairwise (· ≤ ·) := by
  have := List.pairwise_mergeSort (le := fun x y : Int => decide (x ≤ y)) (fun a b c h1 h2 => by simp only [decide_eq_true_eq] at *; omega) (fun a b => by simp only [Bool.or_eq_true, decide_eq_true_eq]; omega) l
  exact this.imp (fun h => by simpa using h)
end Go.Proofs.Ytkfdmfclndaanaa
namespace Go.Proofs.Ytkfdmfclndaanaa
open Go Go.RowKit
variable {dfs : List Deferred}
def setV (vals : List Value) (J : Nat) : List Value → List Value
  | [] => vals
  | v :: r => setV (vals.set J v) (J + 1) r
theorem setV_append (vs : List Value) : ∀ (a c b : List Value) , vs.length = b.length → setV (a ++ b ++ c) a.length vs = a ++ vs ++ c := by
  induction vs with
  | nil => intro a c b h; cases b with
    | nil => simp [setV]
    | cons _ _ => simp at h
  | cons v vs ih =>
    intro a c b h
    cases b with
    | nil => simp at h
    | cons x b =>
      have := ih (a ++ [v]) c b (by simpa using h)
      rw [setV]
      rw [List.length_append, List.length_singleton] at this
      have e : (a ++ x :: b ++ c).set a.length v = a ++ [v] ++ b ++ c := by
        simp [List.set_append]
      rw [e, this]
      simp
section
variable {P : Program}
theorem Tab.rowSets {w0 : World} {i g n cap e sz : Nat} {A : Option Addr} {own : Bool} (hn : 0 < n) : ∀ (vs : List Value) (J : Nat) (vals : List Value) (w : World) (T : List Ent), Tab w0 w T → T[i]? = some (.gen (rowE A g n cap e sz vals own)) →
    Tab w0 (w.setCells g J vs) (T.set i (.gen (rowE A g n cap e sz (setV vals J vs) own))) := by
  intro vs
  induction vs with
  | nil =>
    intro J vals w T hT hi
    have : T.set i (.gen (rowE A g n cap e sz vals own)) = T := by
      obtain ⟨hlt, he⟩ := List.getElem?_eq_some_iff.1 hi
      rw [← he]
      exact List.set_getElem_self hlt
    simp only [setV, World.setCells]
    rw [this]; exact hT
  | cons v vs ih =>
    intro J vals w T hT hi
    have h1 := hT.rowSet hi hn J v
    have hlt : i < T.length := (List.getElem?_eq_some_iff.1 hi).1
    have h2 := ih (J + 1) (vals.set J v) _ _ h1 (by simp [hlt])
    rw [List.set_set] at h2
    exact h2
theorem Row.there {w : World} {A : Option Addr} {g n cap : Nat} {e : TypeId} {sz : Nat} {vals : List Value} (h : Row w A g n cap e sz vals) {j : Nat} (hj : j < n * sz) : (w.cell? ⟨g, j, none⟩).isSome = true := by
  have hl := h.own.1
  have := h.cell j (vals[j]'(by omega)) (List.getElem?_eq_getElem (by omega))
  rw [this]; rfl
theorem run_storeAt_cells {t : TypeId} {v : Value} {vs : List Value} {g J : Nat} (hv : v.cells = vs.toArray) (hsz : (P.info? t).map (·.size) = some vs.length) (h1 : ∀ u ∈ vs, u.oneCell' = true) (w : World) (hc : ∀ j, j < vs.length → (w.cell? ⟨g, J + j, none⟩).isSome = true) (hf : ∀ j, j < vs.length → w.frozen? ⟨g, J + j, none⟩ = false) :
    (Instr.storeAt t (.pointer (some ⟨g, J, none⟩)) v).run P w = .ok () (w.setCells g J vs) := by
  obtain ⟨i, hi1, hi2⟩ := Option.map_eq_some_iff.1 hsz
  have e : Instr.storeAt t (.pointer (some ⟨g, J, none⟩)) v = storeVar t ⟨g, J, none⟩ v := rfl
  have hst := run_storeCells_cells (P := P) g J vs 0 w (by simpa using hc) (by simpa using hf) h1
  rw [Nat.add_zero] at hst
  rw [e, storeVar]
  simp [Sem.run_bind, sizeOf, typeInfo, hi1, hi2, hv, hst]
end
end Go.Proofs.Ytkfdmfclndaanaa
namespace Go.Proofs.Ytkfdmfclndaanaa
open Go Go.RowKit Go.Sort
theorem heap_putRow {enc : Int → Value} {w : World} {g : Nat} {ys : Array Int} {k : Nat} (h : k ≠ g) : (putRow enc w g 0 ys).heap[k]? = w.heap[k]? := by
  simp only [putRow, mapBlock, Array.getElem?_modify, if_neg (Ne.symm h)]
theorem heap_putRow_same {enc : Int → Value} {w : World} {g : Nat} {ys : Array Int} {cur : Array Value} {e : TypeId} {fr : Nat × Nat} (h : w.heap[g]? = some (.cells cur e fr)) : (putRow enc w g 0 ys).heap[g]? = some (.cells (putCells enc 0 ys cur) e fr) := by
  simp only [putRow, mapBlock, Array.getElem?_modify, if_true, h, Option.map_some, onCells]
theorem Tab.putRow {w0 w : World} {T : List Ent} (hT : Tab w0 w T) {i g n cap e q : Nat} {xs ys : List Int} {own : Bool} (os : Array Obj) (h : T[i]? = some (.gen (rowE (some ⟨g, 0, none⟩) g n cap e 1 (ivals .i64 xs) own))) (hy : ys.length = n) :
    Tab w0 (grow (Go.Sort.putRow (Value.int .i64) (Sort.ahead w q) g 0 ys.toArray) os) (T.set i (.gen (rowE (some ⟨g, 0, none⟩) g n cap e 1 (ivals .i64 ys) own))) := by
  have hrow : Row w (some ⟨g, 0, none⟩) g n cap e 1 (ivals .i64 xs) := hT.ok i _ h
  rcases hrow.own.2 with ⟨h1, _⟩ | ⟨g', cap', cur, hv, _, hh, hle, hcm, hcs, htk⟩
  · cases h1
  cases hv
  have hlt : g < w.heap.size := (Array.getElem?_eq_some_iff.1 hh).1
  refine hT.replace (e := .gen (rowE (some ⟨g, 0, none⟩) g n cap e 1 (ivals .i64 xs) own)) (e' := .gen (rowE (some ⟨g, 0, none⟩) g n cap e 1 (ivals .i64 ys) own)) h rfl rfl id (fun k hk => .inl hk) (fun k _ hk _ => hk) rfl rfl rfl (by simp) (fun k hk hne => ?_) ?_
  · rw [heap_grow_old _ _ (by simpa using hk), heap_putRow (fun hk' => hne ⟨hk', by simp⟩)]; rfl
  · refine ⟨⟨by rw [ivals_length]; omega, .inr ⟨g, cap, _, rfl, Nat.zero_le _, (heap_grow_old _ _ (by simpa using hlt)).trans (heap_putRow_same (w := Sort.ahead w q) hh), hle, hcm, by simpa [putCells] using hcs, ?_⟩⟩, fun _ => rfl, fun a ha => by cases ha; rfl⟩
    apply List.ext_getElem?
    intro j
    rw [List.getElem?_take]
    by_cases hj : j < n * 1
    · have hjn : j < n := by omega
      have hjc : j < cur.size := by omega
      rw [if_pos hj]
      simp only [putCells, Array.getElem?_toList, Array.getElem?_mapIdx, Array.getElem?_eq_getElem hjc, Option.map_some]
      rw [if_pos (by simp; omega), Nat.sub_zero, arr_get]
      exact (ivals_get (by omega)).symm
    · rw [if_neg hj]
      exact (List.getElem?_eq_none (by rw [ivals_length]; omega)).symm
theorem Row.holds {w : World} {g n cap : Nat} {e : TypeId} {xs : List Int} (h : Row w (some ⟨g, 0, none⟩) g n cap e 1 (ivals .i64 xs)) : Holds (Value.int .i64) w g 0 xs.toArray := by
  intro j hj
  have hjl : j < xs.length := by simpa using hj
  have hn : 0 < n := by have := h.facts; omega
  rw [Nat.zero_add, arr_get]
  exact ⟨h.cell j _ (ivals_get hjl), h.free hn j⟩
theorem sortRow (A : Option Addr) (g n cap : Nat) (xs : List Int) (w : World) (hT : Tab w w [.gen (rowE A g n cap 3 1 (ivals .i64 xs) false)]) (hbig : n ≤ 1000000000) :
    Calls Try.prog 39 #[.slice A n cap] w fun e w' => e = .returned (.tuple #[]) ∧ Tab w w' [.gen (rowE A g n cap 3 1 (ivals .i64 (sortL xs)) false)] := by
  have hrow : Row w A g n cap 3 1 (ivals .i64 xs) := hT.ok 0 _ rfl
  obtain ⟨f1, f2, f3, f4⟩ := hrow.facts
  by_cases hn : n = 0
  · subst hn
    refine (Try.slices_Sort_int_none A cap w).mono ?_
    rintro e w' ⟨he, rfl⟩
    have : xs = [] := List.length_eq_zero_iff.1 f2
    subst this
    rw [show sortL [] = [] by simp [sortL]]
    exact ⟨he, hT⟩
  · have hA := f1 (by omega)
    subst hA
    have hb : g < w.heap.size := (rowE (some ⟨g, 0, none⟩) g n cap 3 1 (ivals .i64 xs) false).inb w g hrow ⟨rfl, by simp⟩
    have hs := Try.slices_Sort_int g 0 cap xs w hrow.holds hb (by omega)
    rw [f2] at hs
    refine hs.mono ?_
    rintro e w' ⟨he, q, os, rfl⟩
    refine ⟨he, ?_⟩
    have := hT.putRow (i := 0) (q := q) (ys := sortL xs) os rfl (by rw [sortL_length]; exact f2)
    exact this
end Go.Proofs.Ytkfdmfclndaanaa
namespace Go.Proofs.Ytkfdmfclndaanaa
open Go Go.RowKit
def noDef (ops : Array Oper) : Bool := ops.toList.all fun o => match o.op with | .defer _ => false | _ => true
theorem noDef_at {ops : Array Oper} (h : noDef ops = true) {i : Nat} {o : Oper} (ho : ops[i]? = some o) : ∀ c, o.op ≠ .defer c := by
  intro c hc
  have hm : o ∈ ops.toList := Array.mem_toList_iff.2 (Array.mem_of_getElem? ho)
  have := List.all_eq_true.1 h o hm
  rw [hc] at this
  cases this
structure Open (F : Fence) : Prop where
  fn : ∀ f, F.fn f
  depth : F.depth = none
  alive : F.alive = false
theorem open_wide : Open Fence.wide := ⟨fun _ => trivial, rfl, rfl⟩
theorem open_round (l : Nat) : Open (Fence.wide.inRound l) := ⟨fun _ => trivial, rfl, rfl⟩
theorem fenced_open {F : Fence} (h : Open F) (P : Program) (m : Machine) : m.fenced P F := by
  intro g _
  refine ⟨fun ha => ?_, Or.inl (h.fn _), fun _ _ => h.fn _, fun d hd => ?_⟩
  · rw [h.alive] at ha; cases ha
  · rw [h.depth] at hd; cases hd
theorem steps_open {F : Fence} (h : Open F) {P : Program} {m m' : Machine} (s : Steps P m m') : StepsIn (Machine.fenced P F) P m m' :=
  (StepsIn.of_steps s).mono fun m _ => fenced_open h P m
theorem calls_open {F : Fence} (h : Open F) {n : Nat} {P : Program} {f : FuncId} {args : Array Value} {w : World} {R : Ending → World → Prop} (c : Calls P f args w R) : CallsIn F n P f args w R :=
  ⟨h.fn f, fun cs _ => by
    obtain ⟨e, w', fr, r, s, x⟩ := c cs
    refine ⟨e, w', fr, r, ?_, x⟩
    cases e with
    | returned v => exact steps_open h s
    | panicked ch => exact steps_open h s
    | outgrown => exact s⟩
theorem rows_open {F : Fence} (h : Open F) {n : Nat} {P : Program} {row : String} {args : Array Value} {w : World} {R : Value → World → Prop} (c : Rows P row args w R) : RowsIn F n P row args w R :=
  fun fr cs _ => let ⟨v, w', r, s⟩ := c fr cs; ⟨v, w', r, steps_open h s⟩
section
variable {P : Program}
theorem oper_in {F : Fence} (hF : Open F) {o : Oper} {a : Act} {w : World} {K K' : Act → World → Prop} {Q Q' : Exit → Act → World → Prop} (ho : ∀ c, o.op ≠ .defer c) (hlo : ¬ LetsOut Q) (hK : ∀ a' w', K a' w' → K' a' w') (hQ : ∀ c w, Q (.panic c) a w → Q' (.panic c) a w)
    (h : o.wp P a w K Q) : o.wpIn F 0 P a w K' Q' := by
  refine ⟨fun f _ => hF.fn f, ?_⟩
  rw [Oper.semAt_eq _ _ _ ho]
  unfold Oper.wp at h
  generalize (execOp a.eval o).run P w = r at h ⊢
  have hdep : F.depth.isSome = true → 1 ≤ 0 := by rw [hF.depth]; intro hh; cases hh
  unfold Oper.upon at h
  split at h
  · exact hK _ _ h
  · exact hK _ _ h
  · exact hK _ _ h
  · refine ⟨hdep, calls_open hF (h.mono ?_)⟩
    intro e w'' hh
    cases e with
    | returned v => exact hK _ _ hh
    | panicked ch => exact hQ _ _ hh
    | outgrown => exact (hlo hh).elim
  · exact ⟨hdep, rows_open hF (h.mono fun v w'' hh => hK _ _ hh)⟩
  · exact hQ _ _ h
  · exact h.elim
theorem ops_in {F : Fence} (hF : Open F) {ops : Array Oper} (hops : noDef ops = true) {K : Act → World → Prop} {Q : Exit → Act → World → Prop} (hlo : ¬ LetsOut Q) (l2 : List Nat) (hK : ∀ a w, K a w → wpOpsIn F 0 P ops Q l2 a w) :
    ∀ (l : List Nat) (a : Act) (w : World), wpOps P ops (Exit.then K Q) l a w → wpOpsIn F 0 P ops Q (l ++ l2) a w := by
  intro l
  induction l with
  | nil => intro a w h; exact hK a w h
  | cons i l ih =>
    intro a w h
    rw [List.cons_append]
    simp only [wpOps, wpOpsIn] at h ⊢
    cases ho : ops[i]? with
    | none => simp only [ho] at h ⊢; exact ih _ _ h
    | some o =>
      simp only [ho] at h ⊢
      by_cases hw : Region.wanted o (yielded ops a.tmps) = true
      · simp only [hw, if_true] at h ⊢
        rcases h with h | ⟨_, a0, w0, h⟩
        · exact oper_in hF (noDef_at hops ho) (Q := Exit.then K Q) (fun ⟨a', w', hq⟩ => hlo ⟨a', w', hq⟩) (fun a' w' hh => ih a' w' hh) (fun c w' hh => hh) h
        · exact (hlo ⟨a0, w0, h⟩).elim
      · simp only [hw, Bool.false_eq_true, if_false] at h ⊢
        exact ⟨fun f _ => hF.fn f, ih _ _ h⟩
structure Mode (P : Program) where
  F : Fence
  hF : Open F
def Mode.wp (M : Mode P) (c : Code) (Q : Exit → Act → World → Prop) (a : Act) (w : World) : Prop := ¬ LetsOut Q → c.wpIn M.F 0 P Q a w
def Mode.round (P : Program) (l : Nat) : Mode P := ⟨Fence.wide.inRound l, open_round l⟩
def Mode.fence (P : Program) : Mode P := ⟨Fence.wide, open_wide⟩
theorem lo_then {K : Act → World → Prop} {Q : Exit → Act → World → Prop} (h : ¬ LetsOut Q) : ¬ LetsOut (Exit.then K Q) := fun ⟨a, w, hq⟩ => h ⟨a, w, hq⟩
theorem lo_blk {id : Nat} {Q : Exit → Act → World → Prop} (h : ¬ LetsOut Q) : ¬ LetsOut (Exit.inBlock id Q) := fun ⟨a, w, hq⟩ => h ⟨a, w, hq⟩
variable {dfs : List Deferred} {M : Mode P} {Q : Exit → Act → World → Prop} {n : Nat} {w0 : World} {L : List (Nat × Value)} {T : List Ent}
theorem mcont_seq {x y : Code} (h : Cont dfs (M.wp x (Exit.then (M.wp y Q) Q)) n w0 L T) : Cont dfs (M.wp (Code.seq x y) Q) n w0 L T :=
  fun a w ha hf hT hlo => wpIn_seq (wpIn_mono (h a w ha hf hT (lo_then hlo)) fun e a' w' hq => by
    cases e with
    | normal => exact hq hlo
    | _ => exact hq)
theorem mcont_region {id : Nat} {ops : Array Oper} (k : Nat) (hk : ops.size = k) (hops : noDef ops = true) (h : Cont dfs (PL P ops Q 0 k) n w0 L T) : Cont dfs (M.wp (Code.region id ops false) Q) n w0 L T := by
  intro a w ha hf hT hlo
  refine wpIn_region ?_
  have := h a w ha hf hT
  unfold PL at this
  rw [List.range_eq_range', hk]
  have e := ops_in M.hF hops (K := Q .normal) hlo [] (fun a w hh => by simpa [wpOpsIn] using hh) (List.range' 0 k) a w (by
    have hQ : Exit.then (Q .normal) Q = Q := by funext e; cases e <;> rfl
    rw [hQ]; exact this)
  simpa using e
theorem mdrawn_enter {id : Nat} {ops : Array Oper} (m : Nat) (ds : List Nat) (hm : ops.size = m) (hmix : P.follows .mixedOrders = true) (hops : noDef ops = true) (h : Cont dfs (AH P ops Q (fun w => Known w (dropT ds T)) m m []) n w0 L T) : Cont dfs (M.wp (Code.region id ops true) Q) n w0 L T := by
  intro a w ha hf hT hlo
  refine wpIn_region_draw fun t => ?_
  simp only [Region.schedule, hmix, Bool.true_or, if_true]
  have := h a w.drew ha hf hT.drew
  unfold AH marked at this
  subst hm
  have e := wpAny_sound ops.size t _ a _ (wpAny_of_held _ _ _ _ this)
  have hQ : Exit.then (Q .normal) Q = Q := by funext e; cases e <;> rfl
  have e2 := ops_in M.hF hops (K := Q .normal) hlo [] (fun a w hh => by simpa [wpOpsIn] using hh) _ a _ (by rw [hQ]; exact e)
  rw [List.append_nil] at e2
  exact e2
theorem mcont_skip (h : Cont dfs (Q .normal) n w0 L T) : Cont dfs (M.wp Code.skip Q) n w0 L T := fun a w ha hf hT _ => wpIn_skip (h a w ha hf hT)
theorem mcont_ret (h : Cont dfs (Q .ret) n w0 L T) : Cont dfs (M.wp Code.ret Q) n w0 L T := fun a w ha hf hT _ => wpIn_ret (h a w ha hf hT)
theorem mcont_exit {id : Nat} (h : Cont dfs (Q (.exit id)) n w0 L T) : Cont dfs (M.wp (Code.exit id) Q) n w0 L T := fun a w ha hf hT _ => wpIn_exit (h a w ha hf hT)
theorem mcont_block {id : Nat} {c : Code} (h : Cont dfs (M.wp c (Exit.inBlock id Q)) n w0 L T) : Cont dfs (M.wp (Code.block id c) Q) n w0 L T := fun a w ha hf hT hlo => wpIn_block (h a w ha hf hT (lo_blk hlo))
theorem mcont_true {c : Operand} {x y : Code} (hc : knownB L c = some (.bool true)) (h : Cont dfs (M.wp x Q) n w0 L T) : Cont dfs (M.wp (Code.cond c x y) Q) n w0 L T :=
  fun a w ha hf hT hlo => wpIn_cond_true (knownB_eval hf hc) (h a w ha hf hT hlo)
theorem mcont_false {c : Operand} {x y : Code} (hc : knownB L c = some (.bool false)) (h : Cont dfs (M.wp y Q) n w0 L T) : Cont dfs (M.wp (Code.cond c x y) Q) n w0 L T :=
  fun a w ha hf hT hlo => wpIn_cond_false (knownB_eval hf hc) (h a w ha hf hT hlo)
theorem wpIn_loop_ghost {F : Fence} {m : Nat} {a : Act} {w : World} {c : Code} (I : Nat → Act → World → Prop) (n₀ : Nat) (h₀ : I n₀ a w)
    (round : ∀ n a w, I n a w → c.wpIn F m P (Exit.then (fun a' w' => ∃ n', n' < n ∧ I n' a' w') Q) a w) : (Code.loop c).wpIn F m P Q a w := by
  refine wpIn_loop (fun a w => ∃ n, I n a w) (fun a w => leastOf (fun n => I n a w)) ⟨n₀, h₀⟩ ?_
  intro a w hI
  refine wpIn_mono (round _ a w (leastOf_spec hI).1) ?_
  intro e a' w' hq
  cases e with
  | normal =>
    obtain ⟨n', hlt, hI'⟩ := hq
    exact show (∃ n, I n a' w') ∧ leastOf (fun n => I n a' w') < leastOf (fun n => I n a w) from ⟨⟨n', hI'⟩, Nat.lt_of_le_of_lt ((leastOf_spec ⟨n', hI'⟩).2 n' hI') hlt⟩
  | _ => exact hq
theorem mcont_loop {α : Type} {body : Code} (Inv : α → Prop) (Lf : α → List (Nat × Value)) (Tf : α → List Ent) (m : α → Nat) (x0 : α) (hinv : Inv x0)
    (hL : ((Lf x0).map fun p => lk L p.1) = ((Lf x0).map fun p => some p.2)) (hTf : Tf x0 = T)
    (round : ∀ x, Inv x → Cont dfs (M.wp body (Exit.then (Again dfs Inv Lf Tf m n w0 x) Q)) n w0 (Lf x) (Tf x)) : Cont dfs (M.wp (Code.loop body) Q) n w0 L T := by
  subst hTf
  intro a w ha hf hT hlo
  refine wpIn_loop_ghost (fun k a' w' => ∃ x, m x = k ∧ Inv x ∧ a'.defers = dfs ∧ FrOk n a'.tmps (Lf x) ∧ Tab w0 w' (Tf x)) (m x0) ⟨x0, rfl, hinv, ha, hf.prune hL, hT⟩ ?_
  rintro k a' w' ⟨x, rfl, hx, ha', hf', hT'⟩
  refine wpIn_mono (round x hx a' w' ha' hf' hT' (lo_then hlo)) (fun e a'' w'' h => ?_)
  cases e with
  | normal =>
    obtain ⟨y, h1, h2, h3, h4, h5⟩ := h
    exact ⟨m y, h2, y, rfl, h1, h3, h4, h5⟩
  | _ => exact h
def objE (b : Nat) (o : Obj) : Ent := .gen { blk := (· = b), wr := true, own := true, ok := fun w => w.heap[b]? = some o, stable := fun w w' h hk => (h b rfl).trans hk, inb := fun w k hk hb => by cases hb; exact (Array.getElem?_eq_some_iff.1 hk).1 }
def markE (D : Nat) : Ent := objE D (.deferred (some []))
theorem Tab.putObj {w : World} (hT : Tab w0 w T) {i b : Nat} {o : Obj} (h : T[i]? = some (objE b o)) (o' : Obj) : Tab w0 (w.putObj b o') (T.set i (objE b o')) := by
  have hk : w.heap[b]? = some o := hT.ok i _ h
  refine hT.replace (e := objE b o) (e' := objE b o') h rfl rfl id (fun k hk => .inl hk) (fun k _ hk _ => hk) rfl rfl rfl (by simp) (fun k _ hk => World.putObj_heap_other (fun e => hk e)) ?_
  exact World.putObj_heap_same (Array.getElem?_eq_some_iff.1 hk).1
theorem Tab.allocObj {w : World} (hT : Tab w0 w T) (o : Obj) : Tab w0 (w.alloc o) (objE w.heap.size o :: T) := by
  refine hT.push (e := objE w.heap.size o) rfl rfl rfl (by simp) (fun k hk => Below.heap_alloc w _ k hk) (World.alloc_heap_new w o) (fun k hk => by have : k = w.heap.size := hk; omega)
theorem Cont.go {K : Act → World → Prop} (h : Cont dfs K n w0 L T) {a : Act} {w : World} (ha : a.defers = dfs) (hf : FrOk n a.tmps L) (hT : Tab w0 w T) : K a w := h a w ha hf hT
def NP (Q : Exit → Act → World → Prop) : Exit → Act → World → Prop
  | .panic _, _, _ => False
  | e, a, w => Q e a w
theorem NP.le {Q : Exit → Act → World → Prop} (e : Exit) (a : Act) (w : World) (h : NP Q e a w) : Q e a w := by cases e <;> first | exact h.elim | exact h
theorem pok_np {Q : Exit → Act → World → Prop} : PanicOk (NP Q) := fun c a d v w h => h
theorem enterM {f : FuncId} {fn : Func} {c : Code} {args : Array Value} {w : World} {R : Ending → World → Prop} (n : Nat) (L : List (Nat × Value)) (T : List Ent) (hf : P.funcs[f]? = some fn) (hb : fn.body = some c) (hn : fn.ntmps = n) (hsz : Nat.ble args.size n = true)
    (hL : (L.map fun p => args[p.1]?) = (L.map fun p => some p.2)) (hT : Tab w w T) (h : Cont [] (c.wp P (NP (bodyPostM Fence.wide 0 P fn R))) n w L T) : Calls P f args w R := by
  subst hn
  refine callsIn_wide.1 (callsIn_of_wp_marks hf hb trivial (wpIn_wide.2 (wp_mono (h _ _ rfl ⟨?_, ?_⟩ hT) fun e a w hq => hq.le)) rfl)
  · have := Nat.le_of_ble_eq_true hsz
    simp; omega
  · exact enter_lk hL
theorem plain_end {fn : Func} {R : Ending → World → Prop} {e : Exit} (he : e = .ret ∨ e = .normal) (h : Cont [] (bodyPost P fn R e) n w0 L T) : Cont [] (NP (bodyPostM Fence.wide 0 P fn R) e) n w0 L T := by
  intro a w ha hf hT
  have := h a w ha hf hT
  rcases he with rfl | rfl
  all_goals
    obtain ⟨_, v, h1, h2⟩ := this
    show LeavesInM Fence.wide 0 P fn a.tmps R a.defers .returning w
    rw [ha]
    exact ⟨v, h1, h2⟩
def coll (D : Nat) : Deferred := { target := .collected D, args := #[] }
theorem mark_end {fn : Func} {R : Ending → World → Prop} {e : Exit} {D : Nat} (i : Nat) (hi : T[i]? = some (markE D)) (he : e = .ret ∨ e = .normal) (h : Cont [] (bodyPost P fn R e) n w0 L (T.set i (objE D (.deferred none)))) : Cont [coll D] (NP (bodyPostM Fence.wide 0 P fn R) e) n w0 L T := by
  intro a w ha hf hT
  have hk : w.heap[D]? = some (.deferred (some [])) := hT.ok i _ hi
  have := h { a with defers := [] } (w.putObj D (.deferred none)) rfl hf (hT.putObj hi _)
  rcases he with rfl | rfl
  all_goals
    obtain ⟨_, v, h1, h2⟩ := this
    show LeavesInM Fence.wide 0 P fn a.tmps R a.defers .returning w
    rw [ha]
    exact ⟨by simp, .inl ⟨D, _, rfl, run_takeDeferred hk, v, h1, h2⟩⟩
def IterC {X : Type} (P : Program) (gf : Nat) (lb : Array Value) (encs : X → Array Value) (w0 : World) (Es : List Ent) (Ex : X → List Ent) (S Sp : List X → Prop) : Prop :=
  ∀ {β : Type} (Inv : List X → β → Prop) (Tr : β → List Ent) (Jx : World → Prop) (l : Nat) (e1 e2 : Ent) (W : World) (b0 : β), (∀ w w', Jx w → Below w.heap.size w w' → Jx w') →
    (∀ pre x b W1 z, (z.wr = true → z.own = true) → Inv pre b → Sp (pre ++ [x]) → Tab w0 W1 (Ex x ++ z :: e1 :: e2 :: (Es ++ Tr b)) →
      YieldAt Fence.wide 0 P l (encs x) W1 fun e W' => (e = .returned (.bool true) ∧ ∃ b', Inv (pre ++ [x]) b' ∧ Tab w0 W' (z :: e1 :: e2 :: (Es ++ Tr b'))) ∨ (e = .returned (.bool false) ∧ Jx W')) →
    Inv [] b0 → Tab w0 W (e1 :: e2 :: (Es ++ Tr b0)) →
    Calls P gf (#[.func (.yield l) #[] #[]] ++ lb) W fun e W' => (∃ v, e = .returned v) ∧ ((∃ xs b', S xs ∧ Inv xs b' ∧ Tab w0 W' (e1 :: e2 :: (Es ++ Tr b'))) ∨ Jx W')
theorem enterI {f : FuncId} {fn : Func} {c : Code} {args : Array Value} {w : World} {R : Ending → World → Prop} (n : Nat) (L : List (Nat × Value)) (T : List Ent) (hf : P.funcs[f]? = some fn) (hb : fn.body = some c) (hn : fn.ntmps = n) (hsz : Nat.ble args.size n = true)
    (hL : (L.map fun p => args[p.1]?) = (L.map fun p => some p.2)) (hT : Tab w0 w T) (hlo : ∀ w, ¬ R .outgrown w) (h : Cont [] ((Mode.fence P).wp c (bodyPost P fn R)) n w0 L T) : Calls P f args w R := by
  subst hn
  refine callsIn_wide.1 (callsIn_of_wp hf hb trivial (h _ _ rfl ⟨?_, ?_⟩ hT (fun ⟨_, w', hq⟩ => hlo w' hq)) rfl)
  · have := Nat.le_of_ble_eq_true hsz
    simp; omega
  · exact enter_lk hL
def PLI (P : Program) (ops : Array Oper) (Q : Exit → Act → World → Prop) (i k : Nat) (a : Act) (w : World) : Prop := ¬ LetsOut Q → wpOpsIn Fence.wide 0 P ops Q (List.range' i k) a w
theorem icont_region {id : Nat} {ops : Array Oper} (k : Nat) (hk : ops.size = k) (h : Cont dfs (PLI P ops Q 0 k) n w0 L T) : Cont dfs ((Mode.fence P).wp (Code.region id ops false) Q) n w0 L T := by
  intro a w ha hf hT hlo
  refine wpIn_region ?_
  rw [List.range_eq_range', hk]
  exact h a w ha hf hT hlo
theorem pli_ops {ops : Array Oper} {i k : Nat} (j m i' : Nat) (hk : k = j + m) (hi' : i' = i + j) (hops : noDef ops = true) (h : Cont dfs (PL P ops (Exit.then (PLI P ops Q i' m) Q) i j) n w0 L T) : Cont dfs (PLI P ops Q i k) n w0 L T := by
  subst hk; subst hi'
  intro a w ha hf hT hlo
  have := h a w ha hf hT
  have e : List.range' i (j + m) = List.range' i j ++ List.range' (i + j) m := (List.range'_append_1 ..).symm
  rw [e]
  exact ops_in open_wide hops hlo _ (fun a w hh => hh hlo) _ a w this
theorem pli_done {ops : Array Oper} {i : Nat} (h : Cont dfs (Q .normal) n w0 L T) : Cont dfs (PLI P ops Q i 0) n w0 L T :=
  fun a w ha hf hT _ => by
    have := h a w ha hf hT
    simpa [wpOpsIn] using this
theorem YieldAt.weaken {F : Fence} {m l : Nat} {args : Array Value} {W : World} {R R' : Ending → World → Prop} (h : YieldAt F m P l args W R) (hr : ∀ e w', R e w' → R' e w') : YieldAt F m P l args W R' :=
  let ⟨fn, tmps, assign, body, h1, h2⟩ := h; ⟨fn, tmps, assign, body, h1, h2.mono hr⟩
theorem pli_yield {ops : Array Oper} {i k : Nat} {l : Nat} {args : Array Value} (d : Tmp) (i' k' : Nat) (hi : i' = i + 1) (hk : k = k' + 1) (hops : noDef ops = true) (H : opS ops n i L = some (some d, Instr.yield l args))
    {R : Value → World → Prop} (hy : ∀ w, Tab w0 w T → YieldAt Fence.wide 0 P l args w fun e w' => ∃ v, e = .returned v ∧ R v w')
    (hR : ∀ a w v, a.defers = dfs → FrOk n a.tmps ((d, v) :: L) → R v w → PLI P ops Q i' k' a w) : Cont dfs (PLI P ops Q i k) n w0 L T := by
  subst hi; subst hk
  intro a w ha hf hT hlo
  obtain ⟨o, ho, hdst, hd, hw, he⟩ := opS_core H hf
  rw [List.range'_succ]
  simp only [wpOpsIn, ho, hw, if_true]
  refine ⟨fun f _ => trivial, ?_⟩
  rw [Oper.semAt_eq _ _ _ (noDef_at hops ho), he]
  obtain ⟨fn, tmps, assign, body, hrun, hround⟩ := hy w hT
  rw [hrun]
  refine ⟨(fun h => by cases h), hround.mono ?_⟩
  rintro e w' ⟨v, rfl, hr⟩
  exact hR (a.put o.dst v) w' v (by rw [put_defers]; exact ha) (by rw [hdst]; exact hf.put (hd d rfl) v) hr hlo
theorem FrOk.puts {tmps : Array Value} (h : FrOk n tmps L) : ∀ (ps : List Nat) (vs : List Value), (ps.all fun p => Nat.blt p n) = true → FrOk n ((ps.zip vs).foldl (fun t p => t.setIfInBounds p.1 p.2) tmps) ((ps.zip vs).reverse ++ L) := by
  intro ps
  induction ps generalizing tmps L with
  | nil => intro vs _; exact h
  | cons p ps ih =>
    intro vs hp
    cases vs with
    | nil => exact h
    | cons v vs =>
      simp only [List.all_cons, Bool.and_eq_true] at hp
      have := ih (h.put (d := p) (by simpa using hp.1) v) vs hp.2
      simp only [List.zip_cons_cons, List.foldl_cons, List.reverse_cons, List.append_assoc, List.singleton_append]
      exact this
def RQ {X β : Type} (w0 : World) (Inv : List X → β → Prop) (Tr : β → List Ent) (Es : List Ent) {γ : Type} (Jx : Code → γ → Prop) (Tx : γ → List Ent) (z e1 e2 : Ent) (xs : List X) : Exit → Act → World → Prop
  | .normal, _, w => ∃ b, Inv xs b ∧ Tab w0 w (z :: e1 :: e2 :: (Es ++ Tr b))
  | .ret, _, w => ∃ c, Jx .ret c ∧ Tab w0 w (e1 :: e2 :: Tx c)
  | .exit id, _, w => ∃ c, Jx (.exit id) c ∧ Tab w0 w (e1 :: e2 :: Tx c)
  | _, _, _ => False
theorem pok_rq {X β γ : Type} {Inv : List X → β → Prop} {Tr : β → List Ent} {Es : List Ent} {Jx : Code → γ → Prop} {Tx : γ → List Ent} {z e1 e2 : Ent} {xs : List X} : PanicOk (RQ w0 Inv Tr Es Jx Tx z e1 e2 xs) := fun c a d v w h => h
theorem rq_next {X β γ : Type} {Inv : List X → β → Prop} {Tr : β → List Ent} {Es : List Ent} {Jx : Code → γ → Prop} {Tx : γ → List Ent} {z e1 e2 : Ent} {xs : List X} (b : β) (hi : Inv xs b) (hT : z :: e1 :: e2 :: (Es ++ Tr b) = T) : Cont dfs (RQ w0 Inv Tr Es Jx Tx z e1 e2 xs .normal) n w0 L T := by
  subst hT; exact fun a w _ _ h => ⟨b, hi, h⟩
theorem rq_ret {X β γ : Type} {Inv : List X → β → Prop} {Tr : β → List Ent} {Es : List Ent} {Jx : Code → γ → Prop} {Tx : γ → List Ent} {z e1 e2 : Ent} {xs : List X} (hz : z.wr = true → z.own = true) (c : γ) (hi : Jx .ret c) (hT : z :: e1 :: e2 :: Tx c = T) : Cont dfs (RQ w0 Inv Tr Es Jx Tx z e1 e2 xs .ret) n w0 L T := by
  subst hT; exact fun a w _ _ h => ⟨c, hi, h.drop hz⟩
theorem cont_rangeFunc {X β γ : Type} {g : Operand} {ps : Array Tmp} {assign body : Code} {gf : Nat} {lb : Array Value} (encs : X → Array Value) (Es : List Ent) (Ex : X → List Ent) (S Sp : List X → Prop) (Inv : List X → β → Prop) (Tr : β → List Ent) (Jx : Code → γ → Prop) (Tx : γ → List Ent) (b0 : β)
    (hg : knownB L g = some (.func (.func gf) #[] lb)) (eg : ∀ args w, (callFunc gf args).run P w = .ok (.enter gf args) w) (hps : ∀ x, (encs x).size = ps.size) (hpn : (ps.toList.all fun p => Nat.blt p n) = true)
    (hseq : IterC P gf lb encs w0 Es Ex S Sp) (h0 : Inv [] b0) (hT0 : Es ++ Tr b0 = T)
    (hbody : ∀ (l : Nat) (z e1 e1b e2 : Ent) (pre : List X) (x : X) (b : β) (B : Act → World → Prop), (z.wr = true → z.own = true) → Inv pre b → Sp (pre ++ [x]) →
      (∀ L' Xs R, Cont [] ((Mode.round P l).wp body (RQ w0 Inv Tr Es Jx Tx z e1b e2 (pre ++ [x]))) n w0 L' (Xs ++ e1b :: R) → Cont [] B n w0 L' (Xs ++ e1 :: R)) →
      Cont [] ((Mode.round P l).wp assign (Exit.then B (fun _ _ _ => False))) n w0 ((ps.toList.zip (encs x).toList).reverse ++ L) (Ex x ++ z :: e1 :: e2 :: (Es ++ Tr b)))
    (hdone : ∀ (D : Nat) (xs : List X) (b : β), S xs → Inv xs b → Cont [coll D] (Q .normal) n w0 L (markE D :: (Es ++ Tr b)))
    (hret : ∀ (D : Nat) (c : γ), Jx .ret c → Cont [coll D] (Q .ret) n w0 L (markE D :: Tx c))
    (hexit : ∀ (D id : Nat) (c : γ), Jx (.exit id) c → Cont [coll D] (Q (.exit id)) n w0 L (markE D :: Tx c)) :
    Cont [] ((Code.rangeFunc g ps assign body).wp P Q) n w0 L T := by
  subst hT0
  intro a w ha hf hT
  refine (wpIn_wide (n := 0)).1 (wpIn_rangeFunc ?_)
  intro fn _
  obtain ⟨rec, hrec⟩ : ∃ rec : LoopState → Option Code → Loop, rec = fun st pe => { state := st, pending := pe, fn, tmps := a.tmps, params := ps, assign, body, defers := w.heap.size } := ⟨_, rfl⟩
  have hTab := (hT.allocObj (.deferred (some []))).allocObj (.loop (rec .ready none))
  rw [World.size_alloc] at hTab
  obtain ⟨W1, hW1⟩ : ∃ W1, (w.alloc (.deferred (some []))).alloc (.loop (rec .ready none)) = W1 := ⟨_, rfl⟩
  rw [hW1] at hTab
  have hgv : a.eval g = .func (.func gf) #[] lb := knownB_eval hf hg
  refine ⟨w.heap.size + 1, [coll w.heap.size], W1, { target := .fn (.func gf) lb, args := #[.func (.yield (w.heap.size + 1)) #[] #[]] }, W1, gf, #[.func (.yield (w.heap.size + 1)) #[] #[]] ++ lb, W1, by rw [← hW1, hrec]; exact run_enterLoop_outer _ _ _ _ _, ?_, fun _ _ => trivial, ?_, (fun h => by cases h), ?_⟩
  · simp only [resolve, hgv]
    simp [go_sem]
  · simp [invoke, go_sem, eg]
  · have key := hseq Inv Tr (fun W => ∃ c d, Jx c d ∧ (c = .ret ∨ ∃ id, c = .exit id) ∧ Tab w0 W (objE (w.heap.size + 1) (.loop (rec .done (some c))) :: markE w.heap.size :: Tx d)) (w.heap.size + 1) (objE (w.heap.size + 1) (.loop (rec .ready none))) (markE w.heap.size) W1 b0 ?_ ?_ h0 hTab
    · refine calls_open open_wide (key.mono ?_)
      rintro e W ⟨⟨v, rfl⟩, ⟨xs, b, hS, hi, hW⟩ | ⟨c, d, hj, hc, hW⟩⟩
      · have hl : W.heap[w.heap.size + 1]? = some (.loop (rec .ready none)) := hW.ok 0 _ rfl
        refine ⟨none, _, by rw [run_endLoop hl (by rw [hrec]; simp)]; rw [hrec], ?_⟩
        have hW2 := (hW.putObj (i := 0) rfl (.loop { rec .ready none with state := .exhausted })).drop (fun _ => rfl)
        refine hdone w.heap.size xs b hS hi _ _ (by simp [ha, coll]) hf (by rw [hrec] at hW2; exact hW2)
      · have hl : W.heap[w.heap.size + 1]? = some (.loop (rec .done (some c))) := hW.ok 0 _ rfl
        refine ⟨some c, _, by rw [run_endLoop hl (by rw [hrec]; simp)]; rw [hrec], ?_⟩
        have hW2 := (hW.putObj (i := 0) rfl (.loop { rec .done (some c) with state := .exhausted })).drop (fun _ => rfl)
        refine wpIn_wide.2 ?_
        rcases hc with rfl | ⟨id, rfl⟩
        · exact wp_ret (hret w.heap.size d hj _ _ (by simp [ha, coll]) hf (by rw [hrec] at hW2; exact hW2))
        · exact wp_exit (hexit w.heap.size id d hj _ _ (by simp [ha, coll]) hf (by rw [hrec] at hW2; exact hW2))
    · rintro wa wb ⟨c, d, h1, h2, h3⟩ hb
      exact ⟨c, d, h1, h2, h3.below hb⟩
    · -- one round
      intro pre x b W1 z hz hi hsp hW
      have hfr : FrOk n ((ps.zip (encs x)).foldl (fun tmps (t, v) => tmps.setIfInBounds t v) a.tmps) ((ps.toList.zip (encs x).toList).reverse ++ L) := by
        have := hf.puts ps.toList (encs x).toList hpn
        rw [← Array.foldl_toList, Array.toList_zip]
        exact this
      have hidx : (Ex x ++ z :: objE (w.heap.size + 1) (.loop (rec .ready none)) :: markE w.heap.size :: (Es ++ Tr b))[(Ex x).length + 1]? = some (objE (w.heap.size + 1) (.loop (rec .ready none))) := by simp [List.getElem?_append_right]
      have hl : W1.heap[w.heap.size + 1]? = some (.loop (rec .ready none)) := hW.ok _ _ hidx
      have hy := run_yield (P := P) (args := encs x) hl (by rw [hrec]; exact hps x)
      rw [hrec] at hy
      refine ⟨fn, _, assign, body, hy, roundIn_of_wpIn (F := Fence.wide) trivial ?_⟩
      refine hbody (w.heap.size + 1) z (objE (w.heap.size + 1) (.loop (rec .ready none))) (objE (w.heap.size + 1) (.loop { rec .ready none with state := .busy })) (markE w.heap.size) pre x b _ hz hi hsp ?_ _ W1 rfl hfr hW ?_
      rotate_left
      · rintro ⟨a', w', hq⟩; exact hq
      intro L' Xs R hB a' W2 ha' hf' hW2
      have hidx2 : (Xs ++ objE (w.heap.size + 1) (.loop (rec .ready none)) :: R)[Xs.length]? = some (objE (w.heap.size + 1) (.loop (rec .ready none))) := by simp
      have hl2 : W2.heap[w.heap.size + 1]? = some (.loop (rec .ready none)) := hW2.ok _ _ hidx2
      have hW3 := hW2.putObj hidx2 (.loop { rec .ready none with state := .busy })
      have hset : (Xs ++ objE (w.heap.size + 1) (.loop (rec .ready none)) :: R).set Xs.length (objE (w.heap.size + 1) (.loop { rec .ready none with state := .busy })) = Xs ++ objE (w.heap.size + 1) (.loop { rec .ready none with state := .busy }) :: R := by simp
      rw [hset] at hW3
      refine ⟨_, run_beginRound hl2 (by rw [hrec]), wpIn_mono (hB a' _ ha' hf' hW3 ?_) ?_⟩
      · rintro ⟨a', w', hq⟩; exact hq
      · intro e a'' W3 hq
        have fin : ∀ (jump : Option Code) (i : Nat) (T' : List Ent), T'[i]? = some (objE (w.heap.size + 1) (.loop { rec .ready none with state := .busy })) → Tab w0 W3 T' →
            (Instr.endRound (w.heap.size + 1) jump).run P W3 = .ok (.bool jump.isNone) (W3.putObj (w.heap.size + 1) (.loop (rec (if jump.isNone then .ready else .done) jump))) ∧ Tab w0 (W3.putObj (w.heap.size + 1) (.loop (rec (if jump.isNone then .ready else .done) jump))) (T'.set i (objE (w.heap.size + 1) (.loop (rec (if jump.isNone then .ready else .done) jump)))) := by
          intro jump i T' hi3 hW3
          have hl3 : W3.heap[w.heap.size + 1]? = some (.loop { rec .ready none with state := .busy }) := hW3.ok i _ hi3
          refine ⟨?_, hW3.putObj hi3 _⟩
          rw [run_endRound jump hl3, hrec]
        cases e with
        | normal =>
          obtain ⟨b', hi', hW3⟩ := hq
          obtain ⟨h1, h2⟩ := fin none 1 _ rfl hW3
          exact ⟨_, _, h1, .inl ⟨rfl, b', hi', h2⟩⟩
        | ret =>
          obtain ⟨c, hj, hW3⟩ := hq
          obtain ⟨h1, h2⟩ := fin (some .ret) 0 _ rfl hW3
          exact ⟨_, _, h1, .inr ⟨rfl, .ret, c, hj, .inl rfl, h2⟩⟩
        | exit id =>
          obtain ⟨c, hj, hW3⟩ := hq
          obtain ⟨h1, h2⟩ := fin (some (.exit id)) 0 _ rfl hW3
          exact ⟨_, _, h1, .inr ⟨rfl, .exit id, c, hj, .inr ⟨id, rfl⟩, h2⟩⟩
        | goto t => exact hq.elim
        | panic ch => exact hq.elim
        | outgrown => exact hq.elim
end
theorem Tab.weaken {w0 w : World} {T : List Ent} (hT : Tab w0 w T) {i : Nat} {e e0 : Ent} (hi : T[i]? = some e) (ho : e.own = true) (hv : Vw e e0) (hw : e0.wr = false) : Tab w0 w (T.set i e0) := by
  have hok := hT.ok i e hi
  refine ⟨hT.os, hT.tape, hT.output, hT.size, ?_, ?_, ?_, ?_⟩
  · intro j x hx
    rcases getElem?_set_cases _ _ _ _ _ hx with ⟨_, rfl⟩ | ⟨_, hx⟩
    · exact hv.ok w hok
    · exact hT.ok j x hx
  · intro k hk hno
    refine hT.frame k hk (fun j x hx hxw hb => ?_)
    by_cases hj : j = i
    · subst hj
      rw [hi] at hx; cases hx
      have := hT.own j e hi ho k hb; omega
    · exact hno j x (by rw [List.getElem?_set_ne (Ne.symm hj)]; exact hx) hxw hb
  · intro j x hx hxo k hk
    rcases getElem?_set_cases _ _ _ _ _ hx with ⟨_, rfl⟩ | ⟨_, hx⟩
    · rw [hv.own] at hxo; cases hxo
    · exact hT.own j x hx hxo k hk
  · intro j l x y hjl hx hy hxy k hk hk'
    rcases getElem?_set_cases _ _ _ _ _ hx with ⟨hji, rfl⟩ | ⟨hj, hx2⟩
    · rcases getElem?_set_cases _ _ _ _ _ hy with ⟨hli, rfl⟩ | ⟨hl, hy⟩
      · omega
      · rw [hw] at hxy
        exact hT.disj i l e y (Ne.symm hl) hi hy (.inr (hxy.resolve_left (by simp))) k (hv.blk w hok k hk) hk'
    · rcases getElem?_set_cases _ _ _ _ _ hy with ⟨hli, rfl⟩ | ⟨hl, hy⟩
      · rw [hw] at hxy
        exact hT.disj j i x e hj hx2 hi (.inl (hxy.resolve_right (by simp))) k hk (hv.blk w hok k hk')
      · exact hT.disj j l x y hjl hx2 hy hxy k hk hk'
theorem cont_weaken {dfs : List Deferred} {K : Act → World → Prop} {n : Nat} {w0 : World} {L : List (Nat × Value)} {T : List Ent} (i : Nat) (e0 : Ent) {e : Ent} (hi : T[i]? = some e) (ho : e.own = true) (hv : Vw e e0) (hw : e0.wr = false) (h : Cont dfs K n w0 L (T.set i e0)) : Cont dfs K n w0 L T :=
  fun a w ha hf hT => h a w ha hf (hT.weaken hi ho hv hw)
end Go.Proofs.Ytkfdmfclndaanaa
namespace Go.Proofs.Ytkfdmfclndaanaa
open Go Go.RowKit
variable {dfs : List Deferred}
section
variable {P : Program}
end
end Go.Proofs.Ytkfdmfclndaanaa
namespace Go.Proofs.Ytkfdmfclndaanaa
open Go Go.RowKit
variable {P : Program} {dfs : List Deferred} {n : Nat} {w0 : World} {L : List (Tmp × Value)} {T : List Ent} {Q : Exit → Act → World → Prop}
def roObjE (b : Nat) (o : Obj) : Ent := .gen { blk := (· = b), wr := false, own := false, ok := fun w => w.heap[b]? = some o, stable := fun w w' h hk => (h b rfl).trans hk, inb := fun w k hk hb => by cases hb; exact (Array.getElem?_eq_some_iff.1 hk).1 }
def kvOf (e : MapEntry) : Value × Value := (e.key, e.val)
theorem leftOf_push (es : Array MapEntry) (sn : Array Nat) (b : Nat) : (leftOf es (sn.push b)).toList = (leftOf es sn).toList.filter fun x => x.born != b := by
  simp only [leftOf, Array.toList_filter, List.filter_filter]
  congr 1
  funext x
  simp only [Array.contains_push]
  cases h : sn.contains x.born <;> cases h2 : (x.born == b) <;> simp_all [bne]
theorem strike_born {L : List MapEntry} {e : MapEntry} (hn : (L.map (·.born)).Nodup) (he : e ∈ L) : ∃ A B, L = A ++ e :: B ∧ (L.filter fun x => x.born != e.born) = A ++ B := by
  obtain ⟨A, B, rfl⟩ := List.append_of_mem he
  refine ⟨A, B, rfl, ?_⟩
  rw [List.map_append, List.map_cons, List.nodup_append] at hn
  obtain ⟨_, h2, h3⟩ := hn
  rw [List.nodup_cons] at h2
  rw [List.filter_append, List.filter_cons]
  have e1 : (A.filter fun x => x.born != e.born) = A := List.filter_eq_self.2 fun x hx => by
    have := h3 x.born (List.mem_map.2 ⟨x, hx, rfl⟩) e.born (List.mem_cons_self ..)
    simpa using this
  have e2 : (B.filter fun x => x.born != e.born) = B := List.filter_eq_self.2 fun x hx => by
    have : x.born ≠ e.born := fun h => h2.1 (h ▸ List.mem_map.2 ⟨x, hx, rfl⟩)
    simpa using this
  rw [e1, e2]; simp
end Go.Proofs.Ytkfdmfclndaanaa
namespace Go.Proofs.Ytkfdmfclndaanaa
open Go Go.RowKit
theorem sorted_unique : ∀ {a b : List Int}, a.Pairwise (· ≤ ·) → b.Pairwise (· ≤ ·) → a.Perm b → a = b := by
  intro a
  induction a with
  | nil => intro b _ _ h; exact (List.nil_perm.1 h).symm ▸ rfl
  | cons x a ih =>
    intro b ha hb h
    cases b with
    | nil => exact absurd h.length_eq (by simp)
    | cons y b =>
      have h1 : x ∈ y :: b := h.mem_iff.1 (List.mem_cons_self ..)
      have h2 : y ∈ x :: a := h.mem_iff.2 (List.mem_cons_self ..)
      have hxy : x = y := by
        rw [List.pairwise_cons] at ha hb
        rcases List.mem_cons.1 h1 with e | e
        · exact e
        · rcases List.mem_cons.1 h2 with e2 | e2
          · exact e2.symm
          · have := hb.1 x e; have := ha.1 y e2; omega
      subst hxy
      rw [ih (List.pairwise_cons.1 ha).2 (List.pairwise_cons.1 hb).2 ((List.perm_cons x).1 h)]
theorem sortL_perm {a b : List Int} (h : a.Perm b) : sortL a = sortL b :=
  sorted_unique (sortL_sorted a) (sortL_sorted b) (((List.mergeSort_perm a _).trans h).trans (List.mergeSort_perm b _).symm)
end Go.Proofs.Ytkfdmfclndaanaa
namespace Go.Proofs.Ytkfdmfclndaanaa
open Go Go.RowKit
variable {dfs : List Deferred}
def sepE (A B : GenEnt) : GenEnt :=
  { blk := fun k => A.blk k ∨ B.blk k, wr := true, own := true,
    ok := fun w => A.ok w ∧ B.ok w ∧ ∀ k, A.blk k → ¬ B.blk k,
    stable := fun w w' h hk => ⟨A.stable w w' (fun b hb => h b (.inl hb)) hk.1, B.stable w w' (fun b hb => h b (.inr hb)) hk.2.1, hk.2.2⟩,
    inb := fun w k hk hb => hb.elim (A.inb w k hk.1) (B.inb w k hk.2.1) }
def nilE : GenEnt := { blk := fun _ => False, wr := true, own := true, ok := fun _ => True, stable := fun _ _ _ _ => trivial, inb := fun _ _ _ h => h.elim }
def cellsG (b : Nat) (cs : List Value) (t : TypeId) : GenEnt :=
  { blk := fun k => k = b, wr := true, own := true, ok := fun w => w.heap[b]? = some (.cells cs.toArray t (0, 0)),
    stable := fun w w' hb h => (hb b rfl).trans h,
    inb := fun w k h hk => by rw [show k = b from hk]; exact (Array.getElem?_eq_some_iff.1 h).1 }
theorem Tab.swapW {w0 w : World} {T : List Ent} (hT : Tab w0 w T) {i : Nat} {e e' : Ent} (hi : T[i]? = some e) (hw : e'.wr = e.wr) (ho : e'.own = true → e.own = true) (hb : ∀ k, e'.blk k ↔ e.blk k) (hok : e'.ok w) : Tab w0 w (T.set i e') := by
  refine ⟨hT.os, hT.tape, hT.output, hT.size, ?_, ?_, ?_, ?_⟩
  · intro j x hx
    rcases getElem?_set_cases _ _ _ _ _ hx with ⟨_, rfl⟩ | ⟨_, hx⟩
    · exact hok
    · exact hT.ok j x hx
  · intro k hk hno
    refine hT.frame k hk (fun j x hx hxw hbk => ?_)
    by_cases hj : j = i
    · subst hj
      rw [hi] at hx; cases hx
      have hlt := (List.getElem?_eq_some_iff.1 hi).1
      exact hno j e' (by simp [List.getElem?_set, hlt]) (hw.trans hxw) ((hb k).2 hbk)
    · exact hno j x (by rw [List.getElem?_set_ne (Ne.symm hj)]; exact hx) hxw hbk
  · intro j x hx hxo k hk
    rcases getElem?_set_cases _ _ _ _ _ hx with ⟨_, rfl⟩ | ⟨_, hx⟩
    · exact hT.own i e hi (ho hxo) k ((hb k).1 hk)
    · exact hT.own j x hx hxo k hk
  · intro j l x y hjl hx hy hxy k hk hk'
    rcases getElem?_set_cases _ _ _ _ _ hx with ⟨rfl, rfl⟩ | ⟨hj, hx2⟩
    · rcases getElem?_set_cases _ _ _ _ _ hy with ⟨rfl, _⟩ | ⟨hl, hy2⟩
      · exact absurd rfl hjl
      · exact hT.disj j l e y hjl hi hy2 (by rwa [← hw]) k ((hb k).1 hk) hk'
    · rcases getElem?_set_cases _ _ _ _ _ hy with ⟨rfl, rfl⟩ | ⟨hl, hy2⟩
      · exact hT.disj j l x e hjl hx2 hi (by rwa [← hw]) k hk ((hb k).1 hk')
      · exact hT.disj j l x y hjl hx2 hy2 hxy k hk hk'
theorem Tab.unsep {w0 w : World} {T : List Ent} (hT : Tab w0 w T) {i : Nat} {A B : GenEnt} (hi : T[i]? = some (.gen (sepE A B))) (hA : A.wr = true) (hB : B.wr = true) : Tab w0 w (.gen A :: T.set i (.gen B)) := by
  obtain ⟨h1, h2, h3⟩ : A.ok w ∧ B.ok w ∧ ∀ k, A.blk k → ¬ B.blk k := hT.ok i _ hi
  have hlt := (List.getElem?_eq_some_iff.1 hi).1
  have hset : (T.set i (.gen B))[i]? = some (.gen B) := by simp [List.getElem?_set, hlt]
  refine ⟨hT.os, hT.tape, hT.output, hT.size, ?_, ?_, ?_, ?_⟩
  · intro j x hx
    cases j with
    | zero => simp at hx; subst hx; exact h1
    | succ j =>
      rcases getElem?_set_cases _ _ _ _ _ (by simpa using hx) with ⟨_, rfl⟩ | ⟨_, hx⟩
      · exact h2
      · exact hT.ok j x hx
  · intro k hk hno
    refine hT.frame k hk (fun j x hx hxw hbk => ?_)
    by_cases hj : j = i
    · subst hj
      rw [hi] at hx; cases hx
      rcases hbk with hbk | hbk
      · exact hno 0 (.gen A) (by simp) hA hbk
      · exact hno (j + 1) (.gen B) (by simpa using hset) hB hbk
    · exact hno (j + 1) x (by rw [List.getElem?_cons_succ, List.getElem?_set_ne (Ne.symm hj)]; exact hx) hxw hbk
  · intro j x hx hxo k hk
    cases j with
    | zero => simp at hx; subst hx; exact hT.own i _ hi rfl k (.inl hk)
    | succ j =>
      rcases getElem?_set_cases _ _ _ _ _ (by simpa using hx) with ⟨_, rfl⟩ | ⟨_, hx⟩
      · exact hT.own i _ hi rfl k (.inr hk)
      · exact hT.own j x hx hxo k hk
  · have key : ∀ (j : Nat) (x : Ent), (T.set i (.gen B))[j]? = some x → ∀ k, A.blk k → ¬ x.blk k := by
      intro j x hx k hk hk'
      rcases getElem?_set_cases _ _ _ _ _ hx with ⟨_, rfl⟩ | ⟨hj, hx⟩
      · exact h3 k hk hk'
      · exact hT.disj i j _ x (fun e => hj e.symm) hi hx (.inl rfl) k (.inl hk) hk'
    have key2 : ∀ (j l : Nat) (x y : Ent), j ≠ l → (T.set i (.gen B))[j]? = some x → (T.set i (.gen B))[l]? = some y → (x.wr = true ∨ y.wr = true) → ∀ k, x.blk k → ¬ y.blk k := by
      intro j l x y hjl hx hy hxy k hk hk'
      rcases getElem?_set_cases _ _ _ _ _ hx with ⟨rfl, rfl⟩ | ⟨hj, hx2⟩
      · rcases getElem?_set_cases _ _ _ _ _ hy with ⟨rfl, _⟩ | ⟨hl, hy2⟩
        · exact absurd rfl hjl
        · exact hT.disj j l _ y hjl hi hy2 (.inl rfl) k (.inr hk) hk'
      · rcases getElem?_set_cases _ _ _ _ _ hy with ⟨rfl, rfl⟩ | ⟨hl, hy2⟩
        · exact hT.disj j l x _ hjl hx2 hi (.inr rfl) k hk (.inr hk')
        · exact hT.disj j l x y hjl hx2 hy2 hxy k hk hk'
    intro j l x y hjl hx hy hxy k hk hk'
    cases j with
    | zero =>
      simp at hx; subst hx
      cases l with
      | zero => exact absurd rfl hjl
      | succ l => exact key l y (by simpa using hy) k hk hk'
    | succ j =>
      cases l with
      | zero => simp at hy; subst hy; exact key j x (by simpa using hx) k hk' hk
      | succ l => exact key2 j l x y (by omega) (by simpa using hx) (by simpa using hy) hxy k hk hk'
theorem Tab.sep {w0 w : World} {T : List Ent} {A B : GenEnt} (hT : Tab w0 w (.gen A :: T)) {i : Nat} (hi : T[i]? = some (.gen B)) (hA : A.wr = true) (hB : B.wr = true) (hAo : A.own = true) (hBo : B.own = true) : Tab w0 w (T.set i (.gen (sepE A B))) := by
  have g0 : (.gen A :: T : List Ent)[0]? = some (.gen A) := rfl
  have gi : (.gen A :: T : List Ent)[i + 1]? = some (.gen B) := by simpa using hi
  have gs : ∀ (j : Nat) (x : Ent), T[j]? = some x → (.gen A :: T : List Ent)[j + 1]? = some x := fun j x h => by simpa using h
  have hlt := (List.getElem?_eq_some_iff.1 hi).1
  have hset : (T.set i (.gen (sepE A B)))[i]? = some (.gen (sepE A B)) := by simp [List.getElem?_set, hlt]
  refine ⟨hT.os, hT.tape, hT.output, hT.size, ?_, ?_, ?_, ?_⟩
  · intro j x hx
    rcases getElem?_set_cases _ _ _ _ _ hx with ⟨_, rfl⟩ | ⟨_, hx⟩
    · exact ⟨hT.ok 0 _ g0, hT.ok (i + 1) _ gi, fun k hk hk' => hT.disj 0 (i + 1) _ _ (by omega) g0 gi (.inl hA) k hk hk'⟩
    · exact hT.ok (j + 1) x (gs j x hx)
  · intro k hk hno
    refine hT.frame k hk (fun j x hx hxw hbk => ?_)
    cases j with
    | zero => simp at hx; subst hx; exact hno i _ hset rfl (.inl hbk)
    | succ j =>
      by_cases hj : j = i
      · subst hj
        rw [gi] at hx; cases hx
        exact hno j _ hset rfl (.inr hbk)
      · exact hno j x (by rw [List.getElem?_set_ne (Ne.symm hj)]; simpa using hx) hxw hbk
  · intro j x hx hxo k hk
    rcases getElem?_set_cases _ _ _ _ _ hx with ⟨_, rfl⟩ | ⟨_, hx⟩
    · rcases hk with hk | hk
      · exact hT.own 0 _ g0 hAo k hk
      · exact hT.own (i + 1) _ gi hBo k hk
    · exact hT.own (j + 1) x (gs j x hx) hxo k hk
  · intro j l x y hjl hx hy hxy k hk hk'
    rcases getElem?_set_cases _ _ _ _ _ hx with ⟨rfl, rfl⟩ | ⟨hj, hx2⟩
    · rcases getElem?_set_cases _ _ _ _ _ hy with ⟨rfl, _⟩ | ⟨hl, hy2⟩
      · exact absurd rfl hjl
      · rcases hk with hk | hk
        · exact hT.disj 0 (l + 1) _ y (by omega) g0 (gs l y hy2) (.inl hA) k hk hk'
        · exact hT.disj (j + 1) (l + 1) _ y (by omega) gi (gs l y hy2) (.inl hB) k hk hk'
    · rcases getElem?_set_cases _ _ _ _ _ hy with ⟨rfl, rfl⟩ | ⟨hl, hy2⟩
      · rcases hk' with hk' | hk'
        · exact hT.disj (j + 1) 0 x _ (by omega) (gs j x hx2) g0 (.inr hA) k hk hk'
        · exact hT.disj (j + 1) (l + 1) x _ (by omega) (gs j x hx2) gi (.inr hB) k hk hk'
      · exact hT.disj (j + 1) (l + 1) x y (by omega) (gs j x hx2) (gs l y hy2) hxy k hk hk'
structure PB where
  k : Int
  b : Nat
  id : Int
  nm : Bool
  hd : Int
  m : Nat
  W : Int
  H : Int
  q : Nat
  n : Nat
  px : List Int
def PB.c (x : PB) : List Value := [.int .i64 x.id, .bool x.nm, .pointer (some ⟨x.m, 0, none⟩), .int .i64 x.hd]
def PB.i (x : PB) : List Value := [.int .i64 x.W, .int .i64 x.H, .slice (some ⟨x.q, 0, none⟩) x.n x.n]
def PB.r (tC : TypeId) (x : PB) : GenEnt := rowE (some ⟨x.q, 0, none⟩) x.q x.n x.n tC 1 (ivals .u32 x.px) true
def PB.g (tB tI tC : TypeId) (x : PB) : GenEnt := sepE (cellsG x.m x.i tI) (sepE (cellsG x.b x.c tB) (x.r tC))
def allG (tB tI tC : TypeId) (l : List PB) : GenEnt := l.foldr (fun x e => sepE (x.g tB tI tC) e) nilE
def allE (tB tI tC : TypeId) (l : List PB) : GenEnt := { allG tB tI tC l with wr := true, own := true }
theorem allG_perm {tB tI tC : TypeId} {l l' : List PB} (h : l.Perm l') : (∀ k, (allG tB tI tC l').blk k ↔ (allG tB tI tC l).blk k) ∧ ∀ w, (allG tB tI tC l).ok w → (allG tB tI tC l').ok w := by
  induction h with
  | nil => exact ⟨fun k => Iff.rfl, fun w h => h⟩
  | cons x _ ih =>
    refine ⟨fun k => ?_, fun w h => ?_⟩
    · exact ⟨fun h => h.elim .inl fun h => .inr ((ih.1 k).1 h), fun h => h.elim .inl fun h => .inr ((ih.1 k).2 h)⟩
    · obtain ⟨h1, h2, h3⟩ := h
      exact ⟨h1, ih.2 w h2, fun k hk hk' => h3 k hk ((ih.1 k).1 hk')⟩
  | swap x y l =>
    refine ⟨fun k => ?_, fun w h => ?_⟩
    · show _ ∨ (_ ∨ _) ↔ _ ∨ (_ ∨ _)
      constructor
      · rintro (h | h | h)
        · exact .inr (.inl h)
        · exact .inl h
        · exact .inr (.inr h)
      · rintro (h | h | h)
        · exact .inr (.inl h)
        · exact .inl h
        · exact .inr (.inr h)
    · obtain ⟨h1, ⟨h2, h3, h4⟩, h5⟩ := h
      exact ⟨h2, ⟨h1, h3, fun k hk hk' => h5 k hk (.inr hk')⟩, fun k hk hk' => hk'.elim (fun h => h5 k h (.inl hk)) (fun h => h4 k hk h)⟩
  | trans _ _ ih1 ih2 => exact ⟨fun k => (ih2.1 k).trans (ih1.1 k), fun w h => ih2.2 w (ih1.2 w h)⟩
theorem Tab.takeB {w0 w : World} {T : List Ent} (hT : Tab w0 w T) {i : Nat} {tB tI tC : TypeId} {l : List PB} (hi : T[i]? = some (.gen (allE tB tI tC l))) {x : PB} {l' : List PB} (hp : l.Perm (x :: l')) :
    Tab w0 w (.cells x.b x.c tB true :: .cells x.m x.i tI true :: .gen (x.r tC) :: T.set i (.gen (allE tB tI tC l'))) := by
  have hlt := (List.getElem?_eq_some_iff.1 hi).1
  obtain ⟨hb, hok⟩ := allG_perm (tB := tB) (tI := tI) (tC := tC) hp
  have h1 : Tab w0 w (T.set i (.gen (sepE (x.g tB tI tC) (allE tB tI tC l')))) := hT.swapW hi rfl (fun _ => rfl) hb (hok w (hT.ok i _ hi))
  have h2 := h1.unsep (i := i) (A := x.g tB tI tC) (B := allE tB tI tC l') (by simp [List.getElem?_set, hlt]) rfl rfl
  rw [List.set_set] at h2
  have h3 : Tab w0 w (.gen (cellsG x.m x.i tI) :: .gen (sepE (cellsG x.b x.c tB) (x.r tC)) :: T.set i (.gen (allE tB tI tC l'))) := h2.unsep (i := 0) rfl rfl rfl
  have h4 : Tab w0 w (.gen (cellsG x.b x.c tB) :: .gen (cellsG x.m x.i tI) :: .gen (x.r tC) :: T.set i (.gen (allE tB tI tC l'))) := h3.unsep (i := 1) rfl rfl rfl
  have h5 : Tab w0 w (.cells x.b x.c tB true :: .gen (cellsG x.m x.i tI) :: .gen (x.r tC) :: T.set i (.gen (allE tB tI tC l'))) := h4.swapW (i := 0) (e := .gen (cellsG x.b x.c tB)) (e' := .cells x.b x.c tB true) rfl rfl (fun _ => rfl) (fun _ => Iff.rfl) (h4.ok 0 (.gen (cellsG x.b x.c tB)) rfl)
  exact h5.swapW (i := 1) (e := .gen (cellsG x.m x.i tI)) (e' := .cells x.m x.i tI true) rfl rfl (fun _ => rfl) (fun _ => Iff.rfl) (h5.ok 1 (.gen (cellsG x.m x.i tI)) rfl)
theorem Tab.putB {w0 w : World} {T : List Ent} {tB tI tC : TypeId} {x : PB} (hT : Tab w0 w (.cells x.b x.c tB true :: .cells x.m x.i tI true :: .gen (x.r tC) :: T)) {i : Nat} {l' l : List PB} (hi : T[i]? = some (.gen (allE tB tI tC l'))) (hp : (x :: l').Perm l) : Tab w0 w (T.set i (.gen (allE tB tI tC l))) := by
  have hlt := (List.getElem?_eq_some_iff.1 hi).1
  obtain ⟨hb, hok⟩ := allG_perm (tB := tB) (tI := tI) (tC := tC) hp
  have h1 : Tab w0 w (.gen (cellsG x.b x.c tB) :: .cells x.m x.i tI true :: .gen (x.r tC) :: T) := hT.swapW (i := 0) (e := .cells x.b x.c tB true) (e' := .gen (cellsG x.b x.c tB)) rfl rfl (fun _ => rfl) (fun _ => Iff.rfl) (hT.ok 0 (.cells x.b x.c tB true) rfl)
  have h2 : Tab w0 w (.gen (cellsG x.b x.c tB) :: .gen (cellsG x.m x.i tI) :: .gen (x.r tC) :: T) := h1.swapW (i := 1) (e := .cells x.m x.i tI true) (e' := .gen (cellsG x.m x.i tI)) rfl rfl (fun _ => rfl) (fun _ => Iff.rfl) (h1.ok 1 (.cells x.m x.i tI true) rfl)
  have h3 : Tab w0 w (.gen (cellsG x.m x.i tI) :: .gen (sepE (cellsG x.b x.c tB) (x.r tC)) :: T) := h2.sep (i := 1) rfl rfl rfl rfl rfl
  have h4 : Tab w0 w (.gen (x.g tB tI tC) :: T) := h3.sep (i := 0) rfl rfl rfl rfl rfl
  have h5 : Tab w0 w (T.set i (.gen (sepE (x.g tB tI tC) (allE tB tI tC l')))) := h4.sep hi rfl rfl rfl rfl
  have hs : (T.set i (.gen (sepE (x.g tB tI tC) (allE tB tI tC l'))))[i]? = some (.gen (sepE (x.g tB tI tC) (allE tB tI tC l'))) := by simp [List.getElem?_set, hlt]
  have h6 := h5.swapW (i := i) (e' := .gen (allE tB tI tC l)) hs rfl (fun _ => rfl) hb (hok w (h5.ok i _ hs))
  rwa [List.set_set] at h6
theorem cont_takeB {K : Act → World → Prop} {n : Nat} {w0 : World} {L : List (Tmp × Value)} {T : List Ent} (i : Nat) {tB tI tC : TypeId} {l : List PB} (x : PB) (l' : List PB) (hi : T[i]? = some (.gen (allE tB tI tC l))) (hp : l.Perm (x :: l'))
    (h : Cont dfs K n w0 L (.cells x.b x.c tB true :: .cells x.m x.i tI true :: .gen (x.r tC) :: T.set i (.gen (allE tB tI tC l')))) : Cont dfs K n w0 L T :=
  fun a w ha hf hT => h a w ha hf (hT.takeB hi hp)
theorem cont_putB {K : Act → World → Prop} {n : Nat} {w0 : World} {L : List (Tmp × Value)} {T : List Ent} (i : Nat) {tB tI tC : TypeId} (x : PB) (l' l : List PB) (hi : T[i]? = some (.gen (allE tB tI tC l'))) (hp : (x :: l').Perm l)
    (h : Cont dfs K n w0 L (T.set i (.gen (allE tB tI tC l)))) : Cont dfs K n w0 L (.cells x.b x.c tB true :: .cells x.m x.i tI true :: .gen (x.r tC) :: T) :=
  fun a w ha hf hT => h a w ha hf (hT.putB hi hp)
theorem cont_nilB {K : Act → World → Prop} {n : Nat} {w0 : World} {L : List (Tmp × Value)} {T : List Ent} (tB tI tC : TypeId) (h : Cont dfs K n w0 L (.gen (allE tB tI tC []) :: T)) : Cont dfs K n w0 L T :=
  fun a w ha hf hT => h a w ha hf (hT.fresh _ trivial (fun k hk => hk))
end Go.Proofs.Ytkfdmfclndaanaa
namespace Go.Proofs.Ytkfdmfclndaanaa
open Go Go.RowKit
variable {P : Program} {dfs : List Deferred} {n : Nat} {w0 : World} {L : List (Tmp × Value)} {T : List Ent} {Q : Exit → Act → World → Prop}
abbrev PmL := List (Int × Nat)
def pmsV (l : PmL) : MS := l.map fun p => (p.1, Value.pointer (some ⟨p.2, 0, none⟩))
def enc2P (p : Int × Nat) : Value × Value := (.int .i64 p.1, .pointer (some ⟨p.2, 0, none⟩))
structure MapFP (es : Array MapEntry) (ck : Nat) (l : PmL) : Prop where
  kv : es.toList.map kvOf = l.map enc2P
  lt : ∀ e ∈ es.toList, e.born < ck
  nd : (es.toList.map (·.born)).Nodup
theorem cont_openMapP {K : Act → World → Prop} (i : Nat) {b : Nat} {l : PmL} (hi : T[i]? = some (.gen (mapE b (pmsV l) true))) (h : ∀ (es : Array MapEntry) (ck : Nat), MapFP es ck l → Cont dfs K n w0 L (T.set i (objE b (.map es ck)))) : Cont dfs K n w0 L T := by
  intro a w ha hf hT
  have hk : MapAt w b (pmsV l) := hT.ok i _ hi
  obtain ⟨es, ck, h1, h2, h3, h4⟩ := hk.here
  refine h es ck ⟨?_, h3, h4⟩ a w ha hf (hT.swapW (e' := objE b (.map es ck)) hi rfl (fun _ => rfl) (fun _ => Iff.rfl) h1)
  show es.toList.map (fun e => (e.key, e.val)) = _
  rw [h2]
  unfold pmsV
  rw [List.map_map]; rfl
theorem cont_closeMapP {K : Act → World → Prop} (i : Nat) {b ck : Nat} {es : Array MapEntry} {l : PmL} (hi : T[i]? = some (objE b (.map es ck))) (hF : MapFP es ck l) (h : Cont dfs K n w0 L (T.set i (.gen (mapE b (pmsV l) true)))) : Cont dfs K n w0 L T := by
  intro a w ha hf hT
  have hk : w.heap[b]? = some (.map es ck) := hT.ok i _ hi
  refine h a w ha hf (hT.swapW (e' := .gen (mapE b (pmsV l) true)) hi rfl (fun _ => rfl) (fun _ => Iff.rfl) (show MapAt w b (pmsV l) from ⟨es, ck, hk, ?_, hF.lt, hF.nd⟩))
  have := hF.kv
  unfold kvOf at this
  rw [this]
  unfold pmsV
  rw [List.map_map]; rfl
structure IterPP (es : Array MapEntry) (l : PmL) (sn : Array Nat) (dn : PmL) : Prop where
  left : ∃ lf : PmL, (leftOf es sn).toList.map kvOf = lf.map enc2P ∧ (dn ++ lf).Perm l
theorem IterPP.start {es : Array MapEntry} {ck : Nat} {l : PmL} (h : MapFP es ck l) : IterPP es l #[] [] :=
  ⟨l, by rw [← h.kv, show (leftOf es #[]).toList = es.toList by simp only [leftOf, Array.toList_filter]; exact List.filter_eq_self.2 (fun _ _ => by simp)], List.Perm.refl _⟩
theorem IterPP.done {es : Array MapEntry} {l : PmL} {sn : Array Nat} {dn : PmL} (h : IterPP es l sn dn) (h0 : (leftOf es sn).size = 0) : dn.Perm l := by
  obtain ⟨lf, h1, h2⟩ := h.left
  have h3 := congrArg List.length h1
  simp only [List.length_map, Array.length_toList] at h3
  have : lf = [] := List.length_eq_zero_iff.1 (by omega)
  subst this
  simpa using h2
theorem IterPP.len {es : Array MapEntry} {l : PmL} {sn : Array Nat} {dn : PmL} (h : IterPP es l sn dn) : dn.length ≤ l.length := by
  obtain ⟨lf, h1, h2⟩ := h.left
  have := h2.length_eq
  rw [List.length_append] at this
  omega
theorem IterPP.step {es : Array MapEntry} {ck : Nat} {l : PmL} {sn : Array Nat} {dn : PmL} (hF : MapFP es ck l) (h : IterPP es l sn dn) {e : MapEntry} (he : e ∈ (leftOf es sn).toList) :
    ∃ p : Int × Nat, e.key = .int .i64 p.1 ∧ e.val = .pointer (some ⟨p.2, 0, none⟩) ∧ p ∈ l ∧ IterPP es l (sn.push e.born) (dn ++ [p]) := by
  obtain ⟨lf, h1, h2⟩ := h.left
  have hsub : ((leftOf es sn).toList.map (·.born)).Nodup := by
    refine List.Nodup.sublist (List.Sublist.map _ ?_) hF.nd
    simp only [leftOf, Array.toList_filter]
    exact List.filter_sublist
  obtain ⟨A, B, e1, e2⟩ := strike_born hsub he
  rw [e1, List.map_append, List.map_cons] at h1
  obtain ⟨a, r, rfl, ha, hr⟩ := List.map_eq_append_iff.1 h1.symm
  obtain ⟨p, b, rfl, hp, hb⟩ := List.map_eq_cons_iff.1 hr
  have hp' : enc2P p = kvOf e := hp
  refine ⟨p, (congrArg Prod.fst hp').symm, (congrArg Prod.snd hp').symm, h2.mem_iff.1 (by simp), ⟨a ++ b, ?_, ?_⟩⟩
  · rw [leftOf_push, e2, List.map_append, List.map_append, ha, hb]
  · refine List.Perm.trans ?_ h2
    rw [List.append_assoc]
    exact (List.perm_append_left_iff dn).2 (by simpa using List.perm_middle.symm)
def LastEP (es : Array MapEntry) (sn : Array Nat) (x : Int) (v : Nat) : Prop := ∃ (s : Array Nat) (e : MapEntry), sn = s.push e.born ∧ e ∈ es.toList ∧ e.key = .int .i64 x ∧ e.val = .pointer (some ⟨v, 0, none⟩)
theorem sem_rangeP {ops : Array Oper} {i : Nat} {K : Act → World → Prop} (d : Tmp) {m bm ck : Nat} {es : Array MapEntry} {t k e : TypeId} (H : opS ops n i L = some (some d, valS (Instr.range t (.map (some bm))))) (ht : P.underlying t = some (.map k e)) (hb : ∃ e, T[m]? = some e ∧ ∀ w, e.ok w → w.heap[bm]? = some (.map es ck))
    (hk : ∀ r : Nat, Cont dfs K n w0 ((d, .pointer (some ⟨r, 0, none⟩)) :: L) (objE r (.mapIter (some bm) ck #[] ck) :: T)) : Cont dfs (wpOp P ops Q i K) n w0 L T :=
  sSW d _ (α := Nat) (fun r => .pointer (some ⟨r, 0, none⟩)) (fun r => objE r (.mapIter (some bm) ck #[] ck) :: T) (fun _ => True) H
    (fun w hT => ⟨w.heap.size, _, run_range_map w t k e bm es ck ht (by obtain ⟨e_, h1_, h2_⟩ := hb; exact h2_ w (hT.ok m _ h1_)), trivial, hT.allocObj _⟩) (fun r _ => hk r)
theorem sem_nextP {ops : Array Oper} {i : Nat} {K : Act → World → Prop} (d : Tmp) {j m r bm ck : Nat} {es : Array MapEntry} {sn : Array Nat} {l dn : PmL} {ty : TypeId} (H : opS ops n i L = some (some d, valS (Instr.next (.pointer (some ⟨r, 0, none⟩)) false ty)))
    (hr : T[j]? = some (objE r (.mapIter (some bm) ck sn ck))) (hb : ∃ e, T[m]? = some e ∧ ∀ w, e.ok w → w.heap[bm]? = some (.map es ck)) (hF : MapFP es ck l) (hP : IterPP es l sn dn)
    (h0 : dn.Perm l → Cont dfs K n w0 ((d, .tuple #[.bool false]) :: L) T)
    (h1 : ∀ (x : Int) (v : Nat) (sn' : Array Nat), (x, v) ∈ l → IterPP es l sn' (dn ++ [(x, v)]) → LastEP es sn' x v → Cont dfs K n w0 ((d, .tuple #[.bool true, .int .i64 x, .pointer (some ⟨v, 0, none⟩)]) :: L) (T.set j (objE r (.mapIter (some bm) ck sn' ck)))) : Cont dfs (wpOp P ops Q i K) n w0 L T := by
  intro a w ha hf hT
  obtain ⟨o, ho, hdst, hd, hw, he⟩ := opS_core H hf
  have hr' : w.heap[r]? = some (.mapIter (some bm) ck sn ck) := hT.ok j _ hr
  have hb' : w.heap[bm]? = some (.map es ck) := by obtain ⟨e_, h1_, h2_⟩ := hb; exact h2_ w (hT.ok m _ h1_)
  unfold wpOp
  simp only [ho, hw, if_true]
  refine .inl ?_
  unfold Oper.wp
  rcases run_next_at (P := P) w ty r bm ck ck sn es ck hr' hb' hF.lt (Nat.le_refl _) with ⟨hz, hrun⟩ | ⟨e, he', w1, hw1, hrun⟩
  · rw [he, valS_run hrun]
    show K (a.put o.dst _) w
    rw [hdst]
    exact h0 (hP.done hz) _ _ (by rw [put_defers]; exact ha) (frok_putD hf hd) hT
  · obtain ⟨⟨x, v⟩, hk, hv, hm, hP'⟩ := hP.step hF he'
    rw [he, valS_run hrun, hk, hv]
    show K (a.put o.dst _) _
    rw [hdst]
    have hmem : e ∈ es.toList := by
      simp only [leftOf, Array.toList_filter] at he'
      exact (List.mem_filter.1 he').1
    refine h1 x v _ hm hP' ⟨sn, e, rfl, hmem, hk, hv⟩ _ _ (by rw [put_defers]; exact ha) (frok_putD hf hd) ?_
    rcases hw1 with rfl | rfl
    · exact hT.putObj hr _
    · exact hT.drew.putObj hr _
theorem run_entryP {w : World} {r bm ck : Nat} {es : Array MapEntry} {sn : Array Nat} {l : PmL} {x : Int} {v : Nat} (hr : w.heap[r]? = some (.mapIter (some bm) ck sn ck)) (hb : w.heap[bm]? = some (.map es ck)) (hF : MapFP es ck l) (hl : LastEP es sn x v) :
    (Instr.entry (.pointer (some ⟨r, 0, none⟩))).run P w = .ok (.tuple #[.int .i64 x, .pointer (some ⟨v, 0, none⟩)]) w := by
  obtain ⟨s, e, rfl, he, hk, hv⟩ := hl
  have := run_entry_at (P := P) w r bm ck s es ck e hr hb he hF.nd
  rwa [hk, hv] at this
def pget : PmL → Int → Option Nat
  | [], _ => none
  | (k, v) :: r, x => if x = k then some v else pget r x
theorem mget_pmsV (l : PmL) (x : Int) : mget (pmsV l) x = (pget l x).map fun b => Value.pointer (some ⟨b, 0, none⟩) := by
  induction l with
  | nil => rfl
  | cons p r ih =>
    obtain ⟨k, v⟩ := p
    show (if x = k then some (Value.pointer (some ⟨v, 0, none⟩)) else mget (pmsV r) x) = (if x = k then some v else pget r x).map fun b => Value.pointer (some ⟨b, 0, none⟩)
    rw [ih]
    by_cases h : x = k <;> simp [h]
theorem Vw.objRo {b : Nat} {o : Obj} : Vw (objE b o) (roObjE b o) := ⟨fun _ h => h, fun _ _ _ h => h, fun _ => rfl, rfl⟩
theorem Vw.roObj {b : Nat} {o : Obj} : Vw (roObjE b o) (roObjE b o) := ⟨fun _ h => h, fun _ _ _ h => h, id, rfl⟩
end Go.Proofs.Ytkfdmfclndaanaa
namespace Go.Proofs.Ytkfdmfclndaanaa
open Go.ChangeShapes Go.WideShapes Go.ChangeAt Go.RowKit Go.Deep
theorem own0 : ownKnob Try.prog.godebug = none := by kernel_rfl
theorem laidOut0 : laidOutB Try.prog = true := by kernel_rfl
section
variable {H : Type} {enc : TypeId × Value → H} {P : Program}
theorem post_below {f : Func} {s : ChangeSpec} {apart fresh handsOn again : Bool} {W W' : World} {args : Array Value} {v : Value} {ds gs : List (DataW H)} {before pa pv : List MemPlace}
    (hW : DataW.Whole enc P f.params.toList s.vars apart W args.toList ds gs before)
    (hres : ∀ (b : Nat) (sp : Nat → Bool) (hd : Bool), DataW.TrodAll enc P W' b sp hd f.resultTypes.toList (v.resultList f.resultTypes.size) (s.fn H (ds ++ gs)).results [])
    (hargs : ∀ sp : Nat → Bool, (∀ p ∈ before, sp p.block = true) → DataW.TrodAll enc P W' 0 sp true f.params.toList args.toList (s.fn H (ds ++ gs)).args pa)
    (hvars : ∀ sp : Nat → Bool, (∀ p ∈ before, sp p.block = true) → DataW.TrodVars enc P W' sp s.vars (s.fn H (ds ++ gs)).vars pv)
    (hps : before = pa ++ pv) (hb : Below W.heap.size W W')
    (hok : ∀ (j : Nat) (t : TypeId) (r : Value), f.resultTypes[j]? = some t → (v.resultList f.resultTypes.size)[j]? = some r → Value.okWide P W' .any 0 t r) :
    s.post enc P f apart fresh handsOn again W args v W' := by
  have hlt : ∀ p ∈ before, p.block < W.heap.size := fun p hp => hW.lt p hp
  have hold : ∀ p ∈ before, (fun b => decide (b < W.heap.size)) p.block = true := fun p hp => by simpa using hlt p hp
  refine ⟨ds, gs, before, [], pa, pv, hW, hres _ _ _, hargs _ hold, hvars _ hold, World.keptBut_mono (fun p hp => ⟨hp, ?_⟩) (hb.frame (· ∈ before)), fun _ => ?_⟩
  · rw [hps, List.mem_append] at hp
    exact Or.inr hp
  · obtain ⟨_, _, _, _, _, hz, hn⟩ := hW
    refine ⟨hok, _, _, ([] ++ pa) ++ pv, ⟨[] ++ pa, pv, trodAll_append (hargs _ (fun _ _ => rfl)) (hres _ _ _), hvars _ (fun _ _ => rfl), rfl, ?_, ?_⟩, ?_⟩
    · intro b off hp
      have hin : MemPlace.cell b off ∈ before := by rw [hps]; simpa using hp
      rw [hb.frozen (hlt _ hin)]
      exact hz b off hin
    · intro ha
      have := hn ha
      rw [hps] at this
      simpa using this
    · intro p hp _
      rw [hps]
      simpa using hp
theorem trod_keeps {t : TypeId} (hl : laidOutB P = true) (hr : P.readableRec t = true) (hrow : t < P.types.size) {W W' : World} {v : Value} {d : DataW H} {ps : List MemPlace}
    (h : DataW.Trod enc P W 0 (fun _ => true) true t v d ps) (hb : Below W.heap.size W W') (hlt : ∀ x ∈ ps, x.block < W.heap.size) (sp : Nat → Bool) (hsp : ∀ p ∈ ps, sp p.block = true) : DataW.Trod enc P W' 0 sp true t v d ps :=
  WideElems.Trod_stays hl hr hrow h (fun x hx => hb.same (hlt x hx)) hsp
end
theorem addr_split {a : Addr} (h : a.spot = none) (j : Nat) : a.add j = ⟨a.block, a.off + j, none⟩ := by
  cases a with
  | mk b o s =>
    simp only at h
    subst h
    unfold Addr.add
    split <;> simp_all
theorem spot_of_cell {W : World} {a : Addr} {v : Value} (h : W.cell? a = some v) : a.spot = none := by
  unfold World.cell? at h
  split at h
  · split at h
    · cases h
    · rename_i hs; simpa using hs
  · cases h
theorem open_nums {H : Type} {enc : TypeId × Value → H} {P : Program} {W : World} {t e : TypeId} {k : IntKind} {v : Value} {d : DataW H} {ps : List MemPlace} (ht : P.underlying t = some (.slice e)) (he : P.underlying e = some (.int k)) (hc : P.cellsOf e = 1)
    (hval : Value.okWide P W .any 0 t v) (h : DataW.Trod enc P W 0 (fun _ => true) true t v d ps) :
    ∃ (A : Option Addr) (g o n cap : Nat) (xs : List Int), v = .slice A n cap ∧ Rd W A g o n 1 (ivals k xs) ∧ xs.length = n ∧ n ≤ cap ∧ cap ≤ maxLen ∧ (∀ x ∈ xs, (Lit.int k x).wf = true) := by
  obtain ⟨a, len, cap, rfl⟩ := okWide_slice ht hval
  obtain ⟨fuel, hf⟩ := h
  have hcells : (Value.slice a len cap).cells.toList = [.slice a len cap] := rfl
  rw [hcells] at hf
  rcases open_ints ht he hc hf with ⟨h1, _⟩ | ⟨ad, len', cap', zs, h1, _, hle, hm, hlen, _, hcell, hwf⟩
  · simp only [List.cons.injEq, Value.slice.injEq, and_true] at h1
    obtain ⟨rfl, rfl, rfl⟩ := h1
    exact ⟨none, 0, 0, 0, 0, [], rfl, ⟨rfl, fun h => by omega, fun j v hj => by simp [ivals] at hj⟩, rfl, Nat.le_refl _, by unfold maxLen; omega, fun x hx => by cases hx⟩
  · simp only [List.cons.injEq, Value.slice.injEq, and_true] at h1
    obtain ⟨rfl, rfl, rfl⟩ := h1
    simp only [if_true] at hlen
    have hsp : 0 < len → ad.spot = none := fun hp => by
      have := hcell 0 (by omega)
      have h0 : ad.add 0 = ad := by simp [Addr.add]
      rw [h0] at this
      exact spot_of_cell this
    refine ⟨some ad, ad.block, ad.off, len, cap, zs.take len, rfl, ⟨by simp [ivals]; omega, fun hp => ?_, fun j v hj => ?_⟩, by simp; omega, hle, hm, fun x hx => hwf x (List.mem_of_mem_take hx)⟩
    · have := hsp hp
      cases ad with
      | mk b o s => simp only at this; subst this; rfl
    · have hjl : j < (ivals k (zs.take len)).length := (List.getElem?_eq_some_iff.1 hj).1
      rw [ivals_length, List.length_take] at hjl
      have hg := ivals_get (k := k) (xs := zs.take len) (j := j) (by rw [List.length_take]; exact hjl)
      rw [hg] at hj
      cases hj
      have hc1 := hcell j (by omega)
      rw [addr_split (hsp (by omega))] at hc1
      rw [hc1]
      congr 2
      simp only [List.getD_eq_getElem?_getD]
      rw [List.getElem?_take, if_pos (by omega)]
theorem trod_sub {H : Type} {enc : TypeId × Value → H} {P : Program} {W : World} {t ty : TypeId} {fs : Array Field} {i fuel : Nat} {f : Field} {cs cs' : List Value} {x : DataW H × List MemPlace} (ht : P.underlying t = some (.struct fs))
    (h : DataW.trod enc P W 0 (fun _ => true) true fuel t cs = some x) (hf : fs[i]? = some f) (hty : f.type = ty) (e : (cs.drop f.offset).take (P.cellsOf f.type) = cs') : ∃ (n : Nat) (y : DataW H × List MemPlace), DataW.trod enc P W 0 (fun _ => true) true n ty cs' = some y := by
  obtain ⟨xs, n, _, _, _, hlen, hg⟩ := DataW.trod_struct ht h
  have h1 := hg i f hf
  rw [e, hty] at h1
  have hi : i < xs.length := by rw [hlen]; exact (Array.getElem?_eq_some_iff.1 hf).1
  rw [List.getElem?_eq_getElem hi] at h1
  exact ⟨n, _, h1⟩
theorem open_intC {H : Type} {enc : TypeId × Value → H} {P : Program} {W : World} {t : TypeId} {k : IntKind} {c : Value} {n : Nat} {x : DataW H × List MemPlace} (ht : P.underlying t = some (.int k)) (h : DataW.trod enc P W 0 (fun _ => true) true n t [c] = some x) : ∃ a : Int, c = .int k a ∧ (Lit.int k a).wf = true := by
  obtain ⟨a, e, _, w⟩ := DataW.trod_int ht h
  exact ⟨a, by simpa using e, w⟩
theorem open_numsC {H : Type} {enc : TypeId × Value → H} {P : Program} {W : World} {t e : TypeId} {k : IntKind} {c : Value} {fuel : Nat} {x : DataW H × List MemPlace} (ht : P.underlying t = some (.slice e)) (he : P.underlying e = some (.int k)) (hc : P.cellsOf e = 1)
    (hf : DataW.trod enc P W 0 (fun _ => true) true fuel t [c] = some x) :
    ∃ (A : Option Addr) (g o n cap : Nat) (xs : List Int), c = .slice A n cap ∧ Rd W A g o n 1 (ivals k xs) ∧ xs.length = n ∧ n ≤ cap ∧ cap ≤ maxLen ∧ (∀ x ∈ xs, (Lit.int k x).wf = true) := by
  rcases open_ints ht he hc hf with ⟨h1, _⟩ | ⟨ad, len', cap', zs, h1, _, hle, hm, hlen, _, hcell, hwf⟩
  · simp only [List.cons.injEq, and_true] at h1
    exact ⟨none, 0, 0, 0, 0, [], h1, ⟨rfl, fun h => by omega, fun j v hj => by simp [ivals] at hj⟩, rfl, Nat.le_refl _, by unfold maxLen; omega, fun x hx => by cases hx⟩
  · simp only [List.cons.injEq, and_true] at h1
    simp only [if_true] at hlen
    have hsp : 0 < len' → ad.spot = none := fun hp => by
      have := hcell 0 (by omega)
      have h0 : ad.add 0 = ad := by simp [Addr.add]
      rw [h0] at this
      exact spot_of_cell this
    refine ⟨some ad, ad.block, ad.off, len', cap', zs.take len', h1, ⟨by simp [ivals]; omega, fun hp => ?_, fun j v hj => ?_⟩, by simp; omega, hle, hm, fun x hx => hwf x (List.mem_of_mem_take hx)⟩
    · have := hsp hp
      cases ad with
      | mk b o s => simp only at this; subst this; rfl
    · have hjl : j < (ivals k (zs.take len')).length := (List.getElem?_eq_some_iff.1 hj).1
      rw [ivals_length, List.length_take] at hjl
      have hg := ivals_get (k := k) (xs := zs.take len') (j := j) (by rw [List.length_take]; exact hjl)
      rw [hg] at hj
      cases hj
      have hc1 := hcell j (by omega)
      rw [addr_split (hsp (by omega))] at hc1
      rw [hc1]
      congr 2
      simp only [List.getD_eq_getElem?_getD]
      rw [List.getElem?_take, if_pos (by omega)]
end Go.Proofs.Ytkfdmfclndaanaa
namespace Go.Proofs.Ytkfdmfclndaanaa
open Go Go.ChangeShapes Go.WideShapes Go.ChangeAt Go.RowKit Go.Deep
end Go.Proofs.Ytkfdmfclndaanaa
namespace Go.Proofs.Ytkfdmfclndaanaa
open Go Go.ChangeShapes Go.WideShapes Go.ChangeAt Go.RowKit Go.Deep
variable {dfs : List Deferred}
section
def dget {α : Type} [Inhabited α] (l : List α) (i : Nat) : α := l.getD i default
theorem dget_zero {α : Type} [Inhabited α] (a : α) (l : List α) : dget (a :: l) 0 = a := rfl
theorem dget_succ {α : Type} [Inhabited α] (a : α) (l : List α) (i : Nat) : dget (a :: l) (i + 1) = dget l i := by simp [dget]
theorem dget_mem {α : Type} [Inhabited α] {l : List α} {i : Nat} (h : i < l.length) : dget l i ∈ l := by
  unfold dget; rw [List.getD_eq_getElem?_getD, List.getElem?_eq_getElem h]; simp
def dvals {α : Type} (cel : α → List Value) : List α → List Value
  | [] => []
  | a :: l => cel a ++ dvals cel l
theorem dvals_length {α : Type} {cel : α → List Value} {z : Nat} (hz : ∀ a, (cel a).length = z) : ∀ l : List α, (dvals cel l).length = l.length * z := by
  intro l
  induction l with
  | nil => simp [dvals]
  | cons a l ih => rw [dvals, List.length_append, ih, hz, List.length_cons, Nat.succ_mul, Nat.add_comm]
theorem dvals_get {α : Type} [Inhabited α] {cel : α → List Value} {z : Nat} (hz : ∀ a, (cel a).length = z) : ∀ {l : List α} {i k : Nat} {v : Value}, i < l.length → (cel (dget l i))[k]? = some v → (dvals cel l)[i * z + k]? = some v := by
  intro l
  induction l with
  | nil => intro i k v h; simp at h
  | cons a l ih =>
    intro i k v h hk
    cases i with
    | zero =>
      rw [dget_zero] at hk
      rw [Nat.zero_mul, Nat.zero_add, dvals, List.getElem?_append_left (List.getElem?_eq_some_iff.1 hk).1]
      exact hk
    | succ i =>
      rw [dget_succ] at hk
      rw [dvals, Nat.succ_mul, List.getElem?_append_right (by rw [hz]; omega), hz, show i * z + z + k - z = i * z + k by omega]
      exact ih (by simpa using h) hk
theorem Rd.dcell {α : Type} [Inhabited α] {w : World} {A : Option Addr} {g o n z : Nat} {cel : α → List Value} {l : List α} (hz : ∀ a, (cel a).length = z) (h : Rd w A g o n z (dvals cel l)) {i : Nat} (hi : i < l.length) : ∀ j v, (cel (dget l i))[j]? = some v → w.cell? ⟨g, (o + i * z) + j, none⟩ = some v := fun j v hj => by
  have := h.cell (i * z + j) v (dvals_get hz hi hj)
  rwa [← Nat.add_assoc] at this
theorem Rd.dsub {α : Type} [Inhabited α] {w : World} {A : Option Addr} {g o n z : Nat} {cel : α → List Value} {l : List α} (hz : ∀ a, (cel a).length = z) (h : Rd w A g o n z (dvals cel l)) {i : Nat} (hi : i < l.length) (f m : Nat) {cs : List Value} (hc : ((cel (dget l i)).drop f).take m = cs) : ∀ j v, cs[j]? = some v → w.cell? ⟨g, (o + i * z + f) + j, none⟩ = some v := fun j v hj => by
  subst hc
  rw [List.getElem?_take] at hj
  split at hj
  · rw [List.getElem?_drop] at hj
    have := h.dcell hz hi (f + j) v hj
    rwa [← Nat.add_assoc] at this
  · cases hj
theorem Rd.dcell1 {α : Type} [Inhabited α] {w : World} {A : Option Addr} {g o n z : Nat} {cel : α → List Value} {l : List α} (hz : ∀ a, (cel a).length = z) (h : Rd w A g o n z (dvals cel l)) {i : Nat} (hi : i < l.length) (f : Nat) {v : Value} (hv : (cel (dget l i))[f]? = some v) : w.cell? ⟨g, o + i * z + f, none⟩ = some v := h.dcell hz hi f v hv
theorem Rd.factsD {α : Type} {w : World} {A : Option Addr} {g o n z : Nat} {cel : α → List Value} {l : List α} (hz : ∀ a, (cel a).length = z) (h0 : 0 < z) (h : Rd w A g o n z (dvals cel l)) : (0 < n → A = some ⟨g, o, none⟩) ∧ l.length = n := by
  refine ⟨h.at_, ?_⟩
  have := h.len
  rw [dvals_length hz] at this
  exact Nat.eq_of_mul_eq_mul_right h0 this
theorem dget_map {α : Type} [Inhabited α] {F : Nat → α} {n i : Nat} (h : i < n) : dget ((List.range n).map F) i = F i := by
  simp [dget, List.getD_eq_getElem?_getD, h]
end
def subE (n : Nat) (G : Nat → GenEnt) : GenEnt :=
  { blk := fun k => ∃ i, i < n ∧ (G i).blk k, wr := false, own := false, ok := fun w => ∀ i, i < n → (G i).ok w,
    stable := fun w w' hb h i hi => (G i).stable w w' (fun b hbk => hb b ⟨i, hi, hbk⟩) (h i hi),
    inb := fun w b h hb => by obtain ⟨i, hi, hk⟩ := hb; exact (G i).inb w b (h i hi) hk }
theorem Tab.sub {w0 w : World} {T : List Ent} (hT : Tab w0 w T) {j n : Nat} {G : Nat → GenEnt} (hj : T[j]? = some (.gen (subE n G))) {i : Nat} (hi : i < n) (hw : (G i).wr = false) (ho : (G i).own = false) : Tab w0 w (.gen (G i) :: T) := by
  have hok := hT.ok j _ hj i hi
  refine ⟨hT.os, hT.tape, hT.output, hT.size, ?_, ?_, ?_, ?_⟩
  · intro q e he
    cases q with
    | zero => simp at he; subst he; exact hok
    | succ q => exact hT.ok q e (by simpa using he)
  · intro k hk hne
    exact hT.frame k hk (fun q e he hwr => hne (q + 1) e (by simpa using he) hwr)
  · intro q e he hown
    cases q with
    | zero => simp at he; subst he; exact absurd hown (by show ¬ (G i).own = true; rw [ho]; simp)
    | succ q => exact hT.own q e (by simpa using he) hown
  · intro p q e e' hpq he he' hwr k hk hk'
    cases p with
    | zero =>
      simp at he; subst he
      cases q with
      | zero => exact hpq rfl
      | succ q =>
        have he2 : T[q]? = some e' := by simpa using he'
        have hw' : e'.wr = true := by
          rcases hwr with h | h
          · exact absurd h (by show ¬ (G i).wr = true; rw [hw]; simp)
          · exact h
        have hne : j ≠ q := by
          intro hq; subst hq
          rw [hj] at he2; cases he2; cases hw'
        exact hT.disj j q _ e' hne hj he2 (.inr hw') k ⟨i, hi, hk⟩ hk'
    | succ p =>
      have he2 : T[p]? = some e := by simpa using he
      cases q with
      | zero =>
        simp at he'; subst he'
        have hw' : e.wr = true := by
          rcases hwr with h | h
          · exact h
          · exact absurd h (by show ¬ (G i).wr = true; rw [hw]; simp)
        have hne : p ≠ j := by
          intro hq; subst hq
          rw [hj] at he2; cases he2; cases hw'
        exact hT.disj p j e _ hne he2 hj (.inl hw') k hk ⟨i, hi, hk'⟩
      | succ q => exact hT.disj p q e e' (by omega) he2 (by simpa using he') hwr k hk hk'
theorem Tab.olds {w : World} : ∀ {T : List Ent}, (∀ (i : Nat) (e : Ent), T[i]? = some e → e.ok w ∧ e.own = false ∧ e.wr = false) → Tab w w T := by
  intro T
  induction T with
  | nil => intro _; exact Tab.start w
  | cons e T ih =>
    intro h
    have h0 := h 0 e rfl
    refine Tab.addOld (ih (fun i x hx => h (i + 1) x (by simpa using hx))) e h0.1 h0.2.1 (fun i x hx hw => ?_)
    have h1 := h (i + 1) x (by simpa using hx)
    rcases hw with hw | hw
    · rw [h0.2.2] at hw; cases hw
    · rw [h1.2.2] at hw; cases hw
theorem cont_sub {K : Act → World → Prop} {n : Nat} {w0 : World} {L : List (Nat × Value)} {T : List Ent} (j i m : Nat) (G : Nat → GenEnt) (hj : T[j]? = some (.gen (subE m G))) (hi : i < m) (hw : (G i).wr = false) (ho : (G i).own = false) (h : Cont dfs K n w0 L (.gen (G i) :: T)) : Cont dfs K n w0 L T :=
  fun a w ha hf hT => h a w ha hf (hT.sub hj hi hw ho)
theorem open_listC {α : Type} [Inhabited α] {cel : α → List Value} {z : Nat} (hz : ∀ a, (cel a).length = z) (hz0 : 0 < z) {good : World → α → Prop} {H : Type} {enc : TypeId × Value → H} {P : Program} {W : World} {ts t : TypeId} {c : Value} {n : Nat} {x : DataW H × List MemPlace} (ht : P.underlying ts = some (.slice t)) (hct : P.cellsOf t = z)
    (hone : ∀ (cs : List Value) (n : Nat) (x : DataW H × List MemPlace), cs.length = z → DataW.trod enc P W 0 (fun _ => true) true n t cs = some x → ∃ a : α, cs = cel a ∧ good W a)
    (h : DataW.trod enc P W 0 (fun _ => true) true n ts [c] = some x) :
    ∃ (A : Option Addr) (g o n cap : Nat) (l : List α), c = .slice A n cap ∧ Rd W A g o n z (dvals cel l) ∧ l.length = n ∧ n ≤ cap ∧ cap ≤ maxLen ∧ (∀ a ∈ l, good W a) := by
  rcases open_slice ht h with ⟨e, _⟩ | ⟨a, len, cap, m, k, D, Pl, e, _, hle, hm, hmm, _, hx⟩
  · simp only [List.cons.injEq, and_true] at e
    exact ⟨none, 0, 0, 0, 0, [], e, ⟨by simp [dvals], fun h => by omega, fun j v hj => by simp [dvals] at hj⟩, rfl, Nat.le_refl _, by unfold maxLen; omega, fun x hx => by cases hx⟩
  · simp only [List.cons.injEq, and_true] at e
    simp only [if_true] at hmm
    have each : ∀ i, i < len → ∃ r : α, (∀ j v, (cel r)[j]? = some v → W.cell? ((a.add (i * z)).add j) = some v) ∧ good W r := by
      intro i hil
      obtain ⟨cs', g1, g2⟩ := hx i (by omega)
      rw [hct] at g1
      obtain ⟨_, hlen, hcell⟩ := World.cells?_some g1
      obtain ⟨r, rfl, hr⟩ := hone _ _ _ (by simpa using hlen) g2
      refine ⟨r, fun j v hj => ?_, hr⟩
      have hjl := (List.getElem?_eq_some_iff.1 hj).1
      have := hcell j (by rw [hz] at hjl; simpa using hjl)
      rw [this]
      simpa using hj
    have hF : ∃ F : Nat → α, ∀ i, i < len → (∀ j v, (cel (F i))[j]? = some v → W.cell? ((a.add (i * z)).add j) = some v) ∧ good W (F i) :=
      ⟨fun i => if h : i < len then Classical.choose (each i h) else default, fun i h => by simp only [dif_pos h]; exact Classical.choose_spec (each i h)⟩
    obtain ⟨F, hF⟩ := hF
    have hsp : 0 < len → a.spot = none := fun hp => by
      have h0 : 0 < (cel (F 0)).length := by rw [hz]; exact hz0
      have := (hF 0 hp).1 0 _ (List.getElem?_eq_getElem h0)
      have z' : (a.add (0 * z)).add 0 = a := by simp [Addr.add]
      rw [z'] at this
      exact spot_of_cell this
    refine ⟨some a, a.block, a.off, len, cap, (List.range len).map F, e, ⟨by rw [dvals_length hz]; simp, fun hp => ?_, fun j v hj => ?_⟩, by simp, hle, hm, fun r hr => ?_⟩
    · have := hsp hp
      cases a with
      | mk b o s => simp only at this; subst this; rfl
    · have hjl := (List.getElem?_eq_some_iff.1 hj).1
      rw [dvals_length hz, List.length_map, List.length_range] at hjl
      have hq : j / z < len := Nat.div_lt_of_lt_mul (by rwa [Nat.mul_comm])
      have hr : j % z < z := Nat.mod_lt _ hz0
      have hk := List.getElem?_eq_getElem (l := cel (F (j / z))) (i := j % z) (by rw [hz]; exact hr)
      have h2 := dvals_get hz (l := (List.range len).map F) (i := j / z) (k := j % z) (by simpa using hq) (by rw [dget_map hq]; exact hk)
      rw [show j / z * z + j % z = j by rw [Nat.mul_comm]; exact Nat.div_add_mod j z, hj] at h2
      have h3 := (hF _ hq).1 (j % z) v (by rw [hk]; exact h2.symm)
      have hs2 := hsp (Nat.lt_of_le_of_lt (Nat.zero_le _) hq)
      rw [addr_split hs2, addr_split rfl] at h3
      simp only at h3
      rw [show a.off + j / z * z + j % z = a.off + j by rw [Nat.add_assoc, Nat.mul_comm, Nat.div_add_mod]] at h3
      exact h3
    · obtain ⟨i, hi, rfl⟩ := List.mem_map.1 hr
      exact (hF i (List.mem_range.1 hi)).2
theorem open_list {α : Type} [Inhabited α] {cel : α → List Value} {z : Nat} (hz : ∀ a, (cel a).length = z) (hz0 : 0 < z) {good : World → α → Prop} {H : Type} {enc : TypeId × Value → H} {P : Program} {W : World} {ts t : TypeId} {v : Value} {d : DataW H} {ps : List MemPlace} (ht : P.underlying ts = some (.slice t)) (hct : P.cellsOf t = z)
    (hone : ∀ (cs : List Value) (n : Nat) (x : DataW H × List MemPlace), cs.length = z → DataW.trod enc P W 0 (fun _ => true) true n t cs = some x → ∃ a : α, cs = cel a ∧ good W a)
    (hval : Value.okWide P W .any 0 ts v) (h : DataW.Trod enc P W 0 (fun _ => true) true ts v d ps) :
    ∃ (A : Option Addr) (g o n cap : Nat) (l : List α), v = .slice A n cap ∧ Rd W A g o n z (dvals cel l) ∧ l.length = n ∧ n ≤ cap ∧ cap ≤ maxLen ∧ (∀ a ∈ l, good W a) := by
  obtain ⟨a, len, cap, rfl⟩ := okWide_slice ht hval
  obtain ⟨fuel, hf⟩ := h
  exact open_listC hz hz0 ht hct hone hf
end Go.Proofs.Ytkfdmfclndaanaa
