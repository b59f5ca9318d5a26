/- The symbolic executor: maps with whole numbers as keys, as entries of the table. Generic in the program. -/
import Derived.Test.YtommojgfkkoghaaSd
set_option linter.unusedVariables false
set_option linter.unusedSimpArgs false
namespace Go.Proofs.Ytommojgfkkoghaa
open Go Go.RowKit

abbrev MS := List (Int × Value)
def mget : MS → Int → Option Value
  | [], _ => none
  | (k, v) :: r, x => if x = k then some v else mget r x
def mput : MS → Int → Value → MS
  | [], x, u => [(x, u)]
  | (k, v) :: r, x, u => if x = k then (x, u) :: r else (k, v) :: mput r x u
def mdel : MS → Int → MS
  | [], _ => []
  | (k, v) :: r, x => if x = k then r else (k, v) :: mdel r x

/-- Block b is a map that holds these, in the order in which they came; no key twice; the stamps are old. -/
structure MapAt (w : World) (b : Nat) (ms : MS) : Prop where
  here : ∃ es clock, w.heap[b]? = some (.map es clock) ∧ es.toList.map (fun e => (e.key, e.val)) = ms.map (fun p => (Value.int .i64 p.1, p.2)) ∧ (∀ e ∈ es.toList, e.born < clock) ∧ (es.toList.map (·.born)).Nodup

def mapE (b : Nat) (ms : MS) (own : Bool) : GenEnt :=
  { blk := fun k => k = b, wr := true, own := own, ok := fun w => MapAt w b ms,
    stable := fun w w' hb h => by
      obtain ⟨es, c, h1, h2⟩ := h.here
      exact ⟨es, c, (hb b rfl).trans h1, h2⟩,
    inb := fun w k h hk => by
      obtain ⟨es, c, h1, h2⟩ := h.here
      rw [hk]
      exact (Array.getElem?_eq_some_iff.1 h1).1 }

section
variable {P : Program}
theorem findNow_ms {kf : IntKind} (x : Int) : ∀ (es : List MapEntry) (ms : MS) (i : Nat), es.map (fun e => (e.key, e.val)) = ms.map (fun p => (Value.int .i64 p.1, p.2)) →
    ∃ r, Instr.findNow (.int kf) (.int .i64 x) es i = some r ∧ r.map (·.2) = mget ms x ∧ (∀ j v, r = some (j, v) → i ≤ j ∧ j - i < es.length ∧ (∃ p, ms[j - i]? = some p ∧ p.1 = x) ∧ ∀ l, l < j - i → ∀ p, ms[l]? = some p → p.1 ≠ x) := by
  intro es
  induction es with
  | nil =>
    intro ms i h
    cases ms with
    | nil => exact ⟨none, rfl, rfl, fun j v hj => by cases hj⟩
    | cons p r => simp at h
  | cons e es ih =>
    intro ms i h
    cases ms with
    | nil => simp at h
    | cons p r =>
      obtain ⟨k, v⟩ := p
      simp only [List.map_cons, List.cons.injEq, Prod.mk.injEq] at h
      obtain ⟨⟨hk, hv⟩, hr⟩ := h
      by_cases hx : x = k
      · subst hx
        refine ⟨some (i, e.val), ?_, ?_, ?_⟩
        · simp [Instr.findNow, hk, Instr.sameNow]
        · simp [mget, hv]
        · intro j u hj
          simp only [Option.some.injEq, Prod.mk.injEq] at hj
          obtain ⟨rfl, rfl⟩ := hj
          refine ⟨Nat.le_refl _, by simp, ⟨_, by simp; rfl, rfl⟩, fun l hl => by omega⟩
      · obtain ⟨q, h1, h2, h3⟩ := ih r (i + 1) hr
        refine ⟨q, ?_, ?_, ?_⟩
        · have : (x == k) = false := by simpa using hx
          simp [Instr.findNow, hk, Instr.sameNow, this, h1]
        · simp [mget, hx, h2]
        · intro j u hj
          obtain ⟨a1, a2, ⟨p, hp, hpx⟩, a3⟩ := h3 j u hj
          refine ⟨by omega, by simp; omega, ⟨p, ?_, hpx⟩, ?_⟩
          · rw [show j - i = (j - (i + 1)) + 1 by omega]; simpa using hp
          · intro l hl p' hp'
            cases l with
            | zero => simp at hp'; subst hp'; exact fun h => hx h.symm
            | succ l => exact a3 l (by omega) p' (by simpa using hp')

theorem checkKey_intN {t : TypeId} {kf : IntKind} (hu : P.underlying t = some (.int kf)) (b : Bool) (x : Int) (n : Nat) (w : World) : (Instr.checkKey b (n + 1) t (.int .i64 x)).run P w = .ok () w := by
  simp [Instr.checkKey, run_underlying hu]
theorem checkKey_int {t : TypeId} {kf : IntKind} (hu : P.underlying t = some (.int kf)) (b : Bool) (x : Int) (w : World) : (Instr.checkKey b 10000 t (.int .i64 x)).run P w = .ok () w := checkKey_intN hu b x 9999 w
theorem getMap {w : World} {b : Nat} {es : Array MapEntry} {c : Nat} (h : w.heap[b]? = some (.map es c)) : (getObj b).run P w = .ok (.map es c) w := by
  simp [getObj, Sem.run, h]
theorem findKey_run {t : TypeId} {kf : IntKind} (hu : P.underlying t = some (.int kf)) {x : Int} {es : List MapEntry} {r : Option (Nat × Value)} (h : Instr.findNow (.int kf) (.int .i64 x) es 0 = some r) (w : World) : (Instr.findKey t (.int .i64 x) es).run P w = .ok r w := by
  simp [Instr.findKey, Sem.run_bind, run_underlying hu, h]

theorem run_lookup {w : World} {b : Nat} {ms : MS} (h : MapAt w b ms) {t kt et : TypeId} {kf : IntKind} {z : Value} (ht : P.underlying t = some (.map kt et)) (hk : P.underlying kt = some (.int kf)) (hz : (P.info? et).map (·.zero) = some (some z)) (x : Int) :
    (Instr.lookup t (.map (some b)) (.int .i64 x) false).run P w = .ok ((mget ms x).getD z) w := by
  obtain ⟨es, c, h1, h2, h3, h4⟩ := h.here
  obtain ⟨r, hr, hg, _⟩ := findNow_ms (kf := kf) x es.toList ms 0 h2
  obtain ⟨i, hi, hiz⟩ := Option.map_eq_some_iff.1 hz
  have hzv : (zeroValue et).run P w = .ok z w := by simp [zeroValue, Sem.run_bind, typeInfo, hi, hiz]
  simp only [Instr.lookup, Sem.run_bind, run_underlying ht, Result.andThen_ok, getMap h1, Sem.run_pure, checkKey_int hk, findKey_run hk hr]
  rw [← hg]
  cases r with
  | none => simp [hzv]
  | some p => simp
theorem run_lookup2 {w : World} {b : Nat} {ms : MS} (h : MapAt w b ms) {t kt et : TypeId} {kf : IntKind} {z : Value} (ht : P.underlying t = some (.map kt et)) (hk : P.underlying kt = some (.int kf)) (hz : (P.info? et).map (·.zero) = some (some z)) (x : Int) :
    (Instr.lookup t (.map (some b)) (.int .i64 x) true).run P w = .ok (.tuple #[(mget ms x).getD z, .bool (mget ms x).isSome]) w := by
  obtain ⟨es, c, h1, h2, h3, h4⟩ := h.here
  obtain ⟨r, hr, hg, _⟩ := findNow_ms (kf := kf) x es.toList ms 0 h2
  obtain ⟨i, hi, hiz⟩ := Option.map_eq_some_iff.1 hz
  have hzv : (zeroValue et).run P w = .ok z w := by simp [zeroValue, Sem.run_bind, typeInfo, hi, hiz]
  simp only [Instr.lookup, Sem.run_bind, run_underlying ht, Result.andThen_ok, getMap h1, Sem.run_pure, checkKey_int hk, findKey_run hk hr]
  rw [← hg]
  cases r with
  | none => simp [hzv]
  | some p => simp

theorem mput_at {x : Int} {u : Value} : ∀ (ms : MS) (j : Nat) (p : Int × Value), ms[j]? = some p → p.1 = x → (∀ l, l < j → ∀ q, ms[l]? = some q → q.1 ≠ x) → mput ms x u = ms.set j (x, u) := by
  intro ms
  induction ms with
  | nil => intro j p h; simp at h
  | cons q r ih =>
    intro j p h hp hl
    obtain ⟨k, v⟩ := q
    cases j with
    | zero =>
      simp at h; subst h
      simp only at hp
      subst hp
      simp [mput]
    | succ j =>
      have hk : x ≠ k := fun e => hl 0 (by omega) (k, v) (by simp) e.symm
      simp only [mput, if_neg hk, List.set_cons_succ]
      rw [ih j p (by simpa using h) hp (fun l hlj q hq => hl (l + 1) (by omega) q (by simpa using hq))]
theorem mput_new {x : Int} {u : Value} : ∀ (ms : MS), mget ms x = none → mput ms x u = ms ++ [(x, u)] := by
  intro ms
  induction ms with
  | nil => intro _; rfl
  | cons q r ih =>
    intro h
    obtain ⟨k, v⟩ := q
    by_cases hk : x = k
    · simp [mget, hk] at h
    · simp only [mget, if_neg hk] at h
      simp only [mput, if_neg hk, ih h]; rfl
theorem mdel_at {x : Int} : ∀ (ms : MS) (j : Nat) (p : Int × Value), ms[j]? = some p → p.1 = x → (∀ l, l < j → ∀ q, ms[l]? = some q → q.1 ≠ x) → mdel ms x = ms.eraseIdx j := by
  intro ms
  induction ms with
  | nil => intro j p h; simp at h
  | cons q r ih =>
    intro j p h hp hl
    obtain ⟨k, v⟩ := q
    cases j with
    | zero =>
      simp at h; subst h
      simp only at hp
      subst hp
      simp [mdel]
    | succ j =>
      have hk : x ≠ k := fun e => hl 0 (by omega) (k, v) (by simp) e.symm
      simp only [mdel, if_neg hk, List.eraseIdx_cons_succ]
      rw [ih j p (by simpa using h) hp (fun l hlj q hq => hl (l + 1) (by omega) q (by simpa using hq))]
theorem mdel_none {x : Int} : ∀ (ms : MS), mget ms x = none → mdel ms x = ms := by
  intro ms
  induction ms with
  | nil => intro _; rfl
  | cons q r ih =>
    intro h
    obtain ⟨k, v⟩ := q
    by_cases hk : x = k
    · simp [mget, hk] at h
    · simp only [mget, if_neg hk] at h
      simp only [mdel, if_neg hk, ih h]

theorem map_erase {α β : Type} (f : α → β) : ∀ (l : List α) (j : Nat), (l.eraseIdx j).map f = (l.map f).eraseIdx j := by
  intro l
  induction l with
  | nil => intro j; simp
  | cons a r ih =>
    intro j
    cases j with
    | zero => rfl
    | succ j => simp only [List.eraseIdx_cons_succ, List.map_cons, ih]
def World.setO (w : World) (b : Nat) (o : Obj) : World := { w with heap := w.heap.setIfInBounds b o }
theorem setO_run {w : World} {b : Nat} {es : Array MapEntry} {c : Nat} (h : w.heap[b]? = some (.map es c)) (o : Obj) : (setObj b o).run P w = .ok () (World.setO w b o) := by
  simp [setObj, Sem.run, h, World.setO]
theorem Tab.setMap {w0 w : World} {T : List Ent} (hT : Tab w0 w T) {i b : Nat} {ms ms' : MS} {own : Bool} (hi : T[i]? = some (.gen (mapE b ms own))) {es : Array MapEntry} {c : Nat}
    (h2 : es.toList.map (fun e => (e.key, e.val)) = ms'.map (fun p => (Value.int .i64 p.1, p.2))) (h3 : ∀ e ∈ es.toList, e.born < c) (h4 : (es.toList.map (·.born)).Nodup) : Tab w0 (World.setO w b (.map es c)) (T.set i (.gen (mapE b ms' own))) := by
  have hb : b < w.heap.size := (mapE b ms own).inb w b (hT.ok i _ hi) rfl
  refine hT.replace (e := .gen (mapE b ms own)) (e' := .gen (mapE b ms' own)) hi rfl rfl id (fun k hk => .inl hk) (fun k _ hk _ => hk) rfl rfl rfl (by simp [World.setO]) (fun k hk hne => ?_) ?_
  · simp only [World.setO]
    rw [Array.getElem?_setIfInBounds_ne (fun e => hne e.symm)]
  · exact ⟨es, c, by simp [World.setO, hb], h2, h3, h4⟩

theorem run_update {w0 w : World} {T : List Ent} (hT : Tab w0 w T) {i b : Nat} {ms : MS} {own : Bool} (hi : T[i]? = some (.gen (mapE b ms own))) {t kt et : TypeId} {kf : IntKind} (ht : P.underlying t = some (.map kt et)) (hk : P.underlying kt = some (.int kf)) (x : Int) (u : Value) :
    ∃ (y : Unit) (w' : World), (Instr.mapUpdate t (.map (some b)) (.int .i64 x) u).run P w = .ok () w' ∧ True ∧ Tab w0 w' (T.set i (.gen (mapE b (mput ms x u) own))) := by
  have hm : MapAt w b ms := hT.ok i _ hi
  obtain ⟨es, c, h1, h2, h3, h4⟩ := hm.here
  obtain ⟨r, hr, hg, hj⟩ := findNow_ms (kf := kf) x es.toList ms 0 h2
  have hlen : es.toList.length = ms.length := by have := congrArg List.length h2; simpa using this
  cases r with
  | none =>
    refine ⟨(), World.setO w b (.map (es.push { key := .int .i64 x, val := u, born := c }) (c + 1)), ?_, trivial, ?_⟩
    · simp only [Instr.mapUpdate, Sem.run_bind, run_underlying ht, Result.andThen_ok, getMap h1, checkKey_int hk, findKey_run hk hr]
      exact setO_run h1 _
    · refine hT.setMap hi ?_ ?_ ?_
      · rw [mput_new ms (by rw [← hg]; rfl)]
        simp [h2]
      · intro e he
        simp only [Array.toList_push, List.mem_append, List.mem_singleton] at he
        rcases he with he | rfl
        · have := h3 e he; omega
        · simp
      · simp only [Array.toList_push, List.map_append, List.map_cons, List.map_nil]
        refine List.nodup_append.2 ⟨h4, by simp, fun a ha b hb => ?_⟩
        simp only [List.mem_singleton] at hb
        subst hb
        obtain ⟨e, he, rfl⟩ := List.mem_map.1 ha
        have := h3 e he
        omega
  | some p =>
    obtain ⟨j, v⟩ := p
    obtain ⟨_, hjl, ⟨q, hq, hqx⟩, hno⟩ := hj j v rfl
    simp only [Nat.sub_zero] at hjl hq hno
    have hes : es[j]? = some es[j] := Array.getElem?_eq_getElem (by simpa using hjl)
    have hkey : es[j].key = .int .i64 x := by
      have := congrArg (fun l => l[j]?) h2
      simp only [List.getElem?_map, hq, Option.map_some] at this
      rw [Array.getElem?_toList, hes] at this
      simp only [Option.map_some, Option.some.injEq, Prod.mk.injEq] at this
      rw [this.1, hqx]
    have hstay : (Instr.keyThatStays (.int .i64 x) (.int .i64 x)).run P w = .ok (.int .i64 x) w := by
      simp [Instr.keyThatStays, Instr.sameBits]
    refine ⟨(), World.setO w b (.map (es.modify j fun e => { e with key := .int .i64 x, val := u }) c), ?_, trivial, ?_⟩
    · simp only [Instr.mapUpdate, Sem.run_bind, run_underlying ht, Result.andThen_ok, getMap h1, checkKey_int hk, findKey_run hk hr, hes, Option.map_some, Option.getD_some, hkey, hstay]
      exact setO_run h1 _
    · have hmod : (es.modify j fun e => { e with key := .int .i64 x, val := u }).toList = es.toList.set j { es[j] with key := .int .i64 x, val := u } := by
        apply List.ext_getElem?
        intro l
        rw [Array.getElem?_toList, Array.getElem?_modify, List.getElem?_set]
        by_cases hl : j = l
        · subst hl
          have hjl' : j < es.size := by simpa using hjl
          simp [hes, hjl']
        · simp [hl]
      refine hT.setMap hi ?_ ?_ ?_
      · rw [hmod, mput_at ms j q hq hqx hno, List.map_set, h2, List.map_set]
      · intro e he
        rw [hmod] at he
        rcases List.mem_or_eq_of_mem_set he with he | rfl
        · exact h3 e he
        · exact h3 es[j] (by simp)
      · rw [hmod, List.map_set]
        have : (es.toList.map (·.born)).set j ({ es[j] with key := Value.int .i64 x, val := u } : MapEntry).born = es.toList.map (·.born) := by
          apply List.ext_getElem?
          intro l
          rw [List.getElem?_set]
          by_cases hl : j = l
          · subst hl
            have hjl' : j < es.size := by simpa using hjl
            simp [hes, hjl']
          · simp [hl]
        rw [this]; exact h4

theorem run_delete {w0 w : World} {T : List Ent} (hT : Tab w0 w T) {i b : Nat} {ms : MS} {own : Bool} (hi : T[i]? = some (.gen (mapE b ms own))) {t kt et ty : TypeId} {ts : Array TypeId} {kf : IntKind} (hts : ts[0]? = some t) (ht : P.underlying t = some (.map kt et)) (hk : P.underlying kt = some (.int kf)) (x : Int) :
    ∃ (y : Unit) (w' : World), (∃ v, (Builtin.delete_ ts ty #[.map (some b), .int .i64 x]).run P w = .ok v w') ∧ True ∧ Tab w0 w' (T.set i (.gen (mapE b (mdel ms x) own))) := by
  have hm : MapAt w b ms := hT.ok i _ hi
  obtain ⟨es, c, h1, h2, h3, h4⟩ := hm.here
  obtain ⟨r, hr, hg, hj⟩ := findNow_ms (kf := kf) x es.toList ms 0 h2
  cases r with
  | none =>
    refine ⟨(), World.setO w b (.map es c), ⟨.tuple #[], ?_⟩, trivial, ?_⟩
    · simp only [Builtin.delete_, hts, Sem.run_bind, run_underlying ht, Result.andThen_ok, getMap h1, checkKey_int hk, findKey_run hk hr]
      simp [Sem.run_bind, run_underlying ht, getMap h1, checkKey_int hk, findKey_run hk hr, setO_run h1]
    · rw [mdel_none ms (by rw [← hg]; rfl)]
      exact hT.setMap hi h2 h3 h4
  | some p =>
    obtain ⟨j, v⟩ := p
    obtain ⟨_, hjl, ⟨q, hq, hqx⟩, hno⟩ := hj j v rfl
    simp only [Nat.sub_zero] at hjl hq hno
    refine ⟨(), World.setO w b (.map (es.eraseIdxIfInBounds j) c), ⟨.tuple #[], ?_⟩, trivial, ?_⟩
    · simp only [Builtin.delete_, hts, Sem.run_bind, run_underlying ht, Result.andThen_ok, getMap h1, checkKey_int hk, findKey_run hk hr]
      simp [Sem.run_bind, run_underlying ht, getMap h1, checkKey_int hk, findKey_run hk hr, setO_run h1]
    · have her : (es.eraseIdxIfInBounds j).toList = es.toList.eraseIdx j := by
        have hj' : j < es.size := by simpa using hjl
        simp [Array.eraseIdxIfInBounds, hj']
      refine hT.setMap hi ?_ ?_ ?_
      · rw [her, mdel_at ms j q hq hqx hno]
        rw [map_erase, map_erase, h2]
      · intro e he
        rw [her] at he
        exact h3 e (List.mem_of_mem_eraseIdx he)
      · rw [her, map_erase]
        exact h4.sublist (List.eraseIdx_sublist _ _)

theorem run_len_map {w : World} {b : Nat} {ms : MS} (h : MapAt w b ms) {t kt et ty : TypeId} {ts : Array TypeId} (hts : ts[0]? = some t) (ht : P.underlying t = some (.map kt et)) : (Builtin.len_ ts ty #[.map (some b)]).run P w = .ok (.int .i64 (ms.length : Int)) w := by
  obtain ⟨es, c, h1, h2, h3, h4⟩ := h.here
  have hlen : es.size = ms.length := by have := congrArg List.length h2; simpa using this
  simp only [Builtin.len_, hts, Sem.run_bind, run_underlying ht, Result.andThen_ok]
  simp [Sem.run_bind, run_underlying ht, getMap h1, goInt, hlen]
theorem run_makeMap' {w0 w : World} {T : List Ent} (hT : Tab w0 w T) (t : TypeId) : ∃ (b : Nat) (w' : World), (Instr.makeMap t none).run P w = .ok (.map (some b)) w' ∧ True ∧ Tab w0 w' (.gen (mapE b [] true) :: T) := by
  refine ⟨w.heap.size, w.alloc (.map #[] 0), ?_, trivial, ?_⟩
  · rfl
  · refine hT.push (e := .gen (mapE w.heap.size [] true)) rfl rfl rfl (by simp) (fun k hk => Below.heap_alloc w _ k hk) ⟨#[], 0, ?_, rfl, (fun e he => by simp at he), by simp⟩ (fun k hk => by rw [show k = w.heap.size from hk]; exact Nat.le_refl _)
    rw [heap_alloc_new]
end

/-! ### Plain laws of such lists -/
theorem mget_put (ms : MS) (x y : Int) (u : Value) : mget (mput ms x u) y = if y = x then some u else mget ms y := by
  induction ms with
  | nil => simp [mput, mget]
  | cons p r ih =>
    obtain ⟨k, v⟩ := p
    by_cases hk : x = k
    · subst hk
      simp only [mput, if_true, mget]
      by_cases hy : y = x <;> simp [hy]
    · simp only [mput, if_neg hk, mget, ih]
      by_cases hy : y = k
      · subst hy
        simp [show y ≠ x from fun e => hk e.symm]
      · simp [hy]
theorem mput_length (ms : MS) (x : Int) (u : Value) : (mput ms x u).length = if (mget ms x).isSome then ms.length else ms.length + 1 := by
  induction ms with
  | nil => simp [mput, mget]
  | cons p r ih =>
    obtain ⟨k, v⟩ := p
    by_cases hk : x = k
    · simp [mput, mget, hk]
    · simp only [mput, if_neg hk, mget, List.length_cons, ih]
      split <;> rfl
theorem mdel_length (ms : MS) (x : Int) : (mdel ms x).length = if (mget ms x).isSome then ms.length - 1 else ms.length := by
  induction ms with
  | nil => simp [mdel, mget]
  | cons p r ih =>
    obtain ⟨k, v⟩ := p
    by_cases hk : x = k
    · simp [mdel, mget, hk]
    · simp only [mdel, if_neg hk, mget, List.length_cons, ih]
      split
      · rename_i h
        have : 0 < r.length := by
          cases r with
          | nil => simp [mget] at h
          | cons a b => simp
        omega
      · rfl

end Go.Proofs.Ytommojgfkkoghaa
