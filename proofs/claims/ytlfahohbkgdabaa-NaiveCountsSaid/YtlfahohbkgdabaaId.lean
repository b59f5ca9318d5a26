/- Plain words of the program's package ids: a client's objects as a list of ids and kinds; and maps of whole numbers. -/
import Derived.Test.YtlfahohbkgdabaaVw
set_option linter.unusedVariables false
set_option linter.unusedSimpArgs false
namespace Go.Proofs.Ytlfahohbkgdabaa
open Go Go.RowKit
variable {dfs : List Deferred}

abbrev IL := List (Int × Int)
def imsV (l : IL) : MS := l.map fun p => (p.1, Value.int .i64 p.2)
def iget : IL → Int → Option Int
  | [], _ => none
  | (k, v) :: r, x => if x = k then some v else iget r x
def iput : IL → Int → Int → IL
  | [], x, u => [(x, u)]
  | (k, v) :: r, x, u => if x = k then (x, u) :: r else (k, v) :: iput r x u
def idel : IL → Int → IL
  | [], _ => []
  | (k, v) :: r, x => if x = k then r else (k, v) :: idel r x
theorem mget_imsV (l : IL) (x : Int) : mget (imsV l) x = (iget l x).map (Value.int .i64) := by
  induction l with
  | nil => rfl
  | cons p r ih =>
    obtain ⟨k, v⟩ := p
    simp only [imsV, List.map_cons, mget, iget] at ih ⊢
    split
    · rfl
    · exact ih
theorem mput_imsV (l : IL) (x v : Int) : mput (imsV l) x (.int .i64 v) = imsV (iput l x v) := by
  induction l with
  | nil => rfl
  | cons p r ih =>
    obtain ⟨k, u⟩ := p
    simp only [imsV, List.map_cons, mput, iput] at ih ⊢
    split
    · rfl
    · rw [ih]; rfl
theorem mdel_imsV (l : IL) (x : Int) : mdel (imsV l) x = imsV (idel l x) := by
  induction l with
  | nil => rfl
  | cons p r ih =>
    obtain ⟨k, u⟩ := p
    simp only [imsV, List.map_cons, mdel, idel] at ih ⊢
    split
    · rfl
    · rw [ih]; rfl
theorem imsV_length (l : IL) : (imsV l).length = l.length := List.length_map _
def kindL (l : IL) (x : Int) : Int := (iget l x).getD 0

section
variable {P : Program}
theorem run_lookupI {w : World} {b : Nat} {l : IL} (h : MapAt w b (imsV l)) {t kt et : TypeId} {kf : IntKind} (ht : P.underlying t = some (.map kt et)) (hk : P.underlying kt = some (.int kf)) (hz : (P.info? et).map (·.zero) = some (some (.int .i64 0))) (x : Int) :
    (Instr.lookup t (.map (some b)) (.int .i64 x) false).run P w = .ok (.int .i64 (kindL l x)) w := by
  rw [run_lookup h ht hk hz, mget_imsV]
  unfold kindL
  cases iget l x <;> rfl
theorem run_updateI {w0 w : World} {T : List Ent} (hT : Tab w0 w T) {i b : Nat} {l : IL} {own : Bool} (hi : T[i]? = some (.gen (mapE b (imsV l) own))) {t kt et : TypeId} {kf : IntKind} (ht : P.underlying t = some (.map kt et)) (hk : P.underlying kt = some (.int kf)) (x u : Int) :
    ∃ (y : Unit) (w' : World), (Instr.mapUpdate t (.map (some b)) (.int .i64 x) (.int .i64 u)).run P w = .ok () w' ∧ True ∧ Tab w0 w' (T.set i (.gen (mapE b (imsV (iput l x u)) own))) := by
  rw [← mput_imsV]
  exact run_update hT hi ht hk x _
theorem run_deleteI {w0 w : World} {T : List Ent} (hT : Tab w0 w T) {i b : Nat} {l : IL} {own : Bool} (hi : T[i]? = some (.gen (mapE b (imsV l) own))) {t kt et ty : TypeId} {ts : Array TypeId} {kf : IntKind} (hts : ts[0]? = some t) (ht : P.underlying t = some (.map kt et)) (hk : P.underlying kt = some (.int kf)) (x : Int) :
    ∃ (y : Unit) (w' : World), (∃ v, (Builtin.delete_ ts ty #[.map (some b), .int .i64 x]).run P w = .ok v w') ∧ True ∧ Tab w0 w' (T.set i (.gen (mapE b (imsV (idel l x)) own))) := by
  rw [← mdel_imsV]
  exact run_delete hT hi hts ht hk x
theorem run_lenI {w : World} {b : Nat} {l : IL} (h : MapAt w b (imsV l)) {t kt et ty : TypeId} {ts : Array TypeId} (hts : ts[0]? = some t) (ht : P.underlying t = some (.map kt et)) : (Builtin.len_ ts ty #[.map (some b)]).run P w = .ok (.int .i64 (l.length : Int)) w := by
  rw [run_len_map h hts ht, imsV_length]
end

/-! ### The table of a client's ids -/
def addE (most : Int) (l : IL) (id k : Int) : Int := if id < 1 ∨ id > 4294967295 ∨ k < 1 ∨ k > 8 then 1 else if kindL l id ≠ 0 then 6 else if most - l.length = 0 then 10 else 0
def addL (most : Int) (l : IL) (id k : Int) : IL := if addE most l id k = 0 then iput l id k else l
def findE (l : IL) (id k : Int) : Int := if kindL l id = 0 then 5 else if kindL l id = k then 0 else 9
structure IdsOk (most : Int) (l : IL) : Prop where
  lo : 1 ≤ most
  hi : most ≤ 32
  le : (l.length : Int) ≤ most
  keys : (l.map (·.1)).Nodup
  rng : ∀ p ∈ l, 1 ≤ p.1 ∧ p.1 ≤ 4294967295 ∧ 1 ≤ p.2 ∧ p.2 ≤ 8
theorem IdsOk.new {m : Int} (h : 1 ≤ m) (h' : m ≤ 32) : IdsOk m [] := ⟨h, h', by simp; omega, by simp, fun p hp => by cases hp⟩
theorem iput_new {x u : Int} : ∀ {l : IL}, iget l x = none → iput l x u = l ++ [(x, u)] := by
  intro l
  induction l with
  | nil => intro _; rfl
  | cons p r ih =>
    intro h
    obtain ⟨k, v⟩ := p
    simp only [iget] at h
    split at h
    · cases h
    · rename_i hk
      simp only [iput, if_neg hk, ih h, List.cons_append]
theorem iget_mem {x v : Int} : ∀ {l : IL}, iget l x = some v → (x, v) ∈ l := by
  intro l
  induction l with
  | nil => intro h; cases h
  | cons p r ih =>
    intro h
    obtain ⟨k, u⟩ := p
    simp only [iget] at h
    split at h
    · rename_i hk; cases h; subst hk; exact List.mem_cons_self
    · exact List.mem_cons_of_mem _ (ih h)
theorem iget_none {x : Int} : ∀ {l : IL}, iget l x = none → x ∉ l.map (·.1) := by
  intro l
  induction l with
  | nil => intro _; simp
  | cons p r ih =>
    intro h
    obtain ⟨k, u⟩ := p
    simp only [iget] at h
    split at h
    · cases h
    · rename_i hk
      simp only [List.map_cons, List.mem_cons, not_or]
      exact ⟨hk, ih h⟩
theorem IdsOk.kind {most : Int} {l : IL} (h : IdsOk most l) {x : Int} : kindL l x = 0 ↔ iget l x = none := by
  unfold kindL
  cases hg : iget l x with
  | none => simp
  | some v =>
    have := h.rng _ (iget_mem hg)
    simp; omega
theorem idel_sub {x : Int} : ∀ (l : IL), (idel l x).Sublist l := by
  intro l
  induction l with
  | nil => exact List.Sublist.refl _
  | cons p r ih =>
    obtain ⟨k, v⟩ := p
    simp only [idel]
    split
    · exact List.sublist_cons_self _ _
    · exact ih.cons_cons _
theorem IdsOk.del {most : Int} {l : IL} (h : IdsOk most l) (x : Int) : IdsOk most (idel l x) :=
  ⟨h.lo, h.hi, by have := (idel_sub (x := x) l).length_le; have := h.le; omega, h.keys.sublist ((idel_sub l).map _), fun p hp => h.rng p ((idel_sub l).subset hp)⟩
theorem addE_zero {most : Int} {l : IL} {id k : Int} : addE most l id k = 0 ↔ 1 ≤ id ∧ id ≤ 4294967295 ∧ 1 ≤ k ∧ k ≤ 8 ∧ kindL l id = 0 ∧ most ≠ l.length := by
  unfold addE
  repeat' split
  all_goals simp_all
  all_goals omega
theorem IdsOk.add {most : Int} {l : IL} (h : IdsOk most l) (id k : Int) : IdsOk most (addL most l id k) := by
  unfold addL
  split
  · rename_i he
    obtain ⟨h1, h2, h3, h4, h5, h6⟩ := addE_zero.1 he
    have hn := h.kind.1 h5
    rw [iput_new hn]
    refine ⟨h.lo, h.hi, by have := h.le; simp; omega, ?_, ?_⟩
    · rw [List.map_append]
      refine List.nodup_append.2 ⟨h.keys, by simp, fun a ha b hb => ?_⟩
      simp only [List.map_cons, List.map_nil, List.mem_singleton] at hb
      subst hb
      exact fun e => iget_none hn (e ▸ ha)
    · intro p hp
      rcases List.mem_append.1 hp with hp | hp
      · exact h.rng p hp
      · simp only [List.mem_singleton] at hp
        subst hp
        exact ⟨h1, h2, h3, h4⟩
  · exact h
theorem iget_put (l : IL) (x y u : Int) : iget (iput l x u) y = if y = x then some u else iget l y := by
  induction l with
  | nil => simp [iput, iget]
  | cons p r ih =>
    obtain ⟨k, v⟩ := p
    by_cases hk : x = k
    · subst hk
      simp only [iput, if_true, iget]
      by_cases hy : y = x <;> simp [hy]
    · simp only [iput, if_neg hk, iget, ih]
      by_cases hy : y = k
      · subst hy
        simp [show y ≠ x from fun e => hk e.symm]
      · simp [hy]
theorem iget_del (l : IL) (x y : Int) (hn : (l.map (·.1)).Nodup) : iget (idel l x) y = if y = x then none else iget l y := by
  induction l with
  | nil => simp [idel, iget]
  | cons p r ih =>
    obtain ⟨k, v⟩ := p
    simp only [List.map_cons, List.nodup_cons] at hn
    by_cases hk : x = k
    · subst hk
      simp only [idel, if_true, iget]
      by_cases hy : y = x
      · subst hy
        simp only [if_true]
        cases hg : iget r y with
        | none => rfl
        | some u => exact absurd (List.mem_map.2 ⟨_, iget_mem hg, rfl⟩) hn.1
      · simp [hy]
    · simp only [idel, if_neg hk, iget, ih hn.2]
      by_cases hy : y = k
      · subst hy
        simp [show y ≠ x from fun e => hk e.symm]
      · simp [hy]
theorem kind_add {most : Int} {l : IL} {id k y : Int} : kindL (addL most l id k) y = if addE most l id k = 0 ∧ y = id then k else kindL l y := by
  unfold addL
  by_cases h : addE most l id k = 0
  · simp only [h, if_true, true_and, kindL, iget_put]
    split <;> rfl
  · simp [h]
theorem kind_del {most : Int} {l : IL} (h : IdsOk most l) (x y : Int) : kindL (idel l x) y = if y = x then 0 else kindL l y := by
  unfold kindL
  rw [iget_del l x y h.keys]
  split <;> rfl
theorem len_add {most : Int} {l : IL} (h : IdsOk most l) (id k : Int) : ((addL most l id k).length : Int) = if addE most l id k = 0 then l.length + 1 else l.length := by
  unfold addL
  split
  · rename_i he
    obtain ⟨h1, h2, h3, h4, h5, h6⟩ := addE_zero.1 he
    rw [iput_new (h.kind.1 h5)]
    simp
  · rfl
theorem idel_none {x : Int} : ∀ {l : IL}, iget l x = none → idel l x = l := by
  intro l
  induction l with
  | nil => intro _; rfl
  | cons p r ih =>
    intro h
    obtain ⟨k, v⟩ := p
    simp only [iget] at h
    split at h
    · cases h
    · rename_i hk
      simp only [idel, if_neg hk, ih h]
theorem idel_len {x v : Int} : ∀ {l : IL}, iget l x = some v → (idel l x).length + 1 = l.length := by
  intro l
  induction l with
  | nil => intro h; cases h
  | cons p r ih =>
    intro h
    obtain ⟨k, u⟩ := p
    simp only [iget] at h
    split at h
    · rename_i hk; simp [idel, hk]
    · rename_i hk
      simp only [idel, if_neg hk, List.length_cons, ih h]
theorem len_del {most : Int} {l : IL} (h : IdsOk most l) (x : Int) : ((idel l x).length : Int) = if kindL l x = 0 then l.length else l.length - 1 := by
  cases hg : iget l x with
  | none =>
    rw [if_pos (h.kind.2 hg), idel_none hg]
  | some v =>
    rw [if_neg (fun e => by rw [h.kind.1 e] at hg; cases hg)]
    have := idel_len hg
    omega
/-- The ids 1, 2, .. below i were added, while there was room. -/
structure Quota (rm i : Int) (l : IL) : Prop where
  ok : IdsOk rm l
  len : (l.length : Int) = min (i - 1) rm
  kind : ∀ x, kindL l x = if 1 ≤ x ∧ x < i ∧ x ≤ rm then 1 + x % 8 else 0
theorem Quota.start {rm : Int} (h1 : 1 ≤ rm) (h2 : rm ≤ 32) : Quota rm 1 [] :=
  ⟨IdsOk.new h1 h2, by simp; omega, fun x => by rw [if_neg (by omega)]; rfl⟩
theorem Quota.step {rm i : Int} {l : IL} (h : Quota rm i l) (h1 : 1 ≤ i) (h2 : i ≤ 40) : addE rm l i (1 + i % 8) = (if i ≤ rm then 0 else 10) ∧ Quota rm (i + 1) (addL rm l i (1 + i % 8)) := by
  have hl := h.len
  have hk := h.kind i
  rw [if_neg (by omega)] at hk
  have he : addE rm l i (1 + i % 8) = (if i ≤ rm then 0 else 10) := by
    unfold addE
    rw [if_neg (by omega), if_neg (by omega)]
    split <;> split <;> first | rfl | omega
  refine ⟨he, h.ok.add _ _, ?_, ?_⟩
  · rw [len_add h.ok, he]
    split <;> split <;> omega
  · intro x
    rw [kind_add, he, h.kind x]
    repeat' split
    all_goals first | omega | (simp_all <;> omega)
theorem Quota.fin {rm i : Int} {l : IL} (h : Quota rm i l) (hi : rm < i) (h1 : 1 ≤ rm) (h2 : rm ≤ 32) : rm - (l.length : Int) = 0 ∧ kindL l 1 ≠ 0 ∧ rm - ((idel l 1).length : Int) = 1 ∧ kindL (idel l 1) 1 = 0 ∧ idel (idel l 1) 1 = idel l 1 ∧
    addE rm (idel l 1) 99 8 = 0 ∧ findE (addL rm (idel l 1) 99 8) 99 8 = 0 ∧ addE rm (addL rm (idel l 1) 99 8) 98 1 = 10 := by
  have hl := h.len
  have k1 : kindL l 1 ≠ 0 := by rw [h.kind 1, if_pos (by omega)]; omega
  have k2 : kindL (idel l 1) 1 = 0 := by rw [kind_del h.ok, if_pos rfl]
  have hd := h.ok.del 1
  have ln := len_del h.ok 1
  rw [if_neg k1] at ln
  have a1 : addE rm (idel l 1) 99 8 = 0 := addE_zero.2 ⟨by omega, by omega, by omega, by omega, by rw [kind_del h.ok, if_neg (by omega), h.kind, if_neg (by omega)], by omega⟩
  have k99 : kindL (addL rm (idel l 1) 99 8) 99 = 8 := by rw [kind_add, if_pos ⟨a1, rfl⟩]
  have k98 : kindL (addL rm (idel l 1) 99 8) 98 = 0 := by rw [kind_add, if_neg (by omega), kind_del h.ok, if_neg (by omega), h.kind, if_neg (by omega)]
  have l3 := len_add hd 99 8
  rw [if_pos a1] at l3
  refine ⟨by omega, k1, by omega, k2, idel_none (hd.kind.1 k2), a1, ?_, ?_⟩
  · unfold findE
    rw [k99]
    decide
  · unfold addE
    rw [if_neg (by omega), k98, if_neg (by omega), if_pos (by omega)]
theorem cont_mapEq {K : Act → World → Prop} {n : Nat} {w0 : World} {L : List (Tmp × Value)} {T : List Ent} (i : Nat) {b : Nat} (l l' : IL) {own : Bool} (h : T[i]? = some (.gen (mapE b (imsV l) own))) (hl : l = l')
    (hk : Cont dfs K n w0 L (T.set i (.gen (mapE b (imsV l') own)))) : Cont dfs K n w0 L T := by
  subst hl
  have : T.set i (.gen (mapE b (imsV l) own)) = T := by
    obtain ⟨hlt, he⟩ := List.getElem?_eq_some_iff.1 h
    rw [← he]
    exact List.set_getElem_self hlt
  rwa [this] at hk
end Go.Proofs.Ytlfahohbkgdabaa
