/- Texts of this proof's own, put together: what each holds is told ahead of it. -/
import Derived.Test.YtlfahohbkgdabaaPeG0
import Derived.Maps.AppendAt
import Derived.Laws.CopyRow
import Derived.Test.YtlfahohbkgdabaaProg
/- The symbolic executor: a call sees a part of the caller's table, and the caller takes the callee's table back into its own. Generic in the program. -/
set_option linter.unusedVariables false
set_option linter.unusedSimpArgs false
namespace Go.Proofs.Ytlfahohbkgdabaa
open Go Go.RowKit

/-- An entry as a callee sees it. -/
structure Vw (e e0 : Ent) : Prop where
  ok : ∀ w, e.ok w → e0.ok w
  blk : ∀ w, e.ok w → ∀ k, e0.blk k → e.blk k
  wr : e0.wr = true → e.wr = true
  own : e0.own = false
/-- A callee's entry taken back: what the caller has behind the call. -/
structure Mg (e e1 e' : Ent) : Prop where
  ok : ∀ w, e1.ok w → e'.ok w
  blk1 : ∀ k, e1.blk k → e'.blk k
  blk2 : ∀ k, e'.blk k ↔ e.blk k
  own : e'.own = true → e.own = true
  wr : e1.wr = true ∧ e'.wr = true ∧ e.wr = true

inductive VwL (T : List Ent) : List Nat → List Ent → Prop
  | nil : VwL T [] []
  | cons {i : Nat} {s : List Nat} {e e0 : Ent} {T0 : List Ent} : T[i]? = some e → Vw e e0 → VwL T s T0 → VwL T (i :: s) (e0 :: T0)

theorem VwL.get {T : List Ent} {s : List Nat} {T0 : List Ent} (h : VwL T s T0) : ∀ (j : Nat) (e0 : Ent), T0[j]? = some e0 → ∃ i e, s[j]? = some i ∧ T[i]? = some e ∧ Vw e e0 := by
  induction h with
  | nil => intro j e0 h; simp at h
  | cons hi hv _ ih =>
    intro j e0 hj
    cases j with
    | zero => simp at hj; subst hj; exact ⟨_, _, rfl, hi, hv⟩
    | succ j => simpa using ih j e0 (by simpa using hj)
theorem nodup_ne {s : List Nat} (h : s.Nodup) {i j a b : Nat} (hij : i ≠ j) (hi : s[i]? = some a) (hj : s[j]? = some b) : a ≠ b := by
  intro hab
  subst hab
  have h1 := List.getElem?_eq_some_iff.1 hi
  have h2 := List.getElem?_eq_some_iff.1 hj
  obtain ⟨l1, e1⟩ := h1
  obtain ⟨l2, e2⟩ := h2
  exact hij ((List.getElem_inj h).1 (e1.trans e2.symm))
theorem Tab.view {w0 w : World} {T : List Ent} (hT : Tab w0 w T) {s : List Nat} {T0 : List Ent} (h : VwL T s T0) (hn : s.Nodup) : Tab w w T0 := by
  refine ⟨rfl, rfl, rfl, Nat.le_refl _, ?_, fun _ _ _ => rfl, ?_, ?_⟩
  · intro i e0 hi
    obtain ⟨j, e, _, he, hv⟩ := h.get i e0 hi
    exact hv.ok w (hT.ok j e he)
  · intro i e0 hi ho
    obtain ⟨j, e, _, he, hv⟩ := h.get i e0 hi
    rw [hv.own] at ho; cases ho
  · intro i j e0 e0' hij hi hj hw k hk hk'
    obtain ⟨a, e, ha, he, hv⟩ := h.get i e0 hi
    obtain ⟨b, e', hb, he', hv'⟩ := h.get j e0' hj
    exact hT.disj a b e e' (nodup_ne hn hij ha hb) he he' (hw.imp hv.wr hv'.wr) k (hv.blk w (hT.ok a e he) k hk) (hv'.blk w (hT.ok b e' he') k hk')

def allRo : List Ent → Bool
  | [] => true
  | e :: r => !e.wr && allRo r
theorem allRo_get : ∀ {N : List Ent}, allRo N = true → ∀ (i : Nat) (e : Ent), N[i]? = some e → e.wr = false := by
  intro N
  induction N with
  | nil => intro _ i e h; simp at h
  | cons x r ih =>
    intro h i e hi
    simp only [allRo, Bool.and_eq_true, Bool.not_eq_true'] at h
    cases i with
    | zero => simp at hi; subst hi; exact h.1
    | succ i => exact ih h.2 i e (by simpa using hi)
/-- A callee that only reads: what it sees may be seen twice. -/
theorem Tab.viewRo {w0 w : World} {T : List Ent} (hT : Tab w0 w T) {s : List Nat} {T0 : List Ent} (h : VwL T s T0) (hn : allRo T0 = true) : Tab w w T0 := by
  refine ⟨rfl, rfl, rfl, Nat.le_refl _, ?_, fun _ _ _ => rfl, ?_, ?_⟩
  · intro i e0 hi
    obtain ⟨j, e, _, he, hv⟩ := h.get i e0 hi
    exact hv.ok w (hT.ok j e he)
  · intro i e0 hi ho
    obtain ⟨j, e, _, he, hv⟩ := h.get i e0 hi
    rw [hv.own] at ho; cases ho
  · intro i j e0 e0' hij hi hj hw
    rw [allRo_get hn i e0 hi, allRo_get hn j e0' hj] at hw
    rcases hw with h | h <;> cases h

theorem Vw.ro {b : Nat} {cs : List Value} {t : TypeId} : Vw (.ro b cs t) (.ro b cs t) := ⟨fun _ h => h, fun _ _ _ h => h, id, rfl⟩
theorem Vw.roc {b : Nat} {cs : List Value} {t : TypeId} {o : Bool} : Vw (.cells b cs t o) (.ro b cs t) := ⟨fun _ h => h, fun _ _ _ h => h, fun _ => rfl, rfl⟩
theorem Vw.rw {b : Nat} {cs : List Value} {t : TypeId} {o : Bool} : Vw (.cells b cs t o) (.cells b cs t false) := ⟨fun _ h => h, fun _ _ _ h => h, fun _ => rfl, rfl⟩
theorem Vw.rd {A : Option Addr} {g o n sz : Nat} {vals : List Value} : Vw (.gen (rdE A g o n sz vals)) (.gen (rdE A g o n sz vals)) := ⟨fun _ h => h, fun _ _ _ h => h, id, rfl⟩
theorem Vw.rowRd {A : Option Addr} {g n cap sz : Nat} {e : TypeId} {vals : List Value} {o : Bool} : Vw (.gen (rowE A g n cap e sz vals o)) (.gen (rdE A g 0 n sz vals)) :=
  ⟨fun _ h => Row.rd h, fun w hr k h => by
    obtain ⟨h1, h2⟩ := h
    refine ⟨h1, fun hA => ?_⟩
    have hr : Row w A g n cap e sz vals := hr
    have h0 : n = 0 := by
      rcases Nat.eq_zero_or_pos n with h | h
      · exact h
      · have := hr.at_ h; rw [hA] at this; cases this
    have := hr.rd.len
    rw [h0] at this
    exact h2 (List.length_eq_zero_iff.1 (by omega)), fun _ => rfl, rfl⟩
theorem Vw.row {A : Option Addr} {g n cap sz : Nat} {e : TypeId} {vals : List Value} {o : Bool} : Vw (.gen (rowE A g n cap e sz vals o)) (.gen (rowE A g n cap e sz vals false)) := ⟨fun _ h => h, fun _ _ _ h => h, fun _ => rfl, rfl⟩
theorem Vw.map {b : Nat} {ms : MS} {o : Bool} : Vw (.gen (mapE b ms o)) (.gen (mapE b ms false)) := ⟨fun _ h => h, fun _ _ _ h => h, fun _ => rfl, rfl⟩

theorem Mg.cells {b : Nat} {cs cs' : List Value} {t : TypeId} {o : Bool} : Mg (.cells b cs t o) (.cells b cs' t false) (.cells b cs' t o) := ⟨fun _ h => h, fun _ h => h, fun _ => Iff.rfl, id, rfl, rfl, rfl⟩
theorem Mg.row {A : Option Addr} {g n cap sz n' cap' : Nat} {e : TypeId} {vals vals' : List Value} {o : Bool} : Mg (.gen (rowE A g n cap e sz vals o)) (.gen (rowE A g n' cap' e sz vals' false)) (.gen (rowE A g n' cap' e sz vals' o)) := ⟨fun _ h => h, fun _ h => h, fun _ => Iff.rfl, id, rfl, rfl, rfl⟩
theorem Mg.map {b : Nat} {ms ms' : MS} {o : Bool} : Mg (.gen (mapE b ms o)) (.gen (mapE b ms' false)) (.gen (mapE b ms' o)) := ⟨fun _ h => h, fun _ h => h, fun _ => Iff.rfl, id, rfl, rfl, rfl⟩

/-- What the caller has: entry by entry, with what the callee wrote put in. s: the places of the callee's entries (O) in T. -/
inductive MgL (T : List Ent) : List Nat → List Ent → List Ent → Prop
  | nil : MgL T [] [] T
  | skip {i : Nat} {s : List Nat} {e1 : Ent} {O T2 : List Ent} : e1.wr = false → MgL T s O T2 → MgL T (i :: s) (e1 :: O) T2
  | cons {i : Nat} {s : List Nat} {e e1 e' : Ent} {O T2 : List Ent} : T[i]? = some e → Mg e e1 e' → MgL T s O T2 → MgL T (i :: s) (e1 :: O) (T2.set i e')

theorem MgL.get {T : List Ent} {s : List Nat} {O T2 : List Ent} (h : MgL T s O T2) : (T2.length = T.length) ∧ (∀ (j : Nat) (e1 : Ent), O[j]? = some e1 → e1.wr = true → ∃ i e e', s[j]? = some i ∧ T[i]? = some e ∧ Mg e e1 e') ∧
    (∀ (i : Nat) (e' : Ent), T2[i]? = some e' → (∃ (j : Nat) (e1 e : Ent), s[j]? = some i ∧ O[j]? = some e1 ∧ e1.wr = true ∧ T[i]? = some e ∧ Mg e e1 e') ∨ (T[i]? = some e' ∧ ∀ (j : Nat) (e1 : Ent), s[j]? = some i → O[j]? = some e1 → e1.wr = false)) := by
  induction h with
  | nil => exact ⟨rfl, fun j e1 h => by simp at h, fun i e' h => .inr ⟨h, fun j e1 hj => by simp at hj⟩⟩
  | skip hw _ ih =>
    obtain ⟨h1, h2, h3⟩ := ih
    refine ⟨h1, ?_, ?_⟩
    · intro j e1 hj hw1
      cases j with
      | zero => simp at hj; subst hj; rw [hw] at hw1; cases hw1
      | succ j => simpa using h2 j e1 (by simpa using hj) hw1
    · intro i e' hi
      rcases h3 i e' hi with ⟨j, e1, e, a, b, c, d⟩ | ⟨a, b⟩
      · exact .inl ⟨j + 1, e1, e, by simpa using a, by simpa using b, c, d⟩
      · refine .inr ⟨a, fun j e1 hj ho => ?_⟩
        cases j with
        | zero => simp at ho; subst ho; exact hw
        | succ j => exact b j e1 (by simpa using hj) (by simpa using ho)
  | @cons i0 s0 e0 e1' e'0 O0 T20 hi0 hm _ ih =>
    obtain ⟨h1, h2, h3⟩ := ih
    refine ⟨by simpa using h1, ?_, ?_⟩
    · intro j e1 hj hw1
      cases j with
      | zero => simp at hj; subst hj; exact ⟨i0, e0, e'0, rfl, hi0, hm⟩
      | succ j => simpa using h2 j e1 (by simpa using hj) hw1
    · intro i e' hi
      by_cases hii : i0 = i
      · subst hii
        have hlt : i0 < T20.length := by
          rw [h1]
          exact (List.getElem?_eq_some_iff.1 hi0).1
        rw [List.getElem?_set_self hlt] at hi
        cases hi
        exact .inl ⟨0, e1', e0, rfl, rfl, hm.wr.1, hi0, hm⟩
      · rw [List.getElem?_set_ne hii] at hi
        rcases h3 i e' hi with ⟨j, e1, e, a, b, c, d⟩ | ⟨a, b⟩
        · exact .inl ⟨j + 1, e1, e, by simpa using a, by simpa using b, c, d⟩
        · refine .inr ⟨a, fun j e1 hj ho => ?_⟩
          cases j with
          | zero => simp at hj; exact absurd hj hii
          | succ j => exact b j e1 (by simpa using hj) (by simpa using ho)

theorem app_get {α : Type} (N O : List α) {i : Nat} {x : α} (h : (N ++ O)[i]? = some x) : (i < N.length ∧ N[i]? = some x) ∨ (N.length ≤ i ∧ O[i - N.length]? = some x) := by
  by_cases hi : i < N.length
  · rw [List.getElem?_append_left hi] at h; exact .inl ⟨hi, h⟩
  · rw [List.getElem?_append_right (by omega)] at h; exact .inr ⟨by omega, h⟩
theorem Tab.merge {w0 w w' : World} {T : List Ent} (hT : Tab w0 w T) {N O T2 : List Ent} {s : List Nat} (h1 : Tab w w' (N ++ O)) (hM : MgL T s O T2) (hn : s.Nodup) (hN : ∀ (i : Nat) (e : Ent), N[i]? = some e → e.own = true) : Tab w0 w' (N ++ T2) := by
  obtain ⟨hlen, hO, hT2⟩ := hM.get
  have oldO : ∀ (j : Nat) (e1 : Ent), O[j]? = some e1 → (N ++ O)[N.length + j]? = some e1 := fun j e1 h => by
    rw [List.getElem?_append_right (by omega)]; rw [show N.length + j - N.length = j by omega]; exact h
  have oldN : ∀ (j : Nat) (e1 : Ent), N[j]? = some e1 → (N ++ O)[j]? = some e1 := fun j e1 h => by
    rw [List.getElem?_append_left (List.getElem?_eq_some_iff.1 h).1]; exact h
  have newb : ∀ (j : Nat) (e1 : Ent), N[j]? = some e1 → ∀ k, e1.blk k → w.heap.size ≤ k := fun j e1 h => h1.own j e1 (oldN j e1 h) (hN j e1 h)
  have key : ∀ (i : Nat) (e' : Ent), T2[i]? = some e' → ∃ e, T[i]? = some e ∧ (∀ k, e'.blk k ↔ e.blk k) ∧ (e'.wr = e.wr) ∧ (e'.own = true → e.own = true) ∧ e'.ok w' := by
    intro i e' hi
    rcases hT2 i e' hi with ⟨j, e1, e, hs, ho, hw, ht, hm⟩ | ⟨ht, hno⟩
    · exact ⟨e, ht, hm.blk2, hm.wr.2.1.trans hm.wr.2.2.symm, hm.own, hm.ok w' (h1.ok _ _ (oldO j e1 ho))⟩
    · refine ⟨e', ht, fun _ => Iff.rfl, rfl, id, e'.stable w w' (fun k hk => ?_) (hT.ok i e' ht)⟩
      have hlt := e'.inb w k (hT.ok i e' ht) hk
      refine h1.frame k hlt (fun q x hx hw hb => ?_)
      rcases app_get N O hx with ⟨_, hx⟩ | ⟨_, hx⟩
      · have := newb q x hx k hb; omega
      · obtain ⟨i2, e, e2, hs, ht2, hm⟩ := hO _ x hx hw
        have hne : i2 ≠ i := fun h => by
          subst h
          rw [hno _ x hs hx] at hw; cases hw
        exact hT.disj i2 i e e' hne ht2 ht (.inl hm.wr.2.2) k ((hm.blk2 k).1 (hm.blk1 k hb)) hk
  have back : ∀ (i : Nat) (e : Ent), T[i]? = some e → ∃ e', T2[i]? = some e' ∧ (∀ k, e'.blk k ↔ e.blk k) ∧ e'.wr = e.wr := by
    intro i e hi
    have hl : i < T2.length := by rw [hlen]; exact (List.getElem?_eq_some_iff.1 hi).1
    obtain ⟨e2, h2, h3, h4, _⟩ := key i _ (List.getElem?_eq_getElem hl)
    rw [hi] at h2; cases h2
    exact ⟨_, List.getElem?_eq_getElem hl, h3, h4⟩
  refine ⟨h1.os.trans hT.os, h1.tape.trans hT.tape, h1.output.trans hT.output, Nat.le_trans hT.size h1.size, ?_, ?_, ?_, ?_⟩
  · intro i e hi
    rcases app_get N T2 hi with ⟨_, hi⟩ | ⟨_, hi⟩
    · exact h1.ok i e (oldN i e hi)
    · obtain ⟨_, _, _, _, _, h⟩ := key _ e hi; exact h
  · intro k hk hno
    have hk' : k < w.heap.size := Nat.lt_of_lt_of_le hk hT.size
    have hT2no : ∀ (i : Nat) (e : Ent), T[i]? = some e → e.wr = true → ¬ e.blk k := by
      intro i e hi hw hb
      obtain ⟨e', h2, h3, h4⟩ := back i e hi
      refine hno (N.length + i) e' ?_ (h4.trans hw) ((h3 k).2 hb)
      rw [List.getElem?_append_right (by omega), show N.length + i - N.length = i by omega]; exact h2
    refine (h1.frame k hk' (fun q x hx hw hb => ?_)).trans (hT.frame k hk hT2no)
    rcases app_get N O hx with ⟨_, hx⟩ | ⟨_, hx⟩
    · have := newb q x hx k hb; omega
    · obtain ⟨i2, e, e2, hs, ht2, hm⟩ := hO _ x hx hw
      exact hT2no i2 e ht2 hm.wr.2.2 ((hm.blk2 k).1 (hm.blk1 k hb))
  · intro i e hi ho k hk
    rcases app_get N T2 hi with ⟨_, hi⟩ | ⟨_, hi⟩
    · exact Nat.le_trans hT.size (newb i e hi k hk)
    · obtain ⟨e0, h2, h3, _, h5, _⟩ := key _ e hi
      exact hT.own _ e0 h2 (h5 ho) k ((h3 k).1 hk)
  · intro i j e e' hij hi hj hw k hk hk'
    rcases app_get N T2 hi with ⟨hli, hi⟩ | ⟨hli, hi⟩ <;> rcases app_get N T2 hj with ⟨hlj, hj⟩ | ⟨hlj, hj⟩
    · exact h1.disj i j e e' hij (oldN i e hi) (oldN j e' hj) hw k hk hk'
    · obtain ⟨e0, h2, h3, _⟩ := key _ e' hj
      have := newb i e hi k hk
      have := e0.inb w k (hT.ok _ e0 h2) ((h3 k).1 hk')
      omega
    · obtain ⟨e0, h2, h3, _⟩ := key _ e hi
      have := newb j e' hj k hk'
      have := e0.inb w k (hT.ok _ e0 h2) ((h3 k).1 hk)
      omega
    · obtain ⟨e0, h2, h3, h4, _⟩ := key _ e hi
      obtain ⟨f0, g2, g3, g4, _⟩ := key _ e' hj
      exact hT.disj _ _ e0 f0 (by omega) h2 g2 (hw.imp (fun h => h4.symm.trans h) (fun h => g4.symm.trans h)) k ((h3 k).1 hk) ((g3 k).1 hk')
def allOwn : List Ent → Bool
  | [] => true
  | e :: r => e.own && allOwn r
theorem allOwn_get : ∀ {N : List Ent}, allOwn N = true → ∀ (i : Nat) (e : Ent), N[i]? = some e → e.own = true := by
  intro N
  induction N with
  | nil => intro _ i e h; simp at h
  | cons x r ih =>
    intro h i e hi
    simp only [allOwn, Bool.and_eq_true] at h
    cases i with
    | zero => simp at hi; subst hi; exact h.1
    | succ i => exact ih h.2 i e (by simpa using hi)
/-- A call that gives new entries alone. -/
theorem Tab.news {w0 w w' : World} {T N : List Ent} (hT : Tab w0 w T) (h1 : Tab w w' N) (hN : allOwn N = true) : Tab w0 w' (N ++ T) :=
  hT.merge (O := []) (s := []) (by rw [List.append_nil]; exact h1) .nil List.nodup_nil (allOwn_get hN)
theorem Rd.tab {w : World} {A : Option Addr} {g o n sz : Nat} {vals : List Value} (h : Rd w A g o n sz vals) : Tab w w [.gen (rdE A g o n sz vals)] :=
  Tab.addOld (Tab.start w) (.gen (rdE A g o n sz vals)) h rfl (fun i x hx => by simp at hx)
section
variable {dfs : List Deferred}
/-! ### The table's entries, picked anew -/
def dropOk : List Ent → Nat → List Nat → Bool
  | [], _, _ => true
  | e :: r, i, σ => (σ.contains i || !e.wr || e.own) && dropOk r (i + 1) σ
theorem dropOk_get : ∀ {T : List Ent} {i : Nat} {σ : List Nat}, dropOk T i σ = true → ∀ (j : Nat) (e : Ent), T[j]? = some e → i + j ∈ σ ∨ e.wr = false ∨ e.own = true := by
  intro T
  induction T with
  | nil => intro i σ _ j e h; simp at h
  | cons x r ih =>
    intro i σ h j e he
    simp only [dropOk, Bool.and_eq_true, Bool.or_eq_true, List.contains_iff_mem, Bool.not_eq_true'] at h
    cases j with
    | zero =>
      simp at he; subst he
      rcases h.1 with (h1 | h1) | h1
      · exact .inl (by simpa using h1)
      · exact .inr (.inl h1)
      · exact .inr (.inr h1)
    | succ j =>
      have := ih h.2 j e (by simpa using he)
      rwa [show i + 1 + j = i + (j + 1) by omega] at this
theorem Tab.pick {w0 w : World} {T T' : List Ent} (hT : Tab w0 w T) (σ : List Nat) (hn : σ.Nodup) (hm : T'.map some = σ.map fun i => T[i]?) (hd : dropOk T 0 σ = true) : Tab w0 w T' := by
  have key : ∀ (i : Nat) (e : Ent), T'[i]? = some e → ∃ j, σ[i]? = some j ∧ T[j]? = some e := by
    intro i e he
    have h1 : (T'.map some)[i]? = some (some e) := by rw [List.getElem?_map, he]; rfl
    rw [hm, List.getElem?_map] at h1
    cases hs : σ[i]? with
    | none => rw [hs] at h1; cases h1
    | some j => rw [hs] at h1; exact ⟨j, rfl, by simpa using h1⟩
  have back : ∀ (j : Nat) (e : Ent), T[j]? = some e → j ∈ σ → ∃ i : Nat, T'[i]? = some e := by
    intro j e he hj
    obtain ⟨i, hi, hij⟩ := List.mem_iff_getElem.1 hj
    have h1 : (T'.map some)[i]? = some (T[j]?) := by rw [hm, List.getElem?_map, List.getElem?_eq_getElem hi, hij]; rfl
    rw [List.getElem?_map] at h1
    cases ht : T'[i]? with
    | none => rw [ht] at h1; cases h1
    | some x => rw [ht, he] at h1; exact ⟨i, by rw [ht]; simpa using h1⟩
  refine ⟨hT.os, hT.tape, hT.output, hT.size, ?_, ?_, ?_, ?_⟩
  · intro i e he
    obtain ⟨j, _, h⟩ := key i e he
    exact hT.ok j e h
  · intro k hk hno
    refine hT.frame k hk (fun j e he hw hb => ?_)
    rcases dropOk_get hd j e he with h | h | h
    · rw [Nat.zero_add] at h
      obtain ⟨i, hi⟩ := back j e he h
      exact hno i e hi hw hb
    · rw [hw] at h; cases h
    · have := hT.own j e he h k hb; omega
  · intro i e he ho k hk
    obtain ⟨j, _, h⟩ := key i e he
    exact hT.own j e h ho k hk
  · intro i j e e' hij he he'
    obtain ⟨a, ha, h1⟩ := key i e he
    obtain ⟨b, hb, h2⟩ := key j e' he'
    exact hT.disj a b e e' (nodup_ne hn hij ha hb) h1 h2
theorem cont_pick {K : Act → World → Prop} {n : Nat} {w0 : World} {L : List (Nat × Value)} {T : List Ent} (σ : List Nat) (T' : List Ent) (hn : σ.Nodup) (hm : T'.map some = σ.map fun i => T[i]?) (hd : dropOk T 0 σ = true) (h : Cont dfs K n w0 L T') : Cont dfs K n w0 L T :=
  fun a w ha hf hT => h a w ha hf (hT.pick σ hn hm hd)
end
end Go.Proofs.Ytlfahohbkgdabaa

/- The symbolic executor: slices that grow (append), that are copied over (copy), and facts of the table. Generic in the program. -/
set_option linter.unusedVariables false
set_option linter.unusedSimpArgs false
namespace Go.Proofs.Ytlfahohbkgdabaa
open Go Go.RowKit
variable {dfs : List Deferred}

section
variable {P : Program}
theorem cont_fact {K : Act → World → Prop} {n : Nat} {w0 : World} {L : List (Tmp × Value)} {T : List Ent} {F : Prop} (h : ∀ w, Tab w0 w T → F) (hk : F → Cont dfs K n w0 L T) : Cont dfs K n w0 L T :=
  fun a w ha hf hT => hk (h w hT) a w ha hf hT
theorem Tab.fresh {w0 w : World} {T : List Ent} (hT : Tab w0 w T) (e : Ent) (hok : e.ok w) (hb : ∀ k, ¬ e.blk k) : Tab w0 w (e :: T) :=
  hT.push rfl rfl rfl (Nat.le_refl _) (fun _ _ => rfl) hok (fun k hk => absurd hk (hb k))
/-- A slice that is nil, as a row of the call's own. -/
theorem cont_nilrow {K : Act → World → Prop} {n : Nat} {w0 : World} {L : List (Tmp × Value)} {T : List Ent} (e : TypeId) (sz : Nat) (hk : Cont dfs K n w0 L (.gen (rowE none 0 0 0 e sz [] true) :: T)) : Cont dfs K n w0 L T :=
  fun a w ha hf hT => hk a w ha hf (hT.fresh _ (show Row w none 0 0 0 e sz [] from ⟨⟨by simp, .inl ⟨rfl, rfl⟩⟩, fun h => by omega, fun a ha => by cases ha⟩) (fun k hk => hk.2 rfl))
theorem Row.ofCells {w : World} {b n sz : Nat} {cs : List Value} {e : TypeId} (h : w.heap[b]? = some (.cells cs.toArray e (0, 0))) (hl : cs.length = n * sz) (hn : n ≤ maxLen) : Row w (some ⟨b, 0, none⟩) b n n e sz cs :=
  ⟨⟨hl, .inr ⟨b, n, cs.toArray, rfl, Nat.zero_le _, h, Nat.le_refl _, hn, by simp [hl], by simp [← hl]⟩⟩, fun _ => rfl, fun a ha => by cases ha; rfl⟩
/-- A block of cells, as a row. -/
theorem cont_asRow {K : Act → World → Prop} {n' : Nat} {w0 : World} {L : List (Tmp × Value)} {T : List Ent} (i n sz : Nat) {b : Nat} {cs vals : List Value} {e : TypeId} {own : Bool} (hi : T[i]? = some (.cells b cs e own)) (hv : cs = vals) (hl : cs.length = n * sz) (hn : n ≤ maxLen)
    (hk : Cont dfs K n' w0 L (T.set i (.gen (rowE (some ⟨b, 0, none⟩) b n n e sz vals own)))) : Cont dfs K n' w0 L T := by
  subst hv
  intro a w ha hf hT
  refine hk a w ha hf ?_
  have hok : w.heap[b]? = some (.cells cs.toArray e (0, 0)) := hT.ok i _ hi
  exact hT.replace (e := .cells b cs e own) (e' := .gen (rowE (some ⟨b, 0, none⟩) b n n e sz cs own)) hi rfl rfl id (fun k hk => .inl hk.1) (fun k _ hk _ => ⟨hk, by simp⟩) rfl rfl rfl (Nat.le_refl _) (fun _ _ _ => rfl) (Row.ofCells hok hl hn)
theorem Rd.ofCells {w : World} {b m sz : Nat} {cs vals : List Value} {e : TypeId} (h : w.heap[b]? = some (.cells cs.toArray e (0, 0))) (hv : cs = vals) (hl : cs.length = m * sz) : Rd w (some ⟨b, 0, none⟩) b 0 m sz vals := by
  subst hv
  refine ⟨hl, fun _ => rfl, fun j v hj => ?_⟩
  simp only [Nat.zero_add]
  simp [World.cell?, h, hj]
theorem ivals_append (k : IntKind) (xs ys : List Int) : ivals k xs ++ ivals k ys = ivals k (xs ++ ys) := by simp [ivals]
theorem ivals_one (k : IntKind) (xs : List Int) : ∀ u ∈ ivals k xs, u.oneCell' = true := by
  intro u hu
  obtain ⟨x, _, rfl⟩ := List.mem_map.1 hu
  rfl
theorem addr_add (b o j : Nat) : (⟨b, o, none⟩ : Addr).add j = ⟨b, o + j, none⟩ := by unfold Addr.add; split <;> simp_all

theorem append_own {w0 w : World} {T : List Ent} (hT : Tab w0 w T) {t ty e : TypeId} {A : Option Addr} {i g n cap sz bytes n' : Nat} {vals vals' news : List Value} {z : Value} (hi : T[i]? = some (.gen (rowE A g n cap e sz vals true)))
    (ht : P.underlying t = some (.slice e)) (hinf : (P.info? e).map (fun i => (i.zero, i.size, i.bytes)) = some (some z, sz, bytes)) (hzs : z.cells.size = sz) (hsz : 0 < sz) (hby : 0 < bytes)
    {SA : Option Addr} {sg so m sc : Nat} (hsrc : Rd w SA sg so m sz news) (h1 : ∀ u ∈ news, u.oneCell' = true) (hb : (n + m) * bytes ≤ 140737488355328) (hv : vals ++ news = vals') (hn' : n' = n + m) :
    ∃ (x : Option Addr × Nat × Nat) (w' : World), (Builtin.append_ #[t, t] ty #[.slice A n cap, .slice SA m sc]).run P w = .ok (.slice x.1 n' x.2.2) w' ∧ True ∧ Tab w0 w' (T.set i (.gen (rowE x.1 x.2.1 n' x.2.2 e sz vals' true))) := by
  subst hv hn'
  have hrow : Row w A g n cap e sz vals := hT.ok i _ hi
  obtain ⟨inf, hinf1, hinf2⟩ := Option.map_eq_some_iff.1 hinf
  simp only [Prod.mk.injEq] at hinf2
  obtain ⟨hz, hs, hbt⟩ := hinf2
  by_cases hm : m = 0
  · subst hm
    have hnil : news = [] := List.length_eq_zero_iff.1 (by have := hsrc.len; simpa using this)
    subst hnil
    refine ⟨(A, g, cap), w, ?_, trivial, ?_⟩
    · have hle : n ≤ cap := hrow.capLe
      cases A <;> cases SA <;> simp [Builtin.append_, run_underlying ht, sizeOf, typeInfo, hinf1, Builtin.lenOf, hle, Builtin.firstCells, storeCells, loadCells, loadCellsFrom]
    · simp only [List.append_nil, Nat.add_zero]
      have : T.set i (.gen (rowE A g n cap e sz vals true)) = T := by
        obtain ⟨hlt, he⟩ := List.getElem?_eq_some_iff.1 hi
        rw [← he]
        exact List.set_getElem_self hlt
      rw [this]; exact hT
  · have hSA := hsrc.at_ (by omega)
    subst hSA
    have hml : n + m ≤ maxLen := by
      have h2 : (n + m) * 1 ≤ (n + m) * bytes := Nat.mul_le_mul_left _ hby
      unfold maxLen; omega
    obtain ⟨v', w', hr, hown, hg, _, hat⟩ := run_append_own_at (P := P) w 0 t ty e inf z sz bytes ht hinf1 hz hs hbt hzs hsz (.slice A n cap) n vals hrow.own ⟨sg, so, none⟩ m sc news hsrc.len (fun j u hj => by rw [addr_add]; exact hsrc.cell j u hj) h1 hml hb (Nat.zero_le _)
    rcases hown.2 with ⟨hv0, h0⟩ | ⟨g', cap', cur, hv', _, hg', hle, hcm, hcs, htk⟩
    · omega
    · subst hv'
      refine ⟨(some ⟨g', 0, none⟩, g', cap'), w', hr, trivial, ?_⟩
      have hwhere : (k : Nat) → k = g' → (k = g ∧ A ≠ none) ∨ w.heap.size ≤ k := by
        intro k hk
        subst hk
        rcases hat with hat | hat
        · left
          cases A with
          | none => simp [Value.ownBlock] at hat
          | some a =>
            have := hrow.spot a rfl
            subst this
            simp [Value.ownBlock] at hat
            exact ⟨hat, by simp⟩
        · right
          simp [Value.ownBlock] at hat
          omega
      refine hT.replace (e := .gen (rowE A g n cap e sz vals true)) (e' := .gen (rowE (some ⟨g', 0, none⟩) g' (n + m) cap' e sz (vals ++ news) true)) hi rfl rfl id (fun k hk => hwhere k hk.1) (fun k _ hk hlt => ?_) hg.os hg.tape hg.output hg.size (fun k hk hne => ?_) ?_
      · have := hT.own i _ hi rfl k hk
        omega
      · refine hg.block k hk (fun hek => hne ?_)
        cases A with
        | none => simp [Value.ownBlock] at hek
        | some a =>
          have := hrow.spot a rfl
          subst this
          simp [Value.ownBlock] at hek
          exact ⟨hek, by simp⟩
      · exact ⟨hown, fun _ => rfl, fun a ha => by cases ha; rfl⟩

theorem Row.facts {w : World} {A : Option Addr} {g n cap : Nat} {e : TypeId} {k : IntKind} {xs : List Int} (h : Row w A g n cap e 1 (ivals k xs)) : (0 < n → A = some ⟨g, 0, none⟩) ∧ xs.length = n ∧ n ≤ cap ∧ cap ≤ maxLen := by
  refine ⟨h.at_, ?_, h.capLe, ?_⟩
  · have := h.own.1; rw [ivals_length] at this; omega
  · rcases h.own.2 with ⟨h1, _⟩ | ⟨g', cap', cur, hv, _, _, _, hm, _⟩
    · cases h1; unfold maxLen; omega
    · cases hv; exact hm
theorem Rd.flen {w : World} {A : Option Addr} {g o n : Nat} {k : IntKind} {xs : List Int} (h : Rd w A g o n 1 (ivals k xs)) : xs.length = n := by
  have := h.len; rw [ivals_length] at this; omega
theorem Rd.facts {w : World} {A : Option Addr} {g o n : Nat} {k : IntKind} {xs : List Int} (h : Rd w A g o n 1 (ivals k xs)) : (0 < n → A = some ⟨g, o, none⟩) ∧ xs.length = n := ⟨h.at_, h.flen⟩
/-- A part of a row, read. -/
theorem Rd.sub {w : World} {g o n cap : Nat} {k : IntKind} {xs : List Int} {A : Option Addr} (h : Rd w A g o n 1 (ivals k xs)) {J m : Nat} (hJ : J + m ≤ n) (hc : n ≤ cap) : Rd w (sliceA g o J cap 1) g (o + J * 1) m 1 (ivals k ((xs.drop J).take m)) := by
  have hl : xs.length = n := by have := h.len; rw [ivals_length] at this; omega
  refine ⟨by rw [ivals_length, List.length_take, List.length_drop]; omega, fun hm => sliceA_pos (by omega), fun j v hj => ?_⟩
  have hjm : j < m := by
    have := (List.getElem?_eq_some_iff.1 hj).1
    rw [ivals_length, List.length_take, List.length_drop] at this
    omega
  rw [show o + J * 1 + j = o + (J + j) by omega]
  refine h.cell (J + j) v ?_
  rw [← hj]
  simp only [ivals, List.getElem?_map, List.getElem?_take, if_pos hjm, List.getElem?_drop]
theorem Row.sub {w : World} {g n cap : Nat} {e : TypeId} {k : IntKind} {xs : List Int} {A : Option Addr} (h : Row w A g n cap e 1 (ivals k xs)) {J m : Nat} (hJ : J + m ≤ n) : Rd w (sliceA g 0 J cap 1) g (0 + J * 1) m 1 (ivals k ((xs.drop J).take m)) :=
  Rd.sub h.rd hJ h.capLe
theorem Vw.rdSub {A : Option Addr} {g o n cap : Nat} {k : IntKind} {xs : List Int} {J m : Nat} (hc : n ≤ cap) (hJ : J + m ≤ n) : Vw (.gen (rdE A g o n 1 (ivals k xs))) (.gen (rdE (sliceA g o J cap 1) g (o + J * 1) m 1 (ivals k ((xs.drop J).take m)))) :=
  ⟨fun _ h => Rd.sub h hJ hc, fun w h k' hk => by
    obtain ⟨h1, h2⟩ := hk
    exact ⟨h1, fun hx => h2 (by
      have hn : xs = [] := by simpa [ivals] using hx
      subst hn; simp [ivals])⟩, id, rfl⟩
theorem Vw.rowSub {A : Option Addr} {g n cap : Nat} {e : TypeId} {k : IntKind} {xs : List Int} {o' : Bool} {J m : Nat} (hJ : J + m ≤ n) : Vw (.gen (rowE A g n cap e 1 (ivals k xs) o')) (.gen (rdE (sliceA g 0 J cap 1) g (0 + J * 1) m 1 (ivals k ((xs.drop J).take m)))) :=
  ⟨fun _ h => Row.sub h hJ, fun w h k' hk => by
    have hr : Row w A g n cap e 1 (ivals k xs) := h
    obtain ⟨h1, h2⟩ := hk
    refine ⟨h1, fun hA => h2 ?_⟩
    obtain ⟨f1, f2, f3, f4⟩ := hr.facts
    have h0 : n = 0 := by
      rcases Nat.eq_zero_or_pos n with h | h
      · exact h
      · have := f1 h; rw [hA] at this; cases this
    have hm : m = 0 := by omega
    subst hm; simp [ivals], fun _ => rfl, rfl⟩
end
end Go.Proofs.Ytlfahohbkgdabaa

/- Plain words of the document's images (rondelref01, rondelref03, rondelref04) and of what builds and compares images. -/
set_option linter.unusedVariables false
set_option linter.unusedSimpArgs false
namespace Go.Proofs.Ytlfahohbkgdabaa
open Go Go.RowKit

def aroundI (n m : Int) : Int := (if n < 0 then 0 - (n + 1) else n) % m
theorem aroundI_range (n : Int) {m : Int} (h : 0 < m) : 0 ≤ aroundI n m ∧ aroundI n m < m := ⟨Int.emod_nonneg _ (by omega), Int.emod_lt_of_pos _ h⟩
def goodC (c : Int) : Int := mkC (pa c) (mn (pr c) (pa c)) (mn (pg c) (pa c)) (mn (pb c) (pa c))
theorem parts_mk (a r g b : Int) : pa (mkC a r g b) = clip a ∧ pr (mkC a r g b) = clip r ∧ pg (mkC a r g b) = clip g ∧ pb (mkC a r g b) = clip b := by
  have := clip_range a; have := clip_range r; have := clip_range g; have := clip_range b
  unfold pa pr pg pb mkC
  omega
theorem pa_range {c : Int} (h : InC c) : 0 ≤ pa c ∧ pa c ≤ 255 := by obtain ⟨h1, h2⟩ := h; unfold pa; omega
theorem goodC_may (c : Int) (h : InC c) : mayB (goodC c) = true ∧ InC (goodC c) := by
  refine ⟨?_, mkC_range _ _ _ _⟩
  obtain ⟨h1, h2, h3, h4⟩ := parts_mk (pa c) (mn (pr c) (pa c)) (mn (pg c) (pa c)) (mn (pb c) (pa c))
  have := pa_range h
  unfold mayB
  rw [goodC, h1, h2, h3, h4]
  simp only [Bool.and_eq_true, decide_eq_true_eq]
  unfold clip mn
  omega
def goodP (n : Nat) (xs : List Int) (i : Nat) : List Int := (List.range n).map fun j => if j < i then goodC (xs.getD j 0) else 0
theorem goodP_length (n : Nat) (xs : List Int) (i : Nat) : (goodP n xs i).length = n := by simp [goodP]
theorem goodP_zero (n : Nat) (xs : List Int) : goodP n xs 0 = List.replicate n 0 := by
  apply List.ext_getElem?
  intro j
  simp only [goodP, List.getElem?_map, List.getElem?_range', List.getElem?_replicate]
  by_cases h : j < n <;> simp [h]
theorem goodP_set {n : Nat} {xs : List Int} {i : Nat} (h : i < n) : (goodP n xs i).set i (goodC (xs.getD i 0)) = goodP n xs (i + 1) := by
  apply List.ext_getElem?
  intro j
  rw [List.getElem?_set]
  simp only [goodP, List.getElem?_map, List.length_map, List.length_range]
  by_cases hj : i = j
  · subst hj
    simp [h]
  · simp only [if_neg hj]
    by_cases hn : j < n
    · simp only [List.getElem?_range hn, Option.map_some]
      by_cases h2 : j < i
      · rw [if_pos h2, if_pos (by omega)]
      · rw [if_neg h2, if_neg (by omega)]
    · simp [hn]
theorem goodC_zero : goodC 0 = 0 := by decide
theorem goodP_end {n : Nat} {xs : List Int} {i : Nat} (h : n ≤ i ∨ xs.length ≤ i) : goodP n xs i = goodP n xs n := by
  unfold goodP
  refine List.map_congr_left fun j hj => ?_
  have hjn : j < n := List.mem_range.1 hj
  rw [if_pos hjn]
  split
  · rfl
  · have : xs.length ≤ j := by omega
    rw [List.getD_eq_getElem?_getD, List.getElem?_eq_none this]
    exact goodC_zero.symm
/-- What comes in where the document makes an image of any numbers and colors. -/
structure GoodIn (a b : Int) (A : Option Addr) (g o n cap : Nat) (xs : List Int) : Prop where
  a : -9223372036854775808 ≤ a ∧ a ≤ 9223372036854775807
  b : -9223372036854775808 ≤ b ∧ b ≤ 9223372036854775807
  len : xs.length = n
  le : n ≤ cap
  mx : cap ≤ maxLen
  rng : ∀ x ∈ xs, InC x
  at_ : 0 < n → A = some ⟨g, o, none⟩
/-- Colors that may be. -/
def AllMay (px : List Int) : Prop := ∀ c ∈ px, mayB c = true ∧ InC c
theorem goodP_may {n : Nat} {xs : List Int} (i : Nat) (h : ∀ x ∈ xs, InC x) : AllMay (goodP n xs i) := by
  intro c hc
  obtain ⟨j, _, rfl⟩ := List.mem_map.1 hc
  split
  · refine goodC_may _ ?_
    rw [List.getD_eq_getElem?_getD]
    cases hx : xs[j]? with
    | none => exact ⟨by simp, by simp⟩
    | some x => exact h x (List.mem_of_getElem? hx)
  · exact ⟨by decide, by decide, by decide⟩
theorem AllMay.get {px : List Int} (h : AllMay px) {i : Nat} (hi : i < px.length) : mayB (px.getD i 0) = true ∧ InC (px.getD i 0) := by
  rw [List.getD_eq_getElem?_getD, List.getElem?_eq_getElem hi]
  exact h _ (List.getElem_mem hi)
theorem imgOk_of {W H : Int} {n : Nat} {px : List Int} (hw : 1 ≤ W ∧ W ≤ 256 ∧ 1 ≤ H ∧ H ≤ 256) (hn : (n : Int) = W * H) (hl : px.length = n) (hm : AllMay px) : ImgOk W H n px :=
  ⟨hw.1, hw.2.1, hw.2.2.1, hw.2.2.2, hn, hl, fun c hc => (hm c hc).2⟩

def setL (W H : Int) (px : List Int) (x y c : Int) : List Int := if hasB 0 0 W H x y && mayB c then px.set (y * W + x).toNat c else px
def setE (W H x y c : Int) : Int := if !hasB 0 0 W H x y then 4 else if !mayB c then 1 else 0
theorem ImgOk.setL {W H : Int} {n : Nat} {px : List Int} (h : ImgOk W H n px) (x y : Int) {c : Int} (hc : InC c) : ImgOk W H n (setL W H px x y c) := by
  unfold Go.Proofs.Ytlfahohbkgdabaa.setL
  split
  · exact h.set _ hc
  · exact h
theorem place_inv (i : Nat) {W : Int} (hW : 1 ≤ W) : (i : Int) / W * W + (i : Int) % W = i := by
  rw [Int.mul_comm]; exact Int.mul_ediv_add_emod _ _
theorem in_box {W H : Int} {n i : Nat} (hW : 1 ≤ W) (hn : (n : Int) = W * H) (hi : i < n) : hasB 0 0 W H ((i : Int) % W) ((i : Int) / W) = true := by
  have h1 := Int.emod_nonneg (i : Int) (show W ≠ 0 by omega)
  have h2 := Int.emod_lt_of_pos (i : Int) (show 0 < W by omega)
  have h3 := Int.ediv_nonneg (show 0 ≤ (i : Int) by omega) (show 0 ≤ W by omega)
  refine hasB_true.2 ⟨h1, h2, h3, ?_⟩
  exact Int.ediv_lt_of_lt_mul (by omega) (by rw [Int.mul_comm, ← hn]; omega)
theorem setL_at {W H : Int} {n i : Nat} {px : List Int} {c : Int} (hW : 1 ≤ W) (hn : (n : Int) = W * H) (hi : i < n) (hc : mayB c = true) : setL W H px ((i : Int) % W) ((i : Int) / W) c = px.set i c := by
  unfold setL
  rw [in_box hW hn hi, hc, Bool.and_self, if_pos rfl, place_inv i hW]
  rfl
theorem atC_at {W H : Int} {n i : Nat} (px : List Int) (hW : 1 ≤ W) (hn : (n : Int) = W * H) (hi : i < n) : atC W H px ((i : Int) % W) ((i : Int) / W) = px.getD i 0 := by
  unfold atC
  rw [in_box hW hn hi, if_pos rfl, place_inv i hW]
  rfl
def bldP (px : List Int) (i : Nat) : List Int := px.mapIdx fun j c => if j < i then c else 0
theorem bldP_length (px : List Int) (i : Nat) : (bldP px i).length = px.length := by simp [bldP]
theorem bldP_zero (px : List Int) : bldP px 0 = List.replicate px.length 0 := by
  apply List.ext_getElem?
  intro j
  simp only [bldP, List.getElem?_mapIdx, List.getElem?_replicate]
  by_cases h : j < px.length
  · simp [h]
  · simp [h]
theorem bldP_all {px : List Int} {i : Nat} (h : px.length ≤ i) : bldP px i = px := by
  apply List.ext_getElem?
  intro j
  simp only [bldP, List.getElem?_mapIdx]
  by_cases hj : j < px.length
  · simp [hj, show j < i by omega]
  · simp [hj]
theorem bldP_set {px : List Int} {i : Nat} (h : i < px.length) : (bldP px i).set i (px.getD i 0) = bldP px (i + 1) := by
  apply List.ext_getElem?
  intro j
  rw [List.getElem?_set]
  simp only [bldP, List.getElem?_mapIdx, List.length_mapIdx]
  by_cases hj : i = j
  · subst hj
    simp [h]
  · simp only [if_neg hj]
    cases px[j]? with
    | none => rfl
    | some v =>
      simp only [Option.map_some]
      by_cases h2 : j < i
      · rw [if_pos h2, if_pos (by omega)]
      · rw [if_neg h2, if_neg (by omega)]
theorem bldP_may {px : List Int} (h : AllMay px) (i : Nat) : AllMay (bldP px i) := by
  intro c hc
  obtain ⟨j, hj⟩ := List.getElem?_of_mem hc
  simp only [bldP, List.getElem?_mapIdx] at hj
  cases hp : px[j]? with
  | none => rw [hp] at hj; cases hj
  | some v =>
    rw [hp] at hj
    simp only [Option.map_some, Option.some.injEq] at hj
    subst hj
    split
    · exact h v (List.mem_of_getElem? hp)
    · exact ⟨by decide, by decide, by decide⟩
theorem emod_range (i : Nat) {W : Int} (hW : 1 ≤ W) : 0 ≤ (i : Int) % W ∧ (i : Int) % W < W ∧ 0 ≤ (i : Int) / W ∧ (i : Int) / W ≤ i :=
  ⟨Int.emod_nonneg _ (by omega), Int.emod_lt_of_pos _ (by omega), Int.ediv_nonneg (by omega) (by omega), Int.ediv_le_self _ (by omega)⟩

/-! ### Fill, as the document has it: point by point -/
/-! ### Solid -/
/-! ### Two images -/
end Go.Proofs.Ytlfahohbkgdabaa

/- Plain words of Copy: points of one image that come into another one. -/
set_option linter.unusedVariables false
set_option linter.unusedSimpArgs false
namespace Go.Proofs.Ytlfahohbkgdabaa
open Go Go.RowKit

theorem cutR_has (a b c d a' b' c' d' x y : Int) : hasB (cutR a b c d a' b' c' d').x0 (cutR a b c d a' b' c' d').y0 (cutR a b c d a' b' c' d').x1 (cutR a b c d a' b' c' d').y1 x y = true ↔ hasB a b c d x y = true ∧ hasB a' b' c' d' x y = true := by
  unfold cutR
  cases h : emptyB (max a a') (max b b') (min c c') (min d d') with
  | true =>
    have := emptyB_true.1 h
    simp only [if_true, hasB_true]
    omega
  | false =>
    simp only [Bool.false_eq_true, if_false, hasB_true]
    omega
end Go.Proofs.Ytlfahohbkgdabaa

/- Contracts of functions of the given program, printed by a program of this project. -/
set_option linter.unusedVariables false
set_option linter.unusedSimpArgs false
namespace Go.Proofs.Ytlfahohbkgdabaa
open Go Go.RowKit
set_option maxRecDepth 100000
set_option maxHeartbeats 8000000

theorem refAround (n m : Int) (w : World) (hn : -9223372036854775808 ≤ n ∧ n ≤ 9223372036854775807) (hm : 1 ≤ m ∧ m ≤ 9223372036854775807) :
    Calls Try.prog 13 #[.int .i64 n, .int .i64 m] w fun e w' => e = .returned (.int .i64 (aroundI n m)) ∧ Below w.heap.size w w' := by
 refine enter 13 [(0, iq n), (1, iq m)] [] Try.func13 rfl Try.ntmps13 rfl (by kernel_rfl) (Tab.start w) ?_
 refine cont_seq ?_
 refine cont_region 1 rfl ?_
 refine bS [0] 1 0 [(0, iq n), (1, iq m)] ?_
 refine cont_done ?_
 refine then_normal ?_
 refine cont_seq ?_
 refine cont_seq ?_
 refine cont_region 2 rfl ?_
 refine bS [0, 0] 2 0 [(0, iq n), (1, iq m), (6, .bool (decide (n < 0)))] ?_
 refine cont_done ?_
 refine then_normal ?_
 refine cont_split 6 (decide (n < 0)) rfl (fun c1_ => ?_) (fun c1_ => ?_)
 ·
  replace c1_ := of_decide_eq_true c1_
  refine cont_true rfl ?_
  refine cont_region 4 rfl ?_
  refine bS [0, 0] 2 2 [(1, iq m), (8, iq (IntKind.i64.wrap (n + 1)))] ?_
  refine cont_recast 8 (iq (IntKind.i64.wrap (n + 1))) (iq (n + 1)) rfl (wrapI (by omega) (by omega)) ?_
  refine bS [0] 3 1 [(1, iq m), (9, iq (IntKind.i64.wrap (0 - (n + 1))))] ?_
  refine cont_recast 9 (iq (IntKind.i64.wrap (0 - (n + 1)))) (iq (0 - (n + 1))) rfl (wrapI (by omega) (by omega)) ?_
  refine bS [0] 4 0 [(0, iq (0 - (n + 1))), (1, iq m)] ?_
  refine cont_done ?_
  refine then_normal ?_
  refine cont_seq ?_
  refine cont_region 4 rfl ?_
  refine bS [0, 0] 2 2 [(10, iq (0 - (n + 1))), (11, iq m)] ?_
  refine pl_step 3 1 rfl rfl ?_
  refine sem_step 12 (bopS .rem 3 (.tmp 10) (.tmp 11) (iq (0 - (n + 1))) (iq m)) (iq ((0 - (n + 1)).tmod m)) (by kernel_rfl) (fun w hT => run_rem (by omega) w) ?_
  refine cont_recast 12 (iq ((0 - (n + 1)).tmod m)) (iq ((0 - (n + 1)) % m)) rfl (tmodI (by omega)) ?_
  refine bS [0] 4 0 [(4, iq ((0 - (n + 1)) % m))] ?_
  refine cont_done ?_
  refine then_normal ?_
  refine cont_ret ?_
  refine ret_one (.inl rfl) rfl 0 (iq ((0 - (n + 1)) % m)) (by kernel_rfl) (by kernel_rfl) (fun w hT => ?_)
  exact ⟨ret_int (by simp [aroundI, *]), hT.post rfl⟩
 replace c1_ := of_decide_eq_false c1_
 refine cont_false rfl ?_
 refine cont_skip ?_
 refine then_normal ?_
 refine cont_seq ?_
 refine cont_region 4 rfl ?_
 refine bS [0, 0] 2 2 [(10, iq n), (11, iq m)] ?_
 refine pl_step 3 1 rfl rfl ?_
 refine sem_step 12 (bopS .rem 3 (.tmp 10) (.tmp 11) (iq n) (iq m)) (iq (n.tmod m)) (by kernel_rfl) (fun w hT => run_rem (by omega) w) ?_
 refine cont_recast 12 (iq (n.tmod m)) (iq (n % m)) rfl (tmodI (by omega)) ?_
 refine bS [0] 4 0 [(4, iq (n % m))] ?_
 refine cont_done ?_
 refine then_normal ?_
 refine cont_ret ?_
 refine ret_one (.inl rfl) rfl 0 (iq (n % m)) (by kernel_rfl) (by kernel_rfl) (fun w hT => ?_)
 exact ⟨ret_int (by simp [aroundI, *]), hT.post rfl⟩

theorem refParts (c : Int) (w : World) (h0 : 0 ≤ c) (h1 : c < 4294967296) :
    Calls Try.prog 21 #[.int .u32 c] w fun e w' => e = .returned (.agg #[.int .i64 (pa c), .int .i64 (pr c), .int .i64 (pg c), .int .i64 (pb c)]) ∧ Below w.heap.size w w' := by
 refine enter 17 [(0, .int .u32 c)] [] Try.func21 rfl Try.ntmps21 rfl (by kernel_rfl) (Tab.start w) ?_
 refine cont_seq ?_
 refine cont_region 1 rfl ?_
 refine batch1 [0] 1 0 (fun b1 => [(0, .int .u32 c), (2, .pointer (pB b1))]) (fun b1 => [.cells b1 [iq 0, iq 0, iq 0, iq 0] 49 true]) rfl rfl [0, 2] (fun _ => rfl) (fun b1 => by kernel_rfl) (fun b1 => by kernel_rfl) (fun b1 => ?_)
 refine cont_done ?_
 refine then_normal ?_
 refine cont_seq ?_
 refine cont_region 3 rfl ?_
 refine bS [0, 0] 2 1 [(2, .pointer (pB b1)), (5, iq (IntKind.i64.wrap c))] ?_
 refine cont_recast 5 (iq (IntKind.i64.wrap c)) (iq c) rfl (wrapI (by omega) (by omega)) ?_
 refine bS [0] 3 0 [(2, .pointer (pB b1)), (3, iq c)] ?_
 refine cont_done ?_
 refine then_normal ?_
 refine cont_seq ?_
 refine cont_region 12 rfl ?_
 refine bS [0, 0] 2 10 [(2, .pointer (pB b1)), (3, iq c), (7, iq (IntKind.i64.wrap (c.tdiv 16777216)))] ?_
 refine cont_recast 7 (iq (IntKind.i64.wrap (c.tdiv 16777216))) (iq (c / 16777216)) rfl (tdivI (by omega) (by omega) (by omega)) ?_
 refine bS [0, 0] 4 8 [(2, .pointer (pB b1)), (3, iq c), (7, iq (c / 16777216)), (9, iq (IntKind.i64.wrap (c.tdiv 65536)))] ?_
 refine cont_recast 9 (iq (IntKind.i64.wrap (c.tdiv 65536))) (iq (c / 65536)) rfl (tdivI (by omega) (by omega) (by omega)) ?_
 refine bS [0] 5 7 [(2, .pointer (pB b1)), (3, iq c), (7, iq (c / 16777216)), (10, iq ((c / 65536).tmod 256))] ?_
 refine cont_recast 10 (iq ((c / 65536).tmod 256)) (iq ((c / 65536) % 256)) rfl (tmodI (by omega)) ?_
 refine bS [0, 0] 7 5 [(2, .pointer (pB b1)), (3, iq c), (7, iq (c / 16777216)), (10, iq ((c / 65536) % 256)), (12, iq (IntKind.i64.wrap (c.tdiv 256)))] ?_
 refine cont_recast 12 (iq (IntKind.i64.wrap (c.tdiv 256))) (iq (c / 256)) rfl (tdivI (by omega) (by omega) (by omega)) ?_
 refine bS [0] 8 4 [(2, .pointer (pB b1)), (3, iq c), (7, iq (c / 16777216)), (10, iq ((c / 65536) % 256)), (13, iq ((c / 256).tmod 256))] ?_
 refine cont_recast 13 (iq ((c / 256).tmod 256)) (iq ((c / 256) % 256)) rfl (tmodI (by omega)) ?_
 refine bS [0, 0] 10 2 [(2, .pointer (pB b1)), (7, iq (c / 16777216)), (10, iq ((c / 65536) % 256)), (13, iq ((c / 256) % 256)), (15, iq (c.tmod 256))] ?_
 refine cont_recast 15 (iq (c.tmod 256)) (iq (c % 256)) rfl (tmodI (by omega)) ?_
 refine batch0 [0, 0] 12 0 [(2, .pointer (pB b1))] [.cells b1 [iq (c / 16777216), iq ((c / 65536) % 256), iq ((c / 256) % 256), iq (c % 256)] 49 true] rfl rfl (by kernel_rfl) (by kernel_rfl) ?_
 refine cont_done ?_
 refine then_normal ?_
 refine cont_ret ?_
 refine ret_one (.inl rfl) rfl 0 (.agg #[iq (c / 16777216), iq ((c / 65536) % 256), iq ((c / 256) % 256), iq (c % 256)]) (by kernel_rfl) (by kernel_rfl) (fun w hT => ?_)
 exact ⟨rfl, hT.post rfl⟩

theorem refMake (a r g b : Int) (w : World) :
    Calls Try.prog 22 #[.int .i64 a, .int .i64 r, .int .i64 g, .int .i64 b] w fun e w' => e = .returned (.int .u32 (mkC a r g b)) ∧ Below w.heap.size w w' := by
 have ha : 0 ≤ mn (mx a 0) 255 ∧ mn (mx a 0) 255 ≤ 255 := by unfold mn mx; omega
 have hr : 0 ≤ mn (mx r 0) 255 ∧ mn (mx r 0) 255 ≤ 255 := by unfold mn mx; omega
 have hg : 0 ≤ mn (mx g 0) 255 ∧ mn (mx g 0) 255 ≤ 255 := by unfold mn mx; omega
 have hb : 0 ≤ mn (mx b 0) 255 ∧ mn (mx b 0) 255 ≤ 255 := by unfold mn mx; omega
 refine enter 32 [(0, iq a), (1, iq r), (2, iq g), (3, iq b)] [] Try.func22 rfl Try.ntmps22 rfl (by kernel_rfl) (Tab.start w) ?_
 refine cont_seq ?_
 refine cont_region 1 rfl ?_
 refine bS [0] 1 0 [(0, iq a), (1, iq r), (2, iq g), (3, iq b)] ?_
 refine cont_done ?_
 refine then_normal ?_
 refine cont_seq ?_
 refine cont_region 4 rfl ?_
 refine bS [0, 0, 0, 0] 4 0 [(0, iq (mn (mx a 0) 255)), (1, iq r), (2, iq g), (3, iq b)] ?_
 refine cont_done ?_
 refine then_normal ?_
 refine cont_seq ?_
 refine cont_region 4 rfl ?_
 refine bS [0, 0, 0, 0] 4 0 [(0, iq (mn (mx a 0) 255)), (1, iq (mn (mx r 0) 255)), (2, iq g), (3, iq b)] ?_
 refine cont_done ?_
 refine then_normal ?_
 refine cont_seq ?_
 refine cont_region 4 rfl ?_
 refine bS [0, 0, 0, 0] 4 0 [(0, iq (mn (mx a 0) 255)), (1, iq (mn (mx r 0) 255)), (2, iq (mn (mx g 0) 255)), (3, iq b)] ?_
 refine cont_done ?_
 refine then_normal ?_
 refine cont_seq ?_
 refine cont_region 4 rfl ?_
 refine bS [0, 0, 0, 0] 4 0 [(0, iq (mn (mx a 0) 255)), (1, iq (mn (mx r 0) 255)), (2, iq (mn (mx g 0) 255)), (3, iq (mn (mx b 0) 255))] ?_
 refine cont_done ?_
 refine then_normal ?_
 refine cont_seq ?_
 refine cont_region 12 rfl ?_
 refine bS [0, 0] 2 10 [(1, iq (mn (mx r 0) 255)), (2, iq (mn (mx g 0) 255)), (3, iq (mn (mx b 0) 255)), (22, iq (IntKind.i64.wrap ((mn (mx a 0) 255) * 16777216)))] ?_
 refine cont_recast 22 (iq (IntKind.i64.wrap ((mn (mx a 0) 255) * 16777216))) (iq ((mn (mx a 0) 255) * 16777216)) rfl (wrapI (by omega) (by omega)) ?_
 refine bS [0, 0] 4 8 [(2, iq (mn (mx g 0) 255)), (3, iq (mn (mx b 0) 255)), (22, iq ((mn (mx a 0) 255) * 16777216)), (24, iq (IntKind.i64.wrap ((mn (mx r 0) 255) * 65536)))] ?_
 refine cont_recast 24 (iq (IntKind.i64.wrap ((mn (mx r 0) 255) * 65536))) (iq ((mn (mx r 0) 255) * 65536)) rfl (wrapI (by omega) (by omega)) ?_
 refine bS [0] 5 7 [(2, iq (mn (mx g 0) 255)), (3, iq (mn (mx b 0) 255)), (25, iq (IntKind.i64.wrap (((mn (mx a 0) 255) * 16777216) + ((mn (mx r 0) 255) * 65536))))] ?_
 refine cont_recast 25 (iq (IntKind.i64.wrap (((mn (mx a 0) 255) * 16777216) + ((mn (mx r 0) 255) * 65536)))) (iq (((mn (mx a 0) 255) * 16777216) + ((mn (mx r 0) 255) * 65536))) rfl (wrapI (by omega) (by omega)) ?_
 refine bS [0, 0] 7 5 [(3, iq (mn (mx b 0) 255)), (25, iq (((mn (mx a 0) 255) * 16777216) + ((mn (mx r 0) 255) * 65536))), (27, iq (IntKind.i64.wrap ((mn (mx g 0) 255) * 256)))] ?_
 refine cont_recast 27 (iq (IntKind.i64.wrap ((mn (mx g 0) 255) * 256))) (iq ((mn (mx g 0) 255) * 256)) rfl (wrapI (by omega) (by omega)) ?_
 refine bS [0] 8 4 [(3, iq (mn (mx b 0) 255)), (28, iq (IntKind.i64.wrap ((((mn (mx a 0) 255) * 16777216) + ((mn (mx r 0) 255) * 65536)) + ((mn (mx g 0) 255) * 256))))] ?_
 refine cont_recast 28 (iq (IntKind.i64.wrap ((((mn (mx a 0) 255) * 16777216) + ((mn (mx r 0) 255) * 65536)) + ((mn (mx g 0) 255) * 256)))) (iq ((((mn (mx a 0) 255) * 16777216) + ((mn (mx r 0) 255) * 65536)) + ((mn (mx g 0) 255) * 256))) rfl (wrapI (by omega) (by omega)) ?_
 refine bS [0, 0] 10 2 [(30, iq (IntKind.i64.wrap (((((mn (mx a 0) 255) * 16777216) + ((mn (mx r 0) 255) * 65536)) + ((mn (mx g 0) 255) * 256)) + (mn (mx b 0) 255))))] ?_
 refine cont_recast 30 (iq (IntKind.i64.wrap (((((mn (mx a 0) 255) * 16777216) + ((mn (mx r 0) 255) * 65536)) + ((mn (mx g 0) 255) * 256)) + (mn (mx b 0) 255)))) (iq (((((mn (mx a 0) 255) * 16777216) + ((mn (mx r 0) 255) * 65536)) + ((mn (mx g 0) 255) * 256)) + (mn (mx b 0) 255))) rfl (wrapI (by omega) (by omega)) ?_
 refine bS [0] 11 1 [(31, .int .u32 (IntKind.u32.wrap (((((mn (mx a 0) 255) * 16777216) + ((mn (mx r 0) 255) * 65536)) + ((mn (mx g 0) 255) * 256)) + (mn (mx b 0) 255))))] ?_
 refine cont_recast 31 (.int .u32 (IntKind.u32.wrap (((((mn (mx a 0) 255) * 16777216) + ((mn (mx r 0) 255) * 65536)) + ((mn (mx g 0) 255) * 256)) + (mn (mx b 0) 255)))) (.int .u32 (((((mn (mx a 0) 255) * 16777216) + ((mn (mx r 0) 255) * 65536)) + ((mn (mx g 0) 255) * 256)) + (mn (mx b 0) 255))) rfl (wrapU32 (by omega) (by omega)) ?_
 refine bS [0] 12 0 [(8, .int .u32 (((((mn (mx a 0) 255) * 16777216) + ((mn (mx r 0) 255) * 65536)) + ((mn (mx g 0) 255) * 256)) + (mn (mx b 0) 255)))] ?_
 refine cont_done ?_
 refine then_normal ?_
 refine cont_ret ?_
 refine ret_one (.inl rfl) rfl 0 (.int .u32 (((((mn (mx a 0) 255) * 16777216) + ((mn (mx r 0) 255) * 65536)) + ((mn (mx g 0) 255) * 256)) + (mn (mx b 0) 255))) (by kernel_rfl) (by kernel_rfl) (fun w hT => ?_)
 exact ⟨ret_int (by simp only [mkC, clip, mx_eq, mn_eq]), hT.post rfl⟩

theorem refGood3 (c : Int) (w : World) (h0 : 0 ≤ c) (h1 : c < 4294967296) :
    Calls Try.prog 12 #[.int .u32 c] w fun e w' => e = .returned (.int .u32 (goodC c)) ∧ Below w.heap.size w w' := by
 refine enter 24 [(0, .int .u32 c)] [] Try.func12 rfl Try.ntmps12 rfl (by kernel_rfl) (Tab.start w) ?_
 refine cont_seq ?_
 refine cont_region 1 rfl ?_
 refine bS [0] 1 0 [(0, .int .u32 c)] ?_
 refine cont_done ?_
 refine then_normal ?_
 refine cont_seq ?_
 refine cont_region 4 rfl ?_
 refine bS [0] 1 3 [(4, .int .u32 c)] ?_
 refine pl_step 2 2 rfl rfl ?_
 refine call_pure (d := 5) (.agg #[iq (pa c), iq (pr c), iq (pg c), iq (pb c)]) (by kernel_rfl) (fun w hT => refParts c w (by omega) (by omega)) ?_
 refine batch1 [0, 0] 4 0 (fun b1 => [(3, .pointer (pB b1))]) (fun b1 => [.cells b1 [iq (pa c), iq (pr c), iq (pg c), iq (pb c)] 49 true]) rfl rfl [3] (fun _ => rfl) (fun b1 => by kernel_rfl) (fun b1 => by kernel_rfl) (fun b1 => ?_)
 refine cont_done ?_
 refine then_normal ?_
 refine cont_seq ?_
 refine cont_region 19 rfl ?_
 refine bS [0, 0, 0, 0, 0, 0, 0, 0, 0, 0, 0, 0, 0, 0, 0, 0, 0] 17 2 [(7, iq (pa c)), (12, iq (mn (pr c) (pa c))), (17, iq (mn (pg c) (pa c))), (22, iq (mn (pb c) (pa c)))] ?_
 refine cont_forget 0 rfl ?_
 refine pl_step 18 1 rfl rfl ?_
 refine call_pure (d := 23) (.int .u32 (mkC (pa c) (mn (pr c) (pa c)) (mn (pg c) (pa c)) (mn (pb c) (pa c)))) (by kernel_rfl) (fun w hT => refMake (pa c) (mn (pr c) (pa c)) (mn (pg c) (pa c)) (mn (pb c) (pa c)) w) ?_
 refine bS [0] 19 0 [(2, .int .u32 (mkC (pa c) (mn (pr c) (pa c)) (mn (pg c) (pa c)) (mn (pb c) (pa c))))] ?_
 refine cont_done ?_
 refine then_normal ?_
 refine cont_ret ?_
 refine ret_one (.inl rfl) rfl 0 (.int .u32 (mkC (pa c) (mn (pr c) (pa c)) (mn (pg c) (pa c)) (mn (pb c) (pa c)))) (by kernel_rfl) (by kernel_rfl) (fun w hT => ?_)
 exact ⟨rfl, hT.post rfl⟩

theorem refNew4 (W H : Int) (w : World) (hwh : 1 ≤ W ∧ W ≤ 256 ∧ 1 ≤ H ∧ H ≤ 256) :
    Calls Try.prog 24 #[.int .i64 W, .int .i64 H] w fun e w' => ∃ r n : Nat, e = .returned (.agg #[.int .i64 W, .int .i64 H, .slice (some ⟨r, 0, none⟩) n n]) ∧ (n : Int) = W * H ∧ Tab w w' [.gen (rowE (some ⟨r, 0, none⟩) r n n 24 1 (ivals .u32 (List.replicate n 0)) true)] := by
 have hm : W * H ≤ 256 * 256 := mul_le_of (by omega) (by omega) (by omega) (by omega)
 have hm0 : 0 ≤ W * H := Int.mul_nonneg (by omega) (by omega)
 obtain ⟨n, hn⟩ : ∃ n : Nat, (n : Int) = W * H := ⟨(W * H).toNat, by omega⟩
 refine enter 12 [(0, iq W), (1, iq H)] [] Try.func24 rfl Try.ntmps24 rfl (by kernel_rfl) (Tab.start w) ?_
 refine cont_seq ?_
 refine cont_region 1 rfl ?_
 refine batch1 [0] 1 0 (fun b1 => [(0, iq W), (1, iq H), (4, .pointer (pB b1))]) (fun b1 => [.cells b1 [iq 0, iq 0, .slice none 0 0] 41 true]) rfl rfl [0, 1, 4] (fun _ => rfl) (fun b1 => by kernel_rfl) (fun b1 => by kernel_rfl) (fun b1 => ?_)
 refine cont_done ?_
 refine then_normal ?_
 refine cont_seq ?_
 refine cont_region 8 rfl ?_
 refine bS [0, 0, 0, 0, 0] 5 3 [(4, .pointer (pB b1)), (5, iq W), (6, iq H), (9, iq (IntKind.i64.wrap (W * H)))] ?_
 refine cont_recast 9 (iq (IntKind.i64.wrap (W * H))) (iq (n : Int)) rfl (by rw [hn]; exact wrapI (by omega) (by omega)) ?_
 refine pl_step 6 2 rfl rfl ?_
 refine sem_stepW 10 (Instr.makeSlice 39 (iq (n : Int)) (iq (n : Int))) (fun r2 => .slice (pB r2) n n) (fun r2 => [.gen (rowE (pB r2) r2 n n 24 1 (ivals .u32 (List.replicate n 0)) true), .cells b1 [iq 0, iq 0, .slice none 0 0] 41 true]) (fun _ => True) (by kernel_rfl) (fun w hT => make_row hT (bytes := 4) n (by kernel_rfl) (by kernel_rfl) (by omega) (by omega)) (fun r2 _ => ?_)
 refine batch0 [0, 1] 8 0 [(4, .pointer (pB b1))] [.gen (rowE (pB r2) r2 n n 24 1 (ivals .u32 (List.replicate n 0)) true), .cells b1 [iq W, iq H, .slice (pB r2) n n] 41 true] rfl rfl (by kernel_rfl) (by kernel_rfl) ?_
 refine cont_done ?_
 refine then_normal ?_
 refine cont_ret ?_
 refine ret_one (.inl rfl) rfl 1 (.agg #[iq W, iq H, .slice (pB r2) n n]) (by kernel_rfl) (by kernel_rfl) (fun w hT => ?_)
 replace hT := hT.erase 1 (fun e h hw => by cases h; first | rfl | cases hw)
 exact ⟨_, _, rfl, hn, hT⟩

theorem refGood4 (A1 : Option Addr) (g1 o1 n1 cap1 : Nat) (xs1 : List Int) (a b : Int) (w : World) (hT0 : Tab w w [.gen (rdE (A1) g1 o1 n1 1 (ivals .u32 xs1))]) (hh : GoodIn a b A1 g1 o1 n1 cap1 xs1) :
    Calls Try.prog 17 #[.int .i64 a, .int .i64 b, .slice A1 n1 cap1] w fun e w' => ∃ r n : Nat, e = .returned (.agg #[.int .i64 (1 + aroundI a 16), .int .i64 (1 + aroundI b 16), .slice (some ⟨r, 0, none⟩) n n]) ∧ (n : Int) = (1 + aroundI a 16) * (1 + aroundI b 16) ∧ Tab w w' [.gen (rowE (some ⟨r, 0, none⟩) r n n 24 1 (ivals .u32 (goodP n xs1 n)) true)] := by
 obtain ⟨ha, hb, hl1, hc1, hm1, hx1, hat1⟩ := hh
 unfold maxLen at hm1
 have hr1a := hat1
 refine enter 39 [(0, iq a), (1, iq b), (2, .slice A1 n1 cap1)] [.gen (rdE (A1) g1 o1 n1 1 (ivals .u32 xs1))] Try.func17 rfl Try.ntmps17 rfl (by kernel_rfl) hT0 ?_
 refine cont_seq ?_
 refine cont_region 1 rfl ?_
 refine batch1 [0] 1 0 (fun b1 => [(0, iq a), (1, iq b), (2, .slice A1 n1 cap1), (6, .pointer (pB b1))]) (fun b1 => [.cells b1 [iq 0, iq 0, .slice none 0 0] 41 true, .gen (rdE (A1) g1 o1 n1 1 (ivals .u32 xs1))]) rfl rfl [0, 1, 2, 6] (fun _ => rfl) (fun b1 => by kernel_rfl) (fun b1 => by kernel_rfl) (fun b1 => ?_)
 refine cont_done ?_
 refine then_normal ?_
 refine cont_seq ?_
 refine cont_region 9 rfl ?_
 refine bS [0] 1 8 [(1, iq b), (2, .slice A1 n1 cap1), (6, .pointer (pB b1)), (9, iq a)] ?_
 refine pl_step 2 7 rfl rfl ?_
 refine call_pure (d := 10) (iq (aroundI a 16)) (by kernel_rfl) (fun w hT => refAround a 16 w (by omega) (by omega)) ?_
 have hq2_ := aroundI_range a (m := 16) (by omega)
 refine bS [0] 3 6 [(1, iq b), (2, .slice A1 n1 cap1), (6, .pointer (pB b1)), (11, iq (IntKind.i64.wrap (1 + (aroundI a 16))))] ?_
 refine cont_recast 11 (iq (IntKind.i64.wrap (1 + (aroundI a 16)))) (iq (1 + (aroundI a 16))) rfl (wrapI (by omega) (by omega)) ?_
 refine bS [0] 4 5 [(2, .slice A1 n1 cap1), (6, .pointer (pB b1)), (11, iq (1 + (aroundI a 16))), (12, iq b)] ?_
 refine pl_step 5 4 rfl rfl ?_
 refine call_pure (d := 13) (iq (aroundI b 16)) (by kernel_rfl) (fun w hT => refAround b 16 w (by omega) (by omega)) ?_
 have hq3_ := aroundI_range b (m := 16) (by omega)
 refine bS [0] 6 3 [(2, .slice A1 n1 cap1), (6, .pointer (pB b1)), (11, iq (1 + (aroundI a 16))), (14, iq (IntKind.i64.wrap (1 + (aroundI b 16))))] ?_
 refine cont_recast 14 (iq (IntKind.i64.wrap (1 + (aroundI b 16)))) (iq (1 + (aroundI b 16))) rfl (wrapI (by omega) (by omega)) ?_
 refine pl_step 7 2 rfl rfl ?_
 refine call_gen (d := 15) (α := Nat × Nat) (fun x_ => .agg #[iq (1 + (aroundI a 16)), iq (1 + (aroundI b 16)), .slice (pB x_.1) x_.2 x_.2]) (fun x_ => [.gen (rowE (pB x_.1) x_.1 x_.2 x_.2 24 1 (ivals .u32 (List.replicate x_.2 0)) true), .cells b1 [iq 0, iq 0, .slice none 0 0] 41 true, .gen (rdE (A1) g1 o1 n1 1 (ivals .u32 xs1))]) (fun x_ => (x_.2 : Int) = (1 + (aroundI a 16)) * (1 + (aroundI b 16))) (by kernel_rfl) (fun w hT => (refNew4 (1 + (aroundI a 16)) (1 + (aroundI b 16)) w (by omega)).mono fun e w' ⟨r4, n5, he_, hf_, ht_⟩ => ⟨(r4, n5), he_, hf_, hT.news ht_ rfl⟩) ?_
 rintro ⟨r4, n5⟩ hf6_
 replace hf6_ : (n5 : Int) = (1 + (aroundI a 16)) * (1 + (aroundI b 16)) := hf6_
 refine cont_norm [(2, .slice A1 n1 cap1), (6, .pointer (pB b1)), (11, iq (1 + (aroundI a 16))), (14, iq (1 + (aroundI b 16))), (15, .agg #[iq (1 + (aroundI a 16)), iq (1 + (aroundI b 16)), .slice (pB r4) n5 n5])] _ (by kernel_rfl) rfl ?_
 refine batch1 [0, 0] 9 0 (fun b7 => [(2, .slice A1 n1 cap1), (6, .pointer (pB b1)), (7, .pointer (pB b7))]) (fun b7 => [.cells b7 [iq (1 + (aroundI a 16)), iq (1 + (aroundI b 16)), .slice (pB r4) n5 n5] 41 true, .gen (rowE (pB r4) r4 n5 n5 24 1 (ivals .u32 (List.replicate n5 0)) true), .cells b1 [iq 0, iq 0, .slice none 0 0] 41 true, .gen (rdE (A1) g1 o1 n1 1 (ivals .u32 xs1))]) rfl rfl [2, 6, 7] (fun _ => rfl) (fun b7 => by kernel_rfl) (fun b7 => by kernel_rfl) (fun b7 => ?_)
 refine cont_done ?_
 refine then_normal ?_
 refine cont_seq ?_
 refine cont_seq ?_
 refine cont_region 1 rfl ?_
 refine bS [0] 1 0 [(2, .slice A1 n1 cap1), (6, .pointer (pB b1)), (7, .pointer (pB b7)), (8, iq 0)] ?_
 refine cont_done ?_
 refine then_normal ?_
 refine cont_block ?_
 refine cont_rowEq (k := .u32) 1 (List.replicate n5 0) (goodP n5 xs1 0) rfl ((goodP_zero _ _).symm) ?_
 refine cont_loop (α := Nat) (fun x_ : Nat => x_ ≤ n1 ∧ x_ ≤ n5) (fun x_ : Nat => [(2, .slice A1 n1 cap1), (6, .pointer (pB b1)), (7, .pointer (pB b7)), (8, iq (x_ : Int))]) (fun x_ : Nat => [.cells b7 [iq (1 + (aroundI a 16)), iq (1 + (aroundI b 16)), .slice (pB r4) n5 n5] 41 true, .gen (rowE (pB r4) r4 n5 n5 24 1 (ivals .u32 (goodP n5 xs1 x_)) true), .cells b1 [iq 0, iq 0, .slice none 0 0] 41 true, .gen (rdE (A1) g1 o1 n1 1 (ivals .u32 xs1))]) (fun x_ : Nat => n1 - x_) 0 (⟨by omega, by omega⟩) (by kernel_rfl) (by kernel_rfl) ?_
 rintro i hinv8_
 replace hinv8_ : i ≤ n1 ∧ i ≤ n5 := hinv8_
 refine cont_norm [(2, .slice A1 n1 cap1), (6, .pointer (pB b1)), (7, .pointer (pB b7)), (8, iq (i : Int))] _ (by kernel_rfl) rfl ?_
 obtain ⟨hi1, hi2⟩ := hinv8_
 have hxi : i < n1 → 0 ≤ xs1.getD i 0 ∧ xs1.getD i 0 < 4294967296 := fun h => hx1 _ (by rw [List.getD_eq_getElem?_getD, List.getElem?_eq_getElem (by omega)]; simp)
 refine cont_seq ?_
 refine cont_seq ?_
 refine cont_region 11 rfl ?_
 refine bS [0, 0, 0, 0, 0] 5 6 [(2, .slice A1 n1 cap1), (6, .pointer (pB b1)), (7, .pointer (pB b7)), (8, iq (i : Int)), (20, .bool (decide ((i : Int) < (n1 : Int))))] ?_
 refine cont_split 20 (decide ((i : Int) < (n1 : Int))) rfl (fun c9_ => ?_) (fun c9_ => ?_)
 ·
  replace c9_ := of_decide_eq_true c9_
  refine bS [0, 0, 0, 0, 0, 0] 11 0 [(2, .slice A1 n1 cap1), (6, .pointer (pB b1)), (7, .pointer (pB b7)), (8, iq (i : Int)), (21, iq (i : Int)), (22, .pointer (some ⟨b7, 2, none⟩)), (23, .slice (pB r4) n5 n5), (24, iq (n5 : Int)), (25, .bool (decide ((i : Int) < (n5 : Int)))), (26, .bool (decide ((i : Int) < (n5 : Int))))] ?_
  refine cont_done ?_
  refine then_normal ?_
  refine cont_split 26 (decide ((i : Int) < (n5 : Int))) rfl (fun c10_ => ?_) (fun c10_ => ?_)
  ·
   refine cont_recast 25 (.bool (decide ((i : Int) < (n5 : Int)))) (.bool true) rfl (congrArg Value.bool c10_) ?_
   replace c10_ := of_decide_eq_true c10_
   refine cont_true rfl ?_
   refine cont_skip ?_
   refine then_normal ?_
   refine cont_seq ?_
   refine cont_block ?_
   refine drawn_enter 10 [1] rfl (by kernel_rfl) ?_
   refine takes 0 [1] [(0, 0), (2, 0), (3, 0), (4, 0), (1, 0)] 5 [1, 4, 3, 2, 0] [(2, .slice A1 n1 cap1), (6, .pointer (pB b1)), (7, .pointer (pB b7)), (8, iq (i : Int)), (21, iq (i : Int)), (22, .pointer (some ⟨b7, 2, none⟩)), (23, .slice (pB r4) n5 n5), (24, iq (n5 : Int)), (25, .bool true), (30, .slice (pB r4) n5 n5), (31, iq (i : Int)), (32, .slice A1 n1 cap1), (33, iq (i : Int))] (by kernel_rfl) (pok_blk (pok_then (pok_then (pok_blk (pok_then pok_body))))) (by kernel_rfl) rfl rfl (by kernel_rfl) (by kernel_rfl) ?_
   refine cont_recast 32 (.slice A1 n1 cap1) (.slice (some ⟨g1, o1, none⟩) n1 cap1) rfl (by rw [hat1 (by omega)]) ?_
   refine sem_take 0 [1] 5 4 34 (Instr.indexAt 39 (.slice (some ⟨g1, o1, none⟩) n1 cap1) (iq (i : Int))) (.pointer (some ⟨g1, o1 + i, none⟩)) (by kernel_rfl) (pok_blk (pok_then (pok_then (pok_blk (pok_then pok_body))))) (by kernel_rfl) rfl (by kernel_rfl) (by kernel_rfl) (fun w hT => run_indexAt (e := 24) (sz := 1) _ (by kernel_rfl) (by kernel_rfl) (by omega) (by omega) (by omega) w) ?_
   refine sem_take 0 [1] 6 3 35 (Instr.loadAt 24 (.pointer (some ⟨g1, o1 + i, none⟩))) (.int .u32 (xs1.getD i 0)) (by kernel_rfl) (pok_blk (pok_then (pok_then (pok_blk (pok_then pok_body))))) (by kernel_rfl) rfl (by kernel_rfl) (by kernel_rfl) (fun w hT => run_load1 (by kernel_rfl) (Rd.cell (hT 3 _ rfl) (i) _ (ivals_get (by omega)))) ?_
   refine drawn_one 7 2 rfl (by kernel_rfl) ?_
   refine call_pure (d := 36) (.int .u32 (goodC (xs1.getD i 0))) (by kernel_rfl) (fun w hT => refGood3 (xs1.getD i 0) w (by omega) (by omega)) ?_
   refine drawn_next 0 [1] (by kernel_rfl) ?_
   refine sem_take 0 [1] 8 1 37 (Instr.indexAt 39 (.slice (pB r4) n5 n5) (iq (i : Int))) (.pointer (some ⟨r4, i, none⟩)) (by kernel_rfl) (pok_blk (pok_then (pok_then (pok_blk (pok_then pok_body))))) (by kernel_rfl) rfl (by kernel_rfl) (by kernel_rfl) (fun w hT => run_indexAt (e := 24) (sz := 1) _ (by kernel_rfl) (by kernel_rfl) (by omega) (by omega) (by omega) w) ?_
   refine drawn_one 9 0 rfl (by kernel_rfl) ?_
   refine sem_stepU (Instr.storeAt 24 (.pointer (some ⟨r4, i, none⟩)) (.int .u32 (goodC (xs1.getD i 0)))) (fun _ => [.cells b7 [iq (1 + (aroundI a 16)), iq (1 + (aroundI b 16)), .slice (pB r4) n5 n5] 41 true, .gen (rowE (pB r4) r4 n5 n5 24 1 (ivals .u32 ((goodP n5 xs1 i).set i (goodC (xs1.getD i 0)))) true), .cells b1 [iq 0, iq 0, .slice none 0 0] 41 true, .gen (rdE (A1) g1 o1 n1 1 (ivals .u32 xs1))]) (fun _ => True) (by kernel_rfl) (fun w hT => store_row hT (i := 1) rfl (by kernel_rfl) (by simp only [goodP_length]; omega)) (fun _ _ => ?_)
   refine drawn_next 0 [1] (by kernel_rfl) ?_
   refine drawn_done (by kernel_rfl) ?_
   refine blk_normal ?_
   refine then_normal ?_
   refine cont_region 3 rfl ?_
   refine bS [0, 0] 2 1 [(2, .slice A1 n1 cap1), (6, .pointer (pB b1)), (7, .pointer (pB b7)), (21, iq (i : Int)), (22, .pointer (some ⟨b7, 2, none⟩)), (23, .slice (pB r4) n5 n5), (24, iq (n5 : Int)), (25, .bool true), (28, iq (IntKind.i64.wrap ((i : Int) + 1)))] ?_
   refine cont_recast 28 (iq (IntKind.i64.wrap ((i : Int) + 1))) (iq ((i : Int) + 1)) rfl (wrapI (by omega) (by omega)) ?_
   refine bS [0] 3 0 [(2, .slice A1 n1 cap1), (6, .pointer (pB b1)), (7, .pointer (pB b7)), (8, iq ((i : Int) + 1)), (21, iq (i : Int)), (22, .pointer (some ⟨b7, 2, none⟩)), (23, .slice (pB r4) n5 n5), (24, iq (n5 : Int)), (25, .bool true)] ?_
   refine cont_done ?_
   refine then_normal ?_
   refine cont_rowEq (k := .u32) 1 ((goodP n5 xs1 i).set i (goodC (xs1.getD i 0))) (goodP n5 xs1 (i + 1)) rfl (goodP_set (by omega)) ?_
   refine cont_again (i + 1) (show (i + 1) ≤ n1 ∧ (i + 1) ≤ n5 from ⟨by omega, by omega⟩) (show n1 - (i + 1) < n1 - i from by omega) (by kernel_rfl) (by kernel_rfl)
  refine cont_recast 25 (.bool (decide ((i : Int) < (n5 : Int)))) (.bool false) rfl (congrArg Value.bool c10_) ?_
  replace c10_ := of_decide_eq_false c10_
  refine cont_false rfl ?_
  refine cont_exit ?_
  refine then_exit ?_
  refine then_exit ?_
  refine blk_exit ?_
  refine then_normal ?_
  refine cont_seq ?_
  refine cont_region 2 rfl ?_
  refine batch0 [0, 2] 2 0 [(6, .pointer (pB b1))] [.cells b7 [iq (1 + (aroundI a 16)), iq (1 + (aroundI b 16)), .slice (pB r4) n5 n5] 41 true, .gen (rowE (pB r4) r4 n5 n5 24 1 (ivals .u32 (goodP n5 xs1 i)) true), .cells b1 [iq (1 + (aroundI a 16)), iq (1 + (aroundI b 16)), .slice (pB r4) n5 n5] 41 true, .gen (rdE (A1) g1 o1 n1 1 (ivals .u32 xs1))] rfl rfl (by kernel_rfl) (by kernel_rfl) ?_
  refine cont_forget 0 rfl ?_
  refine cont_done ?_
  refine then_normal ?_
  refine cont_ret ?_
  refine ret_one (.inl rfl) rfl 1 (.agg #[iq (1 + (aroundI a 16)), iq (1 + (aroundI b 16)), .slice (pB r4) n5 n5]) (by kernel_rfl) (by kernel_rfl) (fun w hT => ?_)
  replace hT := hT.erase 2 (fun e h hw => by cases h; first | rfl | cases hw)
  replace hT := hT.erase 1 (fun e h hw => by cases h; first | rfl | cases hw)
  rw [goodP_end (by omega)] at hT
  exact ⟨_, _, rfl, ‹_›, hT⟩
 replace c9_ := of_decide_eq_false c9_
 refine bS [0, 0, 0, 0, 0, 0] 11 0 [(2, .slice A1 n1 cap1), (6, .pointer (pB b1)), (7, .pointer (pB b7)), (8, iq (i : Int)), (21, undef), (22, undef), (23, undef), (24, undef), (25, undef), (26, .bool false)] ?_
 refine cont_done ?_
 refine then_normal ?_
 refine cont_false rfl ?_
 refine cont_exit ?_
 refine then_exit ?_
 refine then_exit ?_
 refine blk_exit ?_
 refine then_normal ?_
 refine cont_seq ?_
 refine cont_region 2 rfl ?_
 refine batch0 [0, 2] 2 0 [(6, .pointer (pB b1))] [.cells b7 [iq (1 + (aroundI a 16)), iq (1 + (aroundI b 16)), .slice (pB r4) n5 n5] 41 true, .gen (rowE (pB r4) r4 n5 n5 24 1 (ivals .u32 (goodP n5 xs1 i)) true), .cells b1 [iq (1 + (aroundI a 16)), iq (1 + (aroundI b 16)), .slice (pB r4) n5 n5] 41 true, .gen (rdE (A1) g1 o1 n1 1 (ivals .u32 xs1))] rfl rfl (by kernel_rfl) (by kernel_rfl) ?_
 refine cont_forget 0 rfl ?_
 refine cont_done ?_
 refine then_normal ?_
 refine cont_ret ?_
 refine ret_one (.inl rfl) rfl 1 (.agg #[iq (1 + (aroundI a 16)), iq (1 + (aroundI b 16)), .slice (pB r4) n5 n5]) (by kernel_rfl) (by kernel_rfl) (fun w hT => ?_)
 replace hT := hT.erase 2 (fun e h hw => by cases h; first | rfl | cases hw)
 replace hT := hT.erase 1 (fun e h hw => by cases h; first | rfl | cases hw)
 rw [goodP_end (by omega)] at hT
 exact ⟨_, _, rfl, ‹_›, hT⟩

theorem imgSet (m : Nat) (W H : Int) (r n cap : Nat) (px : List Int) (x y c : Int) (w : World) (hI : Img 118 24 w m W H r n cap px) (hok : ImgOk W H n px) (hc : InC c) :
    Calls Try.prog 29 #[.pointer (some ⟨m, 0, none⟩), .int .i64 x, .int .i64 y, .int .u32 c] w fun e w' => e = .returned (.int .i64 (setE W H x y c)) ∧ KeepBut w w' r ∧ Row w' (some ⟨r, 0, none⟩) r n cap 24 1 (ivals .u32 (setL W H px x y c)) := by
 have hw1 := hok.w1
 have hw2 := hok.w2
 have hh1 := hok.h1
 have hh2 := hok.h2
 have hnum := hok.num
 have hlen := hok.len
 have hle := hok.le
 have hcap := hI.row.capLe
 obtain ⟨hc0, hc1⟩ := hc
 refine enter 34 [(0, .pointer (pB m)), (1, iq x), (2, iq y), (3, .int .u32 c)] [.ro m [iq W, iq H, .slice (pB r) n cap] 118, .gen (rowE (pB r) r n cap 24 1 (ivals .u32 px) false)] Try.func29 rfl Try.ntmps29 rfl (by kernel_rfl) hI.tabRw ?_
 refine cont_seq ?_
 refine cont_region 1 rfl ?_
 refine bS [0] 1 0 [(0, .pointer (pB m)), (1, iq x), (2, iq y), (3, .int .u32 c)] ?_
 refine cont_done ?_
 refine then_normal ?_
 refine cont_seq ?_
 refine cont_block ?_
 refine cont_seq ?_
 refine cont_region 7 rfl ?_
 refine bS [0] 1 6 [(0, .pointer (pB m)), (1, iq x), (2, iq y), (3, .int .u32 c), (10, .pointer (pB m))] ?_
 refine pl_step 2 5 rfl rfl ?_
 refine call_pure (d := 11) (.agg #[iq 0, iq 0, iq W, iq H]) (by kernel_rfl) (fun w hT => imgBox m W H r n cap px  w ⟨hT.ok 0 _ rfl, Row.rd (hT.ok 1 _ rfl), Row.capLe (hT.ok 1 _ rfl)⟩ hok) ?_
 refine bS [0, 0] 4 3 [(0, .pointer (pB m)), (1, iq x), (2, iq y), (3, .int .u32 c), (11, .agg #[iq 0, iq 0, iq W, iq H]), (12, iq x), (13, iq y)] ?_
 refine pl_step 5 2 rfl rfl ?_
 refine call_pure (d := 14) (.bool (hasB 0 0 W H x y)) (by kernel_rfl) (fun w hT => rectHas 0 0 W H x y w) ?_
 refine bS [0, 0] 7 0 [(0, .pointer (pB m)), (1, iq x), (2, iq y), (3, .int .u32 c), (9, .bool (!(hasB 0 0 W H x y)))] ?_
 refine cont_done ?_
 refine then_normal ?_
 refine cont_split 9 (!(hasB 0 0 W H x y)) rfl (fun c1_ => ?_) (fun c1_ => ?_)
 ·
  replace c1_ : (hasB 0 0 W H x y) = false := by simpa using c1_
  refine cont_true rfl ?_
  refine cont_seq ?_
  refine cont_region 1 rfl ?_
  refine bS [0] 1 0 [(8, iq 4)] ?_
  refine cont_done ?_
  refine then_normal ?_
  refine cont_ret ?_
  refine blk_ret ?_
  refine then_ret ?_
  refine ret_one (.inl rfl) rfl 0 (iq 4) (by kernel_rfl) (by kernel_rfl) (fun w hT => ?_)
  refine ⟨ret_int (by simp [setE, *]), hT.keep 1 rfl rfl, ?_⟩
  have hR := hT.ok 1 _ rfl
  rw [show setL W H px x y c = px from by simp [setL, *]]
  exact hR
 replace c1_ : (hasB 0 0 W H x y) = true := by simpa using c1_
 obtain ⟨hx0, hx1, hy0, hy1⟩ := hasB_true.1 c1_
 have hpl := hok.place hx0 hx1 hy0 hy1
 refine cont_false rfl ?_
 refine cont_seq ?_
 refine cont_region 4 rfl ?_
 refine bS [0] 1 3 [(0, .pointer (pB m)), (1, iq x), (2, iq y), (3, .int .u32 c), (17, .int .u32 c)] ?_
 refine pl_step 2 2 rfl rfl ?_
 refine call_pure (d := 18) (.bool (mayB c)) (by kernel_rfl) (fun w hT => colorMay c w (by omega) (by omega)) ?_
 refine bS [0, 0] 4 0 [(0, .pointer (pB m)), (1, iq x), (2, iq y), (3, .int .u32 c), (16, .bool (!(mayB c)))] ?_
 refine cont_done ?_
 refine then_normal ?_
 refine cont_split 16 (!(mayB c)) rfl (fun c2_ => ?_) (fun c2_ => ?_)
 ·
  replace c2_ : (mayB c) = false := by simpa using c2_
  refine cont_true rfl ?_
  refine cont_seq ?_
  refine cont_region 1 rfl ?_
  refine bS [0] 1 0 [(8, iq 1)] ?_
  refine cont_done ?_
  refine then_normal ?_
  refine cont_ret ?_
  refine blk_ret ?_
  refine then_ret ?_
  refine ret_one (.inl rfl) rfl 0 (iq 1) (by kernel_rfl) (by kernel_rfl) (fun w hT => ?_)
  refine ⟨ret_int (by simp [setE, *]), hT.keep 1 rfl rfl, ?_⟩
  have hR := hT.ok 1 _ rfl
  rw [show setL W H px x y c = px from by simp [setL, *]]
  exact hR
 replace c2_ : (mayB c) = true := by simpa using c2_
 refine cont_false rfl ?_
 refine cont_skip ?_
 refine blk_normal ?_
 refine then_normal ?_
 refine cont_seq ?_
 refine drawn_enter 15 [1] rfl (by kernel_rfl) ?_
 refine takes 0 [1] [(0, 0), (4, 0), (5, 0), (10, 0), (12, 0), (1, 0), (6, 0), (2, 0), (7, 0), (3, 0), (8, 0), (9, 0)] 3 [9, 8, 3, 7, 2, 6, 1, 12, 10, 5, 4, 0] [(23, .slice (pB r) n cap), (29, iq (IntKind.i64.wrap (y * W))), (30, iq x), (32, .int .u32 c)] (by kernel_rfl) (pok_then pok_body) (by kernel_rfl) rfl rfl (by kernel_rfl) (by kernel_rfl) ?_
 refine cont_recast 29 (iq (IntKind.i64.wrap (y * W))) (iq (y * W)) rfl (wrapI (by omega) (by omega)) ?_
 refine takes 0 [1] [(11, 0)] 2 [11, 9, 8, 3, 7, 2, 6, 1, 12, 10, 5, 4, 0] [(23, .slice (pB r) n cap), (31, iq (IntKind.i64.wrap ((y * W) + x))), (32, .int .u32 c)] (by kernel_rfl) (pok_then pok_body) (by kernel_rfl) rfl rfl (by kernel_rfl) (by kernel_rfl) ?_
 refine cont_recast 31 (iq (IntKind.i64.wrap ((y * W) + x))) (iq ((y * W) + x)) rfl (wrapI (by omega) (by omega)) ?_
 refine sem_take 0 [1] 13 1 33 (Instr.indexAt 39 (.slice (pB r) n cap) (iq ((y * W) + x))) (.pointer (some ⟨r, Int.toNat ((y * W) + x), none⟩)) (by kernel_rfl) (pok_then pok_body) (by kernel_rfl) rfl (by kernel_rfl) (by kernel_rfl) (fun w hT => run_indexAt (e := 24) (sz := 1) _ (by kernel_rfl) (by kernel_rfl) (by omega) (by omega) (by omega) w) ?_
 refine drawn_one 14 0 rfl (by kernel_rfl) ?_
 refine sem_stepU (Instr.storeAt 24 (.pointer (some ⟨r, Int.toNat ((y * W) + x), none⟩)) (.int .u32 c)) (fun _ => [.ro m [iq W, iq H, .slice (pB r) n cap] 118, .gen (rowE (pB r) r n cap 24 1 (ivals .u32 (px.set (Int.toNat ((y * W) + x)) c)) false)]) (fun _ => True) (by kernel_rfl) (fun w hT => store_row hT (i := 1) rfl (by kernel_rfl) (by omega)) (fun _ _ => ?_)
 refine drawn_next 0 [1] (by kernel_rfl) ?_
 refine drawn_done (by kernel_rfl) ?_
 refine then_normal ?_
 refine cont_seq ?_
 refine cont_region 1 rfl ?_
 refine bS [0] 1 0 [(8, iq 0)] ?_
 refine cont_done ?_
 refine then_normal ?_
 refine cont_ret ?_
 refine ret_one (.inl rfl) rfl 0 (iq 0) (by kernel_rfl) (by kernel_rfl) (fun w hT => ?_)
 refine ⟨ret_int (by simp [setE, *]), hT.keep 1 rfl rfl, ?_⟩
 have hR := hT.ok 1 _ rfl
 rw [show setL W H px x y c = px.set (Int.toNat ((y * W) + x)) c from by simp [setL, *]]
 exact hR

theorem bld (W H : Int) (r n cap : Nat) (px : List Int) (w : World) (hT0 : Tab w w [.gen (rdE (some ⟨r, 0, none⟩) r 0 n 1 (ivals .u32 px))]) (hok : ImgOk W H n px) (hmay : AllMay px) :
    Calls Try.prog 18 #[.agg #[.int .i64 W, .int .i64 H, .slice (some ⟨r, 0, none⟩) n cap]] w fun e w' => ∃ b q : Nat, e = .returned (.pointer (some ⟨b, 0, none⟩)) ∧ NewImg 118 24 w w' b W H q n n px := by
 have hw1 := hok.w1
 have hw2 := hok.w2
 have hh1 := hok.h1
 have hh2 := hok.h2
 have hnum := hok.num
 have hlen := hok.len
 have hle := hok.le
 refine enter 43 [(0, .agg #[iq W, iq H, .slice (pB r) n cap])] [.gen (rdE (pB r) r 0 n 1 (ivals .u32 px))] Try.func18 rfl Try.ntmps18 rfl (by kernel_rfl) hT0 ?_
 refine cont_seq ?_
 refine cont_region 2 rfl ?_
 refine batch1 [0, 0] 2 0 (fun b1 => [(1, .pointer (pB b1))]) (fun b1 => [.cells b1 [iq W, iq H, .slice (pB r) n cap] 41 true, .gen (rdE (pB r) r 0 n 1 (ivals .u32 px))]) rfl rfl [1] (fun _ => rfl) (fun b1 => by kernel_rfl) (fun b1 => by kernel_rfl) (fun b1 => ?_)
 refine cont_done ?_
 refine then_normal ?_
 refine cont_seq ?_
 refine cont_region 10 rfl ?_
 refine bS [0, 0, 0, 0] 4 6 [(1, .pointer (pB b1)), (8, iq W), (10, iq H)] ?_
 refine pl_step 5 5 rfl rfl ?_
 refine call_gen (d := 11) (α := Nat × Nat × Nat) (fun x_ => .tuple #[.pointer (pB x_.1), iq 0]) (fun x_ => [.cells x_.1 [iq W, iq H, .slice (pB x_.2.1) x_.2.2 x_.2.2] 118 true, .gen (rowE (pB x_.2.1) x_.2.1 x_.2.2 x_.2.2 24 1 (ivals .u32 (List.replicate x_.2.2 0)) true), .cells b1 [iq W, iq H, .slice (pB r) n cap] 41 true, .gen (rdE (pB r) r 0 n 1 (ivals .u32 px))]) (fun x_ => (x_.2.2 : Int) = W * H) (by kernel_rfl) (fun w hT => (imgNew W H w ⟨hw1, hw2, hh1, hh2⟩).mono fun e w' ⟨b_, r_, n_, he_, hn_, hi_⟩ => ⟨(b_, r_, n_), he_, hn_, hT.addImg hi_⟩) ?_
 rintro ⟨b2, r2, n2⟩ hn2
 replace hn2 : (n2 : Int) = W * H := hn2
 refine cont_norm [(1, .pointer (pB b1)), (8, iq W), (10, iq H), (11, .tuple #[.pointer (pB b2), iq 0])] _ (by kernel_rfl) rfl ?_
 have hnn : n2 = n := by have := hok.num; omega
 refine bS [0, 0, 0, 0, 0] 10 0 [(1, .pointer (pB b1)), (3, .pointer (pB b2)), (4, iq 0)] ?_
 refine cont_done ?_
 refine then_normal ?_
 refine cont_seq ?_
 refine cont_seq ?_
 refine cont_region 6 rfl ?_
 refine bS [0, 0, 0, 0, 0, 0] 6 0 [(1, .pointer (pB b1)), (3, .pointer (pB b2)), (19, .bool false)] ?_
 refine cont_done ?_
 refine then_normal ?_
 refine cont_false rfl ?_
 refine cont_skip ?_
 refine then_normal ?_
 refine cont_seq ?_
 refine cont_seq ?_
 refine cont_region 1 rfl ?_
 refine bS [0] 1 0 [(1, .pointer (pB b1)), (3, .pointer (pB b2)), (5, iq 0)] ?_
 refine cont_done ?_
 refine then_normal ?_
 refine cont_block ?_
 refine cont_rowEq (k := .u32) 1 (List.replicate n2 0) (bldP px 0) rfl (by rw [bldP_zero, hlen, hnn]) ?_
 refine cont_loop (α := Nat) (fun x_ : Nat => x_ ≤ n2) (fun x_ : Nat => [(1, .pointer (pB b1)), (3, .pointer (pB b2)), (5, iq (x_ : Int))]) (fun x_ : Nat => [.cells b2 [iq W, iq H, .slice (pB r2) n2 n2] 118 true, .gen (rowE (pB r2) r2 n2 n2 24 1 (ivals .u32 (bldP px x_)) true), .cells b1 [iq W, iq H, .slice (pB r) n cap] 41 true, .gen (rdE (pB r) r 0 n 1 (ivals .u32 px))]) (fun x_ : Nat => n2 - x_) 0 (by omega) (by kernel_rfl) (by kernel_rfl) ?_
 rintro i hinv3_
 replace hinv3_ : i ≤ n2 := hinv3_
 refine cont_norm [(1, .pointer (pB b1)), (3, .pointer (pB b2)), (5, iq (i : Int))] _ (by kernel_rfl) rfl ?_
 have hi := hinv3_
 have hem := emod_range i hw1
 refine cont_seq ?_
 refine cont_seq ?_
 refine cont_region 5 rfl ?_
 refine bS [0, 0, 2, 0, 0] 5 0 [(1, .pointer (pB b1)), (3, .pointer (pB b2)), (5, iq (i : Int)), (24, .bool (decide ((i : Int) < (n : Int))))] ?_
 refine cont_done ?_
 refine then_normal ?_
 refine cont_split 24 (decide ((i : Int) < (n : Int))) rfl (fun c4_ => ?_) (fun c4_ => ?_)
 ·
  replace c4_ := of_decide_eq_true c4_
  refine cont_true rfl ?_
  refine cont_skip ?_
  refine then_normal ?_
  refine cont_seq ?_
  refine cont_block ?_
  refine drawn_enter 15 [1] rfl (by kernel_rfl) ?_
  refine takes 0 [1] [(0, 0), (1, 0), (2, 0), (5, 0), (6, 0), (9, 0), (11, 0), (3, 2), (7, 2), (10, 2)] 5 [10, 7, 3, 11, 9, 6, 5, 2, 1, 0] [(1, .pointer (pB b1)), (3, .pointer (pB b2)), (5, iq (i : Int)), (27, .pointer (pB b2)), (28, iq (i : Int)), (30, iq W), (32, iq (i : Int)), (34, iq W), (37, .slice (pB r) n cap), (38, iq (i : Int))] (by kernel_rfl) (pok_blk (pok_then (pok_then (pok_blk (pok_then pok_body))))) (by kernel_rfl) rfl rfl (by kernel_rfl) (by kernel_rfl) ?_
  refine sem_take 0 [1] 4 4 31 (bopS .rem 3 (.tmp 28) (.tmp 30) (iq (i : Int)) (iq W)) (iq ((i : Int).tmod W)) (by kernel_rfl) (pok_blk (pok_then (pok_then (pok_blk (pok_then pok_body))))) (by kernel_rfl) rfl (by kernel_rfl) (by kernel_rfl) (fun w hT => run_rem (by omega) w) ?_
  refine cont_recast 31 (iq ((i : Int).tmod W)) (iq ((i : Int) % W)) rfl (tmodI (by omega)) ?_
  refine sem_take 0 [1] 8 3 35 (bopS .quo 3 (.tmp 32) (.tmp 34) (iq (i : Int)) (iq W)) (iq (IntKind.i64.wrap ((i : Int).tdiv W))) (by kernel_rfl) (pok_blk (pok_then (pok_then (pok_blk (pok_then pok_body))))) (by kernel_rfl) rfl (by kernel_rfl) (by kernel_rfl) (fun w hT => run_quo (by omega) w) ?_
  refine cont_recast 35 (iq (IntKind.i64.wrap ((i : Int).tdiv W))) (iq ((i : Int) / W)) rfl (tdivI (by omega) (by omega) (by omega)) ?_
  refine sem_take 0 [1] 12 2 39 (Instr.indexAt 39 (.slice (pB r) n cap) (iq (i : Int))) (.pointer (some ⟨r, i, none⟩)) (by kernel_rfl) (pok_blk (pok_then (pok_then (pok_blk (pok_then pok_body))))) (by kernel_rfl) rfl (by kernel_rfl) (by kernel_rfl) (fun w hT => run_indexAt (e := 24) (sz := 1) _ (by kernel_rfl) (by kernel_rfl) (by omega) (by omega) (by omega) w) ?_
  refine sem_take 0 [1] 13 1 40 (Instr.loadAt 24 (.pointer (some ⟨r, i, none⟩))) (.int .u32 (px.getD i 0)) (by kernel_rfl) (pok_blk (pok_then (pok_then (pok_blk (pok_then pok_body))))) (by kernel_rfl) rfl (by kernel_rfl) (by kernel_rfl) (fun w hT => run_load1 (by kernel_rfl) (Rd.cell0 (hT 3 _ rfl) (i) _ (ivals_get (by omega)))) ?_
  refine drawn_one 14 0 rfl (by kernel_rfl) ?_
  refine call_gen (d := 41) (α := Unit) (fun _ => iq (setE W H ((i : Int) % W) ((i : Int) / W) (px.getD i 0))) (fun _ => [.cells b2 [iq W, iq H, .slice (pB r2) n2 n2] 118 true, .gen (rowE (pB r2) r2 n2 n2 24 1 (ivals .u32 (setL W H (bldP px i) ((i : Int) % W) ((i : Int) / W) (px.getD i 0))) true), .cells b1 [iq W, iq H, .slice (pB r) n cap] 41 true, .gen (rdE (pB r) r 0 n 1 (ivals .u32 px))]) (fun _ => True) (by kernel_rfl) (fun w hT => (imgSet b2 W H r2 n2 n2 (bldP px i) ((i : Int) % W) ((i : Int) / W) (px.getD i 0) w ⟨hT.ok 0 _ rfl, hT.ok 1 _ rfl, fun hne => hT.disj 0 1 _ _ (by omega) rfl rfl (.inr rfl) _ rfl ⟨hne, by simp⟩⟩ (imgOk_of ⟨hw1, hw2, hh1, hh2⟩ hn2 (by rw [bldP_length, hnn]; exact hlen) (bldP_may hmay i)) (hmay.get (by omega)).2).mono fun e w' ⟨he_, hk_, hr_⟩ => ⟨(), he_, trivial, hT.keepBut hk_ (i := 1) rfl hr_⟩) (fun _ _ => ?_)
  refine drawn_next 0 [1] (by kernel_rfl) ?_
  refine drawn_done (by kernel_rfl) ?_
  refine blk_normal ?_
  refine then_normal ?_
  refine cont_region 3 rfl ?_
  refine bS [0, 0] 2 1 [(1, .pointer (pB b1)), (3, .pointer (pB b2)), (26, iq (IntKind.i64.wrap ((i : Int) + 1)))] ?_
  refine cont_recast 26 (iq (IntKind.i64.wrap ((i : Int) + 1))) (iq ((i : Int) + 1)) rfl (wrapI (by omega) (by omega)) ?_
  refine bS [0] 3 0 [(1, .pointer (pB b1)), (3, .pointer (pB b2)), (5, iq ((i : Int) + 1))] ?_
  refine cont_done ?_
  refine then_normal ?_
  refine cont_rowEq (k := .u32) 1 (setL W H (bldP px i) ((i : Int) % W) ((i : Int) / W) (px.getD i 0)) (bldP px (i + 1)) rfl ((setL_at hok.w1 hok.num (by omega) (hmay.get (by omega)).1).trans (bldP_set (by omega))) ?_
  refine cont_again (i + 1) (show (i + 1) ≤ n2 from (by omega)) (show n2 - (i + 1) < n2 - i from by omega) (by kernel_rfl) (by kernel_rfl)
 replace c4_ := of_decide_eq_false c4_
 refine cont_false rfl ?_
 refine cont_exit ?_
 refine then_exit ?_
 refine then_exit ?_
 refine blk_exit ?_
 refine then_normal ?_
 refine cont_seq ?_
 refine cont_region 2 rfl ?_
 refine bS [0, 0] 2 0 [(2, .pointer (pB b2))] ?_
 refine cont_forget 2 rfl ?_
 refine cont_done ?_
 refine then_normal ?_
 refine cont_ret ?_
 refine ret_one (.inl rfl) rfl 0 (.pointer (pB b2)) (by kernel_rfl) (by kernel_rfl) (fun w hT => ?_)
 replace hT := hT.erase 2 (fun e h hw => by cases h; first | rfl | cases hw)
 rw [bldP_all (by omega)] at hT
 rw [← hnn]
 exact ⟨_, _, rfl, newImg_of_tab hT⟩

theorem refHas (a b c d x y : Int) (w : World) :
    Calls Try.prog 65 #[.agg #[.int .i64 a, .int .i64 b, .int .i64 c, .int .i64 d], .int .i64 x, .int .i64 y] w fun e w' => e = .returned (.bool (hasB a b c d x y)) ∧ Below w.heap.size w w' := by
 refine enter 29 [(0, .agg #[iq a, iq b, iq c, iq d]), (1, iq x), (2, iq y)] [] Try.func65 rfl Try.ntmps65 rfl (by kernel_rfl) (Tab.start w) ?_
 refine cont_seq ?_
 refine cont_region 2 rfl ?_
 refine batch1 [0, 0] 2 0 (fun b1 => [(1, iq x), (2, iq y), (3, .pointer (pB b1))]) (fun b1 => [.cells b1 [iq a, iq b, iq c, iq d] 53 true]) rfl rfl [1, 2, 3] (fun _ => rfl) (fun b1 => by kernel_rfl) (fun b1 => by kernel_rfl) (fun b1 => ?_)
 refine cont_done ?_
 refine then_normal ?_
 refine cont_seq ?_
 refine cont_region 23 rfl ?_
 refine bS [0, 0, 0, 0, 0] 5 18 [(1, iq x), (2, iq y), (3, .pointer (pB b1)), (11, .bool (decide (a ≤ x)))] ?_
 refine cont_split 11 (decide (a ≤ x)) rfl (fun c2_ => ?_) (fun c2_ => ?_)
 ·
  replace c2_ := of_decide_eq_true c2_
  refine bS [0, 0, 0, 0, 0, 0] 11 12 [(2, iq y), (3, .pointer (pB b1)), (17, .bool (decide (x < c)))] ?_
  refine cont_split 17 (decide (x < c)) rfl (fun c3_ => ?_) (fun c3_ => ?_)
  ·
   replace c3_ := of_decide_eq_true c3_
   refine bS [0, 0, 0, 0, 0, 0] 17 6 [(2, iq y), (3, .pointer (pB b1)), (23, .bool (decide (b ≤ y)))] ?_
   refine cont_split 23 (decide (b ≤ y)) rfl (fun c4_ => ?_) (fun c4_ => ?_)
   ·
    replace c4_ := of_decide_eq_true c4_
    refine bS [0, 0, 0, 0, 0, 0] 23 0 [(6, .bool (decide (y < d)))] ?_
    refine cont_forget 0 rfl ?_
    refine cont_done ?_
    refine then_normal ?_
    refine cont_ret ?_
    refine ret_one (.inl rfl) rfl 0 (.bool (decide (y < d))) (by kernel_rfl) (by kernel_rfl) (fun w hT => ?_)
    exact ⟨ret_bool (by simp [hasB, *] <;> omega), hT.post rfl⟩
   replace c4_ := of_decide_eq_false c4_
   refine bS [0, 0, 0, 0, 0, 0] 23 0 [(6, .bool false)] ?_
   refine cont_forget 0 rfl ?_
   refine cont_done ?_
   refine then_normal ?_
   refine cont_ret ?_
   refine ret_one (.inl rfl) rfl 0 (.bool false) (by kernel_rfl) (by kernel_rfl) (fun w hT => ?_)
   exact ⟨ret_bool (by simp [hasB, *] <;> omega), hT.post rfl⟩
  replace c3_ := of_decide_eq_false c3_
  refine bS [0, 0, 0, 0, 0, 0, 0, 0, 0, 0, 0, 0] 23 0 [(6, .bool false)] ?_
  refine cont_forget 0 rfl ?_
  refine cont_done ?_
  refine then_normal ?_
  refine cont_ret ?_
  refine ret_one (.inl rfl) rfl 0 (.bool false) (by kernel_rfl) (by kernel_rfl) (fun w hT => ?_)
  exact ⟨ret_bool (by simp [hasB, *] <;> omega), hT.post rfl⟩
 replace c2_ := of_decide_eq_false c2_
 refine bS [0, 0, 0, 0, 0, 0, 0, 0, 0, 0, 0, 0, 0, 0, 0, 0, 0, 0] 23 0 [(6, .bool false)] ?_
 refine cont_forget 0 rfl ?_
 refine cont_done ?_
 refine then_normal ?_
 refine cont_ret ?_
 refine ret_one (.inl rfl) rfl 0 (.bool false) (by kernel_rfl) (by kernel_rfl) (fun w hT => ?_)
 exact ⟨ret_bool (by simp [hasB, *] <;> omega), hT.post rfl⟩

end Go.Proofs.Ytlfahohbkgdabaa

/- Plain words of paint: parts of colors, colors over colors, rectangles that are moved and scaled, layers. -/
set_option linter.unusedVariables false
set_option linter.unusedSimpArgs false
namespace Go.Proofs.Ytlfahohbkgdabaa
open Go Go.RowKit

def partI (p q : Int) : Int := (clip p * clip q + 127) / 255
theorem clip_mul (p q : Int) : 0 ≤ clip p * clip q ∧ clip p * clip q ≤ 65025 := by
  have := clip_range p; have := clip_range q
  exact ⟨Int.mul_nonneg (by omega) (by omega), by have := Int.mul_le_mul (show clip p ≤ 255 by omega) (show clip q ≤ 255 by omega) (by omega) (by omega); omega⟩
theorem partI_range (p q : Int) : 0 ≤ partI p q ∧ partI p q ≤ 255 := by
  have := clip_mul p q
  unfold partI; omega
theorem clip_id {x : Int} (h : 0 ≤ x ∧ x ≤ 255) : clip x = x := by unfold clip; omega
def overC (c d : Int) : Int := mkC (pa c + partI (pa d) (255 - pa c)) (pr c + partI (pr d) (255 - pa c)) (pg c + partI (pg d) (255 - pa c)) (pb c + partI (pb d) (255 - pa c))
def fadeC (c al : Int) : Int := mkC (partI (pa c) al) (partI (pr c) al) (partI (pg c) al) (partI (pb c) al)
theorem parts_range {c : Int} (h : InC c) : (0 ≤ pa c ∧ pa c ≤ 255) ∧ (0 ≤ pr c ∧ pr c ≤ 255) ∧ (0 ≤ pg c ∧ pg c ≤ 255) ∧ (0 ≤ pb c ∧ pb c ≤ 255) := by
  obtain ⟨h1, h2⟩ := h; unfold pa pr pg pb; omega
theorem overC_in (c d : Int) : InC (overC c d) := mkC_range _ _ _ _
def pixC (c : Int) (xs : List Int) : Int := xs.foldl (fun acc d => overC d acc) c
theorem pixC_take {c : Int} {xs : List Int} {i : Nat} (h : i < xs.length) : overC (xs.getD i 0) (pixC c (xs.take i)) = pixC c (xs.take (i + 1)) := by
  unfold pixC
  rw [List.take_add_one, List.getElem?_eq_getElem h, List.foldl_append]
  simp [List.getD_eq_getElem?_getD, List.getElem?_eq_getElem h]
theorem pixC_snoc (c : Int) (xs : List Int) (d : Int) : pixC c (xs ++ [d]) = overC d (pixC c xs) := by simp [pixC]
theorem pixC_in {c : Int} (h : InC c) : ∀ (xs : List Int), InC (pixC c xs) := by
  intro xs
  rcases List.eq_nil_or_concat xs with h0 | ⟨ys, d, h0⟩
  · subst h0; exact h
  · subst h0; rw [List.concat_eq_append, pixC_snoc]; exact overC_in _ _
/-! ### Rectangles that may be, are scaled and moved -/
def mayR (a b c d : Int) : Bool := decide ((-1048576 ≤ a ∧ a ≤ 1048576) ∧ (-1048576 ≤ b ∧ b ≤ 1048576) ∧ (-1048576 ≤ c ∧ c ≤ 1048576) ∧ (-1048576 ≤ d ∧ d ≤ 1048576) ∧ a ≤ c ∧ b ≤ d)
theorem mayR_true {a b c d : Int} : mayR a b c d = true ↔ (-1048576 ≤ a ∧ a ≤ 1048576) ∧ (-1048576 ≤ b ∧ b ≤ 1048576) ∧ (-1048576 ≤ c ∧ c ≤ 1048576) ∧ (-1048576 ≤ d ∧ d ≤ 1048576) ∧ a ≤ c ∧ b ≤ d := by unfold mayR; rw [decide_eq_true_eq]
def chkR (a b c d : Int) : Rect := if mayR a b c d then ⟨a, b, c, d⟩ else ⟨0, 0, 0, 0⟩
def chkE (a b c d : Int) : Int := if mayR a b c d then 0 else 4
def sclR (a b c d s : Int) : Rect := if s < 1 ∨ s > 8 ∨ mayR a b c d = false then ⟨0, 0, 0, 0⟩ else chkR (a * s) (b * s) (c * s) (d * s)
def sclE (a b c d s : Int) : Int := if s < 1 ∨ s > 8 then 1 else if mayR a b c d = false then 4 else chkE (a * s) (b * s) (c * s) (d * s)
def farM (n : Int) : Int := mn (mx n (-4194304)) 4194304
theorem farM_range (n : Int) : -4194304 ≤ farM n ∧ farM n ≤ 4194304 := by unfold farM mn mx; omega
theorem farM_id {n : Int} (h : -4194304 ≤ n ∧ n ≤ 4194304) : farM n = n := by unfold farM mn mx; omega
def movR (a b c d x y : Int) : Rect := chkR (a + farM x) (b + farM y) (c + farM x) (d + farM y)
def movE (a b c d x y : Int) : Int := chkE (a + farM x) (b + farM y) (c + farM x) (d + farM y)
/-- Where points of an image of these sides are shown. -/
def shwR (W H X Y s a b c d : Int) : Rect :=
  let r := cutR a b c d 0 0 W H
  if emptyB r.x0 r.y0 r.x1 r.y1 then ⟨0, 0, 0, 0⟩ else if sclE r.x0 r.y0 r.x1 r.y1 s ≠ 0 then ⟨0, 0, 0, 0⟩ else
    movR (sclR r.x0 r.y0 r.x1 r.y1 s).x0 (sclR r.x0 r.y0 r.x1 r.y1 s).y0 (sclR r.x0 r.y0 r.x1 r.y1 s).x1 (sclR r.x0 r.y0 r.x1 r.y1 s).y1 X Y
def shwB (W H X Y s a b c d : Int) : Bool :=
  let r := cutR a b c d 0 0 W H
  if emptyB r.x0 r.y0 r.x1 r.y1 then true else if sclE r.x0 r.y0 r.x1 r.y1 s ≠ 0 then false else
    movE (sclR r.x0 r.y0 r.x1 r.y1 s).x0 (sclR r.x0 r.y0 r.x1 r.y1 s).y0 (sclR r.x0 r.y0 r.x1 r.y1 s).x1 (sclR r.x0 r.y0 r.x1 r.y1 s).y1 X Y == 0
theorem sclR_range (a b c d s : Int) : (-1048576 ≤ (sclR a b c d s).x0 ∧ (sclR a b c d s).x0 ≤ 1048576) ∧ (-1048576 ≤ (sclR a b c d s).y0 ∧ (sclR a b c d s).y0 ≤ 1048576) ∧ (-1048576 ≤ (sclR a b c d s).x1 ∧ (sclR a b c d s).x1 ≤ 1048576) ∧ (-1048576 ≤ (sclR a b c d s).y1 ∧ (sclR a b c d s).y1 ≤ 1048576) := by
  unfold sclR chkR
  split
  · decide
  · split
    · rename_i h
      have := mayR_true.1 h
      simp only
      omega
    · decide
/-! ### Layers that may be -/
theorem mul_scale {x s : Int} {m : Int} (h0 : 0 ≤ x) (h1 : x ≤ m) (hs : 1 ≤ s ∧ s ≤ 8) : 0 ≤ x * s ∧ x * s ≤ m * 8 ∧ x ≤ x * s :=
  ⟨Int.mul_nonneg h0 (by omega), Int.mul_le_mul h1 (by omega) (by omega) (by omega), by have := Int.mul_le_mul_of_nonneg_left (show 1 ≤ s by omega) h0; omega⟩
/-- A layer whose image's part is shown where it may be. -/
theorem shw_of {W H X Y s a b c d : Int} (hs : 1 ≤ s ∧ s ≤ 8) (hX : -1048576 ≤ X ∧ X ≤ 1048576) (hY : -1048576 ≤ Y ∧ Y ≤ 1048576) (hw : 1 ≤ W ∧ W ≤ 256) (hh : 1 ≤ H ∧ H ≤ 256) {r : Rect} (hr : r = cutR a b c d 0 0 W H) (hne : emptyB r.x0 r.y0 r.x1 r.y1 = false) :
    shwR W H X Y s a b c d = chkR (X + r.x0 * s) (Y + r.y0 * s) (X + r.x1 * s) (Y + r.y1 * s) ∧ shwB W H X Y s a b c d = mayR (X + r.x0 * s) (Y + r.y0 * s) (X + r.x1 * s) (Y + r.y1 * s) := by
  obtain ⟨h1, h2, h3, h4, h5, h6⟩ := cut_in a b c d (W := W) (H := H) hw.1 hh.1
  unfold shwR shwB
  dsimp only
  rw [← hr] at h1 h2 h3 h4 h5 h6 ⊢
  have hem := emptyB_false.1 hne
  have m0 := mul_scale (m := 256) h1 (by omega) hs
  have m1 := mul_scale (m := 256) (show 0 ≤ r.x1 by omega) (by omega) hs
  have m2 := mul_scale (m := 256) h4 (by omega) hs
  have m3 := mul_scale (m := 256) (show 0 ≤ r.y1 by omega) (by omega) hs
  have l1 := Int.mul_le_mul_of_nonneg_right (show r.x0 ≤ r.x1 by omega) (show 0 ≤ s by omega)
  have l2 := Int.mul_le_mul_of_nonneg_right (show r.y0 ≤ r.y1 by omega) (show 0 ≤ s by omega)
  have hm1 : mayR r.x0 r.y0 r.x1 r.y1 = true := mayR_true.2 (by omega)
  have hm2 : mayR (r.x0 * s) (r.y0 * s) (r.x1 * s) (r.y1 * s) = true := mayR_true.2 (by omega)
  have hE : sclE r.x0 r.y0 r.x1 r.y1 s = 0 := by unfold sclE chkE; rw [if_neg (by omega), hm1, if_neg (by simp), hm2]; rfl
  have hR : sclR r.x0 r.y0 r.x1 r.y1 s = ⟨r.x0 * s, r.y0 * s, r.x1 * s, r.y1 * s⟩ := by unfold sclR chkR; rw [if_neg (by rw [hm1]; simp; omega), hm2]; rfl
  simp only [hne, hE, hR, movR, movE, farM_id (show -4194304 ≤ X ∧ X ≤ 4194304 by omega), farM_id (show -4194304 ≤ Y ∧ Y ≤ 4194304 by omega)]
  rw [Int.add_comm (r.x0 * s) X, Int.add_comm (r.y0 * s) Y, Int.add_comm (r.x1 * s) X, Int.add_comm (r.y1 * s) Y]
  refine ⟨by simp, ?_⟩
  simp only [chkE, Bool.false_eq_true, if_false, ne_eq, not_true_eq_false]
  cases mayR (X + r.x0 * s) (Y + r.y0 * s) (X + r.x1 * s) (Y + r.y1 * s) <;> rfl
/-- Where the document shows a layer. -/
def rboxR (W H X Y s a b c d : Int) : Rect :=
  let r := cutR a b c d 0 0 W H
  if emptyB r.x0 r.y0 r.x1 r.y1 then ⟨0, 0, 0, 0⟩ else ⟨X + r.x0 * s, Y + r.y0 * s, X + r.x1 * s, Y + r.y1 * s⟩
theorem box_same {W H X Y s a b c d : Int} (hs : 1 ≤ s ∧ s ≤ 8) (hX : -1000000 ≤ X ∧ X ≤ 1000000) (hY : -1000000 ≤ Y ∧ Y ≤ 1000000) (hw : 1 ≤ W ∧ W ≤ 256) (hh : 1 ≤ H ∧ H ≤ 256) : shwR W H X Y s a b c d = rboxR W H X Y s a b c d := by
  cases hne : emptyB (cutR a b c d 0 0 W H).x0 (cutR a b c d 0 0 W H).y0 (cutR a b c d 0 0 W H).x1 (cutR a b c d 0 0 W H).y1 with
  | true => simp only [shwR, rboxR, hne, if_true]
  | false =>
    rw [(shw_of hs ⟨by omega, by omega⟩ ⟨by omega, by omega⟩ hw hh rfl hne).1]
    obtain ⟨h1, h2, h3, h4, h5, h6⟩ := cut_in a b c d (W := W) (H := H) hw.1 hh.1
    simp only [rboxR, hne, Bool.false_eq_true, if_false]
    generalize cutR a b c d 0 0 W H = r at *
    have m0 := mul_scale (m := 256) h1 (by omega) hs
    have m1 := mul_scale (m := 256) (show 0 ≤ r.x1 by omega) (by omega) hs
    have m2 := mul_scale (m := 256) h4 (by omega) hs
    have m3 := mul_scale (m := 256) (show 0 ≤ r.y1 by omega) (by omega) hs
    have l1 := Int.mul_le_mul_of_nonneg_right (show r.x0 ≤ r.x1 by omega) (show 0 ≤ s by omega)
    have l2 := Int.mul_le_mul_of_nonneg_right (show r.y0 ≤ r.y1 by omega) (show 0 ≤ s by omega)
    unfold chkR
    rw [if_pos (mayR_true.2 (by omega))]
end Go.Proofs.Ytlfahohbkgdabaa

