/- The symbolic executor: a call sees a part of the caller's table, and the caller takes the callee's table back into its own. Generic in the program. -/
import Derived.Test.YtlfahohbkgdabaaPcMp
set_option linter.unusedVariables false
set_option linter.unusedSimpArgs false
namespace Go.Proofs.Ytlfahohbkgdabaa
open Go Go.RowKit

/-- An entry as a callee sees it. -/
structure Vw (e e0 : Ent) : Prop where
  ok : ∀ w, e.ok w → e0.ok w
  blk : ∀ w, e.ok w → ∀ k, e0.blk k → e.blk k
  wr : e0.wr = true → e.wr = true
  own : e0.own = false
/-- A callee's entry taken back: what the caller has behind the call. -/
structure Mg (e e1 e' : Ent) : Prop where
  ok : ∀ w, e1.ok w → e'.ok w
  blk1 : ∀ k, e1.blk k → e'.blk k
  blk2 : ∀ k, e'.blk k ↔ e.blk k
  own : e'.own = true → e.own = true
  wr : e1.wr = true ∧ e'.wr = true ∧ e.wr = true

inductive VwL (T : List Ent) : List Nat → List Ent → Prop
  | nil : VwL T [] []
  | cons {i : Nat} {s : List Nat} {e e0 : Ent} {T0 : List Ent} : T[i]? = some e → Vw e e0 → VwL T s T0 → VwL T (i :: s) (e0 :: T0)

theorem VwL.get {T : List Ent} {s : List Nat} {T0 : List Ent} (h : VwL T s T0) : ∀ (j : Nat) (e0 : Ent), T0[j]? = some e0 → ∃ i e, s[j]? = some i ∧ T[i]? = some e ∧ Vw e e0 := by
  induction h with
  | nil => intro j e0 h; simp at h
  | cons hi hv _ ih =>
    intro j e0 hj
    cases j with
    | zero => simp at hj; subst hj; exact ⟨_, _, rfl, hi, hv⟩
    | succ j => simpa using ih j e0 (by simpa using hj)
theorem nodup_ne {s : List Nat} (h : s.Nodup) {i j a b : Nat} (hij : i ≠ j) (hi : s[i]? = some a) (hj : s[j]? = some b) : a ≠ b := by
  intro hab
  subst hab
  have h1 := List.getElem?_eq_some_iff.1 hi
  have h2 := List.getElem?_eq_some_iff.1 hj
  obtain ⟨l1, e1⟩ := h1
  obtain ⟨l2, e2⟩ := h2
  exact hij ((List.getElem_inj h).1 (e1.trans e2.symm))
theorem Tab.view {w0 w : World} {T : List Ent} (hT : Tab w0 w T) {s : List Nat} {T0 : List Ent} (h : VwL T s T0) (hn : s.Nodup) : Tab w w T0 := by
  refine ⟨rfl, rfl, rfl, Nat.le_refl _, ?_, fun _ _ _ => rfl, ?_, ?_⟩
  · intro i e0 hi
    obtain ⟨j, e, _, he, hv⟩ := h.get i e0 hi
    exact hv.ok w (hT.ok j e he)
  · intro i e0 hi ho
    obtain ⟨j, e, _, he, hv⟩ := h.get i e0 hi
    rw [hv.own] at ho; cases ho
  · intro i j e0 e0' hij hi hj hw k hk hk'
    obtain ⟨a, e, ha, he, hv⟩ := h.get i e0 hi
    obtain ⟨b, e', hb, he', hv'⟩ := h.get j e0' hj
    exact hT.disj a b e e' (nodup_ne hn hij ha hb) he he' (hw.imp hv.wr hv'.wr) k (hv.blk w (hT.ok a e he) k hk) (hv'.blk w (hT.ok b e' he') k hk')

def allRo : List Ent → Bool
  | [] => true
  | e :: r => !e.wr && allRo r
theorem allRo_get : ∀ {N : List Ent}, allRo N = true → ∀ (i : Nat) (e : Ent), N[i]? = some e → e.wr = false := by
  intro N
  induction N with
  | nil => intro _ i e h; simp at h
  | cons x r ih =>
    intro h i e hi
    simp only [allRo, Bool.and_eq_true, Bool.not_eq_true'] at h
    cases i with
    | zero => simp at hi; subst hi; exact h.1
    | succ i => exact ih h.2 i e (by simpa using hi)
/-- A callee that only reads: what it sees may be seen twice. -/
theorem Tab.viewRo {w0 w : World} {T : List Ent} (hT : Tab w0 w T) {s : List Nat} {T0 : List Ent} (h : VwL T s T0) (hn : allRo T0 = true) : Tab w w T0 := by
  refine ⟨rfl, rfl, rfl, Nat.le_refl _, ?_, fun _ _ _ => rfl, ?_, ?_⟩
  · intro i e0 hi
    obtain ⟨j, e, _, he, hv⟩ := h.get i e0 hi
    exact hv.ok w (hT.ok j e he)
  · intro i e0 hi ho
    obtain ⟨j, e, _, he, hv⟩ := h.get i e0 hi
    rw [hv.own] at ho; cases ho
  · intro i j e0 e0' hij hi hj hw
    rw [allRo_get hn i e0 hi, allRo_get hn j e0' hj] at hw
    rcases hw with h | h <;> cases h

theorem Vw.ro {b : Nat} {cs : List Value} {t : TypeId} : Vw (.ro b cs t) (.ro b cs t) := ⟨fun _ h => h, fun _ _ _ h => h, id, rfl⟩
theorem Vw.roc {b : Nat} {cs : List Value} {t : TypeId} {o : Bool} : Vw (.cells b cs t o) (.ro b cs t) := ⟨fun _ h => h, fun _ _ _ h => h, fun _ => rfl, rfl⟩
theorem Vw.rw {b : Nat} {cs : List Value} {t : TypeId} {o : Bool} : Vw (.cells b cs t o) (.cells b cs t false) := ⟨fun _ h => h, fun _ _ _ h => h, fun _ => rfl, rfl⟩
theorem Vw.rd {A : Option Addr} {g o n sz : Nat} {vals : List Value} : Vw (.gen (rdE A g o n sz vals)) (.gen (rdE A g o n sz vals)) := ⟨fun _ h => h, fun _ _ _ h => h, id, rfl⟩
theorem Vw.rowRd {A : Option Addr} {g n cap sz : Nat} {e : TypeId} {vals : List Value} {o : Bool} : Vw (.gen (rowE A g n cap e sz vals o)) (.gen (rdE A g 0 n sz vals)) :=
  ⟨fun _ h => Row.rd h, fun w hr k h => by
    obtain ⟨h1, h2⟩ := h
    refine ⟨h1, fun hA => ?_⟩
    have hr : Row w A g n cap e sz vals := hr
    have h0 : n = 0 := by
      rcases Nat.eq_zero_or_pos n with h | h
      · exact h
      · have := hr.at_ h; rw [hA] at this; cases this
    have := hr.rd.len
    rw [h0] at this
    exact h2 (List.length_eq_zero_iff.1 (by omega)), fun _ => rfl, rfl⟩
theorem Vw.row {A : Option Addr} {g n cap sz : Nat} {e : TypeId} {vals : List Value} {o : Bool} : Vw (.gen (rowE A g n cap e sz vals o)) (.gen (rowE A g n cap e sz vals false)) := ⟨fun _ h => h, fun _ _ _ h => h, fun _ => rfl, rfl⟩
theorem Vw.map {b : Nat} {ms : MS} {o : Bool} : Vw (.gen (mapE b ms o)) (.gen (mapE b ms false)) := ⟨fun _ h => h, fun _ _ _ h => h, fun _ => rfl, rfl⟩

theorem Mg.cells {b : Nat} {cs cs' : List Value} {t : TypeId} {o : Bool} : Mg (.cells b cs t o) (.cells b cs' t false) (.cells b cs' t o) := ⟨fun _ h => h, fun _ h => h, fun _ => Iff.rfl, id, rfl, rfl, rfl⟩
theorem Mg.row {A : Option Addr} {g n cap sz n' cap' : Nat} {e : TypeId} {vals vals' : List Value} {o : Bool} : Mg (.gen (rowE A g n cap e sz vals o)) (.gen (rowE A g n' cap' e sz vals' false)) (.gen (rowE A g n' cap' e sz vals' o)) := ⟨fun _ h => h, fun _ h => h, fun _ => Iff.rfl, id, rfl, rfl, rfl⟩
theorem Mg.map {b : Nat} {ms ms' : MS} {o : Bool} : Mg (.gen (mapE b ms o)) (.gen (mapE b ms' false)) (.gen (mapE b ms' o)) := ⟨fun _ h => h, fun _ h => h, fun _ => Iff.rfl, id, rfl, rfl, rfl⟩

/-- What the caller has: entry by entry, with what the callee wrote put in. s: the places of the callee's entries (O) in T. -/
inductive MgL (T : List Ent) : List Nat → List Ent → List Ent → Prop
  | nil : MgL T [] [] T
  | skip {i : Nat} {s : List Nat} {e1 : Ent} {O T2 : List Ent} : e1.wr = false → MgL T s O T2 → MgL T (i :: s) (e1 :: O) T2
  | cons {i : Nat} {s : List Nat} {e e1 e' : Ent} {O T2 : List Ent} : T[i]? = some e → Mg e e1 e' → MgL T s O T2 → MgL T (i :: s) (e1 :: O) (T2.set i e')

theorem MgL.get {T : List Ent} {s : List Nat} {O T2 : List Ent} (h : MgL T s O T2) : (T2.length = T.length) ∧ (∀ (j : Nat) (e1 : Ent), O[j]? = some e1 → e1.wr = true → ∃ i e e', s[j]? = some i ∧ T[i]? = some e ∧ Mg e e1 e') ∧
    (∀ (i : Nat) (e' : Ent), T2[i]? = some e' → (∃ (j : Nat) (e1 e : Ent), s[j]? = some i ∧ O[j]? = some e1 ∧ e1.wr = true ∧ T[i]? = some e ∧ Mg e e1 e') ∨ (T[i]? = some e' ∧ ∀ (j : Nat) (e1 : Ent), s[j]? = some i → O[j]? = some e1 → e1.wr = false)) := by
  induction h with
  | nil => exact ⟨rfl, fun j e1 h => by simp at h, fun i e' h => .inr ⟨h, fun j e1 hj => by simp at hj⟩⟩
  | skip hw _ ih =>
    obtain ⟨h1, h2, h3⟩ := ih
    refine ⟨h1, ?_, ?_⟩
    · intro j e1 hj hw1
      cases j with
      | zero => simp at hj; subst hj; rw [hw] at hw1; cases hw1
      | succ j => simpa using h2 j e1 (by simpa using hj) hw1
    · intro i e' hi
      rcases h3 i e' hi with ⟨j, e1, e, a, b, c, d⟩ | ⟨a, b⟩
      · exact .inl ⟨j + 1, e1, e, by simpa using a, by simpa using b, c, d⟩
      · refine .inr ⟨a, fun j e1 hj ho => ?_⟩
        cases j with
        | zero => simp at ho; subst ho; exact hw
        | succ j => exact b j e1 (by simpa using hj) (by simpa using ho)
  | @cons i0 s0 e0 e1' e'0 O0 T20 hi0 hm _ ih =>
    obtain ⟨h1, h2, h3⟩ := ih
    refine ⟨by simpa using h1, ?_, ?_⟩
    · intro j e1 hj hw1
      cases j with
      | zero => simp at hj; subst hj; exact ⟨i0, e0, e'0, rfl, hi0, hm⟩
      | succ j => simpa using h2 j e1 (by simpa using hj) hw1
    · intro i e' hi
      by_cases hii : i0 = i
      · subst hii
        have hlt : i0 < T20.length := by
          rw [h1]
          exact (List.getElem?_eq_some_iff.1 hi0).1
        rw [List.getElem?_set_self hlt] at hi
        cases hi
        exact .inl ⟨0, e1', e0, rfl, rfl, hm.wr.1, hi0, hm⟩
      · rw [List.getElem?_set_ne hii] at hi
        rcases h3 i e' hi with ⟨j, e1, e, a, b, c, d⟩ | ⟨a, b⟩
        · exact .inl ⟨j + 1, e1, e, by simpa using a, by simpa using b, c, d⟩
        · refine .inr ⟨a, fun j e1 hj ho => ?_⟩
          cases j with
          | zero => simp at hj; exact absurd hj hii
          | succ j => exact b j e1 (by simpa using hj) (by simpa using ho)

theorem app_get {α : Type} (N O : List α) {i : Nat} {x : α} (h : (N ++ O)[i]? = some x) : (i < N.length ∧ N[i]? = some x) ∨ (N.length ≤ i ∧ O[i - N.length]? = some x) := by
  by_cases hi : i < N.length
  · rw [List.getElem?_append_left hi] at h; exact .inl ⟨hi, h⟩
  · rw [List.getElem?_append_right (by omega)] at h; exact .inr ⟨by omega, h⟩
theorem Tab.merge {w0 w w' : World} {T : List Ent} (hT : Tab w0 w T) {N O T2 : List Ent} {s : List Nat} (h1 : Tab w w' (N ++ O)) (hM : MgL T s O T2) (hn : s.Nodup) (hN : ∀ (i : Nat) (e : Ent), N[i]? = some e → e.own = true) : Tab w0 w' (N ++ T2) := by
  obtain ⟨hlen, hO, hT2⟩ := hM.get
  have oldO : ∀ (j : Nat) (e1 : Ent), O[j]? = some e1 → (N ++ O)[N.length + j]? = some e1 := fun j e1 h => by
    rw [List.getElem?_append_right (by omega)]; rw [show N.length + j - N.length = j by omega]; exact h
  have oldN : ∀ (j : Nat) (e1 : Ent), N[j]? = some e1 → (N ++ O)[j]? = some e1 := fun j e1 h => by
    rw [List.getElem?_append_left (List.getElem?_eq_some_iff.1 h).1]; exact h
  have newb : ∀ (j : Nat) (e1 : Ent), N[j]? = some e1 → ∀ k, e1.blk k → w.heap.size ≤ k := fun j e1 h => h1.own j e1 (oldN j e1 h) (hN j e1 h)
  have key : ∀ (i : Nat) (e' : Ent), T2[i]? = some e' → ∃ e, T[i]? = some e ∧ (∀ k, e'.blk k ↔ e.blk k) ∧ (e'.wr = e.wr) ∧ (e'.own = true → e.own = true) ∧ e'.ok w' := by
    intro i e' hi
    rcases hT2 i e' hi with ⟨j, e1, e, hs, ho, hw, ht, hm⟩ | ⟨ht, hno⟩
    · exact ⟨e, ht, hm.blk2, hm.wr.2.1.trans hm.wr.2.2.symm, hm.own, hm.ok w' (h1.ok _ _ (oldO j e1 ho))⟩
    · refine ⟨e', ht, fun _ => Iff.rfl, rfl, id, e'.stable w w' (fun k hk => ?_) (hT.ok i e' ht)⟩
      have hlt := e'.inb w k (hT.ok i e' ht) hk
      refine h1.frame k hlt (fun q x hx hw hb => ?_)
      rcases app_get N O hx with ⟨_, hx⟩ | ⟨_, hx⟩
      · have := newb q x hx k hb; omega
      · obtain ⟨i2, e, e2, hs, ht2, hm⟩ := hO _ x hx hw
        have hne : i2 ≠ i := fun h => by
          subst h
          rw [hno _ x hs hx] at hw; cases hw
        exact hT.disj i2 i e e' hne ht2 ht (.inl hm.wr.2.2) k ((hm.blk2 k).1 (hm.blk1 k hb)) hk
  have back : ∀ (i : Nat) (e : Ent), T[i]? = some e → ∃ e', T2[i]? = some e' ∧ (∀ k, e'.blk k ↔ e.blk k) ∧ e'.wr = e.wr := by
    intro i e hi
    have hl : i < T2.length := by rw [hlen]; exact (List.getElem?_eq_some_iff.1 hi).1
    obtain ⟨e2, h2, h3, h4, _⟩ := key i _ (List.getElem?_eq_getElem hl)
    rw [hi] at h2; cases h2
    exact ⟨_, List.getElem?_eq_getElem hl, h3, h4⟩
  refine ⟨h1.os.trans hT.os, h1.tape.trans hT.tape, h1.output.trans hT.output, Nat.le_trans hT.size h1.size, ?_, ?_, ?_, ?_⟩
  · intro i e hi
    rcases app_get N T2 hi with ⟨_, hi⟩ | ⟨_, hi⟩
    · exact h1.ok i e (oldN i e hi)
    · obtain ⟨_, _, _, _, _, h⟩ := key _ e hi; exact h
  · intro k hk hno
    have hk' : k < w.heap.size := Nat.lt_of_lt_of_le hk hT.size
    have hT2no : ∀ (i : Nat) (e : Ent), T[i]? = some e → e.wr = true → ¬ e.blk k := by
      intro i e hi hw hb
      obtain ⟨e', h2, h3, h4⟩ := back i e hi
      refine hno (N.length + i) e' ?_ (h4.trans hw) ((h3 k).2 hb)
      rw [List.getElem?_append_right (by omega), show N.length + i - N.length = i by omega]; exact h2
    refine (h1.frame k hk' (fun q x hx hw hb => ?_)).trans (hT.frame k hk hT2no)
    rcases app_get N O hx with ⟨_, hx⟩ | ⟨_, hx⟩
    · have := newb q x hx k hb; omega
    · obtain ⟨i2, e, e2, hs, ht2, hm⟩ := hO _ x hx hw
      exact hT2no i2 e ht2 hm.wr.2.2 ((hm.blk2 k).1 (hm.blk1 k hb))
  · intro i e hi ho k hk
    rcases app_get N T2 hi with ⟨_, hi⟩ | ⟨_, hi⟩
    · exact Nat.le_trans hT.size (newb i e hi k hk)
    · obtain ⟨e0, h2, h3, _, h5, _⟩ := key _ e hi
      exact hT.own _ e0 h2 (h5 ho) k ((h3 k).1 hk)
  · intro i j e e' hij hi hj hw k hk hk'
    rcases app_get N T2 hi with ⟨hli, hi⟩ | ⟨hli, hi⟩ <;> rcases app_get N T2 hj with ⟨hlj, hj⟩ | ⟨hlj, hj⟩
    · exact h1.disj i j e e' hij (oldN i e hi) (oldN j e' hj) hw k hk hk'
    · obtain ⟨e0, h2, h3, _⟩ := key _ e' hj
      have := newb i e hi k hk
      have := e0.inb w k (hT.ok _ e0 h2) ((h3 k).1 hk')
      omega
    · obtain ⟨e0, h2, h3, _⟩ := key _ e hi
      have := newb j e' hj k hk'
      have := e0.inb w k (hT.ok _ e0 h2) ((h3 k).1 hk)
      omega
    · obtain ⟨e0, h2, h3, h4, _⟩ := key _ e hi
      obtain ⟨f0, g2, g3, g4, _⟩ := key _ e' hj
      exact hT.disj _ _ e0 f0 (by omega) h2 g2 (hw.imp (fun h => h4.symm.trans h) (fun h => g4.symm.trans h)) k ((h3 k).1 hk) ((g3 k).1 hk')
def allOwn : List Ent → Bool
  | [] => true
  | e :: r => e.own && allOwn r
theorem allOwn_get : ∀ {N : List Ent}, allOwn N = true → ∀ (i : Nat) (e : Ent), N[i]? = some e → e.own = true := by
  intro N
  induction N with
  | nil => intro _ i e h; simp at h
  | cons x r ih =>
    intro h i e hi
    simp only [allOwn, Bool.and_eq_true] at h
    cases i with
    | zero => simp at hi; subst hi; exact h.1
    | succ i => exact ih h.2 i e (by simpa using hi)
/-- A call that gives new entries alone. -/
theorem Tab.news {w0 w w' : World} {T N : List Ent} (hT : Tab w0 w T) (h1 : Tab w w' N) (hN : allOwn N = true) : Tab w0 w' (N ++ T) :=
  hT.merge (O := []) (s := []) (by rw [List.append_nil]; exact h1) .nil List.nodup_nil (allOwn_get hN)
theorem Rd.tab {w : World} {A : Option Addr} {g o n sz : Nat} {vals : List Value} (h : Rd w A g o n sz vals) : Tab w w [.gen (rdE A g o n sz vals)] :=
  Tab.addOld (Tab.start w) (.gen (rdE A g o n sz vals)) h rfl (fun i x hx => by simp at hx)
section
variable {dfs : List Deferred}
/-! ### The table's entries, picked anew -/
def dropOk : List Ent → Nat → List Nat → Bool
  | [], _, _ => true
  | e :: r, i, σ => (σ.contains i || !e.wr || e.own) && dropOk r (i + 1) σ
theorem dropOk_get : ∀ {T : List Ent} {i : Nat} {σ : List Nat}, dropOk T i σ = true → ∀ (j : Nat) (e : Ent), T[j]? = some e → i + j ∈ σ ∨ e.wr = false ∨ e.own = true := by
  intro T
  induction T with
  | nil => intro i σ _ j e h; simp at h
  | cons x r ih =>
    intro i σ h j e he
    simp only [dropOk, Bool.and_eq_true, Bool.or_eq_true, List.contains_iff_mem, Bool.not_eq_true'] at h
    cases j with
    | zero =>
      simp at he; subst he
      rcases h.1 with (h1 | h1) | h1
      · exact .inl (by simpa using h1)
      · exact .inr (.inl h1)
      · exact .inr (.inr h1)
    | succ j =>
      have := ih h.2 j e (by simpa using he)
      rwa [show i + 1 + j = i + (j + 1) by omega] at this
theorem Tab.pick {w0 w : World} {T T' : List Ent} (hT : Tab w0 w T) (σ : List Nat) (hn : σ.Nodup) (hm : T'.map some = σ.map fun i => T[i]?) (hd : dropOk T 0 σ = true) : Tab w0 w T' := by
  have key : ∀ (i : Nat) (e : Ent), T'[i]? = some e → ∃ j, σ[i]? = some j ∧ T[j]? = some e := by
    intro i e he
    have h1 : (T'.map some)[i]? = some (some e) := by rw [List.getElem?_map, he]; rfl
    rw [hm, List.getElem?_map] at h1
    cases hs : σ[i]? with
    | none => rw [hs] at h1; cases h1
    | some j => rw [hs] at h1; exact ⟨j, rfl, by simpa using h1⟩
  have back : ∀ (j : Nat) (e : Ent), T[j]? = some e → j ∈ σ → ∃ i : Nat, T'[i]? = some e := by
    intro j e he hj
    obtain ⟨i, hi, hij⟩ := List.mem_iff_getElem.1 hj
    have h1 : (T'.map some)[i]? = some (T[j]?) := by rw [hm, List.getElem?_map, List.getElem?_eq_getElem hi, hij]; rfl
    rw [List.getElem?_map] at h1
    cases ht : T'[i]? with
    | none => rw [ht] at h1; cases h1
    | some x => rw [ht, he] at h1; exact ⟨i, by rw [ht]; simpa using h1⟩
  refine ⟨hT.os, hT.tape, hT.output, hT.size, ?_, ?_, ?_, ?_⟩
  · intro i e he
    obtain ⟨j, _, h⟩ := key i e he
    exact hT.ok j e h
  · intro k hk hno
    refine hT.frame k hk (fun j e he hw hb => ?_)
    rcases dropOk_get hd j e he with h | h | h
    · rw [Nat.zero_add] at h
      obtain ⟨i, hi⟩ := back j e he h
      exact hno i e hi hw hb
    · rw [hw] at h; cases h
    · have := hT.own j e he h k hb; omega
  · intro i e he ho k hk
    obtain ⟨j, _, h⟩ := key i e he
    exact hT.own j e h ho k hk
  · intro i j e e' hij he he'
    obtain ⟨a, ha, h1⟩ := key i e he
    obtain ⟨b, hb, h2⟩ := key j e' he'
    exact hT.disj a b e e' (nodup_ne hn hij ha hb) h1 h2
theorem cont_pick {K : Act → World → Prop} {n : Nat} {w0 : World} {L : List (Nat × Value)} {T : List Ent} (σ : List Nat) (T' : List Ent) (hn : σ.Nodup) (hm : T'.map some = σ.map fun i => T[i]?) (hd : dropOk T 0 σ = true) (h : Cont dfs K n w0 L T') : Cont dfs K n w0 L T :=
  fun a w ha hf hT => h a w ha hf (hT.pick σ hn hm hd)
end
end Go.Proofs.Ytlfahohbkgdabaa

