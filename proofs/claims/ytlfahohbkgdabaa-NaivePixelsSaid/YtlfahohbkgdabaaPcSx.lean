/- A symbolic executor over the model's own operations, proved sound: a frame is a list of known slots, memory is a table of known blocks. Generic in the program. -/
import Derived.WalkKit
import Derived.OrdersHeld
import Derived.Maps.AppendAt
import Derived.KernelRfl
import Derived.Lib.Hide
set_option linter.unusedVariables false
set_option linter.unusedSimpArgs false
namespace Go.Proofs.Ytlfahohbkgdabaa
open Go Go.RowKit
variable {dfs : List Deferred}
/-- Short words for printed proofs. -/
abbrev iq (x : Int) : Value := .int .i64 x
abbrev pB (b : Nat) : Option Addr := some ⟨b, 0, none⟩

/-! ### The table of known blocks -/
structure GenEnt where
  blk : Nat → Prop
  wr : Bool
  own : Bool
  ok : World → Prop
  stable : ∀ w w', (∀ b, blk b → w'.heap[b]? = w.heap[b]?) → ok w → ok w'
  inb : ∀ w b, ok w → blk b → b < w.heap.size

inductive Ent where
  | cells (b : Nat) (cs : List Value) (t : TypeId) (own : Bool)
  | ro (b : Nat) (cs : List Value) (t : TypeId)
  | gen (g : GenEnt)

def Ent.blk : Ent → Nat → Prop
  | .cells b _ _ _, k => k = b
  | .ro b _ _, k => k = b
  | .gen g, k => g.blk k
def Ent.wr : Ent → Bool
  | .cells _ _ _ _ => true
  | .ro _ _ _ => false
  | .gen g => g.wr
def Ent.own : Ent → Bool
  | .cells _ _ _ o => o
  | .ro _ _ _ => false
  | .gen g => g.own
def Ent.ok : Ent → World → Prop
  | .cells b cs t _, w => w.heap[b]? = some (.cells cs.toArray t (0, 0))
  | .ro b cs t, w => w.heap[b]? = some (.cells cs.toArray t (0, 0))
  | .gen g, w => g.ok w
/-- Cells that can be read. -/
def Ent.look : Ent → Option (Nat × List Value)
  | .cells b cs _ _ => some (b, cs)
  | .ro b cs _ => some (b, cs)
  | .gen _ => none
theorem Ent.look_cell {e : Ent} {w : World} {b o : Nat} {cs : List Value} {v : Value} (hl : e.look = some (b, cs)) (ho : e.ok w) (hv : cs[o]? = some v) : w.cell? ⟨b, o, none⟩ = some v := by
  cases e with
  | cells b' cs' t own =>
    simp only [Ent.look, Option.some.injEq, Prod.mk.injEq] at hl
    obtain ⟨rfl, rfl⟩ := hl
    simp only [Ent.ok] at ho
    simp [World.cell?, ho, hv]
  | ro b' cs' t =>
    simp only [Ent.look, Option.some.injEq, Prod.mk.injEq] at hl
    obtain ⟨rfl, rfl⟩ := hl
    simp only [Ent.ok] at ho
    simp [World.cell?, ho, hv]
  | gen g => simp [Ent.look] at hl

theorem Ent.stable (e : Ent) (w w' : World) (h : ∀ b, e.blk b → w'.heap[b]? = w.heap[b]?) (ho : e.ok w) : e.ok w' := by
  cases e with
  | cells b cs t o => exact (h b rfl).trans ho
  | ro b cs t => exact (h b rfl).trans ho
  | gen g => exact g.stable w w' h ho
theorem Ent.inb (e : Ent) (w : World) (b : Nat) (ho : e.ok w) (hb : e.blk b) : b < w.heap.size := by
  cases e with
  | cells b' cs t o =>
    have hb' : b = b' := hb
    subst hb'
    exact (Array.getElem?_eq_some_iff.1 ho).1
  | ro b' cs t =>
    have hb' : b = b' := hb
    subst hb'
    exact (Array.getElem?_eq_some_iff.1 ho).1
  | gen g => exact g.inb w b ho hb

structure Tab (w0 w : World) (T : List Ent) : Prop where
  os : w.os = w0.os
  tape : w.tape = w0.tape
  output : w.output = w0.output
  size : w0.heap.size ≤ w.heap.size
  ok : ∀ (i : Nat) (e : Ent), T[i]? = some e → e.ok w
  frame : ∀ k, k < w0.heap.size → (∀ (i : Nat) (e : Ent), T[i]? = some e → e.wr = true → ¬ e.blk k) → w.heap[k]? = w0.heap[k]?
  own : ∀ (i : Nat) (e : Ent), T[i]? = some e → e.own = true → ∀ k, e.blk k → w0.heap.size ≤ k
  disj : ∀ (i j : Nat) (e e' : Ent), i ≠ j → T[i]? = some e → T[j]? = some e' → (e.wr = true ∨ e'.wr = true) → ∀ k, e.blk k → ¬ e'.blk k

theorem Tab.start (w : World) : Tab w w [] :=
  ⟨rfl, rfl, rfl, Nat.le_refl _, fun i e h => by simp at h, fun k _ _ => rfl, fun i e h => by simp at h, fun i j e e' _ h => by simp at h⟩

theorem Tab.cell {w0 w : World} {T : List Ent} (hT : Tab w0 w T) {i b o : Nat} {cs : List Value} {t : TypeId} {own : Bool} {v : Value}
    (h : T[i]? = some (.cells b cs t own)) (hv : cs[o]? = some v) : w.cell? ⟨b, o, none⟩ = some v := by
  have := hT.ok i _ h
  simp only [Ent.ok] at this
  simp [World.cell?, this, hv]
theorem Tab.free {w0 w : World} {T : List Ent} (hT : Tab w0 w T) {i b o : Nat} {cs : List Value} {t : TypeId} {own : Bool}
    (h : T[i]? = some (.cells b cs t own)) : w.frozen? ⟨b, o, none⟩ = false := by
  have := hT.ok i _ h
  simp only [Ent.ok] at this
  simp [World.frozen?, this]

theorem getElem?_set_cases {α : Type} (T : List α) (i j : Nat) (x e : α) (h : (T.set i x)[j]? = some e) : (j = i ∧ e = x) ∨ (j ≠ i ∧ T[j]? = some e) := by
  by_cases hj : j = i
  · subst hj
    left
    rw [List.getElem?_set_self' ] at h
    cases hT : T[j]? with
    | none => simp [hT] at h
    | some y => simp [hT] at h; exact ⟨rfl, h.symm⟩
  · right
    rw [List.getElem?_set_ne (Ne.symm hj)] at h
    exact ⟨hj, h⟩

/-- One entry is replaced by another of the same block, and only that block has turned. -/
theorem Tab.replace {w0 w w' : World} {T : List Ent} (hT : Tab w0 w T) {i : Nat} {e e' : Ent} (h : T[i]? = some e) (hm : e.wr = true) (hm' : e'.wr = true) (ho' : e'.own = true → e.own = true)
    (hblk : ∀ k, e'.blk k → e.blk k ∨ w.heap.size ≤ k) (hblk' : ∀ k, k < w.heap.size → e.blk k → k < w0.heap.size → e'.blk k) (hos : w'.os = w.os) (htape : w'.tape = w.tape) (hout : w'.output = w.output) (hsz : w.heap.size ≤ w'.heap.size)
    (hheap : ∀ k, k < w.heap.size → ¬ e.blk k → w'.heap[k]? = w.heap[k]?) (hok : e'.ok w') : Tab w0 w' (T.set i e') := by
  refine ⟨hos.trans hT.os, htape.trans hT.tape, hout.trans hT.output, Nat.le_trans hT.size hsz, ?_, ?_, ?_, ?_⟩
  · intro j x hx
    rcases getElem?_set_cases _ _ _ _ _ hx with ⟨_, rfl⟩ | ⟨hj, hx⟩
    · exact hok
    · refine x.stable w w' (fun b hb => hheap b (x.inb w b (hT.ok j x hx) hb) (fun hb' => ?_)) (hT.ok j x hx)
      exact hT.disj i j e x (Ne.symm hj) h hx (.inl hm) b hb' hb
  · intro k hk hno
    have hk' : k < w.heap.size := Nat.lt_of_lt_of_le hk hT.size
    have hi : i < T.length := by
      rcases Nat.lt_or_ge i T.length with h' | h'
      · exact h'
      · rw [List.getElem?_eq_none h'] at h; cases h
    have hne : ¬ e.blk k := fun hb => hno i e' (by simp [List.getElem?_set, hi]) hm' (hblk' k hk' hb hk)
    rw [hheap k hk' hne]
    refine hT.frame k hk (fun j x hx hxm => ?_)
    by_cases hj : j = i
    · subst hj
      rw [h] at hx; cases hx
      exact hne
    · exact hno j x (by rw [List.getElem?_set_ne (Ne.symm hj)]; exact hx) hxm
  · intro j x hx hxo k hk
    rcases getElem?_set_cases _ _ _ _ _ hx with ⟨_, rfl⟩ | ⟨hj, hx⟩
    · rcases hblk k hk with hk | hk
      · exact hT.own i e h (ho' hxo) k hk
      · exact Nat.le_trans hT.size hk
    · exact hT.own j x hx hxo k hk
  · intro j l x y hjl hx hy hxy k hk hk'
    rcases getElem?_set_cases _ _ _ _ _ hx with ⟨hji, hxe⟩ | ⟨hj, hx2⟩
    · rcases getElem?_set_cases _ _ _ _ _ hy with ⟨hli, hye⟩ | ⟨hl, hy2⟩
      · omega
      · rw [hxe] at hk
        rcases hblk k hk with hk2 | hk2
        · exact hT.disj i l e y (Ne.symm hl) h hy2 (.inl hm) k hk2 hk'
        · have := y.inb w k (hT.ok l y hy2) hk'; omega
    · rcases getElem?_set_cases _ _ _ _ _ hy with ⟨hli, hye⟩ | ⟨hl, hy2⟩
      · rw [hye] at hk'
        rcases hblk k hk' with hk2 | hk2
        · exact hT.disj j i x e hj hx2 h (.inr hm) k hk hk2
        · have := x.inb w k (hT.ok j x hx2) hk; omega
      · exact hT.disj j l x y hjl hx2 hy2 hxy k hk hk'

theorem Tab.store {w0 w : World} {T : List Ent} (hT : Tab w0 w T) {i b : Nat} {cs : List Value} {t : TypeId} {own : Bool} (h : T[i]? = some (.cells b cs t own)) (o : Nat) (v : Value) :
    Tab w0 (w.setCell ⟨b, o, none⟩ v) (T.set i (.cells b (cs.set o v) t own)) := by
  have hg : w.heap[b]? = some (.cells cs.toArray t (0, 0)) := hT.ok i _ h
  refine hT.replace (e := .cells b cs t own) (e' := .cells b (cs.set o v) t own) h rfl rfl id (fun k hk => .inl hk) (fun k _ hk _ => hk) rfl rfl rfl (by simp) (fun k _ hk => ?_) ?_
  · exact heap_setCell_other w ⟨b, o, none⟩ k v (fun hkb => hk hkb)
  · have := heap_setCell_same w b o cs.toArray t v hg
    simpa [Ent.ok] using this

/-- A new entry whose blocks are all new. -/
theorem Tab.push {w0 w w' : World} {T : List Ent} (hT : Tab w0 w T) {e : Ent} (hos : w'.os = w.os) (htape : w'.tape = w.tape) (hout : w'.output = w.output) (hsz : w.heap.size ≤ w'.heap.size)
    (hheap : ∀ k, k < w.heap.size → w'.heap[k]? = w.heap[k]?) (hok : e.ok w') (hnew : ∀ k, e.blk k → w.heap.size ≤ k) : Tab w0 w' (e :: T) := by
  refine ⟨hos.trans hT.os, htape.trans hT.tape, hout.trans hT.output, Nat.le_trans hT.size hsz, ?_, ?_, ?_, ?_⟩
  · intro i x hx
    cases i with
    | zero => simp at hx; subst hx; exact hok
    | succ i =>
      simp at hx
      exact x.stable w w' (fun b hb => hheap b (x.inb w b (hT.ok i x hx) hb)) (hT.ok i x hx)
  · intro k hk hno
    rw [hheap k (Nat.lt_of_lt_of_le hk hT.size)]
    exact hT.frame k hk (fun i x hx => hno (i + 1) x (by simpa using hx))
  · intro i x hx hxo k hk
    cases i with
    | zero => simp at hx; subst hx; exact Nat.le_trans hT.size (hnew k hk)
    | succ i => simp at hx; exact hT.own i x hx hxo k hk
  · intro i j x y hij hx hy hxy k hk hk'
    cases i with
    | zero =>
      cases j with
      | zero => exact hij rfl
      | succ j =>
        simp at hx hy; subst hx
        have := y.inb w k (hT.ok j y hy) hk'
        have := hnew k hk
        omega
    | succ i =>
      cases j with
      | zero =>
        simp at hx hy; subst hy
        have := x.inb w k (hT.ok i x hx) hk
        have := hnew k hk'
        omega
      | succ j =>
        simp at hx hy
        exact hT.disj i j x y (by omega) hx hy hxy k hk hk'

theorem Tab.alloc {w0 w : World} {T : List Ent} (hT : Tab w0 w T) (c : Array Value) (t : TypeId) : Tab w0 (w.alloc (.cells c t)) (.cells w.heap.size c.toList t true :: T) := by
  refine hT.push (e := .cells w.heap.size c.toList t true) rfl rfl rfl (by simp) (fun k hk => Below.heap_alloc w _ k hk) ?_ (fun k hk => by have : k = w.heap.size := hk; omega)
  simp only [Ent.ok]
  rw [heap_alloc_new]

theorem Tab.below {w0 w w' : World} {T : List Ent} (hT : Tab w0 w T) (hb : Below w.heap.size w w') : Tab w0 w' T :=
  ⟨hb.os.trans hT.os, hb.tape.trans hT.tape, hb.output.trans hT.output, Nat.le_trans hT.size hb.size,
   fun i e h => e.stable w w' (fun b hbk => hb.block b (e.inb w b (hT.ok i e h) hbk)) (hT.ok i e h),
   fun k hk hno => (hb.block k (Nat.lt_of_lt_of_le hk hT.size)).trans (hT.frame k hk hno), hT.own, hT.disj⟩

theorem Tab.drew {w0 w : World} {T : List Ent} (hT : Tab w0 w T) : Tab w0 w.drew T := hT.below (Below.refl _ _).drew

/-- The whole table is the call's own, or only read: what was there is as it was. -/
theorem Tab.toBelow {w0 w : World} {T : List Ent} (hT : Tab w0 w T) (h : ∀ (i : Nat) (e : Ent), T[i]? = some e → e.wr = true → e.own = true) : Below w0.heap.size w0 w :=
  ⟨hT.os, hT.tape, hT.output, hT.size, fun k hk => hT.frame k hk (fun i e he hm hb => by
    have := hT.own i e he (h i e he hm) k hb
    omega)⟩

theorem Tab.drop {w0 w : World} {e : Ent} {T : List Ent} (hT : Tab w0 w (e :: T)) (h : e.wr = true → e.own = true) : Tab w0 w T :=
  ⟨hT.os, hT.tape, hT.output, hT.size, fun i x hx => hT.ok (i + 1) x (by simpa using hx),
   fun k hk hno => hT.frame k hk (fun i x hx hm hb => by
    cases i with
    | zero =>
      simp at hx; subst hx
      have := hT.own 0 e (by simp) (h hm) k hb
      omega
    | succ i => exact hno i x (by simpa using hx) hm hb),
   fun i x hx => hT.own (i + 1) x (by simpa using hx),
   fun i j x y hij hx hy => hT.disj (i + 1) (j + 1) x y (by omega) (by simpa using hx) (by simpa using hy)⟩

/-- Something that was there when the call began is an entry. -/
theorem Tab.addOld {w0 : World} {T : List Ent} (hT : Tab w0 w0 T) (e : Ent) (hok : e.ok w0) (hown : e.own = false) (hdis : ∀ (i : Nat) (x : Ent), T[i]? = some x → (e.wr = true ∨ x.wr = true) → ∀ k, e.blk k → ¬ x.blk k) : Tab w0 w0 (e :: T) := by
  refine ⟨rfl, rfl, rfl, Nat.le_refl _, ?_, fun k _ _ => rfl, ?_, ?_⟩
  · intro i x hx
    cases i with
    | zero => simp at hx; subst hx; exact hok
    | succ i => exact hT.ok i x (by simpa using hx)
  · intro i x hx hxo
    cases i with
    | zero => simp at hx; subst hx; rw [hown] at hxo; cases hxo
    | succ i => exact hT.own i x (by simpa using hx) hxo
  · intro i j x y hij hx hy hxy k hk hk'
    cases i with
    | zero =>
      cases j with
      | zero => exact hij rfl
      | succ j =>
        simp at hx hy; subst hx
        exact hdis j y hy hxy k hk hk'
    | succ i =>
      cases j with
      | zero =>
        simp at hx hy; subst hy
        exact hdis i x hx hxy.symm k hk' hk
      | succ j =>
        simp at hx hy
        exact hT.disj i j x y (by omega) hx hy hxy k hk hk'

/-! ### Running an operation over the table -/
def oneC : Value → Bool
  | .agg _ | .tuple _ => false
  | _ => true

def semRun {α : Type} (P : Program) : Sem α → Nat → List Nat → List Ent → Option (α × List Ent × List Nat × List (Nat × Nat))
  | .pure x, _, fs, T => some (x, T, fs, [])
  | .load _ a k, h, fs, T =>
    match (T[h]?).bind Ent.look, a.spot with
    | some (b, cs), none =>
      match cs[a.off]? with
      | some v => (semRun P (k v) h fs T).map fun r => (r.1, r.2.1, r.2.2.1, (a.block, b) :: r.2.2.2)
      | none => none
    | _, _ => none
  | .store _ a v k, h, fs, T =>
    match T[h]?, a.spot with
    | some (.cells b cs t own), none =>
      bif Nat.blt a.off cs.length && oneC v then
        (semRun P k h fs (T.set h (.cells b (cs.set a.off v) t own))).map fun r => (r.1, r.2.1, r.2.2.1, (a.block, b) :: r.2.2.2)
      else none
    | _, _ => none
  | .new o k, h, fs, T =>
    match o, fs with
    | .cells c t (0, 0), f :: fs => semRun P (k f) (h + 1) fs (.cells f c.toList t true :: T)
    | _, _ => none
  | .program k, h, fs, T => semRun P (k P) h fs T
  | .mark _ k, h, fs, T => semRun P k h fs T
  | _, _, _, _ => none

def eqs (E : List (Nat × Nat)) : Prop := E.map Prod.fst = E.map Prod.snd

theorem addr_eq {a : Addr} (h : a.spot = none) : a = ⟨a.block, a.off, none⟩ := by cases a; simp_all

theorem semRun_sound {α : Type} (P : Program) (w0 : World) (s : Sem α) : ∀ (h m : Nat) (T : List Ent) (w : World), Tab w0 w T → ∀ x T' fs' E, semRun P s h (List.range' w.heap.size m) T = some (x, T', fs', E) → eqs E →
    ∃ w' m', s.run P w = .ok x w' ∧ Tab w0 w' T' ∧ fs' = List.range' w'.heap.size m' ∧ w.heap.size ≤ w'.heap.size := by
  induction s with
  | pure y =>
    intro h m T w hT x T' fs' E he hE
    simp only [semRun, Option.some.injEq, Prod.mk.injEq] at he
    obtain ⟨rfl, rfl, rfl, rfl⟩ := he
    exact ⟨w, m, rfl, hT, rfl, Nat.le_refl _⟩
  | load md a k ih =>
    intro h m T w hT x T' fs' E he hE
    simp only [semRun] at he
    split at he
    · rename_i b cs hTh hsp
      split at he
      · rename_i v hv
        simp only [Option.map_eq_some_iff] at he
        obtain ⟨⟨x1, T1, fs1, E1⟩, hr, he⟩ := he
        simp only [Prod.mk.injEq] at he
        obtain ⟨rfl, rfl, rfl, rfl⟩ := he
        simp only [eqs, List.map_cons, List.cons.injEq] at hE
        obtain ⟨e, hTe, hlk⟩ := Option.bind_eq_some_iff.1 hTh
        have hc : w.cell? a = some v := by
          rw [addr_eq hsp, hE.1]; exact Ent.look_cell hlk (hT.ok h e hTe) hv
        obtain ⟨w', m', h1, h2, h3, h4⟩ := ih v h m T w hT _ _ _ _ hr hE.2
        exact ⟨w', m', by simp only [Sem.run, hc]; exact h1, h2, h3, h4⟩
      · cases he
    · cases he
  | store md a v k ih =>
    intro h m T w hT x T' fs' E he hE
    simp only [semRun] at he
    split at he
    · rename_i b cs t own hTh hsp
      cases hcond : (Nat.blt a.off cs.length && oneC v) with
      | false => simp [hcond] at he
      | true =>
        simp only [hcond, cond_true, Option.map_eq_some_iff] at he
        obtain ⟨⟨x1, T1, fs1, E1⟩, hr, he⟩ := he
        simp only [Prod.mk.injEq] at he
        obtain ⟨rfl, rfl, rfl, rfl⟩ := he
        simp only [eqs, List.map_cons, List.cons.injEq] at hE
        simp only [Bool.and_eq_true] at hcond
        have hlt : a.off < cs.length := by simpa using hcond.1
        have ha : a = ⟨b, a.off, none⟩ := by rw [← hE.1]; exact addr_eq hsp
        obtain ⟨u, hu⟩ : ∃ u, cs[a.off]? = some u := ⟨cs[a.off], List.getElem?_eq_getElem hlt⟩
        have hc : w.cell? a = some u := by
          rw [ha]; exact hT.cell hTh hu
        have hf : w.frozen? a = false := by rw [ha]; exact hT.free hTh
        have hT' : Tab w0 (w.setCell a v) (T.set h (.cells b (cs.set a.off v) t own)) := by
          have := hT.store hTh a.off v
          rw [← ha] at this; exact this
        have hsz : (w.setCell a v).heap.size = w.heap.size := by simp
        obtain ⟨w', m', h1, h2, h3, h4⟩ := ih h m _ (w.setCell a v) hT' _ _ _ _ (by rw [hsz]; exact hr) hE.2
        refine ⟨w', m', ?_, h2, h3, by omega⟩
        have hone := hcond.2
        cases v <;> simp only [oneC, Bool.false_eq_true] at hone <;> simp only [Sem.run, hc, hf, Bool.false_eq_true, if_false] <;> exact h1
    · cases he
  | new o k ih =>
    intro h m T w hT x T' fs' E he hE
    unfold semRun at he
    split at he
    · rename_i c t f fs hfs
      cases m with
      | zero => simp at hfs
      | succ m =>
        rw [List.range'_succ] at hfs
        simp only [List.cons.injEq] at hfs
        obtain ⟨rfl, rfl⟩ := hfs
        have hsz : (w.alloc (.cells c t)).heap.size = w.heap.size + 1 := by simp
        obtain ⟨w', m', h1, h2, h3, h4⟩ := ih w.heap.size (h + 1) m _ (w.alloc (.cells c t)) (hT.alloc c t) _ _ _ _ (by rw [hsz]; exact he) hE
        refine ⟨w', m', ?_, h2, h3, by omega⟩
        simp only [Sem.run]
        exact h1
    · cases he
  | program k ih =>
    intro h m T w hT x T' fs' E he hE
    simp only [semRun] at he
    obtain ⟨w', m', h1, h2, h3, h4⟩ := ih P h m T w hT _ _ _ _ he hE
    exact ⟨w', m', by simp only [Sem.run]; exact h1, h2, h3, h4⟩
  | mark mk k ih =>
    intro h m T w hT x T' fs' E he hE
    simp only [semRun] at he
    obtain ⟨w', m', h1, h2, h3, h4⟩ := ih h m T w hT _ _ _ _ he hE
    exact ⟨w', m', by simp only [Sem.run]; exact h1, h2, h3, h4⟩
  | shape r k ih => intro h m T w hT x T' fs' E he hE; simp [semRun] at he
  | freeze a n k ih => intro h m T w hT x T' fs' E he hE; simp [semRun] at he
  | frozen a k ih => intro h m T w hT x T' fs' E he hE; simp [semRun] at he
  | getObj r k ih => intro h m T w hT x T' fs' E he hE; simp [semRun] at he
  | setObj r o k ih => intro h m T w hT x T' fs' E he hE; simp [semRun] at he
  | choose q k ih => intro h m T w hT x T' fs' E he hE; simp [semRun] at he
  | sys c k ih => intro h m T w hT x T' fs' E he hE; simp [semRun] at he
  | halt h => intro h m T w hT x T' fs' E he hE; simp [semRun] at he

/-- What is read, or computed, and turns nothing. -/
def semRead {α : Type} (P : Program) : Sem α → Nat → List Ent → Option (α × List (Nat × Nat))
  | .pure x, _, _ => some (x, [])
  | .load _ a k, h, T =>
    match (T[h]?).bind Ent.look, a.spot with
    | some (b, cs), none =>
      match cs[a.off]? with
      | some v => (semRead P (k v) h T).map fun r => (r.1, (a.block, b) :: r.2)
      | none => none
    | _, _ => none
  | .program k, h, T => semRead P (k P) h T
  | .mark _ k, h, T => semRead P k h T
  | _, _, _ => none

def Known (w : World) (T : List Ent) : Prop := ∀ (i : Nat) (e : Ent), T[i]? = some e → e.ok w

theorem semRead_sound {α : Type} (P : Program) (s : Sem α) : ∀ (h : Nat) (T : List Ent) (w : World), Known w T → ∀ x E, semRead P s h T = some (x, E) → eqs E → s.run P w = .ok x w := by
  induction s with
  | pure y =>
    intro h T w hT x E he hE
    simp only [semRead, Option.some.injEq, Prod.mk.injEq] at he
    obtain ⟨rfl, rfl⟩ := he
    rfl
  | load md a k ih =>
    intro h T w hT x E he hE
    simp only [semRead] at he
    split at he
    · rename_i b cs hTh hsp
      split at he
      · rename_i v hv
        simp only [Option.map_eq_some_iff] at he
        obtain ⟨⟨x1, E1⟩, hr, he⟩ := he
        simp only [Prod.mk.injEq] at he
        obtain ⟨rfl, rfl⟩ := he
        simp only [eqs, List.map_cons, List.cons.injEq] at hE
        obtain ⟨e, hTe, hlk⟩ := Option.bind_eq_some_iff.1 hTh
        have hc : w.cell? a = some v := by
          rw [addr_eq hsp, hE.1]; exact Ent.look_cell hlk (hT h e hTe) hv
        have := ih v h T w hT _ _ hr hE.2
        simp only [Sem.run, hc]; exact this
      · cases he
    · cases he
  | program k ih =>
    intro h T w hT x E he hE
    simp only [semRead] at he
    have := ih P h T w hT _ _ he hE
    simp only [Sem.run]; exact this
  | mark mk k ih =>
    intro h T w hT x E he hE
    simp only [semRead] at he
    have := ih h T w hT _ _ he hE
    simp only [Sem.run]; exact this
  | store md a v k ih => intro h T w hT x E he hE; simp [semRead] at he
  | new o k ih => intro h T w hT x E he hE; simp [semRead] at he
  | shape r k ih => intro h T w hT x E he hE; simp [semRead] at he
  | freeze a n k ih => intro h T w hT x E he hE; simp [semRead] at he
  | frozen a k ih => intro h T w hT x E he hE; simp [semRead] at he
  | getObj r k ih => intro h T w hT x E he hE; simp [semRead] at he
  | setObj r o k ih => intro h T w hT x E he hE; simp [semRead] at he
  | choose q k ih => intro h T w hT x E he hE; simp [semRead] at he
  | sys c k ih => intro h T w hT x E he hE; simp [semRead] at he
  | halt h => intro h T w hT x E he hE; simp [semRead] at he

/-! ### Frames -/
def lk : List (Nat × Value) → Nat → Option Value
  | [], _ => none
  | (d, v) :: r, i => bif Nat.beq d i then some v else lk r i

structure FrOk (n : Nat) (tmps : Array Value) (L : List (Nat × Value)) : Prop where
  size : tmps.size = n
  at_ : ∀ d v, lk L d = some v → tmps[d]? = some v

theorem FrOk.put {n : Nat} {tmps : Array Value} {L : List (Nat × Value)} (h : FrOk n tmps L) {d : Nat} (hd : d < n) (v : Value) : FrOk n (tmps.setIfInBounds d v) ((d, v) :: L) := by
  refine ⟨by simp [h.size], fun d' v' h' => ?_⟩
  simp only [lk] at h'
  by_cases he : d = d'
  · subst he
    have : Nat.beq d d = true := by simp
    rw [this] at h'
    simp only [cond_true, Option.some.injEq] at h'
    subst h'
    simp [Array.getElem?_setIfInBounds, h.size, hd]
  · have : Nat.beq d d' = false := by
      cases hb : Nat.beq d d' with
      | false => rfl
      | true => exact absurd (Nat.eq_of_beq_eq_true hb) he
    rw [this] at h'
    simp only [cond_false] at h'
    rw [Array.getElem?_setIfInBounds_ne he]
    exact h.at_ d' v' h'

def evL (L : List (Nat × Value)) : Operand → Value
  | .tmp t => (lk L t).getD undef
  | .const v => v
  | .global g => .pointer (some ⟨g, 0, none⟩)
  | .func f => .func (.func f) #[] #[]

def knowsOp (L : List (Nat × Value)) : Operand → Bool
  | .tmp t => (lk L t).isSome
  | _ => true
def plainOp : Op → Bool
  | .select _ _ => false
  | _ => true
def knows (L : List (Nat × Value)) (o : Oper) : Bool := o.op.operands.toList.all (knowsOp L) && plainOp o.op

theorem execOp_evL {n : Nat} {a : Act} {L : List (Nat × Value)} (hf : FrOk n a.tmps L) {o : Oper} (h : knows L o = true) : execOp a.eval o = execOp (evL L) o := by
  simp only [knows, Bool.and_eq_true, List.all_eq_true] at h
  refine execOp_congr o (fun cs b hs => by rw [hs] at h; simp [plainOp] at h) (fun x hx => ?_)
  have := h.1 x (Array.mem_toList_iff.2 hx)
  cases x with
  | tmp t =>
    simp only [knowsOp, Option.isSome_iff_exists] at this
    obtain ⟨v, hv⟩ := this
    simp only [Act.eval, evL, hv, Option.getD_some]
    have := hf.at_ t v hv
    simp [Array.getD_eq_getD_getElem?, this]
  | const v => rfl
  | global g => rfl
  | func f => rfl

/-- Is the operation wanted? -/
def wantB (ops : Array Oper) (o : Oper) (L : List (Nat × Value)) : Option Bool :=
  match o.guard with
  | none => some true
  | some (j, want) =>
    match (ops[j]?).bind (·.dst) with
    | none => none
    | some d =>
      match lk L d with
      | some (.bool b) => some (bif want then b else !b)
      | some (.tuple _) => some false
      | _ => none

theorem wantB_sound {n : Nat} {ops : Array Oper} {o : Oper} {a : Act} {L : List (Nat × Value)} (hf : FrOk n a.tmps L) {b : Bool} (h : wantB ops o L = some b) : Region.wanted o (yielded ops a.tmps) = b := by
  unfold wantB at h
  unfold Region.wanted
  split at h
  · rename_i hg; simp only [hg]; simpa using h
  · rename_i j want hg
    simp only [hg]
    split at h
    · cases h
    · rename_i d hd
      unfold yielded
      rw [hd]
      simp only [Option.bind_some]
      split at h
      · rename_i x hx
        rw [hf.at_ d _ hx]
        simp only [Option.some.injEq] at h
        subst h
        cases want <;> cases x <;> rfl
      · rename_i x hx
        rw [hf.at_ d _ hx]
        simp only [Option.some.injEq] at h
        subst h
        cases want <;> rfl
      · cases h

def putL (n : Nat) (dst : Option Tmp) (v : Value) (L : List (Nat × Value)) : Option (List (Nat × Value)) :=
  match dst with
  | none => some L
  | some d => bif Nat.blt d n then some ((d, v) :: L) else none

theorem putL_sound {n : Nat} {a : Act} {L L' : List (Nat × Value)} (hf : FrOk n a.tmps L) {dst : Option Tmp} {v : Value} (h : putL n dst v L = some L') : FrOk n (a.put dst v).tmps L' := by
  unfold putL at h
  cases dst with
  | none => simp at h; subst h; exact hf
  | some d =>
    simp only at h
    cases hd : Nat.blt d n with
    | false => simp [hd] at h
    | true =>
      simp only [hd, cond_true, Option.some.injEq] at h
      subst h
      exact hf.put (by simpa using hd) v
theorem put_defers (a : Act) (dst : Option Tmp) (v : Value) : (a.put dst v).defers = a.defers := by cases dst <;> rfl

def Cont (dfs : List Deferred) (K : Act → World → Prop) (n : Nat) (w0 : World) (L : List (Nat × Value)) (T : List Ent) : Prop :=
  ∀ a w, a.defers = dfs → FrOk n a.tmps L → Tab w0 w T → K a w

abbrev StepR := List (Nat × Value) × List Ent × List Nat × List (Nat × Nat)

def stepB (P : Program) (ops : Array Oper) (n i h : Nat) (fs : List Nat) (L : List (Nat × Value)) (T : List Ent) : Option StepR :=
  match ops[i]? with
  | none => none
  | some o =>
    match wantB ops o L with
    | some true =>
      bif knows L o then
        match semRun P (execOp (evL L) o) h fs T with
        | some (.value v, T', fs', E) => (putL n o.dst v L).map fun L' => (L', T', fs', E)
        | some (.skip, T', fs', E) => (putL n o.dst undef L).map fun L' => (L', T', fs', E)
        | _ => none
      else none
    | some false => (putL n o.dst undef L).map fun L' => (L', T, fs, [])
    | none => none

theorem stepB_sound {P : Program} {ops : Array Oper} {n i h m : Nat} {L L' : List (Nat × Value)} {T T' : List Ent} {fs' : List Nat} {E : List (Nat × Nat)} {w0 : World} {Q : Exit → Act → World → Prop} {K : Act → World → Prop} {a : Act} {w : World}
    (ha : a.defers = dfs) (hf : FrOk n a.tmps L) (hT : Tab w0 w T) (hs : stepB P ops n i h (List.range' w.heap.size m) L T = some (L', T', fs', E)) (hE : eqs E)
    (hK : ∀ a' w' m', a'.defers = dfs → FrOk n a'.tmps L' → Tab w0 w' T' → fs' = List.range' w'.heap.size m' → K a' w') : wpOp P ops Q i K a w := by
  unfold stepB at hs
  unfold wpOp
  split at hs
  · cases hs
  · rename_i o ho
    simp only [ho]
    split at hs
    · rename_i hw
      have hw' := wantB_sound hf hw
      simp only [hw', if_true]
      cases hkn : knows L o with
      | false => simp [hkn] at hs
      | true =>
        simp only [hkn, cond_true] at hs
        refine .inl ?_
        unfold Oper.wp
        rw [execOp_evL hf hkn]
        split at hs
        · rename_i v T1 fs1 E1 hr
          simp only [Option.map_eq_some_iff, Prod.mk.injEq] at hs
          obtain ⟨L1, hL1, rfl, rfl, rfl, rfl⟩ := hs
          obtain ⟨w', m', h1, h2, h3, _⟩ := semRun_sound P w0 _ h m T w hT _ _ _ _ hr hE
          rw [h1]
          exact hK _ w' m' (by rw [put_defers]; exact ha) (putL_sound hf hL1) h2 h3
        · rename_i T1 fs1 E1 hr
          simp only [Option.map_eq_some_iff, Prod.mk.injEq] at hs
          obtain ⟨L1, hL1, rfl, rfl, rfl, rfl⟩ := hs
          obtain ⟨w', m', h1, h2, h3, _⟩ := semRun_sound P w0 _ h m T w hT _ _ _ _ hr hE
          rw [h1]
          exact hK _ w' m' (by rw [put_defers]; exact ha) (putL_sound hf hL1) h2 h3
        · cases hs
    · rename_i hw
      have hw' := wantB_sound hf hw
      simp only [hw', Bool.false_eq_true, if_false]
      simp only [Option.map_eq_some_iff, Prod.mk.injEq] at hs
      obtain ⟨L1, hL1, rfl, rfl, rfl, rfl⟩ := hs
      exact hK _ w m (by rw [put_defers]; exact ha) (putL_sound hf hL1) hT rfl
    · cases hs

/-- Operations i, i + 1, .. in the order of the text. -/
def PL (P : Program) (ops : Array Oper) (Q : Exit → Act → World → Prop) (i k : Nat) : Act → World → Prop := wpOps P ops Q (List.range' i k)

theorem PL_succ (P : Program) (ops : Array Oper) (Q : Exit → Act → World → Prop) (i k : Nat) (a : Act) (w : World) : PL P ops Q i (k + 1) a w = wpOp P ops Q i (PL P ops Q (i + 1) k) a w := by
  unfold PL
  rw [List.range'_succ, wpOps_cons]

def runB (P : Program) (ops : Array Oper) (n : Nat) : Nat → List Nat → List Nat → List (Nat × Value) → List Ent → Option StepR
  | _, [], fs, L, T => some (L, T, fs, [])
  | i, h :: hs, fs, L, T =>
    match stepB P ops n i h fs L T with
    | some (L', T', fs', E) => (runB P ops n (i + 1) hs fs' L' T').map fun r => (r.1, r.2.1, r.2.2.1, E ++ r.2.2.2)
    | none => none

theorem eqs_append {E F : List (Nat × Nat)} (h : eqs (E ++ F)) : eqs E ∧ eqs F := by
  simp only [eqs, List.map_append] at h ⊢
  exact List.append_inj h (by simp)

theorem runB_sound {P : Program} {ops : Array Oper} {n : Nat} {w0 : World} {Q : Exit → Act → World → Prop} {k : Nat} : ∀ (hs : List Nat) (i m : Nat) (L L' : List (Nat × Value)) (T T' : List Ent) (fs' : List Nat) (E : List (Nat × Nat)) (a : Act) (w : World),
    a.defers = dfs → FrOk n a.tmps L → Tab w0 w T → runB P ops n i hs (List.range' w.heap.size m) L T = some (L', T', fs', E) → eqs E →
    (∀ a' w', a'.defers = dfs → FrOk n a'.tmps L' → Tab w0 w' T' → PL P ops Q (i + hs.length) k a' w') → PL P ops Q i (hs.length + k) a w := by
  intro hs
  induction hs with
  | nil =>
    intro i m L L' T T' fs' E a w ha hf hT hr hE hK
    simp only [runB, Option.some.injEq, Prod.mk.injEq] at hr
    obtain ⟨rfl, rfl, rfl, rfl⟩ := hr
    have := hK a w ha hf hT
    simpa using this
  | cons h hs ih =>
    intro i m L L' T T' fs' E a w ha hf hT hr hE hK
    simp only [runB] at hr
    split at hr
    · rename_i L1 T1 fs1 E1 hst
      simp only [Option.map_eq_some_iff, Prod.mk.injEq] at hr
      obtain ⟨⟨L2, T2, fs2, E2⟩, hr, rfl, rfl, rfl, rfl⟩ := hr
      obtain ⟨hE1, hE2⟩ := eqs_append hE
      have e : (h :: hs).length + k = (hs.length + k) + 1 := by simp; omega
      rw [e, PL_succ]
      refine stepB_sound ha hf hT hst hE1 (fun a' w' m' ha' hf' hT' hfs => ?_)
      subst hfs
      refine ih (i + 1) m' L1 _ T1 _ _ _ a' w' ha' hf' hT' hr hE2 (fun a'' w'' ha'' hf'' hT'' => ?_)
      have := hK a'' w'' ha'' hf'' hT''
      simpa [Nat.add_assoc, Nat.add_comm 1] using this
    · cases hr

theorem FrOk.prune {n : Nat} {tmps : Array Value} {L : List (Nat × Value)} (h : FrOk n tmps L) : ∀ {L' : List (Nat × Value)}, (L'.map fun p => lk L p.1) = (L'.map fun p => some p.2) → FrOk n tmps L' := by
  intro L' hL
  refine ⟨h.size, fun d v hv => ?_⟩
  induction L' with
  | nil => simp [lk] at hv
  | cons p r ih =>
    obtain ⟨d', v'⟩ := p
    simp only [List.map_cons, List.cons.injEq] at hL
    simp only [lk] at hv
    cases hb : Nat.beq d' d with
    | true =>
      simp only [hb, cond_true, Option.some.injEq] at hv
      subst hv
      have := Nat.eq_of_beq_eq_true hb
      subst this
      exact h.at_ _ _ hL.1
    | false =>
      simp only [hb, cond_false] at hv
      exact ih hL.2 hv

theorem Cont.prune {K : Act → World → Prop} {n : Nat} {w0 : World} {L : List (Nat × Value)} {T : List Ent} (L' : List (Nat × Value)) (h : (L'.map fun p => lk L p.1) = (L'.map fun p => some p.2)) (hk : Cont dfs K n w0 L' T) : Cont dfs K n w0 L T :=
  fun a w ha hf hT => hk a w ha (hf.prune h) hT

/-- What a batch comes to: the slots asked for, the table, the equations on blocks. -/
def outB (keys : List Nat) (r : StepR) : List (Option Value) × List Ent × List Nat × List Nat := (keys.map (lk r.1), r.2.1, r.2.2.1, r.2.2.2.map Prod.fst)
def wishB (vals : List Value) (T : List Ent) (r : StepR) : List (Option Value) × List Ent × List Nat × List Nat := (vals.map some, T, [], r.2.2.2.map Prod.snd)

theorem batch_core {P : Program} {ops : Array Oper} {n i k : Nat} {w0 : World} {Q : Exit → Act → World → Prop} {L : List (Nat × Value)} {T : List Ent} (m : Nat) (hs : List Nat) (keys : List Nat) (vals : List Nat → List Value) (T' : List Nat → List Ent)
    (hl : ∀ fs, (vals fs).length = keys.length)
    (h1 : ∀ fs, fs.length = m → (runB P ops n i hs fs L T).isSome = true)
    (h2 : ∀ fs, fs.length = m → (runB P ops n i hs fs L T).map (outB keys) = (runB P ops n i hs fs L T).map (wishB (vals fs) (T' fs)))
    (hk : ∀ fs, fs.length = m → Cont dfs (PL P ops Q (i + hs.length) k) n w0 (keys.zip (vals fs)) (T' fs)) : Cont dfs (PL P ops Q i (hs.length + k)) n w0 L T := by
  intro a w ha hf hT
  have hlen : (List.range' w.heap.size m).length = m := by simp
  have e1 := h1 _ hlen
  have e2 := h2 _ hlen
  obtain ⟨⟨L1, T1, fs1, E1⟩, hr⟩ := Option.isSome_iff_exists.1 e1
  rw [hr] at e2
  simp only [Option.map_some, Option.some.injEq, outB, wishB, Prod.mk.injEq] at e2
  obtain ⟨hL, hTT, _, hE⟩ := e2
  refine runB_sound hs i m L L1 T T1 fs1 E1 a w ha hf hT hr hE (fun a' w' ha' hf' hT' => ?_)
  refine hk _ hlen a' w' ha' (hf'.prune ?_) (hTT ▸ hT')
  have hv := hl (List.range' w.heap.size m)
  generalize vals (List.range' w.heap.size m) = vs at hL hv
  clear hk h1 h2 e1 hf' hl
  induction keys generalizing vs with
  | nil => simp
  | cons d ks ih =>
    cases vs with
    | nil => simp at hv
    | cons v vs =>
      simp only [List.map_cons, List.cons.injEq] at hL
      simp only [List.zip_cons_cons, List.map_cons, List.cons.injEq]
      exact ⟨hL.1, ih vs hL.2 (by simpa using hv)⟩

theorem batch0 {P : Program} {ops : Array Oper} {n i k : Nat} {w0 : World} {Q : Exit → Act → World → Prop} {L : List (Nat × Value)} {T : List Ent} (hs : List Nat) (i' k' : Nat) (L' : List (Nat × Value)) (T' : List Ent) (hi : i' = i + hs.length) (hkk : k = hs.length + k')
    (h1 : (runB P ops n i hs [] L T).isSome = true)
    (h2 : (runB P ops n i hs [] L T).map (outB (L'.map Prod.fst)) = (runB P ops n i hs [] L T).map (wishB (L'.map Prod.snd) T'))
    (hk : Cont dfs (PL P ops Q i' k') n w0 L' T') : Cont dfs (PL P ops Q i k) n w0 L T := by
  subst hi; subst hkk
  refine batch_core 0 hs (L'.map Prod.fst) (fun _ => L'.map Prod.snd) (fun _ => T') (by simp) (fun fs hfs => ?_) (fun fs hfs => ?_) (fun fs hfs => ?_)
  · obtain rfl := List.eq_nil_of_length_eq_zero hfs; exact h1
  · obtain rfl := List.eq_nil_of_length_eq_zero hfs; exact h2
  · simpa [List.zip_map', Function.comp_def] using hk

theorem batch1 {P : Program} {ops : Array Oper} {n i k : Nat} {w0 : World} {Q : Exit → Act → World → Prop} {L : List (Nat × Value)} {T : List Ent} (hs : List Nat) (i' k' : Nat) (L' : Nat → List (Nat × Value)) (T' : Nat → List Ent) (hi : i' = i + hs.length) (hkk : k = hs.length + k') (keys : List Nat) (hkeys : ∀ b, (L' b).map Prod.fst = keys)
    (h1 : ∀ b, (runB P ops n i hs [b] L T).isSome = true)
    (h2 : ∀ b, (runB P ops n i hs [b] L T).map (outB keys) = (runB P ops n i hs [b] L T).map (wishB ((L' b).map Prod.snd) (T' b)))
    (hk : ∀ b, Cont dfs (PL P ops Q i' k') n w0 (L' b) (T' b)) : Cont dfs (PL P ops Q i k) n w0 L T := by
  subst hi; subst hkk
  have one : ∀ fs : List Nat, fs.length = 1 → fs = [fs.headD 0] := by
    intro fs h
    match fs, h with
    | [b], _ => rfl
  refine batch_core 1 hs keys (fun fs => (L' (fs.headD 0)).map Prod.snd) (fun fs => T' (fs.headD 0)) (fun fs => by rw [← hkeys (fs.headD 0)]; simp) (fun fs hfs => ?_) (fun fs hfs => ?_) (fun fs hfs => ?_)
  · rw [one fs hfs]; exact h1 _
  · rw [one fs hfs]; exact h2 _
  · have := hk (fs.headD 0)
    rw [← hkeys (fs.headD 0)]
    simpa [List.zip_map', Function.comp_def] using this

theorem batch2 {P : Program} {ops : Array Oper} {n i k : Nat} {w0 : World} {Q : Exit → Act → World → Prop} {L : List (Nat × Value)} {T : List Ent} (hs : List Nat) (i' k' : Nat) (L' : Nat → Nat → List (Nat × Value)) (T' : Nat → Nat → List Ent) (hi : i' = i + hs.length) (hkk : k = hs.length + k') (keys : List Nat) (hkeys : ∀ b c, (L' b c).map Prod.fst = keys)
    (h1 : ∀ b c, (runB P ops n i hs [b, c] L T).isSome = true)
    (h2 : ∀ b c, (runB P ops n i hs [b, c] L T).map (outB keys) = (runB P ops n i hs [b, c] L T).map (wishB ((L' b c).map Prod.snd) (T' b c)))
    (hk : ∀ b c, Cont dfs (PL P ops Q i' k') n w0 (L' b c) (T' b c)) : Cont dfs (PL P ops Q i k) n w0 L T := by
  subst hi; subst hkk
  have two : ∀ fs : List Nat, fs.length = 2 → fs = [fs.headD 0, fs.tail.headD 0] := by
    intro fs h
    match fs, h with
    | [b, c], _ => rfl
  refine batch_core 2 hs keys (fun fs => (L' (fs.headD 0) (fs.tail.headD 0)).map Prod.snd) (fun fs => T' (fs.headD 0) (fs.tail.headD 0)) (fun fs => by rw [← hkeys (fs.headD 0) (fs.tail.headD 0)]; simp) (fun fs hfs => ?_) (fun fs hfs => ?_) (fun fs hfs => ?_)
  · rw [two fs hfs]; exact h1 _ _
  · rw [two fs hfs]; exact h2 _ _
  · have := hk (fs.headD 0) (fs.tail.headD 0)
    rw [← hkeys (fs.headD 0) (fs.tail.headD 0)]
    simpa [List.zip_map', Function.comp_def] using this

theorem batch3 {P : Program} {ops : Array Oper} {n i k : Nat} {w0 : World} {Q : Exit → Act → World → Prop} {L : List (Nat × Value)} {T : List Ent} (hs : List Nat) (i' k' : Nat) (L' : Nat → Nat → Nat → List (Nat × Value)) (T' : Nat → Nat → Nat → List Ent) (hi : i' = i + hs.length) (hkk : k = hs.length + k') (keys : List Nat) (hkeys : ∀ b c d, (L' b c d).map Prod.fst = keys)
    (h1 : ∀ b c d, (runB P ops n i hs [b, c, d] L T).isSome = true)
    (h2 : ∀ b c d, (runB P ops n i hs [b, c, d] L T).map (outB keys) = (runB P ops n i hs [b, c, d] L T).map (wishB ((L' b c d).map Prod.snd) (T' b c d)))
    (hk : ∀ b c d, Cont dfs (PL P ops Q i' k') n w0 (L' b c d) (T' b c d)) : Cont dfs (PL P ops Q i k) n w0 L T := by
  subst hi; subst hkk
  have three : ∀ fs : List Nat, fs.length = 3 → fs = [fs.headD 0, fs.tail.headD 0, fs.tail.tail.headD 0] := by
    intro fs h
    match fs, h with
    | [b, c, d], _ => rfl
  refine batch_core 3 hs keys (fun fs => (L' (fs.headD 0) (fs.tail.headD 0) (fs.tail.tail.headD 0)).map Prod.snd) (fun fs => T' (fs.headD 0) (fs.tail.headD 0) (fs.tail.tail.headD 0)) (fun fs => by rw [← hkeys (fs.headD 0) (fs.tail.headD 0) (fs.tail.tail.headD 0)]; simp) (fun fs hfs => ?_) (fun fs hfs => ?_) (fun fs hfs => ?_)
  · rw [three fs hfs]; exact h1 _ _ _
  · rw [three fs hfs]; exact h2 _ _ _
  · have := hk (fs.headD 0) (fs.tail.headD 0) (fs.tail.tail.headD 0)
    rw [← hkeys (fs.headD 0) (fs.tail.headD 0) (fs.tail.tail.headD 0)]
    simpa [List.zip_map', Function.comp_def] using this

end Go.Proofs.Ytlfahohbkgdabaa

