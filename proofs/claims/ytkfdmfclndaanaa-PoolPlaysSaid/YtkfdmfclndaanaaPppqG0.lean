/- Texts of this proof's own, put together: what each holds is told ahead of it. -/
import Derived.WalkKit
import Derived.OrdersHeld
import Derived.Maps.AppendAt
import Derived.KernelRfl
import Derived.Lib.Hide
import Derived.Deep.LoopGhost
import Derived.Tactics
import Derived.Laws.OwnMore
import Derived.Laws.IdiomCopy
import Derived.Test.YtkfdmfclndaanaaProg
set_option linter.unusedSimpArgs false
set_option linter.unusedVariables false
namespace Go.Proofs.Ytkfdmfclndaanaa
open Go Go.RowKit
variable {dfs : List Deferred}
abbrev iq (x : Int) : Value := .int .i64 x
abbrev pB (b : Nat) : Option Addr := some ⟨b, 0, none⟩
structure GenEnt where
  blk : Nat → Prop
  wr : Bool
  own : Bool
  ok : World → Prop
  stable : ∀ w w', (∀ b, blk b → w'.heap[b]? = w.heap[b]?) → ok w → ok w'
  inb : ∀ w b, ok w → blk b → b < w.heap.size
inductive Ent where
  | cells (b : Nat) (cs : List Value) (t : TypeId) (own : Bool)
  | ro (b : Nat) (cs : List Value) (t : TypeId)
  | gen (g : GenEnt)
def Ent.blk : Ent → Nat → Prop
  | .cells b _ _ _, k => k = b
  | .ro b _ _, k => k = b
  | .gen g, k => g.blk k
def Ent.wr : Ent → Bool
  | .cells _ _ _ _ => true
  | .ro _ _ _ => false
  | .gen g => g.wr
def Ent.own : Ent → Bool
  | .cells _ _ _ o => o
  | .ro _ _ _ => false
  | .gen g => g.own
def Ent.ok : Ent → World → Prop
  | .cells b cs t _, w => w.heap[b]? = some (.cells cs.toArray t (0, 0))
  | .ro b cs t, w => w.heap[b]? = some (.cells cs.toArray t (0, 0))
  | .gen g, w => g.ok w
def Ent.look : Ent → Option (Nat × List Value)
  | .cells b cs _ _ => some (b, cs)
  | .ro b cs _ => some (b, cs)
  | .gen _ => none
theorem Ent.look_cell {e : Ent} {w : World} {b o : Nat} {cs : List Value} {v : Value} (hl : e.look = some (b, cs)) (ho : e.ok w) (hv : cs[o]? = some v) : w.cell? ⟨b, o, none⟩ = some v := by
  cases e with
  | cells b' cs' t own =>
    simp only [Ent.look, Option.some.injEq, Prod.mk.injEq] at hl
    obtain ⟨rfl, rfl⟩ := hl
    simp only [Ent.ok] at ho
    simp [World.cell?, ho, hv]
  | ro b' cs' t =>
    simp only [Ent.look, Option.some.injEq, Prod.mk.injEq] at hl
    obtain ⟨rfl, rfl⟩ := hl
    simp only [Ent.ok] at ho
    simp [World.cell?, ho, hv]
  | gen g => simp [Ent.look] at hl
theorem Ent.stable (e : Ent) (w w' : World) (h : ∀ b, e.blk b → w'.heap[b]? = w.heap[b]?) (ho : e.ok w) : e.ok w' := by
  cases e with
  | cells b cs t o => exact (h b rfl).trans ho
  | ro b cs t => exact (h b rfl).trans ho
  | gen g => exact g.stable w w' h ho
theorem Ent.inb (e : Ent) (w : World) (b : Nat) (ho : e.ok w) (hb : e.blk b) : b < w.heap.size := by
  cases e with
  | cells b' cs t o =>
    have hb' : b = b' := hb
    subst hb'
    exact (Array.getElem?_eq_some_iff.1 ho).1
  | ro b' cs t =>
    have hb' : b = b' := hb
    subst hb'
    exact (Array.getElem?_eq_some_iff.1 ho).1
  | gen g => exact g.inb w b ho hb
structure Tab (w0 w : World) (T : List Ent) : Prop where
  os : w.os = w0.os
  tape : w.tape = w0.tape
  output : w.output = w0.output
  size : w0.heap.size ≤ w.heap.size
  ok : ∀ (i : Nat) (e : Ent), T[i]? = some e → e.ok w
  frame : ∀ k, k < w0.heap.size → (∀ (i : Nat) (e : Ent), T[i]? = some e → e.wr = true → ¬ e.blk k) → w.heap[k]? = w0.heap[k]?
  own : ∀ (i : Nat) (e : Ent), T[i]? = some e → e.own = true → ∀ k, e.blk k → w0.heap.size ≤ k
  disj : ∀ (i j : Nat) (e e' : Ent), i ≠ j → T[i]? = some e → T[j]? = some e' → (e.wr = true ∨ e'.wr = true) → ∀ k, e.blk k → ¬ e'.blk k
theorem Tab.start (w : World) : Tab w w [] :=
  ⟨rfl, rfl, rfl, Nat.le_refl _, fun i e h => by simp at h, fun k _ _ => rfl, fun i e h => by simp at h, fun i j e e' _ h => by simp at h⟩
theorem Tab.cell {w0 w : World} {T : List Ent} (hT : Tab w0 w T) {i b o : Nat} {cs : List Value} {t : TypeId} {own : Bool} {v : Value}
    (h : T[i]? = some (.cells b cs t own)) (hv : cs[o]? = some v) : w.cell? ⟨b, o, none⟩ = some v := by
  have := hT.ok i _ h
  simp only [Ent.ok] at this
  simp [World.cell?, this, hv]
theorem Tab.free {w0 w : World} {T : List Ent} (hT : Tab w0 w T) {i b o : Nat} {cs : List Value} {t : TypeId} {own : Bool}
    (h : T[i]? = some (.cells b cs t own)) : w.frozen? ⟨b, o, none⟩ = false := by
  have := hT.ok i _ h
  simp only [Ent.ok] at this
  simp [World.frozen?, this]
theorem getElem?_set_cases {α : Type} (T : List α) (i j : Nat) (x e : α) (h : (T.set i x)[j]? = some e) : (j = i ∧ e = x) ∨ (j ≠ i ∧ T[j]? = some e) := by
  by_cases hj : j = i
  · subst hj
    left
    rw [List.getElem?_set_self' ] at h
    cases hT : T[j]? with
    | none => simp [hT] at h
    | some y => simp [hT] at h; exact ⟨rfl, h.symm⟩
  · right
    rw [List.getElem?_set_ne (Ne.symm hj)] at h
    exact ⟨hj, h⟩
theorem Tab.replace {w0 w w' : World} {T : List Ent} (hT : Tab w0 w T) {i : Nat} {e e' : Ent} (h : T[i]? = some e) (hm : e.wr = true) (hm' : e'.wr = true) (ho' : e'.own = true → e.own = true)
    (hblk : ∀ k, e'.blk k → e.blk k ∨ w.heap.size ≤ k) (hblk' : ∀ k, k < w.heap.size → e.blk k → k < w0.heap.size → e'.blk k) (hos : w'.os = w.os) (htape : w'.tape = w.tape) (hout : w'.output = w.output) (hsz : w.heap.size ≤ w'.heap.size)
    (hheap : ∀ k, k < w.heap.size → ¬ e.blk k → w'.heap[k]? = w.heap[k]?) (hok : e'.ok w') : Tab w0 w' (T.set i e') := by
  refine ⟨hos.trans hT.os, htape.trans hT.tape, hout.trans hT.output, Nat.le_trans hT.size hsz, ?_, ?_, ?_, ?_⟩
  · intro j x hx
    rcases getElem?_set_cases _ _ _ _ _ hx with ⟨_, rfl⟩ | ⟨hj, hx⟩
    · exact hok
    · refine x.stable w w' (fun b hb => hheap b (x.inb w b (hT.ok j x hx) hb) (fun hb' => ?_)) (hT.ok j x hx)
      exact hT.disj i j e x (Ne.symm hj) h hx (.inl hm) b hb' hb
  · intro k hk hno
    have hk' : k < w.heap.size := Nat.lt_of_lt_of_le hk hT.size
    have hi : i < T.length := by
      rcases Nat.lt_or_ge i T.length with h' | h'
      · exact h'
      · rw [List.getElem?_eq_none h'] at h; cases h
    have hne : ¬ e.blk k := fun hb => hno i e' (by simp [List.getElem?_set, hi]) hm' (hblk' k hk' hb hk)
    rw [hheap k hk' hne]
    refine hT.frame k hk (fun j x hx hxm => ?_)
    by_cases hj : j = i
    · subst hj
      rw [h] at hx; cases hx
      exact hne
    · exact hno j x (by rw [List.getElem?_set_ne (Ne.symm hj)]; exact hx) hxm
  · intro j x hx hxo k hk
    rcases getElem?_set_cases _ _ _ _ _ hx with ⟨_, rfl⟩ | ⟨hj, hx⟩
    · rcases hblk k hk with hk | hk
      · exact hT.own i e h (ho' hxo) k hk
      · exact Nat.le_trans hT.size hk
    · exact hT.own j x hx hxo k hk
  · intro j l x y hjl hx hy hxy k hk hk'
    rcases getElem?_set_cases _ _ _ _ _ hx with ⟨hji, hxe⟩ | ⟨hj, hx2⟩
    · rcases getElem?_set_cases _ _ _ _ _ hy with ⟨hli, hye⟩ | ⟨hl, hy2⟩
      · omega
      · rw [hxe] at hk
        rcases hblk k hk with hk2 | hk2
        · exact hT.disj i l e y (Ne.symm hl) h hy2 (.inl hm) k hk2 hk'
        · have := y.inb w k (hT.ok l y hy2) hk'; omega
    · rcases getElem?_set_cases _ _ _ _ _ hy with ⟨hli, hye⟩ | ⟨hl, hy2⟩
      · rw [hye] at hk'
        rcases hblk k hk' with hk2 | hk2
        · exact hT.disj j i x e hj hx2 h (.inr hm) k hk hk2
        · have := x.inb w k (hT.ok j x hx2) hk; omega
      · exact hT.disj j l x y hjl hx2 hy2 hxy k hk hk'
theorem Tab.store {w0 w : World} {T : List Ent} (hT : Tab w0 w T) {i b : Nat} {cs : List Value} {t : TypeId} {own : Bool} (h : T[i]? = some (.cells b cs t own)) (o : Nat) (v : Value) :
    Tab w0 (w.setCell ⟨b, o, none⟩ v) (T.set i (.cells b (cs.set o v) t own)) := by
  have hg : w.heap[b]? = some (.cells cs.toArray t (0, 0)) := hT.ok i _ h
  refine hT.replace (e := .cells b cs t own) (e' := .cells b (cs.set o v) t own) h rfl rfl id (fun k hk => .inl hk) (fun k _ hk _ => hk) rfl rfl rfl (by simp) (fun k _ hk => ?_) ?_
  · exact heap_setCell_other w ⟨b, o, none⟩ k v (fun hkb => hk hkb)
  · have := heap_setCell_same w b o cs.toArray t v hg
    simpa [Ent.ok] using this
theorem Tab.push {w0 w w' : World} {T : List Ent} (hT : Tab w0 w T) {e : Ent} (hos : w'.os = w.os) (htape : w'.tape = w.tape) (hout : w'.output = w.output) (hsz : w.heap.size ≤ w'.heap.size)
    (hheap : ∀ k, k < w.heap.size → w'.heap[k]? = w.heap[k]?) (hok : e.ok w') (hnew : ∀ k, e.blk k → w.heap.size ≤ k) : Tab w0 w' (e :: T) := by
  refine ⟨hos.trans hT.os, htape.trans hT.tape, hout.trans hT.output, Nat.le_trans hT.size hsz, ?_, ?_, ?_, ?_⟩
  · intro i x hx
    cases i with
    | zero => simp at hx; subst hx; exact hok
    | succ i =>
      simp at hx
      exact x.stable w w' (fun b hb => hheap b (x.inb w b (hT.ok i x hx) hb)) (hT.ok i x hx)
  · intro k hk hno
    rw [hheap k (Nat.lt_of_lt_of_le hk hT.size)]
    exact hT.frame k hk (fun i x hx => hno (i + 1) x (by simpa using hx))
  · intro i x hx hxo k hk
    cases i with
    | zero => simp at hx; subst hx; exact Nat.le_trans hT.size (hnew k hk)
    | succ i => simp at hx; exact hT.own i x hx hxo k hk
  · intro i j x y hij hx hy hxy k hk hk'
    cases i with
    | zero =>
      cases j with
      | zero => exact hij rfl
      | succ j =>
        simp at hx hy; subst hx
        have := y.inb w k (hT.ok j y hy) hk'
        have := hnew k hk
        omega
    | succ i =>
      cases j with
      | zero =>
        simp at hx hy; subst hy
        have := x.inb w k (hT.ok i x hx) hk
        have := hnew k hk'
        omega
      | succ j =>
        simp at hx hy
        exact hT.disj i j x y (by omega) hx hy hxy k hk hk'
theorem Tab.alloc {w0 w : World} {T : List Ent} (hT : Tab w0 w T) (c : Array Value) (t : TypeId) : Tab w0 (w.alloc (.cells c t)) (.cells w.heap.size c.toList t true :: T) := by
  refine hT.push (e := .cells w.heap.size c.toList t true) rfl rfl rfl (by simp) (fun k hk => Below.heap_alloc w _ k hk) ?_ (fun k hk => by have : k = w.heap.size := hk; omega)
  simp only [Ent.ok]
  rw [heap_alloc_new]
theorem Tab.below {w0 w w' : World} {T : List Ent} (hT : Tab w0 w T) (hb : Below w.heap.size w w') : Tab w0 w' T :=
  ⟨hb.os.trans hT.os, hb.tape.trans hT.tape, hb.output.trans hT.output, Nat.le_trans hT.size hb.size,
   fun i e h => e.stable w w' (fun b hbk => hb.block b (e.inb w b (hT.ok i e h) hbk)) (hT.ok i e h),
   fun k hk hno => (hb.block k (Nat.lt_of_lt_of_le hk hT.size)).trans (hT.frame k hk hno), hT.own, hT.disj⟩
theorem Tab.drew {w0 w : World} {T : List Ent} (hT : Tab w0 w T) : Tab w0 w.drew T := hT.below (Below.refl _ _).drew
theorem Tab.toBelow {w0 w : World} {T : List Ent} (hT : Tab w0 w T) (h : ∀ (i : Nat) (e : Ent), T[i]? = some e → e.wr = true → e.own = true) : Below w0.heap.size w0 w :=
  ⟨hT.os, hT.tape, hT.output, hT.size, fun k hk => hT.frame k hk (fun i e he hm hb => by
    have := hT.own i e he (h i e he hm) k hb
    omega)⟩
theorem Tab.drop {w0 w : World} {e : Ent} {T : List Ent} (hT : Tab w0 w (e :: T)) (h : e.wr = true → e.own = true) : Tab w0 w T :=
  ⟨hT.os, hT.tape, hT.output, hT.size, fun i x hx => hT.ok (i + 1) x (by simpa using hx),
   fun k hk hno => hT.frame k hk (fun i x hx hm hb => by
    cases i with
    | zero =>
      simp at hx; subst hx
      have := hT.own 0 e (by simp) (h hm) k hb
      omega
    | succ i => exact hno i x (by simpa using hx) hm hb),
   fun i x hx => hT.own (i + 1) x (by simpa using hx),
   fun i j x y hij hx hy => hT.disj (i + 1) (j + 1) x y (by omega) (by simpa using hx) (by simpa using hy)⟩
theorem Tab.addOld {w0 : World} {T : List Ent} (hT : Tab w0 w0 T) (e : Ent) (hok : e.ok w0) (hown : e.own = false) (hdis : ∀ (i : Nat) (x : Ent), T[i]? = some x → (e.wr = true ∨ x.wr = true) → ∀ k, e.blk k → ¬ x.blk k) : Tab w0 w0 (e :: T) := by
  refine ⟨rfl, rfl, rfl, Nat.le_refl _, ?_, fun k _ _ => rfl, ?_, ?_⟩
  · intro i x hx
    cases i with
    | zero => simp at hx; subst hx; exact hok
    | succ i => exact hT.ok i x (by simpa using hx)
  · intro i x hx hxo
    cases i with
    | zero => simp at hx; subst hx; rw [hown] at hxo; cases hxo
    | succ i => exact hT.own i x (by simpa using hx) hxo
  · intro i j x y hij hx hy hxy k hk hk'
    cases i with
    | zero =>
      cases j with
      | zero => exact hij rfl
      | succ j =>
        simp at hx hy; subst hx
        exact hdis j y hy hxy k hk hk'
    | succ i =>
      cases j with
      | zero =>
        simp at hx hy; subst hy
        exact hdis i x hx hxy.symm k hk' hk
      | succ j =>
        simp at hx hy
        exact hT.disj i j x y (by omega) hx hy hxy k hk hk'
def oneC : Value → Bool
  | .agg _ | .tuple _ => false
  | _ => true
def semRun {α : Type} (P : Program) : Sem α → Nat → List Nat → List Ent → Option (α × List Ent × List Nat × List (Nat × Nat))
  | .pure x, _, fs, T => some (x, T, fs, [])
  | .load _ a k, h, fs, T =>
    match (T[h]?).bind Ent.look, a.spot with
    | some (b, cs), none =>
      match cs[a.off]? with
      | some v => (semRun P (k v) h fs T).map fun r => (r.1, r.2.1, r.2.2.1, (a.block, b) :: r.2.2.2)
      | none => none
    | _, _ => none
  | .store _ a v k, h, fs, T =>
    match T[h]?, a.spot with
    | some (.cells b cs t own), none =>
      bif Nat.blt a.off cs.length && oneC v then
        (semRun P k h fs (T.set h (.cells b (cs.set a.off v) t own))).map fun r => (r.1, r.2.1, r.2.2.1, (a.block, b) :: r.2.2.2)
      else none
    | _, _ => none
  | .new o k, h, fs, T =>
    match o, fs with
    | .cells c t (0, 0), f :: fs => semRun P (k f) (h + 1) fs (.cells f c.toList t true :: T)
    | _, _ => none
  | .program k, h, fs, T => semRun P (k P) h fs T
  | .mark _ k, h, fs, T => semRun P k h fs T
  | _, _, _, _ => none
def eqs (E : List (Nat × Nat)) : Prop := E.map Prod.fst = E.map Prod.snd
theorem addr_eq {a : Addr} (h : a.spot = none) : a = ⟨a.block, a.off, none⟩ := by cases a; simp_all
theorem semRun_sound {α : Type} (P : Program) (w0 : World) (s : Sem α) : ∀ (h m : Nat) (T : List Ent) (w : World), Tab w0 w T → ∀ x T' fs' E, semRun P s h (List.range' w.heap.size m) T = some (x, T', fs', E) → eqs E →
    ∃ w' m', s.run P w = .ok x w' ∧ Tab w0 w' T' ∧ fs' = List.range' w'.heap.size m' ∧ w.heap.size ≤ w'.heap.size := by
  induction s with
  | pure y =>
    intro h m T w hT x T' fs' E he hE
    simp only [semRun, Option.some.injEq, Prod.mk.injEq] at he
    obtain ⟨rfl, rfl, rfl, rfl⟩ := he
    exact ⟨w, m, rfl, hT, rfl, Nat.le_refl _⟩
  | load md a k ih =>
    intro h m T w hT x T' fs' E he hE
    simp only [semRun] at he
    split at he
    · rename_i b cs hTh hsp
      split at he
      · rename_i v hv
        simp only [Option.map_eq_some_iff] at he
        obtain ⟨⟨x1, T1, fs1, E1⟩, hr, he⟩ := he
        simp only [Prod.mk.injEq] at he
        obtain ⟨rfl, rfl, rfl, rfl⟩ := he
        simp only [eqs, List.map_cons, List.cons.injEq] at hE
        obtain ⟨e, hTe, hlk⟩ := Option.bind_eq_some_iff.1 hTh
        have hc : w.cell? a = some v := by
          rw [addr_eq hsp, hE.1]; exact Ent.look_cell hlk (hT.ok h e hTe) hv
        obtain ⟨w', m', h1, h2, h3, h4⟩ := ih v h m T w hT _ _ _ _ hr hE.2
        exact ⟨w', m', by simp only [Sem.run, hc]; exact h1, h2, h3, h4⟩
      · cases he
    · cases he
  | store md a v k ih =>
    intro h m T w hT x T' fs' E he hE
    simp only [semRun] at he
    split at he
    · rename_i b cs t own hTh hsp
      cases hcond : (Nat.blt a.off cs.length && oneC v) with
      | false => simp [hcond] at he
      | true =>
        simp only [hcond, cond_true, Option.map_eq_some_iff] at he
        obtain ⟨⟨x1, T1, fs1, E1⟩, hr, he⟩ := he
        simp only [Prod.mk.injEq] at he
        obtain ⟨rfl, rfl, rfl, rfl⟩ := he
        simp only [eqs, List.map_cons, List.cons.injEq] at hE
        simp only [Bool.and_eq_true] at hcond
        have hlt : a.off < cs.length := by simpa using hcond.1
        have ha : a = ⟨b, a.off, none⟩ := by rw [← hE.1]; exact addr_eq hsp
        obtain ⟨u, hu⟩ : ∃ u, cs[a.off]? = some u := ⟨cs[a.off], List.getElem?_eq_getElem hlt⟩
        have hc : w.cell? a = some u := by
          rw [ha]; exact hT.cell hTh hu
        have hf : w.frozen? a = false := by rw [ha]; exact hT.free hTh
        have hT' : Tab w0 (w.setCell a v) (T.set h (.cells b (cs.set a.off v) t own)) := by
          have := hT.store hTh a.off v
          rw [← ha] at this; exact this
        have hsz : (w.setCell a v).heap.size = w.heap.size := by simp
        obtain ⟨w', m', h1, h2, h3, h4⟩ := ih h m _ (w.setCell a v) hT' _ _ _ _ (by rw [hsz]; exact hr) hE.2
        refine ⟨w', m', ?_, h2, h3, by omega⟩
        have hone := hcond.2
        cases v <;> simp only [oneC, Bool.false_eq_true] at hone <;> simp only [Sem.run, hc, hf, Bool.false_eq_true, if_false] <;> exact h1
    · cases he
  | new o k ih =>
    intro h m T w hT x T' fs' E he hE
    unfold semRun at he
    split at he
    · rename_i c t f fs hfs
      cases m with
      | zero => simp at hfs
      | succ m =>
        rw [List.range'_succ] at hfs
        simp only [List.cons.injEq] at hfs
        obtain ⟨rfl, rfl⟩ := hfs
        have hsz : (w.alloc (.cells c t)).heap.size = w.heap.size + 1 := by simp
        obtain ⟨w', m', h1, h2, h3, h4⟩ := ih w.heap.size (h + 1) m _ (w.alloc (.cells c t)) (hT.alloc c t) _ _ _ _ (by rw [hsz]; exact he) hE
        refine ⟨w', m', ?_, h2, h3, by omega⟩
        simp only [Sem.run]
        exact h1
    · cases he
  | program k ih =>
    intro h m T w hT x T' fs' E he hE
    simp only [semRun] at he
    obtain ⟨w', m', h1, h2, h3, h4⟩ := ih P h m T w hT _ _ _ _ he hE
    exact ⟨w', m', by simp only [Sem.run]; exact h1, h2, h3, h4⟩
  | mark mk k ih =>
    intro h m T w hT x T' fs' E he hE
    simp only [semRun] at he
    obtain ⟨w', m', h1, h2, h3, h4⟩ := ih h m T w hT _ _ _ _ he hE
    exact ⟨w', m', by simp only [Sem.run]; exact h1, h2, h3, h4⟩
  | shape r k ih => intro h m T w hT x T' fs' E he hE; simp [semRun] at he
  | freeze a n k ih => intro h m T w hT x T' fs' E he hE; simp [semRun] at he
  | frozen a k ih => intro h m T w hT x T' fs' E he hE; simp [semRun] at he
  | getObj r k ih => intro h m T w hT x T' fs' E he hE; simp [semRun] at he
  | setObj r o k ih => intro h m T w hT x T' fs' E he hE; simp [semRun] at he
  | choose q k ih => intro h m T w hT x T' fs' E he hE; simp [semRun] at he
  | sys c k ih => intro h m T w hT x T' fs' E he hE; simp [semRun] at he
  | halt h => intro h m T w hT x T' fs' E he hE; simp [semRun] at he
def semRead {α : Type} (P : Program) : Sem α → Nat → List Ent → Option (α × List (Nat × Nat))
  | .pure x, _, _ => some (x, [])
  | .load _ a k, h, T =>
    match (T[h]?).bind Ent.look, a.spot with
    | some (b, cs), none =>
      match cs[a.off]? with
      | some v => (semRead P (k v) h T).map fun r => (r.1, (a.block, b) :: r.2)
      | none => none
    | _, _ => none
  | .program k, h, T => semRead P (k P) h T
  | .mark _ k, h, T => semRead P k h T
  | _, _, _ => none
def Known (w : World) (T : List Ent) : Prop := ∀ (i : Nat) (e : Ent), T[i]? = some e → e.ok w
theorem semRead_sound {α : Type} (P : Program) (s : Sem α) : ∀ (h : Nat) (T : List Ent) (w : World), Known w T → ∀ x E, semRead P s h T = some (x, E) → eqs E → s.run P w = .ok x w := by
  induction s with
  | pure y =>
    intro h T w hT x E he hE
    simp only [semRead, Option.some.injEq, Prod.mk.injEq] at he
    obtain ⟨rfl, rfl⟩ := he
    rfl
  | load md a k ih =>
    intro h T w hT x E he hE
    simp only [semRead] at he
    split at he
    · rename_i b cs hTh hsp
      split at he
      · rename_i v hv
        simp only [Option.map_eq_some_iff] at he
        obtain ⟨⟨x1, E1⟩, hr, he⟩ := he
        simp only [Prod.mk.injEq] at he
        obtain ⟨rfl, rfl⟩ := he
        simp only [eqs, List.map_cons, List.cons.injEq] at hE
        obtain ⟨e, hTe, hlk⟩ := Option.bind_eq_some_iff.1 hTh
        have hc : w.cell? a = some v := by
          rw [addr_eq hsp, hE.1]; exact Ent.look_cell hlk (hT h e hTe) hv
        have := ih v h T w hT _ _ hr hE.2
        simp only [Sem.run, hc]; exact this
      · cases he
    · cases he
  | program k ih =>
    intro h T w hT x E he hE
    simp only [semRead] at he
    have := ih P h T w hT _ _ he hE
    simp only [Sem.run]; exact this
  | mark mk k ih =>
    intro h T w hT x E he hE
    simp only [semRead] at he
    have := ih h T w hT _ _ he hE
    simp only [Sem.run]; exact this
  | store md a v k ih => intro h T w hT x E he hE; simp [semRead] at he
  | new o k ih => intro h T w hT x E he hE; simp [semRead] at he
  | shape r k ih => intro h T w hT x E he hE; simp [semRead] at he
  | freeze a n k ih => intro h T w hT x E he hE; simp [semRead] at he
  | frozen a k ih => intro h T w hT x E he hE; simp [semRead] at he
  | getObj r k ih => intro h T w hT x E he hE; simp [semRead] at he
  | setObj r o k ih => intro h T w hT x E he hE; simp [semRead] at he
  | choose q k ih => intro h T w hT x E he hE; simp [semRead] at he
  | sys c k ih => intro h T w hT x E he hE; simp [semRead] at he
  | halt h => intro h T w hT x E he hE; simp [semRead] at he
def lk : List (Nat × Value) → Nat → Option Value
  | [], _ => none
  | (d, v) :: r, i => bif Nat.beq d i then some v else lk r i
structure FrOk (n : Nat) (tmps : Array Value) (L : List (Nat × Value)) : Prop where
  size : tmps.size = n
  at_ : ∀ d v, lk L d = some v → tmps[d]? = some v
theorem FrOk.put {n : Nat} {tmps : Array Value} {L : List (Nat × Value)} (h : FrOk n tmps L) {d : Nat} (hd : d < n) (v : Value) : FrOk n (tmps.setIfInBounds d v) ((d, v) :: L) := by
  refine ⟨by simp [h.size], fun d' v' h' => ?_⟩
  simp only [lk] at h'
  by_cases he : d = d'
  · subst he
    have : Nat.beq d d = true := by simp
    rw [this] at h'
    simp only [cond_true, Option.some.injEq] at h'
    subst h'
    simp [Array.getElem?_setIfInBounds, h.size, hd]
  · have : Nat.beq d d' = false := by
      cases hb : Nat.beq d d' with
      | false => rfl
      | true => exact absurd (Nat.eq_of_beq_eq_true hb) he
    rw [this] at h'
    simp only [cond_false] at h'
    rw [Array.getElem?_setIfInBounds_ne he]
    exact h.at_ d' v' h'
def evL (L : List (Nat × Value)) : Operand → Value
  | .tmp t => (lk L t).getD undef
  | .const v => v
  | .global g => .pointer (some ⟨g, 0, none⟩)
  | .func f => .func (.func f) #[] #[]
def knowsOp (L : List (Nat × Value)) : Operand → Bool
  | .tmp t => (lk L t).isSome
  | _ => true
def plainOp : Op → Bool
  | .select _ _ => false
  | _ => true
def knows (L : List (Nat × Value)) (o : Oper) : Bool := o.op.operands.toList.all (knowsOp L) && plainOp o.op
theorem execOp_evL {n : Nat} {a : Act} {L : List (Nat × Value)} (hf : FrOk n a.tmps L) {o : Oper} (h : knows L o = true) : execOp a.eval o = execOp (evL L) o := by
  simp only [knows, Bool.and_eq_true, List.all_eq_true] at h
  refine execOp_congr o (fun cs b hs => by rw [hs] at h; simp [plainOp] at h) (fun x hx => ?_)
  have := h.1 x (Array.mem_toList_iff.2 hx)
  cases x with
  | tmp t =>
    simp only [knowsOp, Option.isSome_iff_exists] at this
    obtain ⟨v, hv⟩ := this
    simp only [Act.eval, evL, hv, Option.getD_some]
    have := hf.at_ t v hv
    simp [Array.getD_eq_getD_getElem?, this]
  | const v => rfl
  | global g => rfl
  | func f => rfl
def wantB (ops : Array Oper) (o : Oper) (L : List (Nat × Value)) : Option Bool :=
  match o.guard with
  | none => some true
  | some (j, want) =>
    match (ops[j]?).bind (·.dst) with
    | none => none
    | some d =>
      match lk L d with
      | some (.bool b) => some (bif want then b else !b)
      | some (.tuple _) => some false
      | _ => none
theorem wantB_sound {n : Nat} {ops : Array Oper} {o : Oper} {a : Act} {L : List (Nat × Value)} (hf : FrOk n a.tmps L) {b : Bool} (h : wantB ops o L = some b) : Region.wanted o (yielded ops a.tmps) = b := by
  unfold wantB at h
  unfold Region.wanted
  split at h
  · rename_i hg; simp only [hg]; simpa using h
  · rename_i j want hg
    simp only [hg]
    split at h
    · cases h
    · rename_i d hd
      unfold yielded
      rw [hd]
      simp only [Option.bind_some]
      split at h
      · rename_i x hx
        rw [hf.at_ d _ hx]
        simp only [Option.some.injEq] at h
        subst h
        cases want <;> cases x <;> rfl
      · rename_i x hx
        rw [hf.at_ d _ hx]
        simp only [Option.some.injEq] at h
        subst h
        cases want <;> rfl
      · cases h
def putL (n : Nat) (dst : Option Tmp) (v : Value) (L : List (Nat × Value)) : Option (List (Nat × Value)) :=
  match dst with
  | none => some L
  | some d => bif Nat.blt d n then some ((d, v) :: L) else none
theorem putL_sound {n : Nat} {a : Act} {L L' : List (Nat × Value)} (hf : FrOk n a.tmps L) {dst : Option Tmp} {v : Value} (h : putL n dst v L = some L') : FrOk n (a.put dst v).tmps L' := by
  unfold putL at h
  cases dst with
  | none => simp at h; subst h; exact hf
  | some d =>
    simp only at h
    cases hd : Nat.blt d n with
    | false => simp [hd] at h
    | true =>
      simp only [hd, cond_true, Option.some.injEq] at h
      subst h
      exact hf.put (by simpa using hd) v
theorem put_defers (a : Act) (dst : Option Tmp) (v : Value) : (a.put dst v).defers = a.defers := by cases dst <;> rfl
def Cont (dfs : List Deferred) (K : Act → World → Prop) (n : Nat) (w0 : World) (L : List (Nat × Value)) (T : List Ent) : Prop :=
  ∀ a w, a.defers = dfs → FrOk n a.tmps L → Tab w0 w T → K a w
abbrev StepR := List (Nat × Value) × List Ent × List Nat × List (Nat × Nat)
def stepB (P : Program) (ops : Array Oper) (n i h : Nat) (fs : List Nat) (L : List (Nat × Value)) (T : List Ent) : Option StepR :=
  match ops[i]? with
  | none => none
  | some o =>
    match wantB ops o L with
    | some true =>
      bif knows L o then
        match semRun P (execOp (evL L) o) h fs T with
        | some (.value v, T', fs', E) => (putL n o.dst v L).map fun L' => (L', T', fs', E)
        | some (.skip, T', fs', E) => (putL n o.dst undef L).map fun L' => (L', T', fs', E)
        | _ => none
      else none
    | some false => (putL n o.dst undef L).map fun L' => (L', T, fs, [])
    | none => none
theorem stepB_sound {P : Program} {ops : Array Oper} {n i h m : Nat} {L L' : List (Nat × Value)} {T T' : List Ent} {fs' : List Nat} {E : List (Nat × Nat)} {w0 : World} {Q : Exit → Act → World → Prop} {K : Act → World → Prop} {a : Act} {w : World}
    (ha : a.defers = dfs) (hf : FrOk n a.tmps L) (hT : Tab w0 w T) (hs : stepB P ops n i h (List.range' w.heap.size m) L T = some (L', T', fs', E)) (hE : eqs E)
    (hK : ∀ a' w' m', a'.defers = dfs → FrOk n a'.tmps L' → Tab w0 w' T' → fs' = List.range' w'.heap.size m' → K a' w') : wpOp P ops Q i K a w := by
  unfold stepB at hs
  unfold wpOp
  split at hs
  · cases hs
  · rename_i o ho
    simp only [ho]
    split at hs
    · rename_i hw
      have hw' := wantB_sound hf hw
      simp only [hw', if_true]
      cases hkn : knows L o with
      | false => simp [hkn] at hs
      | true =>
        simp only [hkn, cond_true] at hs
        refine .inl ?_
        unfold Oper.wp
        rw [execOp_evL hf hkn]
        split at hs
        · rename_i v T1 fs1 E1 hr
          simp only [Option.map_eq_some_iff, Prod.mk.injEq] at hs
          obtain ⟨L1, hL1, rfl, rfl, rfl, rfl⟩ := hs
          obtain ⟨w', m', h1, h2, h3, _⟩ := semRun_sound P w0 _ h m T w hT _ _ _ _ hr hE
          rw [h1]
          exact hK _ w' m' (by rw [put_defers]; exact ha) (putL_sound hf hL1) h2 h3
        · rename_i T1 fs1 E1 hr
          simp only [Option.map_eq_some_iff, Prod.mk.injEq] at hs
          obtain ⟨L1, hL1, rfl, rfl, rfl, rfl⟩ := hs
          obtain ⟨w', m', h1, h2, h3, _⟩ := semRun_sound P w0 _ h m T w hT _ _ _ _ hr hE
          rw [h1]
          exact hK _ w' m' (by rw [put_defers]; exact ha) (putL_sound hf hL1) h2 h3
        · cases hs
    · rename_i hw
      have hw' := wantB_sound hf hw
      simp only [hw', Bool.false_eq_true, if_false]
      simp only [Option.map_eq_some_iff, Prod.mk.injEq] at hs
      obtain ⟨L1, hL1, rfl, rfl, rfl, rfl⟩ := hs
      exact hK _ w m (by rw [put_defers]; exact ha) (putL_sound hf hL1) hT rfl
    · cases hs
def PL (P : Program) (ops : Array Oper) (Q : Exit → Act → World → Prop) (i k : Nat) : Act → World → Prop := wpOps P ops Q (List.range' i k)
theorem PL_succ (P : Program) (ops : Array Oper) (Q : Exit → Act → World → Prop) (i k : Nat) (a : Act) (w : World) : PL P ops Q i (k + 1) a w = wpOp P ops Q i (PL P ops Q (i + 1) k) a w := by
  unfold PL
  rw [List.range'_succ, wpOps_cons]
def runB (P : Program) (ops : Array Oper) (n : Nat) : Nat → List Nat → List Nat → List (Nat × Value) → List Ent → Option StepR
  | _, [], fs, L, T => some (L, T, fs, [])
  | i, h :: hs, fs, L, T =>
    match stepB P ops n i h fs L T with
    | some (L', T', fs', E) => (runB P ops n (i + 1) hs fs' L' T').map fun r => (r.1, r.2.1, r.2.2.1, E ++ r.2.2.2)
    | none => none
theorem eqs_append {E F : List (Nat × Nat)} (h : eqs (E ++ F)) : eqs E ∧ eqs F := by
  simp only [eqs, List.map_append] at h ⊢
  exact List.append_inj h (by simp)
theorem runB_sound {P : Program} {ops : Array Oper} {n : Nat} {w0 : World} {Q : Exit → Act → World → Prop} {k : Nat} : ∀ (hs : List Nat) (i m : Nat) (L L' : List (Nat × Value)) (T T' : List Ent) (fs' : List Nat) (E : List (Nat × Nat)) (a : Act) (w : World),
    a.defers = dfs → FrOk n a.tmps L → Tab w0 w T → runB P ops n i hs (List.range' w.heap.size m) L T = some (L', T', fs', E) → eqs E →
    (∀ a' w', a'.defers = dfs → FrOk n a'.tmps L' → Tab w0 w' T' → PL P ops Q (i + hs.length) k a' w') → PL P ops Q i (hs.length + k) a w := by
  intro hs
  induction hs with
  | nil =>
    intro i m L L' T T' fs' E a w ha hf hT hr hE hK
    simp only [runB, Option.some.injEq, Prod.mk.injEq] at hr
    obtain ⟨rfl, rfl, rfl, rfl⟩ := hr
    have := hK a w ha hf hT
    simpa using this
  | cons h hs ih =>
    intro i m L L' T T' fs' E a w ha hf hT hr hE hK
    simp only [runB] at hr
    split at hr
    · rename_i L1 T1 fs1 E1 hst
      simp only [Option.map_eq_some_iff, Prod.mk.injEq] at hr
      obtain ⟨⟨L2, T2, fs2, E2⟩, hr, rfl, rfl, rfl, rfl⟩ := hr
      obtain ⟨hE1, hE2⟩ := eqs_append hE
      have e : (h :: hs).length + k = (hs.length + k) + 1 := by simp; omega
      rw [e, PL_succ]
      refine stepB_sound ha hf hT hst hE1 (fun a' w' m' ha' hf' hT' hfs => ?_)
      subst hfs
      refine ih (i + 1) m' L1 _ T1 _ _ _ a' w' ha' hf' hT' hr hE2 (fun a'' w'' ha'' hf'' hT'' => ?_)
      have := hK a'' w'' ha'' hf'' hT''
      simpa [Nat.add_assoc, Nat.add_comm 1] using this
    · cases hr
theorem FrOk.prune {n : Nat} {tmps : Array Value} {L : List (Nat × Value)} (h : FrOk n tmps L) : ∀ {L' : List (Nat × Value)}, (L'.map fun p => lk L p.1) = (L'.map fun p => some p.2) → FrOk n tmps L' := by
  intro L' hL
  refine ⟨h.size, fun d v hv => ?_⟩
  induction L' with
  | nil => simp [lk] at hv
  | cons p r ih =>
    obtain ⟨d', v'⟩ := p
    simp only [List.map_cons, List.cons.injEq] at hL
    simp only [lk] at hv
    cases hb : Nat.beq d' d with
    | true =>
      simp only [hb, cond_true, Option.some.injEq] at hv
      subst hv
      have := Nat.eq_of_beq_eq_true hb
      subst this
      exact h.at_ _ _ hL.1
    | false =>
      simp only [hb, cond_false] at hv
      exact ih hL.2 hv
def outB (keys : List Nat) (r : StepR) : List (Option Value) × List Ent × List Nat × List Nat := (keys.map (lk r.1), r.2.1, r.2.2.1, r.2.2.2.map Prod.fst)
def wishB (vals : List Value) (T : List Ent) (r : StepR) : List (Option Value) × List Ent × List Nat × List Nat := (vals.map some, T, [], r.2.2.2.map Prod.snd)
theorem batch_core {P : Program} {ops : Array Oper} {n i k : Nat} {w0 : World} {Q : Exit → Act → World → Prop} {L : List (Nat × Value)} {T : List Ent} (m : Nat) (hs : List Nat) (keys : List Nat) (vals : List Nat → List Value) (T' : List Nat → List Ent)
    (hl : ∀ fs, (vals fs).length = keys.length)
    (h1 : ∀ fs, fs.length = m → (runB P ops n i hs fs L T).isSome = true)
    (h2 : ∀ fs, fs.length = m → (runB P ops n i hs fs L T).map (outB keys) = (runB P ops n i hs fs L T).map (wishB (vals fs) (T' fs)))
    (hk : ∀ fs, fs.length = m → Cont dfs (PL P ops Q (i + hs.length) k) n w0 (keys.zip (vals fs)) (T' fs)) : Cont dfs (PL P ops Q i (hs.length + k)) n w0 L T := by
  intro a w ha hf hT
  have hlen : (List.range' w.heap.size m).length = m := by simp
  have e1 := h1 _ hlen
  have e2 := h2 _ hlen
  obtain ⟨⟨L1, T1, fs1, E1⟩, hr⟩ := Option.isSome_iff_exists.1 e1
  rw [hr] at e2
  simp only [Option.map_some, Option.some.injEq, outB, wishB, Prod.mk.injEq] at e2
  obtain ⟨hL, hTT, _, hE⟩ := e2
  refine runB_sound hs i m L L1 T T1 fs1 E1 a w ha hf hT hr hE (fun a' w' ha' hf' hT' => ?_)
  refine hk _ hlen a' w' ha' (hf'.prune ?_) (hTT ▸ hT')
  have hv := hl (List.range' w.heap.size m)
  generalize vals (List.range' w.heap.size m) = vs at hL hv
  clear hk h1 h2 e1 hf' hl
  induction keys generalizing vs with
  | nil => simp
  | cons d ks ih =>
    cases vs with
    | nil => simp at hv
    | cons v vs =>
      simp only [List.map_cons, List.cons.injEq] at hL
      simp only [List.zip_cons_cons, List.map_cons, List.cons.injEq]
      exact ⟨hL.1, ih vs hL.2 (by simpa using hv)⟩
theorem batch0 {P : Program} {ops : Array Oper} {n i k : Nat} {w0 : World} {Q : Exit → Act → World → Prop} {L : List (Nat × Value)} {T : List Ent} (hs : List Nat) (i' k' : Nat) (L' : List (Nat × Value)) (T' : List Ent) (hi : i' = i + hs.length) (hkk : k = hs.length + k')
    (h1 : (runB P ops n i hs [] L T).isSome = true)
    (h2 : (runB P ops n i hs [] L T).map (outB (L'.map Prod.fst)) = (runB P ops n i hs [] L T).map (wishB (L'.map Prod.snd) T'))
    (hk : Cont dfs (PL P ops Q i' k') n w0 L' T') : Cont dfs (PL P ops Q i k) n w0 L T := by
  subst hi; subst hkk
  refine batch_core 0 hs (L'.map Prod.fst) (fun _ => L'.map Prod.snd) (fun _ => T') (by simp) (fun fs hfs => ?_) (fun fs hfs => ?_) (fun fs hfs => ?_)
  · obtain rfl := List.eq_nil_of_length_eq_zero hfs; exact h1
  · obtain rfl := List.eq_nil_of_length_eq_zero hfs; exact h2
  · simpa [List.zip_map', Function.comp_def] using hk
theorem batch1 {P : Program} {ops : Array Oper} {n i k : Nat} {w0 : World} {Q : Exit → Act → World → Prop} {L : List (Nat × Value)} {T : List Ent} (hs : List Nat) (i' k' : Nat) (L' : Nat → List (Nat × Value)) (T' : Nat → List Ent) (hi : i' = i + hs.length) (hkk : k = hs.length + k') (keys : List Nat) (hkeys : ∀ b, (L' b).map Prod.fst = keys)
    (h1 : ∀ b, (runB P ops n i hs [b] L T).isSome = true)
    (h2 : ∀ b, (runB P ops n i hs [b] L T).map (outB keys) = (runB P ops n i hs [b] L T).map (wishB ((L' b).map Prod.snd) (T' b)))
    (hk : ∀ b, Cont dfs (PL P ops Q i' k') n w0 (L' b) (T' b)) : Cont dfs (PL P ops Q i k) n w0 L T := by
  subst hi; subst hkk
  have one : ∀ fs : List Nat, fs.length = 1 → fs = [fs.headD 0] := by
    intro fs h
    match fs, h with
    | [b], _ => rfl
  refine batch_core 1 hs keys (fun fs => (L' (fs.headD 0)).map Prod.snd) (fun fs => T' (fs.headD 0)) (fun fs => by rw [← hkeys (fs.headD 0)]; simp) (fun fs hfs => ?_) (fun fs hfs => ?_) (fun fs hfs => ?_)
  · rw [one fs hfs]; exact h1 _
  · rw [one fs hfs]; exact h2 _
  · have := hk (fs.headD 0)
    rw [← hkeys (fs.headD 0)]
    simpa [List.zip_map', Function.comp_def] using this
theorem batch2 {P : Program} {ops : Array Oper} {n i k : Nat} {w0 : World} {Q : Exit → Act → World → Prop} {L : List (Nat × Value)} {T : List Ent} (hs : List Nat) (i' k' : Nat) (L' : Nat → Nat → List (Nat × Value)) (T' : Nat → Nat → List Ent) (hi : i' = i + hs.length) (hkk : k = hs.length + k') (keys : List Nat) (hkeys : ∀ b c, (L' b c).map Prod.fst = keys)
    (h1 : ∀ b c, (runB P ops n i hs [b, c] L T).isSome = true)
    (h2 : ∀ b c, (runB P ops n i hs [b, c] L T).map (outB keys) = (runB P ops n i hs [b, c] L T).map (wishB ((L' b c).map Prod.snd) (T' b c)))
    (hk : ∀ b c, Cont dfs (PL P ops Q i' k') n w0 (L' b c) (T' b c)) : Cont dfs (PL P ops Q i k) n w0 L T := by
  subst hi; subst hkk
  have two : ∀ fs : List Nat, fs.length = 2 → fs = [fs.headD 0, fs.tail.headD 0] := by
    intro fs h
    match fs, h with
    | [b, c], _ => rfl
  refine batch_core 2 hs keys (fun fs => (L' (fs.headD 0) (fs.tail.headD 0)).map Prod.snd) (fun fs => T' (fs.headD 0) (fs.tail.headD 0)) (fun fs => by rw [← hkeys (fs.headD 0) (fs.tail.headD 0)]; simp) (fun fs hfs => ?_) (fun fs hfs => ?_) (fun fs hfs => ?_)
  · rw [two fs hfs]; exact h1 _ _
  · rw [two fs hfs]; exact h2 _ _
  · have := hk (fs.headD 0) (fs.tail.headD 0)
    rw [← hkeys (fs.headD 0) (fs.tail.headD 0)]
    simpa [List.zip_map', Function.comp_def] using this
theorem batch3 {P : Program} {ops : Array Oper} {n i k : Nat} {w0 : World} {Q : Exit → Act → World → Prop} {L : List (Nat × Value)} {T : List Ent} (hs : List Nat) (i' k' : Nat) (L' : Nat → Nat → Nat → List (Nat × Value)) (T' : Nat → Nat → Nat → List Ent) (hi : i' = i + hs.length) (hkk : k = hs.length + k') (keys : List Nat) (hkeys : ∀ b c d, (L' b c d).map Prod.fst = keys)
    (h1 : ∀ b c d, (runB P ops n i hs [b, c, d] L T).isSome = true)
    (h2 : ∀ b c d, (runB P ops n i hs [b, c, d] L T).map (outB keys) = (runB P ops n i hs [b, c, d] L T).map (wishB ((L' b c d).map Prod.snd) (T' b c d)))
    (hk : ∀ b c d, Cont dfs (PL P ops Q i' k') n w0 (L' b c d) (T' b c d)) : Cont dfs (PL P ops Q i k) n w0 L T := by
  subst hi; subst hkk
  have three : ∀ fs : List Nat, fs.length = 3 → fs = [fs.headD 0, fs.tail.headD 0, fs.tail.tail.headD 0] := by
    intro fs h
    match fs, h with
    | [b, c, d], _ => rfl
  refine batch_core 3 hs keys (fun fs => (L' (fs.headD 0) (fs.tail.headD 0) (fs.tail.tail.headD 0)).map Prod.snd) (fun fs => T' (fs.headD 0) (fs.tail.headD 0) (fs.tail.tail.headD 0)) (fun fs => by rw [← hkeys (fs.headD 0) (fs.tail.headD 0) (fs.tail.tail.headD 0)]; simp) (fun fs hfs => ?_) (fun fs hfs => ?_) (fun fs hfs => ?_)
  · rw [three fs hfs]; exact h1 _ _ _
  · rw [three fs hfs]; exact h2 _ _ _
  · have := hk (fs.headD 0) (fs.tail.headD 0) (fs.tail.tail.headD 0)
    rw [← hkeys (fs.headD 0) (fs.tail.headD 0) (fs.tail.tail.headD 0)]
    simpa [List.zip_map', Function.comp_def] using this
end Go.Proofs.Ytkfdmfclndaanaa
namespace Go.Proofs.Ytkfdmfclndaanaa
open Go Go.RowKit
section
variable {dfs : List Deferred} {P : Program} {Q : Exit → Act → World → Prop} {n : Nat} {w0 : World} {L : List (Nat × Value)} {T : List Ent}
theorem enter_lk {args : Array Value} {k : Nat} (hL : (L.map fun p => args[p.1]?) = (L.map fun p => some p.2)) : ∀ d v, lk L d = some v → (args ++ Array.replicate k undef)[d]? = some v := by
  intro d v hv
  have key : args[d]? = some v := by
    induction L with
    | nil => simp [lk] at hv
    | cons p r ih =>
      obtain ⟨d', v'⟩ := p
      simp only [List.map_cons, List.cons.injEq] at hL
      simp only [lk] at hv
      cases hbq : Nat.beq d' d with
      | true =>
        simp only [hbq, cond_true, Option.some.injEq] at hv
        subst hv
        have := Nat.eq_of_beq_eq_true hbq
        subst this
        exact hL.1
      | false =>
        simp only [hbq, cond_false] at hv
        exact ih hL.2 hv
  have hlt := (Array.getElem?_eq_some_iff.1 key).1
  show (args ++ _)[d]? = some v
  rw [Array.getElem?_append_left hlt]
  exact key
theorem enter {f : FuncId} {fn : Func} {c : Code} {args : Array Value} {w : World} {R : Ending → World → Prop} (n : Nat) (L : List (Nat × Value)) (T : List Ent) (hf : P.funcs[f]? = some fn) (hb : fn.body = some c) (hn : fn.ntmps = n) (hsz : Nat.ble args.size n = true)
    (hL : (L.map fun p => args[p.1]?) = (L.map fun p => some p.2)) (hT : Tab w w T) (h : Cont [] (c.wp P (bodyPost P fn R)) n w L T) : Calls P f args w R := by
  subst hn
  refine calls_of_wp hf hb (h _ _ rfl ⟨?_, ?_⟩ hT)
  · have := Nat.le_of_ble_eq_true hsz
    simp; omega
  · exact enter_lk hL
theorem cSq {x y : Code} (h : Cont dfs (x.wp P (Exit.then (y.wp P Q) Q)) n w0 L T) : Cont dfs ((Code.seq x y).wp P Q) n w0 L T :=
  fun a w ha hf hT => wp_seq (h a w ha hf hT)
theorem cRg {id : Nat} {ops : Array Oper} (k : Nat) (hk : ops.size = k) (h : Cont dfs (PL P ops Q 0 k) n w0 L T) : Cont dfs ((Code.region id ops false).wp P Q) n w0 L T :=
  fun a w ha hf hT => wp_region (by
    have := h a w ha hf hT
    unfold PL at this
    rw [List.range_eq_range', hk]; exact this)
theorem cDn {ops : Array Oper} {i : Nat} (h : Cont dfs (Q .normal) n w0 L T) : Cont dfs (PL P ops Q i 0) n w0 L T :=
  fun a w ha hf hT => by
    have := h a w ha hf hT
    simpa [PL, wpOps] using this
theorem tNo {K : Act → World → Prop} (h : Cont dfs K n w0 L T) : Cont dfs (Exit.then K Q .normal) n w0 L T := h
theorem then_ret {K : Act → World → Prop} (h : Cont dfs (Q .ret) n w0 L T) : Cont dfs (Exit.then K Q .ret) n w0 L T := h
theorem then_exit {K : Act → World → Prop} {id : Nat} (h : Cont dfs (Q (.exit id)) n w0 L T) : Cont dfs (Exit.then K Q (.exit id)) n w0 L T := h
theorem blk_normal {id : Nat} (h : Cont dfs (Q .normal) n w0 L T) : Cont dfs (Exit.inBlock id Q .normal) n w0 L T := h
theorem blk_ret {id : Nat} (h : Cont dfs (Q .ret) n w0 L T) : Cont dfs (Exit.inBlock id Q .ret) n w0 L T := h
theorem blk_exit {id : Nat} (h : Cont dfs (Q .normal) n w0 L T) : Cont dfs (Exit.inBlock id Q (.exit id)) n w0 L T :=
  fun a w ha hf hT => by
    show (if id = id then Q .normal a w else Q (.exit id) a w)
    rw [if_pos rfl]; exact h a w ha hf hT
theorem cont_skip (h : Cont dfs (Q .normal) n w0 L T) : Cont dfs (Code.skip.wp P Q) n w0 L T := fun a w ha hf hT => wp_skip (h a w ha hf hT)
theorem cont_ret (h : Cont dfs (Q .ret) n w0 L T) : Cont dfs (Code.ret.wp P Q) n w0 L T := fun a w ha hf hT => wp_ret (h a w ha hf hT)
theorem cont_exit {id : Nat} (h : Cont dfs (Q (.exit id)) n w0 L T) : Cont dfs ((Code.exit id).wp P Q) n w0 L T := fun a w ha hf hT => wp_exit (h a w ha hf hT)
theorem cont_block {id : Nat} {c : Code} (h : Cont dfs (c.wp P (Exit.inBlock id Q)) n w0 L T) : Cont dfs ((Code.block id c).wp P Q) n w0 L T := fun a w ha hf hT => wp_block (h a w ha hf hT)
def knownB (L : List (Nat × Value)) (x : Operand) : Option Value :=
  match x with
  | .tmp t => lk L t
  | .const v => some v
  | _ => none
theorem knownB_eval {a : Act} (hf : FrOk n a.tmps L) {x : Operand} {v : Value} (h : knownB L x = some v) : a.eval x = v := by
  cases x with
  | tmp t =>
    have := hf.at_ t v h
    simp [Act.eval, Array.getD_eq_getD_getElem?, this]
  | const u => simpa [knownB, Act.eval] using h
  | global g => simp [knownB] at h
  | func f => simp [knownB] at h
theorem cTr {c : Operand} {x y : Code} (hc : knownB L c = some (.bool true)) (h : Cont dfs (x.wp P Q) n w0 L T) : Cont dfs ((Code.cond c x y).wp P Q) n w0 L T :=
  fun a w ha hf hT => wp_cond_true (knownB_eval hf hc) (h a w ha hf hT)
theorem cFa {c : Operand} {x y : Code} (hc : knownB L c = some (.bool false)) (h : Cont dfs (y.wp P Q) n w0 L T) : Cont dfs ((Code.cond c x y).wp P Q) n w0 L T :=
  fun a w ha hf hT => wp_cond_false (knownB_eval hf hc) (h a w ha hf hT)
theorem cSp {K : Act → World → Prop} (s : Nat) (b : Bool) (hs : lk L s = some (.bool b)) (ht : b = true → Cont dfs K n w0 ((s, .bool true) :: L) T) (hf : b = false → Cont dfs K n w0 ((s, .bool false) :: L) T) : Cont dfs K n w0 L T := by
  have frok : ∀ tmps, FrOk n tmps L → FrOk n tmps ((s, .bool b) :: L) := fun tmps h => ⟨h.size, fun d v hv => by
    simp only [lk] at hv
    cases hb : Nat.beq s d with
    | true =>
      simp only [hb, cond_true, Option.some.injEq] at hv
      subst hv
      have := Nat.eq_of_beq_eq_true hb
      subst this
      exact h.at_ _ _ hs
    | false =>
      simp only [hb, cond_false] at hv
      exact h.at_ _ _ hv⟩
  intro a w ha hfr hT
  cases b with
  | true => exact ht rfl a w ha (frok _ hfr) hT
  | false => exact hf rfl a w ha (frok _ hfr) hT
theorem cRc {K : Act → World → Prop} (s : Nat) (v v' : Value) (hs : lk L s = some v) (hv : v = v') (h : Cont dfs K n w0 ((s, v') :: L) T) : Cont dfs K n w0 L T := by
  subst hv
  intro a w ha hfr hT
  refine h a w ha ⟨hfr.size, fun d u hu => ?_⟩ hT
  simp only [lk] at hu
  cases hb : Nat.beq s d with
  | true =>
    simp only [hb, cond_true, Option.some.injEq] at hu
    subst hu
    have := Nat.eq_of_beq_eq_true hb
    subst this
    exact hfr.at_ _ _ hs
  | false =>
    simp only [hb, cond_false] at hu
    exact hfr.at_ _ _ hu
def Again (dfs : List Deferred) {α : Type} (Inv : α → Prop) (Lf : α → List (Nat × Value)) (Tf : α → List Ent) (m : α → Nat) (n : Nat) (w0 : World) (x : α) : Act → World → Prop :=
  fun a w => ∃ y, Inv y ∧ m y < m x ∧ a.defers = dfs ∧ FrOk n a.tmps (Lf y) ∧ Tab w0 w (Tf y)
theorem cont_loop {α : Type} {body : Code} (Inv : α → Prop) (Lf : α → List (Nat × Value)) (Tf : α → List Ent) (m : α → Nat) (x0 : α) (hinv : Inv x0)
    (hL : ((Lf x0).map fun p => lk L p.1) = ((Lf x0).map fun p => some p.2)) (hTf : Tf x0 = T)
    (round : ∀ x, Inv x → Cont dfs (body.wp P (Exit.then (Again dfs Inv Lf Tf m n w0 x) Q)) n w0 (Lf x) (Tf x)) : Cont dfs ((Code.loop body).wp P Q) n w0 L T := by
  subst hTf
  intro a w ha hf hT
  refine wp_loop_ghost (fun k a' w' => ∃ x, m x = k ∧ Inv x ∧ a'.defers = dfs ∧ FrOk n a'.tmps (Lf x) ∧ Tab w0 w' (Tf x)) (m x0) ⟨x0, rfl, hinv, ha, hf.prune hL, hT⟩ ?_
  rintro k a' w' ⟨x, rfl, hx, ha', hf', hT'⟩
  refine Code.wp_mono (fun e a'' w'' h => ?_) (round x hx a' w' ha' hf' hT')
  cases e with
  | normal =>
    obtain ⟨y, h1, h2, h3, h4, h5⟩ := h
    exact ⟨m y, h2, y, rfl, h1, h3, h4, h5⟩
  | _ => exact h
theorem cont_again {α : Type} {Inv : α → Prop} {Lf : α → List (Nat × Value)} {Tf : α → List Ent} {m : α → Nat} {x : α} (y : α) (hinv : Inv y) (hm : m y < m x) (hL : ((Lf y).map fun p => lk L p.1) = ((Lf y).map fun p => some p.2)) (hT : Tf y = T) : Cont dfs (Again dfs Inv Lf Tf m n w0 x) n w0 L T := by
  subst hT
  exact fun a w ha hf hT => ⟨y, hinv, hm, ha, hf.prune hL, hT⟩
theorem cont_norm {K : Act → World → Prop} (L' : List (Nat × Value)) (T' : List Ent) (hL : (L'.map fun p => lk L p.1) = (L'.map fun p => some p.2)) (hT : T = T') (h : Cont dfs K n w0 L' T') : Cont dfs K n w0 L T := by
  subst hT
  exact fun a w ha hf hT => h a w ha (hf.prune hL) hT
def resE (P : Program) (L : List (Nat × Value)) : ResultVar → Sem Value
  | .tmp t => match lk L t with
    | some v => .pure v
    | none => stuck "a slot that is not known"
  | .cell a t => match lk L a with
    | some v => do loadVar t (← asAddr v)
    | none => stuck "a slot that is not known"
def resT (tmps : Array Value) : ResultVar → Sem Value
  | .tmp t => pure (tmps.getD t undef)
  | .cell a t => do loadVar t (← asAddr (tmps.getD a undef))
theorem resE_run {tmps : Array Value} (hf : FrOk n tmps L) (r : ResultVar) (h : Nat) (x : Value) (E : List (Nat × Nat)) (hs : semRead P (resE P L r) h T = some (x, E)) : resE P L r = resT tmps r := by
  cases r with
  | tmp t =>
    simp only [resE] at hs ⊢
    cases hl : lk L t with
    | none => rw [hl] at hs; simp [stuck, semRead] at hs
    | some v =>
      have := hf.at_ t v hl
      simp only [resT, Array.getD_eq_getD_getElem?, this, Option.getD_some]
      rfl
  | cell a t =>
    simp only [resE] at hs ⊢
    cases hl : lk L a with
    | none => rw [hl] at hs; simp [stuck, semRead] at hs
    | some v =>
      have := hf.at_ a v hl
      simp only [resT, Array.getD_eq_getD_getElem?, this, Option.getD_some]
def readB (P : Program) (L : List (Nat × Value)) (T : List Ent) (r : ResultVar) (h : Nat) : Option (Value × List (Nat × Nat)) := semRead P (resE P L r) h T
def readO (r : Value × List (Nat × Nat)) : Value × List Nat := (r.1, r.2.map Prod.fst)
def readW (v : Value) (r : Value × List (Nat × Nat)) : Value × List Nat := (v, r.2.map Prod.snd)
theorem readB_run {w : World} {tmps : Array Value} (hf : FrOk n tmps L) (hT : Tab w0 w T) {r : ResultVar} {h : Nat} {v : Value} (h1 : (readB P L T r h).isSome = true) (h2 : (readB P L T r h).map readO = (readB P L T r h).map (readW v)) : (resT tmps r).run P w = .ok v w := by
  obtain ⟨⟨x, E⟩, hr⟩ := Option.isSome_iff_exists.1 h1
  rw [hr] at h2
  simp only [Option.map_some, Option.some.injEq, readO, readW, Prod.mk.injEq] at h2
  obtain ⟨rfl, hE⟩ := h2
  rw [← resE_run (P := P) hf r h _ E hr]
  exact semRead_sound P _ h T w hT.ok _ E hr hE
theorem results_eq (fn : Func) (tmps : Array Value) : results fn tmps = (do let vs ← fn.results.mapM (resT tmps); pure (if h : vs.size = 1 then vs[0] else .tuple vs)) := by
  unfold results
  have : (fun x => match x with
    | ResultVar.tmp t => (pure (tmps.getD t undef) : Sem Value)
    | .cell a t => do loadVar t (← asAddr (tmps.getD a undef))) = resT tmps := by
    funext r; cases r <;> rfl
  rw [← this]
  rfl
theorem results_one {fn : Func} {r : ResultVar} (h : fn.results = #[r]) {tmps : Array Value} {w : World} {v : Value} (hr : (resT tmps r).run P w = .ok v w) : (results fn tmps).run P w = .ok v w := by
  rw [results_eq, h]
  simp [Sem.run_bind, hr]
theorem results_two {fn : Func} {r s : ResultVar} (h : fn.results = #[r, s]) {tmps : Array Value} {w : World} {v u : Value} (hr : (resT tmps r).run P w = .ok v w) (hs : (resT tmps s).run P w = .ok u w) : (results fn tmps).run P w = .ok (.tuple #[v, u]) w := by
  rw [results_eq, h]
  simp [Sem.run_bind, hr, hs]
theorem results_three {fn : Func} {r s q : ResultVar} (h : fn.results = #[r, s, q]) {tmps : Array Value} {w : World} {v u x : Value} (hr : (resT tmps r).run P w = .ok v w) (hs : (resT tmps s).run P w = .ok u w) (hq : (resT tmps q).run P w = .ok x w) : (results fn tmps).run P w = .ok (.tuple #[v, u, x]) w := by
  rw [results_eq, h]
  simp [Sem.run_bind, hr, hs, hq]
theorem ret_one {fn : Func} {R : Ending → World → Prop} {e : Exit} (he : e = .ret ∨ e = .normal) {r : ResultVar} (hres : fn.results = #[r]) (h : Nat) (v : Value) (h1 : (readB P L T r h).isSome = true) (h2 : (readB P L T r h).map readO = (readB P L T r h).map (readW v))
    (hR : ∀ w, Tab w0 w T → R (.returned v) w) : Cont [] (bodyPost P fn R e) n w0 L T := by
  intro a w ha hf hT
  have := results_one hres (readB_run hf hT h1 h2)
  rcases he with rfl | rfl <;> exact ⟨ha, _, this, hR w hT⟩
theorem ret_two {fn : Func} {R : Ending → World → Prop} {e : Exit} (he : e = .ret ∨ e = .normal) {r s : ResultVar} (hres : fn.results = #[r, s]) (h g : Nat) (v u : Value) (h1 : (readB P L T r h).isSome = true) (h2 : (readB P L T r h).map readO = (readB P L T r h).map (readW v)) (g1 : (readB P L T s g).isSome = true) (g2 : (readB P L T s g).map readO = (readB P L T s g).map (readW u))
    (hR : ∀ w, Tab w0 w T → R (.returned (.tuple #[v, u])) w) : Cont [] (bodyPost P fn R e) n w0 L T := by
  intro a w ha hf hT
  have := results_two hres (readB_run hf hT h1 h2) (readB_run hf hT g1 g2)
  rcases he with rfl | rfl <;> exact ⟨ha, _, this, hR w hT⟩
theorem ret_three {fn : Func} {R : Ending → World → Prop} {e : Exit} (he : e = .ret ∨ e = .normal) {r s q : ResultVar} (hres : fn.results = #[r, s, q]) (h g f : Nat) (v u x : Value) (h1 : (readB P L T r h).isSome = true) (h2 : (readB P L T r h).map readO = (readB P L T r h).map (readW v)) (g1 : (readB P L T s g).isSome = true) (g2 : (readB P L T s g).map readO = (readB P L T s g).map (readW u)) (f1 : (readB P L T q f).isSome = true) (f2 : (readB P L T q f).map readO = (readB P L T q f).map (readW x))
    (hR : ∀ w, Tab w0 w T → R (.returned (.tuple #[v, u, x])) w) : Cont [] (bodyPost P fn R e) n w0 L T := by
  intro a w ha hf hT
  have := results_three hres (readB_run hf hT h1 h2) (readB_run hf hT g1 g2) (readB_run hf hT f1 f2)
  rcases he with rfl | rfl <;> exact ⟨ha, _, this, hR w hT⟩
theorem ret_none {fn : Func} {R : Ending → World → Prop} {e : Exit} (he : e = .ret ∨ e = .normal) (hres : fn.results = #[]) (hR : ∀ w, Tab w0 w T → R (.returned (.tuple #[])) w) : Cont [] (bodyPost P fn R e) n w0 L T := by
  intro a w ha hf hT
  have := results_none hres a.tmps P w
  rcases he with rfl | rfl <;> exact ⟨ha, _, this, hR w hT⟩
def semPure {α : Type} (P : Program) : Sem α → Option α
  | .pure x => some x
  | .program k => semPure P (k P)
  | .mark _ k => semPure P k
  | _ => none
theorem semPure_sound {α : Type} (P : Program) (s : Sem α) : ∀ x, semPure P s = some x → ∀ w, s.run P w = .ok x w := by
  induction s with
  | pure y => intro x h w; simp only [semPure, Option.some.injEq] at h; subst h; rfl
  | program k ih => intro x h w; simp only [semPure] at h; have := ih P x h w; simp only [Sem.run]; exact this
  | mark mk k ih => intro x h w; simp only [semPure] at h; have := ih x h w; simp only [Sem.run]; exact this
  | load md a k ih => intro x h; simp [semPure] at h
  | store md a v k ih => intro x h; simp [semPure] at h
  | new o k ih => intro x h; simp [semPure] at h
  | shape r k ih => intro x h; simp [semPure] at h
  | freeze a n k ih => intro x h; simp [semPure] at h
  | frozen a k ih => intro x h; simp [semPure] at h
  | getObj r k ih => intro x h; simp [semPure] at h
  | setObj r o k ih => intro x h; simp [semPure] at h
  | choose q k ih => intro x h; simp [semPure] at h
  | sys c k ih => intro x h; simp [semPure] at h
  | halt h' => intro x h; simp [semPure] at h
def callB (P : Program) (ops : Array Oper) (n i : Nat) (L : List (Nat × Value)) : Option (Option Tmp × FuncId × Array Value) :=
  match ops[i]? with
  | none => none
  | some o =>
    match wantB ops o L with
    | some true =>
      bif knows L o then
        match semPure P (execOp (evL L) o) with
        | some (.enter f args) =>
          match o.dst with
          | none => some (none, f, args)
          | some d => bif Nat.blt d n then some (some d, f, args) else none
        | _ => none
      else none
    | _ => none
def putD (dst : Option Tmp) (v : Value) (L : List (Nat × Value)) : List (Nat × Value) :=
  match dst with
  | none => L
  | some d => (d, v) :: L
theorem call_core {ops : Array Oper} {i : Nat} {K : Act → World → Prop} {dst : Option Tmp} {f : FuncId} {args : Array Value} (H : callB P ops n i L = some (dst, f, args))
    (hc : ∀ w, Tab w0 w T → Calls P f args w fun e w' => ∃ v T', e = .returned v ∧ Tab w0 w' T' ∧ Cont dfs K n w0 (putD dst v L) T') : Cont dfs (wpOp P ops Q i K) n w0 L T := by
  intro a w ha hf hT
  unfold callB at H
  unfold wpOp
  split at H
  · cases H
  · rename_i o ho
    simp only [ho]
    split at H
    · rename_i hw
      have hw' := wantB_sound hf hw
      simp only [hw', if_true]
      cases hkn : knows L o with
      | false => simp [hkn] at H
      | true =>
        simp only [hkn, cond_true] at H
        refine .inl ?_
        unfold Oper.wp
        rw [execOp_evL hf hkn]
        split at H
        · rename_i f' args' hp
          rw [semPure_sound P _ _ hp w]
          have hd : o.dst = dst ∧ f' = f ∧ args' = args ∧ (∀ d, dst = some d → d < n) := by
            cases hdst : o.dst with
            | none => simp only [hdst, Option.some.injEq, Prod.mk.injEq] at H; obtain ⟨rfl, rfl, rfl⟩ := H; exact ⟨rfl, rfl, rfl, fun d h => by cases h⟩
            | some d =>
              simp only [hdst] at H
              cases hb : Nat.blt d n with
              | false => simp [hb] at H
              | true =>
                simp only [hb, cond_true, Option.some.injEq, Prod.mk.injEq] at H
                obtain ⟨rfl, rfl, rfl⟩ := H
                exact ⟨rfl, rfl, rfl, fun d' h => by cases h; simpa using hb⟩
          obtain ⟨hd1, rfl, rfl, hd4⟩ := hd
          refine (hc w hT).mono ?_
          rintro e w' ⟨v, T', rfl, hT', hK⟩
          show K (a.put o.dst v) w'
          refine hK _ _ (by rw [put_defers]; exact ha) ?_ hT'
          rw [hd1]
          cases dst with
          | none => exact hf
          | some d => exact hf.put (hd4 d rfl) v
        · cases H
    · cases H
theorem call_pure {ops : Array Oper} {i : Nat} {K : Act → World → Prop} {d : Tmp} {f : FuncId} {args : Array Value} (v : Value) (H : callB P ops n i L = some (some d, f, args))
    (hc : ∀ w, Tab w0 w T → Calls P f args w fun e w' => e = .returned v ∧ Below w.heap.size w w') (hk : Cont dfs K n w0 ((d, v) :: L) T) : Cont dfs (wpOp P ops Q i K) n w0 L T :=
  call_core H fun w hT => (hc w hT).mono fun e w' ⟨he, hb⟩ => ⟨v, T, he, hT.below hb, hk⟩
theorem call_gen {ops : Array Oper} {i : Nat} {K : Act → World → Prop} {d : Tmp} {f : FuncId} {args : Array Value} {α : Type} (v : α → Value) (T' : α → List Ent) (G : α → Prop) (H : callB P ops n i L = some (some d, f, args))
    (hc : ∀ w, Tab w0 w T → Calls P f args w fun e w' => ∃ x, e = .returned (v x) ∧ G x ∧ Tab w0 w' (T' x)) (hk : ∀ x, G x → Cont dfs K n w0 ((d, v x) :: L) (T' x)) : Cont dfs (wpOp P ops Q i K) n w0 L T :=
  call_core H fun w hT => (hc w hT).mono fun e w' ⟨x, he, hg, hT'⟩ => ⟨v x, T' x, he, hT', hk x hg⟩
theorem pSt {ops : Array Oper} {i k : Nat} (i' k' : Nat) (hi : i' = i + 1) (hkk : k = k' + 1) (h : Cont dfs (wpOp P ops Q i (PL P ops Q i' k')) n w0 L T) : Cont dfs (PL P ops Q i k) n w0 L T := by
  subst hi; subst hkk
  intro a w ha hf hT
  rw [PL_succ]
  exact h a w ha hf hT
theorem one_step {ops : Array Oper} {i : Nat} {K : Act → World → Prop} (h : Nat) (L' : List (Nat × Value)) (T' : List Ent)
    (h1 : (stepB P ops n i h [] L T).isSome = true)
    (h2 : (stepB P ops n i h [] L T).map (outB (L'.map Prod.fst)) = (stepB P ops n i h [] L T).map (wishB (L'.map Prod.snd) T'))
    (hk : Cont dfs K n w0 L' T') : Cont dfs (wpOp P ops Q i K) n w0 L T := by
  intro a w ha hf hT
  obtain ⟨⟨L1, T1, fs1, E1⟩, hr⟩ := Option.isSome_iff_exists.1 h1
  rw [hr] at h2
  simp only [Option.map_some, Option.some.injEq, outB, wishB, Prod.mk.injEq] at h2
  obtain ⟨hL, hTT, _, hE⟩ := h2
  refine stepB_sound (m := 0) ha hf hT (by simpa using hr) hE (fun a' w' m' ha' hf' hT' _ => hk a' w' ha' (hf'.prune ?_) (hTT ▸ hT'))
  simpa [List.map_map, Function.comp_def] using hL
theorem one_step1 {ops : Array Oper} {i : Nat} {K : Act → World → Prop} (h : Nat) (L' : Nat → List (Nat × Value)) (T' : Nat → List Ent)
    (h1 : ∀ b, (stepB P ops n i h [b] L T).isSome = true)
    (h2 : ∀ b, (stepB P ops n i h [b] L T).map (outB ((L' b).map Prod.fst)) = (stepB P ops n i h [b] L T).map (wishB ((L' b).map Prod.snd) (T' b)))
    (hk : ∀ b, Cont dfs K n w0 (L' b) (T' b)) : Cont dfs (wpOp P ops Q i K) n w0 L T := by
  intro a w ha hf hT
  have h1 := h1 w.heap.size
  have h2 := h2 w.heap.size
  obtain ⟨⟨L1, T1, fs1, E1⟩, hr⟩ := Option.isSome_iff_exists.1 h1
  rw [hr] at h2
  simp only [Option.map_some, Option.some.injEq, outB, wishB, Prod.mk.injEq] at h2
  obtain ⟨hL, hTT, _, hE⟩ := h2
  refine stepB_sound (m := 1) ha hf hT (by simpa using hr) hE (fun a' w' m' ha' hf' hT' _ => hk w.heap.size a' w' ha' (hf'.prune ?_) (hTT ▸ hT'))
  simpa [List.map_map, Function.comp_def] using hL
def marked (m : Nat) (l : List Nat) : Array Bool := l.foldr (fun i a => a.setIfInBounds i true) (Array.replicate m false)
def AH (P : Program) (ops : Array Oper) (Q : Exit → Act → World → Prop) (S : World → Prop) (m fuel : Nat) (l : List Nat) : Act → World → Prop := wpAnyH P .any ops Q S fuel (marked m l)
def triv : Ent := .gen { blk := fun _ => False, wr := false, own := false, ok := fun _ => True, stable := fun _ _ _ _ => trivial, inb := fun _ _ _ h => h.elim }
def dropT (ds : List Nat) (T : List Ent) : List Ent := ds.foldl (fun T i => T.set i triv) T
def PanicOk (Q : Exit → Act → World → Prop) : Prop := ∀ c a d v w, Q (.panic c) (a.put d v) w → Q (.panic c) a w
theorem pok_body {fn : Func} {R : Ending → World → Prop} : PanicOk (bodyPost P fn R) := fun c a d v w h => by
  simp only [bodyPost, put_defers] at h ⊢; exact h
theorem pok_then {K : Act → World → Prop} (h : PanicOk Q) : PanicOk (Exit.then K Q) := fun c a d v w hh => h c a d v w hh
theorem pok_blk {id : Nat} (h : PanicOk Q) : PanicOk (Exit.inBlock id Q) := fun c a d v w hh => h c a d v w hh
theorem known_triv {w : World} {T : List Ent} (h : Known w T) (i : Nat) : Known w (T.set i triv) := by
  intro j e hj
  rcases getElem?_set_cases _ _ _ _ _ hj with ⟨_, rfl⟩ | ⟨_, hj⟩
  · trivial
  · exact h j e hj
theorem known_dropT {w : World} : ∀ (ds : List Nat) (T : List Ent), Known w T → Known w (dropT ds T) := by
  intro ds
  induction ds with
  | nil => intro T h; exact h
  | cons d ds ih => intro T h; exact ih _ (known_triv h d)
theorem known_drop {w : World} {T : List Ent} (s : Nat) (h : Known w T) : Known w (T.drop s) := by
  intro i e hi
  rw [List.getElem?_drop] at hi
  exact h _ e hi
theorem drawn_enter {id : Nat} {ops : Array Oper} (m : Nat) (ds : List Nat) (hm : ops.size = m) (hmix : P.follows .mixedOrders = true) (h : Cont dfs (AH P ops Q (fun w => Known w (dropT ds T)) m m []) n w0 L T) : Cont dfs ((Code.region id ops true).wp P Q) n w0 L T := by
  intro a w ha hf hT
  refine wp_region_held hmix (S := fun w => Known w (dropT ds T)) ?_
  have := h a w.drew ha hf hT.drew
  unfold AH marked at this
  rw [hm]
  exact this
def runT (P : Program) (ops : Array Oper) (n m : Nat) (T0 : List Ent) : List (Nat × Nat) → List Nat → List (Nat × Value) → Option (List (Nat × Value) × List (Nat × Nat))
  | [], _, L => some (L, [])
  | (i, h) :: r, l, L =>
    match ops[i]? with
    | none => none
    | some o =>
      bif Region.free .any ops (marked m l) i && (Region.ready .any ops (marked m l)).contains i then
        match wantB ops o L with
        | some true =>
          bif knows L o then
            match semRead P (execOp (evL L) o) h T0 with
            | some (.value v, E) => (putL n o.dst v L).bind fun L' => (runT P ops n m T0 r (i :: l) L').map fun x => (x.1, E ++ x.2)
            | _ => none
          else none
        | some false => (putL n o.dst undef L).bind fun L' => (runT P ops n m T0 r (i :: l) L')
        | none => none
      else none
def markT (st : List (Nat × Nat)) (l : List Nat) : List Nat := (st.map Prod.fst).reverse ++ l
theorem runT_sound {ops : Array Oper} {m fuel : Nat} {T0 : List Ent} (hns : Region.noSelect ops = true) (hpo : PanicOk Q) : ∀ (st : List (Nat × Nat)) (l : List Nat) (L L' : List (Nat × Value)) (E : List (Nat × Nat)) (a : Act) (w : World),
    a.defers = dfs → FrOk n a.tmps L → Known w T0 → runT P ops n m T0 st l L = some (L', E) → eqs E →
    (∀ a', a'.defers = dfs → FrOk n a'.tmps L' → AH P ops Q (fun w => Known w T0) m fuel (markT st l) a' w) → AH P ops Q (fun w => Known w T0) m (st.length + fuel) l a w := by
  intro st
  induction st with
  | nil =>
    intro l L L' E a w ha hf hT hr hE hK
    simp only [runT, Option.some.injEq, Prod.mk.injEq] at hr
    obtain ⟨rfl, rfl⟩ := hr
    have := hK a ha hf
    simpa [markT] using this
  | cons p st ih =>
    obtain ⟨i, h⟩ := p
    intro l L L' E a w ha hf hT hr hE hK
    have ef : ((i, h) :: st).length + fuel = (st.length + fuel) + 1 := by simp; omega
    rw [ef]
    simp only [runT] at hr
    split at hr
    · cases hr
    · rename_i o ho
      cases hfr : (Region.free .any ops (marked m l) i && (Region.ready .any ops (marked m l)).contains i) with
      | false => simp only [hfr, cond_false] at hr; cases hr
      | true =>
        simp only [hfr, cond_true] at hr
        simp only [Bool.and_eq_true] at hfr
        split at hr
        · rename_i hw
          cases hkn : knows L o with
          | false => simp [hkn] at hr
          | true =>
            simp only [hkn, cond_true] at hr
            split at hr
            · rename_i v E1 hs
              simp only [Option.bind_eq_some_iff, Option.map_eq_some_iff, Prod.mk.injEq] at hr
              obtain ⟨L1, hL1, ⟨L2, E2⟩, hr, rfl, rfl⟩ := hr
              obtain ⟨hE1, hE2⟩ := eqs_append hE
              refine wpAnyH_take (i := i) (oi := o) (v := v) ho hns hfr.1 hfr.2 (fun c a' w' hq => hpo c a' _ _ w' hq) (.inl ⟨wantB_sound hf hw, fun w' hw' => ?_⟩) hT ?_
              · rw [execOp_evL hf hkn]
                exact semRead_sound P _ h T0 w' hw' _ E1 hs hE1
              · refine ih (i :: l) L1 _ _ (a.put o.dst v) w (by rw [put_defers]; exact ha) (putL_sound hf hL1) hT hr hE2 (fun a' ha' hf' => ?_)
                have := hK a' ha' hf'
                simpa [markT] using this
            · cases hr
        · rename_i hw
          simp only [Option.bind_eq_some_iff] at hr
          obtain ⟨L1, hL1, hr⟩ := hr
          refine wpAnyH_take (i := i) (oi := o) (v := undef) ho hns hfr.1 hfr.2 (fun c a' w' hq => hpo c a' _ _ w' hq) (.inr ⟨wantB_sound hf hw, rfl⟩) hT ?_
          refine ih (i :: l) L1 _ _ (a.put o.dst undef) w (by rw [put_defers]; exact ha) (putL_sound hf hL1) hT hr hE (fun a' ha' hf' => ?_)
          have := hK a' ha' hf'
          simpa [markT] using this
        · cases hr
def outT (keys : List Nat) (r : List (Nat × Value) × List (Nat × Nat)) : List (Option Value) × List Nat := (keys.map (lk r.1), r.2.map Prod.fst)
def wishT (vals : List Value) (r : List (Nat × Value) × List (Nat × Nat)) : List (Option Value) × List Nat := (vals.map some, r.2.map Prod.snd)
theorem takes {ops : Array Oper} {m fuel : Nat} {l : List Nat} {T0 : List Ent} (s : Nat) (ds : List Nat) (st : List (Nat × Nat)) (fuel' : Nat) (l' : List Nat) (L' : List (Nat × Value)) (hns : Region.noSelect ops = true) (hpo : PanicOk Q)
    (hS : dropT ds (T.drop s) = T0) (hfu : fuel = st.length + fuel') (hl : markT st l = l')
    (h1 : (runT P ops n m T0 st l L).isSome = true)
    (h2 : (runT P ops n m T0 st l L).map (outT (L'.map Prod.fst)) = (runT P ops n m T0 st l L).map (wishT (L'.map Prod.snd)))
    (hk : Cont dfs (AH P ops Q (fun w => Known w T0) m fuel' l') n w0 L' T) : Cont dfs (AH P ops Q (fun w => Known w T0) m fuel l) n w0 L T := by
  subst hfu; subst hl
  intro a w ha hf hT
  obtain ⟨⟨L1, E1⟩, hr⟩ := Option.isSome_iff_exists.1 h1
  rw [hr] at h2
  simp only [Option.map_some, Option.some.injEq, outT, wishT, Prod.mk.injEq] at h2
  obtain ⟨hL, hE⟩ := h2
  have hkn : Known w T0 := by rw [← hS]; exact known_dropT ds _ (known_drop s hT.ok)
  refine runT_sound hns hpo st l L L1 E1 a w ha hf hkn hr hE (fun a' ha' hf' => hk a' w ha' (hf'.prune ?_) hT)
  simpa [List.map_map, Function.comp_def] using hL
theorem dOn {ops : Array Oper} {m fuel : Nat} {l : List Nat} {S : World → Prop} (i fuel' : Nat) (hf : fuel = fuel' + 1) (hr : Region.ready .any ops (marked m l) = [i])
    (h : Cont dfs (wpOp P ops Q i (fun a w => S w ∧ AH P ops Q S m fuel' (i :: l) a w)) n w0 L T) : Cont dfs (AH P ops Q S m fuel l) n w0 L T := by
  subst hf
  intro a w ha hfr hT
  refine wpAnyH_all hr (by simp) (fun j hj => ?_)
  have hji : j = i := by simpa using hj
  subst hji
  exact h a w ha hfr hT
theorem drawn_two {ops : Array Oper} {m fuel : Nat} {l : List Nat} {S : World → Prop} (i j fuel' : Nat) (hf : fuel = fuel' + 1) (hr : Region.ready .any ops (marked m l) = [i, j])
    (h : Cont dfs (wpOp P ops Q i (fun a w => S w ∧ AH P ops Q S m fuel' (i :: l) a w)) n w0 L T)
    (h' : Cont dfs (wpOp P ops Q j (fun a w => S w ∧ AH P ops Q S m fuel' (j :: l) a w)) n w0 L T) : Cont dfs (AH P ops Q S m fuel l) n w0 L T := by
  subst hf
  intro a w ha hfr hT
  refine wpAnyH_all hr (by simp) (fun q hq => ?_)
  simp only [List.mem_cons, List.not_mem_nil, or_false] at hq
  rcases hq with rfl | rfl
  · exact h a w ha hfr hT
  · exact h' a w ha hfr hT
theorem dNx {K : Act → World → Prop} {T0 : List Ent} (s : Nat) (ds : List Nat) (hS : dropT ds (T.drop s) = T0) (h : Cont dfs K n w0 L T) : Cont dfs (fun a w => Known w T0 ∧ K a w) n w0 L T := by
  intro a w ha hf hT
  exact ⟨by rw [← hS]; exact known_dropT ds _ (known_drop s hT.ok), h a w ha hf hT⟩
theorem drawn_done {ops : Array Oper} {m fuel : Nat} {l : List Nat} {S : World → Prop} (hr : Region.ready .any ops (marked m l) = []) (h : Cont dfs (Q .normal) n w0 L T) : Cont dfs (AH P ops Q S m fuel l) n w0 L T :=
  fun a w ha hf hT => wpAnyH_done hr (h a w ha hf hT) fuel
end
end Go.Proofs.Ytkfdmfclndaanaa
namespace Go.Proofs.Ytkfdmfclndaanaa
open Go Go.RowKit
variable {dfs : List Deferred}
def valS (s : Sem Value) : Sem Next := s.bind fun r => .pure (.value r)
def unS (s : Sem Unit) : Sem Next := s.bind fun _ => .pure .skip
section
variable {P : Program} {Q : Exit → Act → World → Prop} {n : Nat} {w0 : World} {L : List (Nat × Value)} {T : List Ent}
def opS (ops : Array Oper) (n i : Nat) (L : List (Nat × Value)) : Option (Option Tmp × Sem Next) :=
  match ops[i]? with
  | none => none
  | some o =>
    match wantB ops o L with
    | some true =>
      bif knows L o then
        match o.dst with
        | none => some (none, execOp (evL L) o)
        | some d => bif Nat.blt d n then some (some d, execOp (evL L) o) else none
      else none
    | _ => none
theorem opS_core {ops : Array Oper} {i : Nat} {dst : Option Tmp} {S : Sem Next} (H : opS ops n i L = some (dst, S)) {a : Act} (hf : FrOk n a.tmps L) :
    ∃ o, ops[i]? = some o ∧ o.dst = dst ∧ (∀ d, dst = some d → d < n) ∧ Region.wanted o (yielded ops a.tmps) = true ∧ execOp a.eval o = S := by
  unfold opS at H
  split at H
  · cases H
  · rename_i o ho
    split at H
    · rename_i hw
      cases hkn : knows L o with
      | false => simp [hkn] at H
      | true =>
        simp only [hkn, cond_true] at H
        refine ⟨o, ho, ?_⟩
        cases hd : o.dst with
        | none =>
          simp only [hd, Option.some.injEq, Prod.mk.injEq] at H
          obtain ⟨rfl, rfl⟩ := H
          exact ⟨rfl, (fun d h => by cases h), wantB_sound hf hw, execOp_evL hf hkn⟩
        | some d =>
          simp only [hd] at H
          cases hb : Nat.blt d n with
          | false => simp [hb] at H
          | true =>
            simp only [hb, cond_true, Option.some.injEq, Prod.mk.injEq] at H
            obtain ⟨rfl, rfl⟩ := H
            exact ⟨rfl, (fun d' h => by cases h; simpa using hb), wantB_sound hf hw, execOp_evL hf hkn⟩
    · cases H
theorem valS_run {s : Sem Value} {w w' : World} {v : Value} (h : s.run P w = .ok v w') : (valS s).run P w = .ok (.value v) w' := by
  have e : valS s = (do let r ← s; pure (.value r)) := rfl
  rw [e]
  simp [Sem.run_bind, h]
theorem unS_run {s : Sem Unit} {w w' : World} {u : Unit} (h : s.run P w = .ok u w') : (unS s).run P w = .ok .skip w' := by
  have e : unS s = (do let _ ← s; pure .skip) := rfl
  rw [e]
  simp [Sem.run_bind, h]
theorem frok_putD {dst : Option Tmp} {a : Act} {v : Value} (hf : FrOk n a.tmps L) (hd : ∀ d, dst = some d → d < n) : FrOk n (a.put dst v).tmps (putD dst v L) := by
  cases dst with
  | none => exact hf
  | some d => exact hf.put (hd d rfl) v
theorem sem_step {ops : Array Oper} {i : Nat} {K : Act → World → Prop} (d : Tmp) (s : Sem Value) (v : Value) (H : opS ops n i L = some (some d, valS s)) (hrun : ∀ w, Tab w0 w T → s.run P w = .ok v w) (hk : Cont dfs K n w0 ((d, v) :: L) T) : Cont dfs (wpOp P ops Q i K) n w0 L T := by
  intro a w ha hf hT
  obtain ⟨o, ho, hdst, hd, hw, he⟩ := opS_core H hf
  unfold wpOp
  simp only [ho, hw, if_true]
  refine .inl ?_
  unfold Oper.wp
  rw [he, valS_run (hrun w hT)]
  show K (a.put o.dst v) w
  rw [hdst]
  exact hk _ _ (by rw [put_defers]; exact ha) (frok_putD hf hd) hT
theorem sSW {ops : Array Oper} {i : Nat} {K : Act → World → Prop} (d : Tmp) (s : Sem Value) {α : Type} (v : α → Value) (T' : α → List Ent) (G : α → Prop) (H : opS ops n i L = some (some d, valS s))
    (hrun : ∀ w, Tab w0 w T → ∃ x w', s.run P w = .ok (v x) w' ∧ G x ∧ Tab w0 w' (T' x)) (hk : ∀ x, G x → Cont dfs K n w0 ((d, v x) :: L) (T' x)) : Cont dfs (wpOp P ops Q i K) n w0 L T := by
  intro a w ha hf hT
  obtain ⟨o, ho, hdst, hd, hw, he⟩ := opS_core H hf
  obtain ⟨x, w', hr, hg, hT'⟩ := hrun w hT
  unfold wpOp
  simp only [ho, hw, if_true]
  refine .inl ?_
  unfold Oper.wp
  rw [he, valS_run hr]
  show K (a.put o.dst (v x)) w'
  rw [hdst]
  exact hk x hg _ _ (by rw [put_defers]; exact ha) (frok_putD hf hd) hT'
theorem sem_stepU {ops : Array Oper} {i : Nat} {K : Act → World → Prop} (s : Sem Unit) {α : Type} (T' : α → List Ent) (G : α → Prop) (H : opS ops n i L = some (none, unS s))
    (hrun : ∀ w, Tab w0 w T → ∃ x w', s.run P w = .ok () w' ∧ G x ∧ Tab w0 w' (T' x)) (hk : ∀ x, G x → Cont dfs K n w0 L (T' x)) : Cont dfs (wpOp P ops Q i K) n w0 L T := by
  intro a w ha hf hT
  obtain ⟨o, ho, hdst, hd, hw, he⟩ := opS_core H hf
  obtain ⟨x, w', hr, hg, hT'⟩ := hrun w hT
  unfold wpOp
  simp only [ho, hw, if_true]
  refine .inl ?_
  unfold Oper.wp
  rw [he, unS_run hr]
  show K (a.put o.dst undef) w'
  rw [hdst]
  exact hk x hg _ _ (by rw [put_defers]; exact ha) hf hT'
theorem sem_stepN {ops : Array Oper} {i : Nat} {K : Act → World → Prop} (s : Sem Value) {α : Type} (T' : α → List Ent) (G : α → Prop) (H : opS ops n i L = some (none, valS s))
    (hrun : ∀ w, Tab w0 w T → ∃ x w', (∃ v, s.run P w = .ok v w') ∧ G x ∧ Tab w0 w' (T' x)) (hk : ∀ x, G x → Cont dfs K n w0 L (T' x)) : Cont dfs (wpOp P ops Q i K) n w0 L T := by
  intro a w ha hf hT
  obtain ⟨o, ho, hdst, hd, hw, he⟩ := opS_core H hf
  obtain ⟨x, w', ⟨v, hr⟩, hg, hT'⟩ := hrun w hT
  unfold wpOp
  simp only [ho, hw, if_true]
  refine .inl ?_
  unfold Oper.wp
  rw [he, valS_run hr]
  show K (a.put o.dst v) w'
  rw [hdst]
  exact hk x hg _ _ (by rw [put_defers]; exact ha) hf hT'
theorem sem_take {ops : Array Oper} {m fuel : Nat} {l : List Nat} {T0 : List Ent} (s : Nat) (ds : List Nat) (i fuel' : Nat) (d : Tmp) (e : Sem Value) (v : Value) (hns : Region.noSelect ops = true) (hpo : PanicOk Q)
    (hS : dropT ds (T.drop s) = T0) (hfu : fuel = fuel' + 1) (hfr : (Region.free .any ops (marked m l) i && (Region.ready .any ops (marked m l)).contains i) = true)
    (H : opS ops n i L = some (some d, valS e)) (hrun : ∀ w, Known w T0 → e.run P w = .ok v w)
    (hk : Cont dfs (AH P ops Q (fun w => Known w T0) m fuel' (i :: l)) n w0 ((d, v) :: L) T) : Cont dfs (AH P ops Q (fun w => Known w T0) m fuel l) n w0 L T := by
  subst hfu
  intro a w ha hf hT
  obtain ⟨o, ho, hdst, hd, hw, he⟩ := opS_core H hf
  have hkn : Known w T0 := by rw [← hS]; exact known_dropT ds _ (known_drop s hT.ok)
  simp only [Bool.and_eq_true] at hfr
  refine wpAnyH_take (i := i) (oi := o) (v := v) ho hns hfr.1 hfr.2 (fun c a' w' hq => hpo c a' _ _ w' hq) (.inl ⟨hw, fun w' hw' => by rw [he]; exact valS_run (hrun w' hw')⟩) hkn ?_
  have := hk (a.put o.dst v) w (by rw [put_defers]; exact ha) (by rw [hdst]; exact frok_putD hf hd) hT
  exact this
def ownT : List Ent → Bool
  | [] => true
  | e :: r => (!e.wr || e.own) && ownT r
theorem Tab.post {w : World} (hT : Tab w0 w T) (h : ownT T = true) : Below w0.heap.size w0 w := by
  refine hT.toBelow (fun i e he hw => ?_)
  have : ∀ (T : List Ent), ownT T = true → ∀ (i : Nat) (e : Ent), T[i]? = some e → e.wr = true → e.own = true := by
    intro T
    induction T with
    | nil => intro _ i e he; simp at he
    | cons x r ih =>
      intro h i e he hw
      simp only [ownT, Bool.and_eq_true] at h
      cases i with
      | zero =>
        simp at he; subst he
        have := h.1
        simp [hw] at this; exact this
      | succ i => exact ih h.2 i e (by simpa using he) hw
  exact this T h i e he hw
theorem run_indexAt {t e sz : TypeId} {g o len cap : Nat} {k : IntKind} {x : Int} (off : Nat) (hu : P.underlying t = some (.slice e)) (hi : (P.info? e).map (·.size) = some sz) (h0 : 0 ≤ x) (h1 : x < (len : Int)) (hoff : off = o + x.toNat * sz) (w : World) :
    (Instr.indexAt t (.slice (some ⟨g, o, none⟩) len cap) (.int k x)).run P w = .ok (.pointer (some ⟨g, off, none⟩)) w := by
  subst hoff
  obtain ⟨i, hi1, hi2⟩ := Option.map_eq_some_iff.1 hi
  have ha : (⟨g, o, none⟩ : Addr).add (x.toNat * sz) = ⟨g, o + x.toNat * sz, none⟩ := by unfold Addr.add; split <;> simp_all
  simp only [Instr.indexAt, asIntOf]
  simp [Sem.run_bind, run_underlying hu, hu, h0, h1, sizeOf, typeInfo, hi1, hi2, ha]
theorem Tab.erase {w : World} (hT : Tab w0 w T) (i : Nat) (h : ∀ e, T[i]? = some e → e.wr = true → e.own = true) : Tab w0 w (T.eraseIdx i) := by
  have look : ∀ j e, (T.eraseIdx i)[j]? = some e → ∃ j', T[j']? = some e ∧ j' ≠ i ∧ (j < i → j' = j) ∧ (i ≤ j → j' = j + 1) := by
    intro j e he
    rw [List.getElem?_eraseIdx] at he
    split at he
    · rename_i hj; exact ⟨j, he, by omega, fun _ => rfl, fun h => by omega⟩
    · rename_i hj; exact ⟨j + 1, he, by omega, fun h => by omega, fun _ => rfl⟩
  refine ⟨hT.os, hT.tape, hT.output, hT.size, ?_, ?_, ?_, ?_⟩
  · intro j e he
    obtain ⟨j', hj, _⟩ := look j e he
    exact hT.ok j' e hj
  · intro k hk hno
    refine hT.frame k hk (fun j e he hw hb => ?_)
    by_cases hji : j = i
    · subst hji
      have := hT.own j e he (h e he hw) k hb
      omega
    · rcases Nat.lt_or_ge j i with hlt | hge
      · exact hno j e (by rw [List.getElem?_eraseIdx, if_pos hlt]; exact he) hw hb
      · exact hno (j - 1) e (by rw [List.getElem?_eraseIdx, if_neg (by omega)]; rw [show j - 1 + 1 = j by omega]; exact he) hw hb
  · intro j e he
    obtain ⟨j', hj, _⟩ := look j e he
    exact hT.own j' e hj
  · intro a b e e' hab he he'
    obtain ⟨a', ha, _, ha1, ha2⟩ := look a e he
    obtain ⟨b', hb, _, hb1, hb2⟩ := look b e' he'
    refine hT.disj a' b' e e' (fun hc => ?_) ha hb
    subst hc
    rcases Nat.lt_or_ge a i with h1 | h1 <;> rcases Nat.lt_or_ge b i with h2 | h2
    · have := ha1 h1; have := hb1 h2; omega
    · have := ha1 h1; have := hb2 h2; omega
    · have := ha2 h1; have := hb1 h2; omega
    · have := ha2 h1; have := hb2 h2; omega
def mayGo (T : List Ent) (i : Nat) : Bool :=
  match T[i]? with
  | some e => !e.wr || e.own
  | none => false
theorem cFg {K : Act → World → Prop} (i : Nat) (h : mayGo T i = true) (hk : Cont dfs K n w0 L (T.eraseIdx i)) : Cont dfs K n w0 L T := by
  intro a w ha hf hT
  refine hk a w ha hf (hT.erase i (fun e he hw => ?_))
  simp [mayGo, he, hw] at h
  exact h
theorem wrapI {e : Int} (h0 : -9223372036854775808 ≤ e) (h1 : e ≤ 9223372036854775807) : Value.int .i64 (IntKind.i64.wrap e) = .int .i64 e := by rw [IntWalk.i64_in e ⟨h0, h1⟩]
theorem wrapU32 {e : Int} (h0 : 0 ≤ e) (h1 : e ≤ 4294967295) : Value.int .u32 (IntKind.u32.wrap e) = .int .u32 e := by rw [IntWalk.u32_in e ⟨h0, h1⟩]
def mx (x y : Int) : Int := if y > x then y else x
def mn (x y : Int) : Int := if y < x then y else x
theorem mx_eq (x y : Int) : mx x y = max x y := by unfold mx; omega
theorem mn_eq (x y : Int) : mn x y = min x y := by unfold mn; omega
theorem ret_bool {a b : Bool} (h : a = b) : Ending.returned (.bool a) = .returned (.bool b) := by rw [h]
theorem ret_int {k : IntKind} {a b : Int} (h : a = b) : Ending.returned (.int k a) = .returned (.int k b) := by rw [h]
end
end Go.Proofs.Ytkfdmfclndaanaa
namespace Go.Proofs.Ytkfdmfclndaanaa
open Go Go.RowKit
variable {dfs : List Deferred}
structure Rd (w : World) (A : Option Addr) (g o n sz : Nat) (vals : List Value) : Prop where
  len : vals.length = n * sz
  at_ : 0 < n → A = some ⟨g, o, none⟩
  cell : ∀ j v, vals[j]? = some v → w.cell? ⟨g, o + j, none⟩ = some v
theorem Rd.cell0 {w : World} {A : Option Addr} {g n sz : Nat} {vals : List Value} (h : Rd w A g 0 n sz vals) (j : Nat) (v : Value) (hj : vals[j]? = some v) : w.cell? ⟨g, j, none⟩ = some v := by
  have := h.cell j v hj
  rwa [Nat.zero_add] at this
theorem Rd.lt {w : World} {A : Option Addr} {g o n sz : Nat} {vals : List Value} (h : Rd w A g o n sz vals) (hv : vals ≠ []) : g < w.heap.size := by
  cases vals with
  | nil => exact absurd rfl hv
  | cons v r => exact block_lt_of_cell (h.cell 0 v (by simp))
theorem Rd.stable {w w' : World} {A : Option Addr} {g o n sz : Nat} {vals : List Value} (h : Rd w A g o n sz vals) (hb : vals ≠ [] → w'.heap[g]? = w.heap[g]?) : Rd w' A g o n sz vals :=
  ⟨h.len, h.at_, fun j v hj => by
    have hne : vals ≠ [] := fun e => by subst e; simp at hj
    rw [World.cell?_of_block (w := w) (hb hne)]; exact h.cell j v hj⟩
def rdE (A : Option Addr) (g o n sz : Nat) (vals : List Value) : GenEnt :=
  { blk := fun k => k = g ∧ vals ≠ [], wr := false, own := false, ok := fun w => Rd w A g o n sz vals,
    stable := fun w w' hb h => h.stable (fun hne => hb g ⟨rfl, hne⟩),
    inb := fun w b h hb => by rw [hb.1]; exact h.lt hb.2 }
structure Row (w : World) (A : Option Addr) (g n cap : Nat) (e : TypeId) (sz : Nat) (vals : List Value) : Prop where
  own : w.ownsRow 0 e sz (.slice A n cap) n vals
  at_ : 0 < n → A = some ⟨g, 0, none⟩
  spot : ∀ a, A = some a → a = ⟨g, 0, none⟩
def rowE (A : Option Addr) (g n cap : Nat) (e : TypeId) (sz : Nat) (vals : List Value) (own : Bool) : GenEnt :=
  { blk := fun k => k = g ∧ A ≠ none, wr := true, own := own, ok := fun w => Row w A g n cap e sz vals,
    stable := fun w w' hb h => by
      refine ⟨?_, h.at_, h.spot⟩
      obtain ⟨h1, h2⟩ := h.own
      refine ⟨h1, ?_⟩
      rcases h2 with h2 | ⟨g', cap', cur, hv, hg, hh, r⟩
      · exact .inl h2
      · refine .inr ⟨g', cap', cur, hv, hg, ?_, r⟩
        simp only [Value.slice.injEq] at hv
        obtain ⟨rfl, _, rfl⟩ := hv
        have := h.spot _ rfl
        simp only [Addr.mk.injEq, and_true] at this
        subst this
        rw [hb _ ⟨rfl, by simp⟩]; exact hh
    inb := fun w b h hb => by
      obtain ⟨rfl, hne⟩ := hb
      obtain ⟨h1, h2⟩ := h.own
      rcases h2 with ⟨h2, _⟩ | ⟨g', cap', cur, hv, hg, hh, r⟩
      · simp only [Value.slice.injEq] at h2; exact absurd h2.1 hne
      · simp only [Value.slice.injEq] at hv
        obtain ⟨rfl, _, rfl⟩ := hv
        have := h.spot _ rfl
        simp only [Addr.mk.injEq, and_true] at this
        subst this
        exact (Array.getElem?_eq_some_iff.1 hh).1 }
theorem Row.rd {w : World} {A : Option Addr} {g n cap : Nat} {e : TypeId} {sz : Nat} {vals : List Value} (h : Row w A g n cap e sz vals) : Rd w A g 0 n sz vals := by
  refine ⟨h.own.1, h.at_, fun j v hj => ?_⟩
  have hj' : j < n * sz := by rw [← h.own.1]; exact (List.getElem?_eq_some_iff.1 hj).1
  have hn : 0 < n := Nat.pos_of_ne_zero (fun h0 => by subst h0; simp at hj')
  have hA := h.at_ hn
  have ho := h.own
  rw [hA] at ho
  rw [Nat.zero_add, ho.cellAt j hj', hj]
theorem Row.cell {w : World} {A : Option Addr} {g n cap : Nat} {e : TypeId} {sz : Nat} {vals : List Value} (h : Row w A g n cap e sz vals) (j : Nat) (v : Value) (hj : vals[j]? = some v) : w.cell? ⟨g, j, none⟩ = some v := by
  have := h.rd.cell j v hj
  rwa [Nat.zero_add] at this
theorem Row.free {w : World} {A : Option Addr} {g n cap : Nat} {e : TypeId} {sz : Nat} {vals : List Value} (h : Row w A g n cap e sz vals) (hn : 0 < n) (j : Nat) : w.frozen? ⟨g, j, none⟩ = false := by
  have ho := h.own
  rw [h.at_ hn] at ho
  exact ho.frozenAt j
theorem Row.capLe {w : World} {A : Option Addr} {g n cap : Nat} {e : TypeId} {sz : Nat} {vals : List Value} (h : Row w A g n cap e sz vals) : n ≤ cap := by
  rcases h.own.2 with ⟨h1, h2⟩ | ⟨g', cap', cur, hv, _, _, hle, _⟩
  · simp only [Value.slice.injEq] at h1; omega
  · simp only [Value.slice.injEq] at hv; omega
theorem Tab.addRow {w0 w w' : World} {T : List Ent} (hT : Tab w0 w T) (hb : Below w.heap.size w w') {A : Option Addr} {g n cap : Nat} {e : TypeId} {sz : Nat} {vals : List Value} (h : Row w' A g n cap e sz vals) (hg : A ≠ none → w.heap.size ≤ g) :
    Tab w0 w' (.gen (rowE A g n cap e sz vals true) :: T) :=
  hT.push (e := .gen (rowE A g n cap e sz vals true)) hb.os hb.tape hb.output hb.size (fun k hk => hb.block k hk) h (fun k hk => by rw [hk.1]; exact hg hk.2)
def aggB (P : Program) (t : TypeId) : Option Bool := (P.underlying t).map fun
  | .struct _ => true
  | .array _ _ => true
  | _ => false
section
variable {P : Program}
theorem isAgg_run {t : TypeId} {b : Bool} (h : aggB P t = some b) (w : World) : (isAgg t).run P w = .ok b w := by
  unfold aggB at h
  cases hu : P.underlying t with
  | none => rw [hu] at h; simp at h
  | some d =>
    rw [hu] at h
    simp only [Option.map_some, Option.some.injEq] at h
    simp only [isAgg]
    rw [Sem.run_bind, run_underlying hu]
    simp only [Result.andThen_ok]
    cases d <;> simp_all
theorem run_load1 {t : TypeId} {p : Addr} {v : Value} (ha : aggB P t = some false) {w : World} (hc : w.cell? p = some v) : (Instr.loadAt t (.pointer (some p))).run P w = .ok v w := by
  have e : Instr.loadAt t (.pointer (some p)) = loadVar t p := rfl
  rw [e, loadVar, Sem.run_bind, isAgg_run ha w]
  simp [load, Sem.run, hc]
theorem run_loadN {t : TypeId} {g o m : Nat} {cs : List Value} (ha : aggB P t = some true) (hsz : (P.info? t).map (·.size) = some m) (hm : cs.length = m) {w : World} (hc : ∀ j v, cs[j]? = some v → w.cell? ⟨g, o + j, none⟩ = some v) :
    (Instr.loadAt t (.pointer (some ⟨g, o, none⟩))).run P w = .ok (.agg cs.toArray) w := by
  subst hm
  obtain ⟨i, hi1, hi2⟩ := Option.map_eq_some_iff.1 hsz
  have e : Instr.loadAt t (.pointer (some ⟨g, o, none⟩)) = loadVar t ⟨g, o, none⟩ := rfl
  have hadd : ∀ j, (⟨g, o, none⟩ : Addr).add j = ⟨g, o + j, none⟩ := fun j => by unfold Addr.add; split <;> simp_all
  have hl := run_loadCells_list (P := P) (w := w) ⟨g, o, none⟩ cs (fun j v hj => by rw [hadd]; exact hc j v hj)
  rw [e, loadVar, Sem.run_bind, isAgg_run ha w]
  simp [Sem.run_bind, sizeOf, typeInfo, hi1, hi2, hl]
theorem run_store1 {t : TypeId} {p : Addr} {u v : Value} (hsz : (P.info? t).map (·.size) = some 1) (hv : oneC v = true) {w : World} (hc : w.cell? p = some u) (hf : w.frozen? p = false) : (Instr.storeAt t (.pointer (some p)) v).run P w = .ok () (w.setCell p v) := by
  obtain ⟨i, hi1, hi2⟩ := Option.map_eq_some_iff.1 hsz
  have e : Instr.storeAt t (.pointer (some p)) v = storeVar t p v := rfl
  have hcs : v.cells = #[v] := by cases v <;> first | rfl | simp [oneC] at hv
  have hadd : p.add 0 = p := by simp [Addr.add]
  rw [e, storeVar]
  cases v <;> first | (simp [oneC] at hv; done) | simp [Sem.run_bind, sizeOf, typeInfo, hi1, hi2, hcs, storeCells, hadd, store, Sem.run, hc, hf]
end
theorem Tab.rowSet {w0 w : World} {T : List Ent} (hT : Tab w0 w T) {i g n cap e sz : Nat} {A : Option Addr} {vals : List Value} {own : Bool} (h : T[i]? = some (.gen (rowE A g n cap e sz vals own))) (hn : 0 < n) (j : Nat) (v : Value) :
    Tab w0 (w.setCell ⟨g, j, none⟩ v) (T.set i (.gen (rowE A g n cap e sz (vals.set j v) own))) := by
  have hrow : Row w A g n cap e sz vals := hT.ok i _ h
  have hA := hrow.at_ hn
  have ho := hrow.own
  rw [hA] at ho
  obtain ⟨hs, hgrow⟩ := ho.stored j v
  refine hT.replace (e := .gen (rowE A g n cap e sz vals own)) (e' := .gen (rowE A g n cap e sz (vals.set j v) own)) h rfl rfl id (fun k hk => .inl hk) (fun k _ hk _ => hk) rfl rfl rfl (by simp) (fun k hk hne => ?_) ?_
  · exact hgrow.block k hk (fun he => hne ⟨by simpa using he, by rw [hA]; simp⟩)
  · exact ⟨by rw [hA]; exact hs, hrow.at_, hrow.spot⟩
def ivals (k : IntKind) (xs : List Int) : List Value := xs.map (Value.int k)
theorem ivals_get {k : IntKind} {xs : List Int} {j : Nat} (h : j < xs.length) : (ivals k xs)[j]? = some (.int k (xs.getD j 0)) := by
  simp [ivals, List.getElem?_eq_getElem h]
theorem ivals_length {k : IntKind} {xs : List Int} : (ivals k xs).length = xs.length := by simp [ivals]
theorem ivals_set {k : IntKind} {xs : List Int} {j : Nat} {v : Int} : (ivals k xs).set j (.int k v) = ivals k (xs.set j v) := by simp [ivals]
def sliceA (g o l cap sz : Nat) : Option Addr := if cap = l then some ⟨g, o, none⟩ else some ⟨g, o + l * sz, none⟩
theorem sliceA_pos {g o l cap sz : Nat} (h : l < cap) : sliceA g o l cap sz = some ⟨g, o + l * sz, none⟩ := by unfold sliceA; rw [if_neg (by omega)]
theorem run_slice2 {P : Program} {t e : TypeId} {g o n cap sz : Nat} {kl kh : IntKind} {l h : Int} (ln hn : Nat) (hu : P.underlying t = some (.slice e)) (hi : (P.info? e).map (·.size) = some sz) (h0 : 0 ≤ l) (h1 : l ≤ h) (h2 : h ≤ (cap : Int)) (hl : l.toNat = ln) (hh : h.toNat = hn) (w : World) :
    (Instr.sliceAt t (.slice (some ⟨g, o, none⟩) n cap) (some (.int kl l)) (some (.int kh h)) none).run P w = .ok (.slice (sliceA g o ln cap sz) (hn - ln) (cap - ln)) w := by
  subst hl; subst hh
  obtain ⟨i, hi1, hi2⟩ := Option.map_eq_some_iff.1 hi
  have ha : (⟨g, o, none⟩ : Addr).add (l.toNat * sz) = ⟨g, o + l.toNat * sz, none⟩ := by unfold Addr.add; split <;> simp_all
  have hle : l ≤ (h.toNat : Int) := by omega
  simp only [Instr.sliceAt, Instr.slice, Instr.sliceBounds, Instr.sliceBound, asIntOf]
  simp [Sem.run_bind, run_underlying hu, h0, h2, hle, show (0 : Int) ≤ h by omega, sizeOf, typeInfo, hi1, hi2, ha, sliceA]
  split <;> (intro hx; exfalso; omega)
theorem cont_rounds {P : Program} {Q : Exit → Act → World → Prop} {n : Nat} {w0 : World} {L : List (Nat × Value)} {T : List Ent} {c : Code} (k : Nat) (h : Cont dfs (Code.rounds P c Q k) n w0 L T) : Cont dfs ((Code.loop c).wp P Q) n w0 L T :=
  fun a w ha hf hT => wp_loop_rounds k (h a w ha hf hT)
theorem cont_round {P : Program} {Q : Exit → Act → World → Prop} {n : Nat} {w0 : World} {L : List (Nat × Value)} {T : List Ent} {c : Code} (k k' : Nat) (hk : k = k' + 1) (h : Cont dfs (c.wp P (Exit.then (Code.rounds P c Q k') Q)) n w0 L T) : Cont dfs (Code.rounds P c Q k) n w0 L T := by
  subst hk
  intro a w ha hf hT
  rw [rounds_succ]
  exact h a w ha hf hT
theorem fdivV {k : IntKind} {x m : Int} (hm : 0 ≤ m) : Value.int k (x.fdiv m) = .int k (x / m) := by rw [Int.fdiv_eq_ediv_of_nonneg _ hm]
theorem tdivI {x y : Int} (hx : 0 ≤ x) (hy : 1 ≤ y) (hm : x ≤ 9223372036854775807) : Value.int .i64 (IntKind.i64.wrap (x.tdiv y)) = .int .i64 (x / y) := by
  rw [Int.tdiv_eq_ediv_of_nonneg hx]
  have h0 : 0 ≤ x / y := Int.ediv_nonneg hx (by omega)
  have h1 : x / y ≤ x := Int.ediv_le_self _ hx
  rw [IntWalk.i64_in _ ⟨by omega, by omega⟩]
theorem tmodI {k : IntKind} {x y : Int} (hx : 0 ≤ x) : Value.int k (x.tmod y) = .int k (x % y) := by rw [Int.tmod_eq_emod_of_nonneg hx]
def bitAnd (n : Nat) (x y : Int) : Int := ((BitVec.ofInt n x &&& BitVec.ofInt n y).toNat : Int)
def bitOr (n : Nat) (x y : Int) : Int := ((BitVec.ofInt n x ||| BitVec.ofInt n y).toNat : Int)
theorem bitAnd255 {x : Int} (h0 : 0 ≤ x) (h1 : x < 4294967296) : bitAnd 32 x 255 = x % 256 := by
  obtain ⟨m, rfl⟩ := Int.eq_ofNat_of_zero_le h0
  unfold bitAnd
  have e1 : BitVec.ofInt 32 (m : Int) = BitVec.ofNat 32 m := by simp
  have e2 : BitVec.ofInt 32 255 = BitVec.ofNat 32 255 := by rfl
  rw [e1, e2, BitVec.toNat_and]
  have hm : m < 2 ^ 32 := by omega
  simp only [BitVec.toNat_ofNat]
  rw [Nat.mod_eq_of_lt hm]
  have : m &&& 255 % 2 ^ 32 = m % 256 := by
    have := Nat.and_two_pow_sub_one_eq_mod m 8
    simpa using this
  rw [this]
  omega
theorem bitAnd255V {x : Int} (h0 : 0 ≤ x) (h1 : x < 4294967296) : Value.int .u32 (IntKind.u32.wrap (bitAnd 32 x 255)) = .int .u32 (x % 256) := by
  rw [bitAnd255 h0 h1, IntWalk.u32_in _ ⟨by omega, by omega⟩]
theorem bitOr8V {x y : Int} (h0 : 0 ≤ x) (h1 : x < 16777216) (hy : 0 ≤ y) (hy1 : y < 256) : Value.int .u32 (IntKind.u32.wrap (bitOr 32 (x * 256) y)) = .int .u32 (x * 256 + y) := by
  obtain ⟨m, rfl⟩ := Int.eq_ofNat_of_zero_le h0
  obtain ⟨b, rfl⟩ := Int.eq_ofNat_of_zero_le hy
  unfold bitOr
  have e1 : BitVec.ofInt 32 ((m : Int) * 256) = BitVec.ofNat 32 (m * 256) := by
    have : ((m : Int) * 256) = ((m * 256 : Nat) : Int) := by omega
    rw [this, BitVec.ofInt_natCast]
  have e2 : BitVec.ofInt 32 (b : Int) = BitVec.ofNat 32 b := by simp
  rw [e1, e2, BitVec.toNat_or]
  simp only [BitVec.toNat_ofNat]
  rw [Nat.mod_eq_of_lt (by omega), Nat.mod_eq_of_lt (by omega)]
  have : m * 256 ||| b = m * 256 + b := by
    have h := Nat.two_pow_add_eq_or_of_lt (i := 8) (b := b) (by omega) m
    rw [show m * 256 = 2 ^ 8 * m by omega, ← h]
  rw [this, IntWalk.u32_in _ ⟨by omega, by omega⟩]
  congr 1
theorem bitOr0V {y : Int} (hy : 0 ≤ y) (hy1 : y < 256) : Value.int .u32 (IntKind.u32.wrap (bitOr 32 0 y)) = .int .u32 y := by
  have := bitOr8V (x := 0) (by omega) (by omega) hy hy1
  simpa using this
theorem ne_of_beqf {x y : Int} (h : (x == y) = false) : x ≠ y := by simpa using h
theorem eq_of_beqt {x y : Int} (h : (x == y) = true) : x = y := by simpa using h
def bopS (op : BinOp) (t : TypeId) (x y : Operand) (a b : Value) : Sem Value := do
  eqGuard op t x y a b
  binOp op t a b
theorem run_rem {P : Program} {k : IntKind} {t : TypeId} {x y : Operand} {a b : Int} (hb : b ≠ 0) (w : World) : (bopS .rem t x y (.int k a) (.int k b)).run P w = .ok (.int k (a.tmod b)) w := by
  simp [bopS, eqGuard, binOp, Op.intDiv, hb, Sem.run_bind]
theorem run_quo {P : Program} {k : IntKind} {t : TypeId} {x y : Operand} {a b : Int} (hb : b ≠ 0) (w : World) : (bopS .quo t x y (.int k a) (.int k b)).run P w = .ok (.int k (k.wrap (a.tdiv b))) w := by
  simp [bopS, eqGuard, binOp, Op.intDiv, hb, Sem.run_bind]
def eqInts : List Int → List Int → Bool
  | a :: as_, b :: bs => (a == b) && eqInts as_ bs
  | [], [] => true
  | _, _ => false
def fieldsB (P : Program) : List Field → Nat → Bool
  | [], _ => true
  | f :: r, i => (f.name != "_") && Nat.beq f.offset i && (match P.underlying f.type with | some (.int _) => true | _ => false) && fieldsB P r (i + 1)
theorem run_eqFields {P : Program} (d : Nat) (xs ys : Array Value) (w : World) : ∀ (fs : List Field) (i : Nat) (as_ bs : List Int), fieldsB P fs i = true → as_.length = fs.length → bs.length = fs.length →
    (∀ j a, as_[j]? = some a → xs[i + j]? = some (.int .i64 a)) → (∀ j a, bs[j]? = some a → ys[i + j]? = some (.int .i64 a)) → (Op.eqFields (d + 1) xs ys fs).run P w = .ok (eqInts as_ bs) w := by
  intro fs
  induction fs with
  | nil =>
    intro i as_ bs _ ha hb _ _
    obtain rfl := List.eq_nil_of_length_eq_zero ha
    obtain rfl := List.eq_nil_of_length_eq_zero hb
    rfl
  | cons f fs ih =>
    intro i as_ bs hf ha hb hx hy
    cases as_ with
    | nil => simp at ha
    | cons a as_ =>
      cases bs with
      | nil => simp at hb
      | cons b bs =>
        simp only [fieldsB, Bool.and_eq_true] at hf
        obtain ⟨⟨⟨hn, ho⟩, hu⟩, hr⟩ := hf
        have hn' : f.name ≠ "_" := by simpa using hn
        have ho' : f.offset = i := Nat.eq_of_beq_eq_true ho
        obtain ⟨kf, hku⟩ : ∃ kf, P.underlying f.type = some (.int kf) := by
          cases hc : P.underlying f.type with
          | none => rw [hc] at hu; cases hu
          | some dd => rw [hc] at hu; cases dd <;> first | (cases hu; done) | exact ⟨_, rfl⟩
        have hagg : aggB P f.type = some false := by simp [aggB, hku]
        have h0 := hx 0 a (by simp)
        have h0' := hy 0 b (by simp)
        have p1 : (part f.type xs f.offset).run P w = .ok (.int .i64 a) w := by
          rw [part, Sem.run_bind, isAgg_run hagg w]
          simp [ho', show xs[i]? = some (.int .i64 a) from h0]
        have p2 : (part f.type ys f.offset).run P w = .ok (.int .i64 b) w := by
          rw [part, Sem.run_bind, isAgg_run hagg w]
          simp [ho', show ys[i]? = some (.int .i64 b) from h0']
        have p3 := run_equalIn_int (P := P) w d f.type .i64 kf a b hku
        simp only [Op.eqFields, hn', ne_eq, not_false_eq_true, if_true, Sem.run_bind, p1, p2, p3, Result.andThen_ok, eqInts]
        cases hab : a == b with
        | false => simp
        | true =>
          simp
          exact ih (i + 1) as_ bs hr (by simpa using ha) (by simpa using hb) (fun j c hc => by have := hx (j + 1) c (by simpa using hc); rwa [show i + (j + 1) = i + 1 + j by omega] at this) (fun j c hc => by have := hy (j + 1) c (by simpa using hc); rwa [show i + (j + 1) = i + 1 + j by omega] at this)
def ints (as_ : List Int) : Array Value := (as_.map (Value.int .i64)).toArray
theorem run_eqS {P : Program} {t : TypeId} {x y : Operand} (as_ bs : List Int) (hm : P.eqGuardType P.depth t = false) (ht : P.underlying t = some (.struct (P.fieldsOf t))) (hp : P.stoodInHeld t = false) (hf : fieldsB P (P.fieldsOf t).toList 0 = true) (ha : as_.length = (P.fieldsOf t).toList.length) (hb : bs.length = (P.fieldsOf t).toList.length) (w : World) :
    (bopS .eql t x y (.agg (ints as_)) (.agg (ints bs))).run P w = .ok (.bool (eqInts as_ bs)) w := by
  have h1 := run_eqFields (P := P) 9998 (ints as_) (ints bs) w _ 0 as_ bs hf ha hb (fun j a h => by simp [ints, h]) (fun j a h => by simp [ints, h])
  have h2 := run_equalIn_struct (P := P) w 9999 t (ints as_) (ints bs) ht hp
  unfold bopS
  rw [Sem.run_bind, run_eqGuard_agg (P := P) w .eql t x y _ _ hm]
  simp only [Result.andThen_ok]
  rw [run_eql_struct, h2, h1]
  rfl
theorem run_neS {P : Program} {t : TypeId} {x y : Operand} (as_ bs : List Int) (hm : P.eqGuardType P.depth t = false) (ht : P.underlying t = some (.struct (P.fieldsOf t))) (hp : P.stoodInHeld t = false) (hf : fieldsB P (P.fieldsOf t).toList 0 = true) (ha : as_.length = (P.fieldsOf t).toList.length) (hb : bs.length = (P.fieldsOf t).toList.length) (w : World) :
    (bopS .neq t x y (.agg (ints as_)) (.agg (ints bs))).run P w = .ok (.bool (!eqInts as_ bs)) w := by
  have h1 := run_eqFields (P := P) 9998 (ints as_) (ints bs) w _ 0 as_ bs hf ha hb (fun j a h => by simp [ints, h]) (fun j a h => by simp [ints, h])
  have h2 := run_equalIn_struct (P := P) w 9999 t (ints as_) (ints bs) ht hp
  unfold bopS
  rw [Sem.run_bind, run_eqGuard_agg (P := P) w .neq t x y _ _ hm]
  simp only [Result.andThen_ok]
  rw [run_neq_struct, h2, h1]
  rfl
theorem eqInts4 (a b c d a' b' c' d' : Int) : eqInts [a, b, c, d] [a', b', c', d'] = (decide (a = a') && decide (b = b') && decide (c = c') && decide (d = d')) := by
  simp [eqInts, Bool.and_assoc]
  rfl
theorem make_row {P : Program} {w0 w : World} {T : List Ent} (hT : Tab w0 w T) {t e : TypeId} {kl kc k : IntKind} {bytes : Nat} (n : Nat) (ht : P.underlying t = some (.slice e)) (hi : (P.info? e).map (fun i => (i.zero, i.size, i.bytes)) = some (some (.int k 0), 1, bytes)) (hb : bytes * n ≤ 281474976710656) (hn : n ≤ 9223372036854775807) :
    ∃ (x : Nat) (w' : World), (Instr.makeSlice t (.int kl (n : Int)) (.int kc (n : Int))).run P w = .ok (.slice (some ⟨x, 0, none⟩) n n) w' ∧ True ∧ Tab w0 w' (.gen (rowE (some ⟨x, 0, none⟩) x n n e 1 (ivals k (List.replicate n 0)) true) :: T) := by
  obtain ⟨i, hi1, hi2⟩ := Option.map_eq_some_iff.1 hi
  simp only [Prod.mk.injEq] at hi2
  obtain ⟨hz, hs, hby⟩ := hi2
  obtain ⟨w', hr, hown, hg⟩ := run_make_full (P := P) w 0 t e i (.int k 0) 1 ht hi1 hz hs kl kc n (by rw [hby]; exact hb) (by unfold maxLen; omega) (Nat.zero_le _)
  have hvals : (madeCells (Value.int k 0).cells (n * 1)).toList = ivals k (List.replicate n 0) := by
    have : (Value.int k 0).cells = #[.int k 0] := rfl
    rw [this, Nat.mul_one, toList_madeCells_one]
    simp [ivals]
  rw [hvals] at hown
  refine ⟨w.heap.size, w', hr, trivial, ?_⟩
  have hbel : Below w.heap.size w w' := ⟨hg.os, hg.tape, hg.output, hg.size, fun k hk => hg.block k hk (by simp)⟩
  exact hT.addRow hbel ⟨hown, fun _ => rfl, fun a ha => by simpa using ha.symm⟩ (fun _ => Nat.le_refl _)
theorem store_row {P : Program} {w0 w : World} {T : List Ent} (hT : Tab w0 w T) {t e : TypeId} {A : Option Addr} {i g n cap J : Nat} {k : IntKind} {xs : List Int} {own : Bool} {v : Int} (hi : T[i]? = some (.gen (rowE A g n cap e 1 (ivals k xs) own))) (hsz : (P.info? t).map (·.size) = some 1) (hJ : J < xs.length) :
    ∃ (x : Unit) (w' : World), (Instr.storeAt t (.pointer (some ⟨g, J, none⟩)) (.int k v)).run P w = .ok () w' ∧ True ∧ Tab w0 w' (T.set i (.gen (rowE A g n cap e 1 (ivals k (xs.set J v)) own))) := by
  have hrow : Row w A g n cap e 1 (ivals k xs) := hT.ok i _ hi
  have hlen : xs.length = n := by have := hrow.own.1; rw [ivals_length] at this; omega
  have hn : 0 < n := by omega
  refine ⟨(), _, run_store1 hsz rfl (hrow.cell J _ (ivals_get hJ)) (hrow.free hn J), trivial, ?_⟩
  have := hT.rowSet hi hn J (.int k v)
  rw [ivals_set] at this
  exact this
theorem cont_rowEq {K : Act → World → Prop} {n' : Nat} {w0 : World} {L : List (Nat × Value)} {T : List Ent} (i : Nat) {A : Option Addr} {g n cap : Nat} {e : TypeId} {k : IntKind} (xs ys : List Int) {own : Bool} (hi : T[i]? = some (.gen (rowE A g n cap e 1 (ivals k xs) own))) (hxy : xs = ys)
    (h : Cont dfs K n' w0 L (T.set i (.gen (rowE A g n cap e 1 (ivals k ys) own)))) : Cont dfs K n' w0 L T := by
  subst hxy
  have : T.set i (.gen (rowE A g n cap e 1 (ivals k xs) own)) = T := by
    obtain ⟨hlt, he⟩ := List.getElem?_eq_some_iff.1 hi
    rw [← he]
    exact List.set_getElem_self hlt
  rwa [this] at h
abbrev iQ (x : Int) : Value := .int .i64 x
abbrev cQ (x : Int) : Value := .int .u32 x
abbrev sL (x n c : Nat) : Value := .slice (some ⟨x, 0, none⟩) n c
abbrev pT (x : Nat) : Value := .pointer (some ⟨x, 0, none⟩)
abbrev oE (x n c : Nat) (t : TypeId) (s : Nat) (v : List Value) : Ent := .gen (rowE (some ⟨x, 0, none⟩) x n c t s v true)
abbrev oN (n c : Nat) (A : Option Addr) (x : Nat) (t : TypeId) (s : Nat) (v : List Value) : Ent := .gen (rowE A x n c t s v true)
abbrev rD (A : Option Addr) (x o n s : Nat) (v : List Value) : Ent := .gen (rdE A x o n s v)
abbrev cV (l : List Int) : List Value := ivals .u32 l
abbrev iV (l : List Int) : List Value := ivals .i64 l
theorem rL {P : Program} {t : TypeId} {p : Addr} {v : Value} {w : World} (hc : w.cell? p = some v) (ha : aggB P t = some false := by kernel_rfl) : (Instr.loadAt t (.pointer (some p))).run P w = .ok v w := run_load1 ha hc
theorem rM {P : Program} {t : TypeId} {g o : Nat} (m : Nat) (cs : List Value) {w : World} (hc : ∀ j v, cs[j]? = some v → w.cell? ⟨g, o + j, none⟩ = some v) (ha : aggB P t = some true := by kernel_rfl) (hsz : (P.info? t).map (·.size) = some m := by kernel_rfl) (hm : cs.length = m := by rfl) : (Instr.loadAt t (.pointer (some ⟨g, o, none⟩))).run P w = .ok (.agg cs.toArray) w := run_loadN ha hsz hm hc
end Go.Proofs.Ytkfdmfclndaanaa
namespace Go.Proofs.Ytkfdmfclndaanaa
open Go Go.RowKit
structure Rect where
  x0 : Int
  y0 : Int
  x1 : Int
  y1 : Int
  deriving DecidableEq
def hasB (a b c d x y : Int) : Bool := decide (a ≤ x) && decide (x < c) && decide (b ≤ y) && decide (y < d)
def emptyB (a b c d : Int) : Bool := decide (a ≥ c) || decide (b ≥ d)
def cutR (a b c d a' b' c' d' : Int) : Rect := if emptyB (max a a') (max b b') (min c c') (min d d') then ⟨0, 0, 0, 0⟩ else ⟨max a a', max b b', min c c', min d d'⟩
def areaI (a b c d : Int) : Int := if emptyB a b c d then 0 else (c - a) * (d - b)
theorem emptyB_true {a b c d : Int} : emptyB a b c d = true ↔ a ≥ c ∨ b ≥ d := by simp [emptyB]
theorem emptyB_false {a b c d : Int} : emptyB a b c d = false ↔ a < c ∧ b < d := by simp [emptyB]
theorem hasB_true {a b c d x y : Int} : hasB a b c d x y = true ↔ a ≤ x ∧ x < c ∧ b ≤ y ∧ y < d := by simp [hasB, and_assoc]
def coversB (a b c d a' b' c' d' : Int) : Bool := emptyB a' b' c' d' || (decide (a ≤ a') && decide (b ≤ b') && decide (c' ≤ c) && decide (d' ≤ d))
theorem covers_cut {a b c d a' b' c' d' : Int} (h : emptyB a' b' c' d' = false) : eqInts [(cutR a b c d a' b' c' d').x0, (cutR a b c d a' b' c' d').y0, (cutR a b c d a' b' c' d').x1, (cutR a b c d a' b' c' d').y1] [a', b', c', d'] = coversB a b c d a' b' c' d' := by
  rw [eqInts4]
  unfold coversB
  rw [h]
  have he := emptyB_false.1 h
  simp only [Bool.false_or]
  rw [Bool.eq_iff_iff]
  simp only [Bool.and_eq_true, decide_eq_true_eq]
  unfold cutR
  cases hh : emptyB (max a a') (max b b') (min c c') (min d d') with
  | true =>
    have := emptyB_true.1 hh
    simp only [if_true]
    constructor <;> intro hx <;> omega
  | false =>
    simp only [Bool.false_eq_true, if_false]
    constructor <;> intro hx <;> omega
def clip (n : Int) : Int := min (max n 0) 255
theorem clip_range (n : Int) : 0 ≤ clip n ∧ clip n ≤ 255 := by unfold clip; omega
def mkC (a r g b : Int) : Int := clip a * 16777216 + clip r * 65536 + clip g * 256 + clip b
theorem mkC_range (a r g b : Int) : 0 ≤ mkC a r g b ∧ mkC a r g b < 4294967296 := by
  have := clip_range a; have := clip_range r; have := clip_range g; have := clip_range b
  unfold mkC; omega
def pa (c : Int) : Int := c / 16777216
def pr (c : Int) : Int := c / 65536 % 256
def pg (c : Int) : Int := c / 256 % 256
def pb (c : Int) : Int := c % 256
def mayB (c : Int) : Bool := decide (pr c ≤ pa c) && decide (pg c ≤ pa c) && decide (pb c ≤ pa c)
def InC (c : Int) : Prop := 0 ≤ c ∧ c < 4294967296
structure Img (tI tC : TypeId) (w : World) (m : Nat) (W H : Int) (r n cap : Nat) (px : List Int) : Prop where
  hdr : w.heap[m]? = some (.cells #[.int .i64 W, .int .i64 H, .slice (some ⟨r, 0, none⟩) n cap] tI (0, 0))
  row : Row w (some ⟨r, 0, none⟩) r n cap tC 1 (ivals .u32 px)
  ne : m ≠ r
structure ImgOk (W H : Int) (n : Nat) (px : List Int) : Prop where
  w1 : 1 ≤ W
  w2 : W ≤ 256
  h1 : 1 ≤ H
  h2 : H ≤ 256
  num : (n : Int) = W * H
  len : px.length = n
  rng : ∀ c, c ∈ px → InC c
theorem mul_le_of {a b c d : Int} (h1 : a ≤ c) (h2 : b ≤ d) (h3 : 0 ≤ b) (h4 : 0 ≤ c) : a * b ≤ c * d := Int.mul_le_mul h1 h2 h3 h4
theorem ImgOk.le {W H : Int} {n : Nat} {px : List Int} (h : ImgOk W H n px) : (n : Int) ≤ 65536 ∧ 1 ≤ n := by
  have h1 : W * H ≤ 256 * 256 := mul_le_of h.w2 h.h2 (by have := h.h1; omega) (by omega)
  have h2 : 1 * 1 ≤ W * H := mul_le_of h.w1 h.h1 (by omega) (by have := h.w1; omega)
  have := h.num
  omega
theorem ImgOk.place {W H : Int} {n : Nat} {px : List Int} (h : ImgOk W H n px) {x y : Int} (hx0 : 0 ≤ x) (hx : x < W) (hy0 : 0 ≤ y) (hy : y < H) : 0 ≤ y * W ∧ y * W ≤ 65536 ∧ y * W + x < (n : Int) := by
  have e1 : 0 ≤ y * W := Int.mul_nonneg hy0 (by have := h.w1; omega)
  have e2 : (y + 1) * W ≤ H * W := Int.mul_le_mul_of_nonneg_right (by omega) (by have := h.w1; omega)
  have e3 : (y + 1) * W = y * W + W := by rw [Int.add_mul]; omega
  have e4 : H * W = (n : Int) := by rw [h.num, Int.mul_comm]
  have := h.le
  omega
structure ImgR (tI : TypeId) (w : World) (m : Nat) (W H : Int) (r n cap : Nat) (px : List Int) : Prop where
  hdr : w.heap[m]? = some (.cells #[.int .i64 W, .int .i64 H, .slice (some ⟨r, 0, none⟩) n cap] tI (0, 0))
  rd : Rd w (some ⟨r, 0, none⟩) r 0 n 1 (ivals .u32 px)
  cap : n ≤ cap
theorem ImgR.tab {tI : TypeId} {w : World} {m : Nat} {W H : Int} {r n cap : Nat} {px : List Int} (h : ImgR tI w m W H r n cap px) :
    Tab w w [.ro m [.int .i64 W, .int .i64 H, .slice (some ⟨r, 0, none⟩) n cap] tI, .gen (rdE (some ⟨r, 0, none⟩) r 0 n 1 (ivals .u32 px))] := by
  refine Tab.addOld (Tab.addOld (Tab.start w) (.gen (rdE (some ⟨r, 0, none⟩) r 0 n 1 (ivals .u32 px))) h.rd rfl (fun i x hx => by simp at hx)) (.ro m _ tI) h.hdr rfl (fun i x hx hw => ?_)
  cases i with
  | zero => simp at hx; subst hx; simp [Ent.wr, rdE] at hw
  | succ i => simp at hx
def atC (W H : Int) (px : List Int) (x y : Int) : Int := if hasB 0 0 W H x y then px.getD (y * W + x).toNat 0 else 0
structure NewImg (tI tC : TypeId) (w w' : World) (b : Nat) (W H : Int) (r n cap : Nat) (px : List Int) : Prop where
  img : Img tI tC w' b W H r n cap px
  b1 : w.heap.size ≤ b
  r1 : w.heap.size ≤ r
  bel : Below w.heap.size w w'
theorem newImg_of_tab {tI tC : TypeId} {w w' : World} {b : Nat} {W H : Int} {r n cap : Nat} {px : List Int} (hT : Tab w w' [.cells b [.int .i64 W, .int .i64 H, .slice (some ⟨r, 0, none⟩) n cap] tI true, .gen (rowE (some ⟨r, 0, none⟩) r n cap tC 1 (ivals .u32 px) true)]) : NewImg tI tC w w' b W H r n cap px :=
  ⟨⟨hT.ok 0 _ rfl, hT.ok 1 _ rfl, fun h => hT.disj 0 1 _ _ (by omega) rfl rfl (.inl rfl) b rfl ⟨h, by simp⟩⟩, hT.own 0 _ rfl rfl b rfl, hT.own 1 _ rfl rfl r ⟨rfl, by simp⟩, hT.post rfl⟩
theorem imgOk_new {W H : Int} {n : Nat} (hw : 1 ≤ W ∧ W ≤ 256 ∧ 1 ≤ H ∧ H ≤ 256) (hn : (n : Int) = W * H) : ImgOk W H n (List.replicate n 0) :=
  ⟨hw.1, hw.2.1, hw.2.2.1, hw.2.2.2, hn, by simp, fun c hc => by rw [(List.mem_replicate.1 hc).2]; exact ⟨by omega, by omega⟩⟩
theorem Tab.two {w0 w w' : World} {T : List Ent} (hT : Tab w0 w T) (hb : Below w.heap.size w w') (e f : Ent) (he : e.ok w') (hf : f.ok w') (hen : ∀ k, e.blk k → w.heap.size ≤ k) (hfn : ∀ k, f.blk k → w.heap.size ≤ k) (hef : ∀ k, e.blk k → ¬ f.blk k) : Tab w0 w' (e :: f :: T) := by
  have h1 := hT.push (e := f) hb.os hb.tape hb.output hb.size (fun k hk => hb.block k hk) hf hfn
  refine ⟨h1.os, h1.tape, h1.output, h1.size, ?_, ?_, ?_, ?_⟩
  · intro i x hx
    cases i with
    | zero => simp at hx; subst hx; exact he
    | succ i => exact h1.ok i x (by simpa using hx)
  · intro k hk hno
    exact h1.frame k hk (fun i x hx => hno (i + 1) x (by simpa using hx))
  · intro i x hx hxo k hk
    cases i with
    | zero => simp at hx; subst hx; exact Nat.le_trans hT.size (hen k hk)
    | succ i => exact h1.own i x (by simpa using hx) hxo k hk
  · have key : ∀ (i : Nat) (x : Ent), (f :: T)[i]? = some x → ∀ k, e.blk k → ¬ x.blk k := by
      intro i x hx k hk hk'
      cases i with
      | zero => simp at hx; subst hx; exact hef k hk hk'
      | succ i =>
        simp at hx
        have := x.inb w k (hT.ok i x hx) hk'
        have := hen k hk
        omega
    intro i j x y hij hx hy hxy k hk hk'
    cases i with
    | zero =>
      cases j with
      | zero => exact hij rfl
      | succ j => simp only [List.getElem?_cons_zero, Option.some.injEq] at hx; subst hx; exact key j y (by simpa using hy) k hk hk'
    | succ i =>
      cases j with
      | zero => simp only [List.getElem?_cons_zero, Option.some.injEq] at hy; subst hy; exact key i x (by simpa using hx) k hk' hk
      | succ j => exact h1.disj i j x y (by omega) (by simpa using hx) (by simpa using hy) hxy k hk hk'
theorem Tab.addImg {tI tC : TypeId} {w0 w w' : World} {T : List Ent} (hT : Tab w0 w T) {b : Nat} {W H : Int} {r n cap : Nat} {px : List Int} (h : NewImg tI tC w w' b W H r n cap px) :
    Tab w0 w' (.cells b [.int .i64 W, .int .i64 H, .slice (some ⟨r, 0, none⟩) n cap] tI true :: .gen (rowE (some ⟨r, 0, none⟩) r n cap tC 1 (ivals .u32 px) true) :: T) :=
  hT.two h.bel (.cells b [.int .i64 W, .int .i64 H, .slice (some ⟨r, 0, none⟩) n cap] tI true) (.gen (rowE (some ⟨r, 0, none⟩) r n cap tC 1 (ivals .u32 px) true)) h.img.hdr h.img.row (fun k hk => by have : k = b := hk; rw [this]; exact h.b1) (fun k hk => by rw [hk.1]; exact h.r1)
    (fun k hk hk' => h.img.ne ((show k = b from hk).symm.trans hk'.1))
theorem wf64 {x : Int} (h : (Lit.int .i64 x).wf = true) : -9223372036854775808 ≤ x ∧ x ≤ 9223372036854775807 := by
  simp [Lit.wf, IntKind.min, IntKind.max, IntKind.bits, IntKind.signed] at h
  omega
end Go.Proofs.Ytkfdmfclndaanaa
namespace Go.Proofs.Ytkfdmfclndaanaa
open Go Go.RowKit
variable {dfs : List Deferred}
set_option maxRecDepth 100000
theorem bS {P : Program} {ops : Array Oper} {n i k : Nat} {w0 : World} {Q : Exit → Act → World → Prop} {L : List (Nat × Value)} {T : List Ent} (hs : List Nat) (i' k' : Nat) (L' : List (Nat × Value)) (hk : Cont dfs (PL P ops Q i' k') n w0 L' T) (hi : i' = i + hs.length := by rfl) (hkk : k = hs.length + k' := by rfl)
    (h1 : (runB P ops n i hs [] L T).isSome = true := by kernel_rfl)
    (h2 : (runB P ops n i hs [] L T).map (outB (L'.map Prod.fst)) = (runB P ops n i hs [] L T).map (wishB (L'.map Prod.snd) T) := by kernel_rfl) : Cont dfs (PL P ops Q i k) n w0 L T :=
  batch0 hs i' k' L' T hi hkk h1 h2 hk
def memN (d : Nat) : List Nat → Bool
  | [] => false
  | x :: r => Nat.beq x d || memN d r
def dropL : List Nat → List (Nat × Value) → List (Nat × Value)
  | _, [] => []
  | ks, p :: r => bif memN p.1 ks then dropL ks r else p :: dropL (p.1 :: ks) r
def updL (adds : List (Nat × Value)) (ds : List Nat) (L : List (Nat × Value)) : List (Nat × Value) := adds ++ dropL (adds.map Prod.fst ++ ds) L
theorem bD {P : Program} {ops : Array Oper} {n i k : Nat} {w0 : World} {Q : Exit → Act → World → Prop} {L : List (Nat × Value)} {T : List Ent} (hs : List Nat) (i' k' : Nat) (adds : List (Nat × Value)) (ds : List Nat) (hk : Cont dfs (PL P ops Q i' k') n w0 (updL adds ds L) T) (hi : i' = i + hs.length := by rfl) (hkk : k = hs.length + k' := by rfl)
    (h1 : (runB P ops n i hs [] L T).isSome = true := by kernel_rfl)
    (h2 : (runB P ops n i hs [] L T).map (outB ((updL adds ds L).map Prod.fst)) = (runB P ops n i hs [] L T).map (wishB ((updL adds ds L).map Prod.snd) T) := by kernel_rfl) : Cont dfs (PL P ops Q i k) n w0 L T :=
  batch0 hs i' k' (updL adds ds L) T hi hkk h1 h2 hk
theorem tD {P : Program} {Q : Exit → Act → World → Prop} {n : Nat} {w0 : World} {L : List (Nat × Value)} {T : List Ent} {ops : Array Oper} {m fuel : Nat} {l : List Nat} {T0 : List Ent} (s : Nat) (ds : List Nat) (st : List (Nat × Nat)) (fuel' : Nat) (l' : List Nat) (adds : List (Nat × Value)) (dl : List Nat)
    (hk : Cont dfs (AH P ops Q (fun w => Known w T0) m fuel' l') n w0 (updL adds dl L) T)
    (hpo : PanicOk Q := by repeat' (first | exact pok_body | refine pok_then ?_ | refine pok_blk ?_))
    (hns : Region.noSelect ops = true := by kernel_rfl)
    (hS : dropT ds (T.drop s) = T0 := by kernel_rfl) (hfu : fuel = st.length + fuel' := by rfl) (hl : markT st l = l' := by rfl)
    (h1 : (runT P ops n m T0 st l L).isSome = true := by kernel_rfl)
    (h2 : (runT P ops n m T0 st l L).map (outT ((updL adds dl L).map Prod.fst)) = (runT P ops n m T0 st l L).map (wishT ((updL adds dl L).map Prod.snd)) := by kernel_rfl) : Cont dfs (AH P ops Q (fun w => Known w T0) m fuel l) n w0 L T :=
  takes s ds st fuel' l' (updL adds dl L) hns hpo hS hfu hl h1 h2 hk
theorem cN {K : Act → World → Prop} {n : Nat} {w0 : World} {L : List (Nat × Value)} {T : List Ent} (T' : List Ent) (h : Cont dfs K n w0 L T') (hT : T = T' := by rfl) : Cont dfs K n w0 L T := by
  subst hT
  exact h
theorem sT {P : Program} {Q : Exit → Act → World → Prop} {n : Nat} {w0 : World} {L : List (Nat × Value)} {T : List Ent} {ops : Array Oper} {m fuel : Nat} {l : List Nat} {T0 : List Ent} (s : Nat) (ds : List Nat) (i fuel' : Nat) (d : Tmp) (e : Sem Value) (v : Value) (hrun : ∀ w, Known w T0 → e.run P w = .ok v w)
    (hk : Cont dfs (AH P ops Q (fun w => Known w T0) m fuel' (i :: l)) n w0 ((d, v) :: L) T)
    (hpo : PanicOk Q := by repeat' (first | exact pok_body | refine pok_then ?_ | refine pok_blk ?_))
    (hns : Region.noSelect ops = true := by kernel_rfl) (hS : dropT ds (T.drop s) = T0 := by kernel_rfl) (hfu : fuel = fuel' + 1 := by rfl)
    (hfr : (Region.free .any ops (marked m l) i && (Region.ready .any ops (marked m l)).contains i) = true := by kernel_rfl)
    (H : opS ops n i L = some (some d, valS e) := by kernel_rfl) : Cont dfs (AH P ops Q (fun w => Known w T0) m fuel l) n w0 L T :=
  sem_take s ds i fuel' d e v hns hpo hS hfu hfr H hrun hk
theorem tK {P : Program} {Q : Exit → Act → World → Prop} {n : Nat} {w0 : World} {L : List (Nat × Value)} {T : List Ent} {ops : Array Oper} {m fuel : Nat} {l : List Nat} {T0 : List Ent} (s : Nat) (ds : List Nat) (st : List (Nat × Nat)) (fuel' : Nat) (l' : List Nat) (L' : List (Nat × Value))
    (hk : Cont dfs (AH P ops Q (fun w => Known w T0) m fuel' l') n w0 L' T)
    (hpo : PanicOk Q := by repeat' (first | exact pok_body | refine pok_then ?_ | refine pok_blk ?_))
    (hns : Region.noSelect ops = true := by kernel_rfl)
    (hS : dropT ds (T.drop s) = T0 := by kernel_rfl) (hfu : fuel = st.length + fuel' := by rfl) (hl : markT st l = l' := by rfl)
    (h1 : (runT P ops n m T0 st l L).isSome = true := by kernel_rfl)
    (h2 : (runT P ops n m T0 st l L).map (outT (L'.map Prod.fst)) = (runT P ops n m T0 st l L).map (wishT (L'.map Prod.snd)) := by kernel_rfl) : Cont dfs (AH P ops Q (fun w => Known w T0) m fuel l) n w0 L T :=
  takes s ds st fuel' l' L' hns hpo hS hfu hl h1 h2 hk
theorem oS {P : Program} {Q : Exit → Act → World → Prop} {n : Nat} {w0 : World} {L : List (Nat × Value)} {T : List Ent} {ops : Array Oper} {i : Nat} {K : Act → World → Prop} (h : Nat) (L' : List (Nat × Value)) (T' : List Ent) (hk : Cont dfs K n w0 L' T')
    (h1 : (stepB P ops n i h [] L T).isSome = true := by kernel_rfl)
    (h2 : (stepB P ops n i h [] L T).map (outB (L'.map Prod.fst)) = (stepB P ops n i h [] L T).map (wishB (L'.map Prod.snd) T') := by kernel_rfl) : Cont dfs (wpOp P ops Q i K) n w0 L T :=
  one_step h L' T' h1 h2 hk
section
variable {P : Program} {n : Nat} {w0 : World} {L : List (Nat × Value)} {T : List Ent}
theorem zDNSR {o1 o2 : Array Oper} {i1 i2 : Nat} {x1 : Code} {q1 q2 : Exit → Act → World → Prop} (m1 : Nat) (h : Cont dfs (PL P o2 (Exit.then (Code.wp P x1 q1) q1) 0 m1) n w0 L T) (g0 : o2.size = m1 := by rfl) : Cont dfs (PL P o1 (Exit.then (Code.wp P (.seq (.region i1 o2 false) x1) q1) q2) i2 0) n w0 L T := cDn (tNo (cSq (cRg _ g0 h)))
theorem zDNSSR {o1 o2 : Array Oper} {i1 i2 : Nat} {x1 x2 : Code} {q1 q2 : Exit → Act → World → Prop} (m1 : Nat) (h : Cont dfs (PL P o2 (Exit.then (Code.wp P x1 (Exit.then (Code.wp P x2 q1) q1)) (Exit.then (Code.wp P x2 q1) q1)) 0 m1) n w0 L T) (g0 : o2.size = m1 := by rfl) : Cont dfs (PL P o1 (Exit.then (Code.wp P (.seq (.seq (.region i1 o2 false) x1) x2) q1) q2) i2 0) n w0 L T := cDn (tNo (cSq (cSq (cRg _ g0 h))))
theorem zDNr {o1 : Array Oper} {q1 q2 : Exit → Act → World → Prop} {i1 : Nat} (h : Cont dfs (q1 .ret) n w0 L T) : Cont dfs (PL P o1 (Exit.then (Code.wp P .ret q1) q2) i1 0) n w0 L T := cDn (tNo (cont_ret h))
theorem zDN {o1 : Array Oper} {k1 : Act → World → Prop} {q1 : Exit → Act → World → Prop} {i1 : Nat} (h : Cont dfs k1 n w0 L T) : Cont dfs (PL P o1 (Exit.then k1 q1) i1 0) n w0 L T := cDn (tNo h)
theorem zSR {i1 : Nat} {o1 : Array Oper} {x1 : Code} {q1 : Exit → Act → World → Prop} (m1 : Nat) (h : Cont dfs (PL P o1 (Exit.then (Code.wp P x1 q1) q1) 0 m1) n w0 L T) (g0 : o1.size = m1 := by rfl) : Cont dfs (Code.wp P (.seq (.region i1 o1 false) x1) q1) n w0 L T := cSq (cRg _ g0 h)
theorem zDNrt {o1 : Array Oper} {k1 : Act → World → Prop} {q1 q2 : Exit → Act → World → Prop} {i1 : Nat} (h : Cont dfs (q1 .ret) n w0 L T) : Cont dfs (PL P o1 (Exit.then (Code.wp P .ret (Exit.then k1 q1)) q2) i1 0) n w0 L T := cDn (tNo (cont_ret (then_ret h)))
theorem zTSR {c1 : Operand} {i1 : Nat} {o1 : Array Oper} {x1 x2 : Code} {q1 : Exit → Act → World → Prop} (m1 : Nat) (h : Cont dfs (PL P o1 (Exit.then (Code.wp P x1 q1) q1) 0 m1) n w0 L T) (g0 : knownB L c1 = some (.bool true) := by rfl) (g1 : o1.size = m1 := by rfl) : Cont dfs (Code.wp P (.cond c1 (.seq (.region i1 o1 false) x1) x2) q1) n w0 L T := cTr g0 (cSq (cRg _ g1 h))
theorem zFKNSR {c1 : Operand} {x1 x2 : Code} {i1 : Nat} {o1 : Array Oper} {q1 q2 : Exit → Act → World → Prop} (m1 : Nat) (h : Cont dfs (PL P o1 (Exit.then (Code.wp P x2 q1) q1) 0 m1) n w0 L T) (g0 : knownB L c1 = some (.bool false) := by rfl) (g1 : o1.size = m1 := by rfl) : Cont dfs (Code.wp P (.cond c1 x1 .skip) (Exit.then (Code.wp P (.seq (.region i1 o1 false) x2) q1) q2)) n w0 L T := cFa g0 (cont_skip (tNo (cSq (cRg _ g1 h))))
theorem zDNSTKNSBSR {o1 o2 : Array Oper} {c1 : Operand} {x1 x2 x3 : Code} {i1 i2 i3 : Nat} {q1 q2 : Exit → Act → World → Prop} (m1 : Nat) (h : Cont dfs (PL P o2 (Exit.then (Code.wp P x2 (Exit.inBlock i1 (Exit.then (Code.wp P x3 q1) q1))) (Exit.inBlock i1 (Exit.then (Code.wp P x3 q1) q1))) 0 m1) n w0 L T) (g0 : knownB L c1 = some (.bool true) := by rfl) (g1 : o2.size = m1 := by rfl) : Cont dfs (PL P o1 (Exit.then (Code.wp P (.seq (.cond c1 .skip x1) (.seq (.block i1 (.seq (.region i2 o2 false) x2)) x3)) q1) q2) i3 0) n w0 L T := cDn (tNo (cSq (cTr g0 (cont_skip (tNo (cSq (cont_block (cSq (cRg _ g1 h)))))))))
theorem zDNTSR {o1 o2 : Array Oper} {c1 : Operand} {i1 i2 : Nat} {x1 x2 : Code} {q1 q2 : Exit → Act → World → Prop} (m1 : Nat) (h : Cont dfs (PL P o2 (Exit.then (Code.wp P x1 q1) q1) 0 m1) n w0 L T) (g0 : knownB L c1 = some (.bool true) := by rfl) (g1 : o2.size = m1 := by rfl) : Cont dfs (PL P o1 (Exit.then (Code.wp P (.cond c1 (.seq (.region i1 o2 false) x1) x2) q1) q2) i2 0) n w0 L T := cDn (tNo (cTr g0 (cSq (cRg _ g1 h))))
theorem zDNFKNSR {o1 o2 : Array Oper} {c1 : Operand} {x1 x2 : Code} {i1 i2 : Nat} {q1 q2 q3 : Exit → Act → World → Prop} (m1 : Nat) (h : Cont dfs (PL P o2 (Exit.then (Code.wp P x2 q1) q1) 0 m1) n w0 L T) (g0 : knownB L c1 = some (.bool false) := by rfl) (g1 : o2.size = m1 := by rfl) : Cont dfs (PL P o1 (Exit.then (Code.wp P (.cond c1 x1 .skip) (Exit.then (Code.wp P (.seq (.region i1 o2 false) x2) q1) q2)) q3) i2 0) n w0 L T := cDn (tNo (cFa g0 (cont_skip (tNo (cSq (cRg _ g1 h))))))
theorem zFXxxeNSR {c1 : Operand} {x1 x2 : Code} {i1 i2 : Nat} {k1 k2 : Act → World → Prop} {o1 : Array Oper} {q1 q2 : Exit → Act → World → Prop} (m1 : Nat) (h : Cont dfs (PL P o1 (Exit.then (Code.wp P x2 q1) q1) 0 m1) n w0 L T) (g0 : knownB L c1 = some (.bool false) := by rfl) (g1 : o1.size = m1 := by rfl) : Cont dfs (Code.wp P (.cond c1 x1 (.exit i1)) (Exit.then k1 (Exit.then k2 (Exit.inBlock i1 (Exit.then (Code.wp P (.seq (.region i2 o1 false) x2) q1) q2))))) n w0 L T := cFa g0 (cont_exit (then_exit (then_exit (blk_exit (tNo (cSq (cRg _ g1 h)))))))
theorem zDNrut {o1 : Array Oper} {i1 i2 : Nat} {k1 : Act → World → Prop} {q1 q2 : Exit → Act → World → Prop} (h : Cont dfs (q1 .ret) n w0 L T) : Cont dfs (PL P o1 (Exit.then (Code.wp P .ret (Exit.inBlock i1 (Exit.then k1 q1))) q2) i2 0) n w0 L T := cDn (tNo (cont_ret (blk_ret (then_ret h))))
theorem zDNS {o1 : Array Oper} {x1 x2 : Code} {q1 q2 : Exit → Act → World → Prop} {i1 : Nat} (h : Cont dfs (Code.wp P x1 (Exit.then (Code.wp P x2 q1) q1)) n w0 L T) : Cont dfs (PL P o1 (Exit.then (Code.wp P (.seq x1 x2) q1) q2) i1 0) n w0 L T := cDn (tNo (cSq h))
theorem zDNB {o1 : Array Oper} {i1 i2 : Nat} {x1 : Code} {q1 q2 : Exit → Act → World → Prop} (h : Cont dfs (Code.wp P x1 (Exit.inBlock i1 q1)) n w0 L T) : Cont dfs (PL P o1 (Exit.then (Code.wp P (.block i1 x1) q1) q2) i2 0) n w0 L T := cDn (tNo (cont_block h))
theorem zDbNR {o1 o2 : Array Oper} {i1 i2 i3 : Nat} {q1 q2 : Exit → Act → World → Prop} (m1 : Nat) (h : Cont dfs (PL P o2 q1 0 m1) n w0 L T) (g0 : o2.size = m1 := by rfl) : Cont dfs (PL P o1 (Exit.inBlock i1 (Exit.then (Code.wp P (.region i2 o2 false) q1) q2)) i3 0) n w0 L T := cDn (blk_normal (tNo (cRg _ g0 h)))
theorem zN {k1 : Act → World → Prop} {q1 : Exit → Act → World → Prop} (h : Cont dfs k1 n w0 L T) : Cont dfs ((Exit.then k1 q1) .normal) n w0 L T := tNo h
end
section
variable {P : Program} {Q : Exit → Act → World → Prop} {K : Act → World → Prop} {n : Nat} {w0 : World} {L : List (Nat × Value)} {T : List Ent}
theorem pS {ops : Array Oper} {i k : Nat} (i' k' : Nat) (h : Cont dfs (wpOp P ops Q i (PL P ops Q i' k')) n w0 L T) (hi : i' = i + 1 := by rfl) (hkk : k = k' + 1 := by rfl) : Cont dfs (PL P ops Q i k) n w0 L T := pSt i' k' hi hkk h
theorem wI (s : Nat) (e : Int) (h : Cont dfs K n w0 ((s, .int .i64 e) :: L) T) (hs : lk L s = some (.int .i64 (IntKind.i64.wrap e)) := by rfl) (h0 : -9223372036854775808 ≤ e := by omega) (h1 : e ≤ 9223372036854775807 := by omega) : Cont dfs K n w0 L T := cRc s _ _ hs (wrapI h0 h1) h
theorem wU (s : Nat) (e : Int) (h : Cont dfs K n w0 ((s, .int .u32 e) :: L) T) (hs : lk L s = some (.int .u32 (IntKind.u32.wrap e)) := by rfl) (h0 : 0 ≤ e := by omega) (h1 : e ≤ 4294967295 := by omega) : Cont dfs K n w0 L T := cRc s _ _ hs (wrapU32 h0 h1) h
theorem rC (s : Nat) {v : Value} (v' : Value) (hs : lk L s = some v) (hv : v = v') (h : Cont dfs K n w0 ((s, v') :: L) T) : Cont dfs K n w0 L T := cRc s v v' hs hv h
theorem sD (s : Nat) {p : Prop} [Decidable p] (hs : lk L s = some (.bool (decide p))) (ht : p → Cont dfs K n w0 ((s, .bool true) :: L) T) (hf : ¬p → Cont dfs K n w0 ((s, .bool false) :: L) T) : Cont dfs K n w0 L T := cSp s _ hs (fun h => ht (of_decide_eq_true h)) (fun h => hf (of_decide_eq_false h))
theorem rA {fn : Func} {R : Ending → World → Prop} {e : Exit} {r : ResultVar} (hres : fn.results = #[r]) (h : Nat) (v : Value) (hR : ∀ w, Tab w0 w T → R (.returned v) w) (he : e = .ret ∨ e = .normal := by first | exact .inl rfl | exact .inr rfl) (h1 : (readB P L T r h).isSome = true := by kernel_rfl) (h2 : (readB P L T r h).map readO = (readB P L T r h).map (readW v) := by kernel_rfl) : Cont [] (bodyPost P fn R e) n w0 L T := ret_one he hres h v h1 h2 hR
theorem rB {fn : Func} {R : Ending → World → Prop} {e : Exit} {r s : ResultVar} (hres : fn.results = #[r, s]) (h g : Nat) (v u : Value) (hR : ∀ w, Tab w0 w T → R (.returned (.tuple #[v, u])) w) (he : e = .ret ∨ e = .normal := by first | exact .inl rfl | exact .inr rfl) (h1 : (readB P L T r h).isSome = true := by kernel_rfl) (h2 : (readB P L T r h).map readO = (readB P L T r h).map (readW v) := by kernel_rfl) (g1 : (readB P L T s g).isSome = true := by kernel_rfl) (g2 : (readB P L T s g).map readO = (readB P L T s g).map (readW u) := by kernel_rfl) : Cont [] (bodyPost P fn R e) n w0 L T := ret_two he hres h g v u h1 h2 g1 g2 hR
theorem eN {f : FuncId} {fn : Func} {c : Code} {args : Array Value} {w : World} {R : Ending → World → Prop} {n : Nat} (L : List (Nat × Value)) (hf : P.funcs[f]? = some fn) (hn : fn.ntmps = n) (hb : fn.body = some c) (hT : Tab w w T) (h : Cont [] (c.wp P (bodyPost P fn R)) n w L T) (hsz : Nat.ble args.size n = true := by kernel_rfl) (hL : (L.map fun p => args[p.1]?) = (L.map fun p => some p.2) := by rfl) : Calls P f args w R := enter n L T hf hb hn hsz hL hT h
theorem cP {ops : Array Oper} {i : Nat} {f : FuncId} {args : Array Value} (d : Tmp) (v : Value) (hc : ∀ w, Tab w0 w T → Calls P f args w fun e w' => e = .returned v ∧ Below w.heap.size w w') (hk : Cont dfs K n w0 ((d, v) :: L) T) (H : callB P ops n i L = some (some d, f, args) := by kernel_rfl) : Cont dfs (wpOp P ops Q i K) n w0 L T := call_pure v H hc hk
theorem cG {ops : Array Oper} {i : Nat} {d : Tmp} {f : FuncId} {args : Array Value} {α : Type} (v : α → Value) (T' : α → List Ent) (G : α → Prop) (hc : ∀ w, Tab w0 w T → Calls P f args w fun e w' => ∃ x, e = .returned (v x) ∧ G x ∧ Tab w0 w' (T' x)) (hk : ∀ x, G x → Cont dfs K n w0 ((d, v x) :: L) (T' x)) (H : callB P ops n i L = some (some d, f, args) := by kernel_rfl) : Cont dfs (wpOp P ops Q i K) n w0 L T := call_gen v T' G H hc hk
theorem sS {ops : Array Oper} {i : Nat} (d : Tmp) (s : Sem Value) (v : Value) (hrun : ∀ w, Tab w0 w T → s.run P w = .ok v w) (hk : Cont dfs K n w0 ((d, v) :: L) T) (H : opS ops n i L = some (some d, valS s) := by kernel_rfl) : Cont dfs (wpOp P ops Q i K) n w0 L T := sem_step d s v H hrun hk
theorem dO {ops : Array Oper} {m fuel : Nat} {l : List Nat} {S : World → Prop} (i fuel' : Nat) (h : Cont dfs (wpOp P ops Q i (fun a w => S w ∧ AH P ops Q S m fuel' (i :: l) a w)) n w0 L T) (hf : fuel = fuel' + 1 := by rfl) (hr : Region.ready .any ops (marked m l) = [i] := by kernel_rfl) : Cont dfs (AH P ops Q S m fuel l) n w0 L T := dOn i fuel' hf hr h
theorem dX {T0 : List Ent} (s : Nat) (ds : List Nat) (h : Cont dfs K n w0 L T) (hS : dropT ds (T.drop s) = T0 := by kernel_rfl) : Cont dfs (fun a w => Known w T0 ∧ K a w) n w0 L T := dNx s ds hS h
theorem dD {ops : Array Oper} {m fuel : Nat} {l : List Nat} {S : World → Prop} (h : Cont dfs (Q .normal) n w0 L T) (hr : Region.ready .any ops (marked m l) = [] := by kernel_rfl) : Cont dfs (AH P ops Q S m fuel l) n w0 L T := drawn_done hr h
theorem fG (i : Nat) (hk : Cont dfs K n w0 L (T.eraseIdx i)) (h : mayGo T i = true := by rfl) : Cont dfs K n w0 L T := cFg i h hk
theorem cA {α : Type} {Inv : α → Prop} {Lf : α → List (Nat × Value)} {Tf : α → List Ent} {m : α → Nat} {x : α} (y : α) (hinv : Inv y) (hm : m y < m x := by (try dsimp only); omega) (hL : ((Lf y).map fun p => lk L p.1) = ((Lf y).map fun p => some p.2) := by kernel_rfl) (hT : Tf y = T := by kernel_rfl) : Cont dfs (Again dfs Inv Lf Tf m n w0 x) n w0 L T := cont_again y hinv hm hL hT
theorem cL {α : Type} {body : Code} (Inv : α → Prop) (Lf : α → List (Nat × Value)) (Tf : α → List Ent) (m : α → Nat) (x0 : α) (hinv : Inv x0) (round : ∀ x, Inv x → Cont dfs (body.wp P (Exit.then (Again dfs Inv Lf Tf m n w0 x) Q)) n w0 (Lf x) (Tf x)) (hL : ((Lf x0).map fun p => lk L p.1) = ((Lf x0).map fun p => some p.2) := by kernel_rfl) (hTf : Tf x0 = T := by kernel_rfl) : Cont dfs ((Code.loop body).wp P Q) n w0 L T := cont_loop Inv Lf Tf m x0 hinv hL hTf round
theorem cM {T' : List Ent} (h : Cont dfs K n w0 L T') (hT : T = T' := by dsimp only [List.cons_append, List.nil_append, List.set_cons_zero, List.set_cons_succ, List.eraseIdx_cons_zero, List.eraseIdx_cons_succ]) : Cont dfs K n w0 L T := by
  subst hT
  exact h
theorem nL (L' : List (Nat × Value)) {T' : List Ent} (h : Cont dfs K n w0 L' T') (hL : (L'.map fun p => lk L p.1) = (L'.map fun p => some p.2) := by kernel_rfl) (hT : T = T' := by first | dsimp only [List.cons_append, List.nil_append, List.set_cons_zero, List.set_cons_succ, List.eraseIdx_cons_zero, List.eraseIdx_cons_succ] | rfl) : Cont dfs K n w0 L T := cont_norm L' T' hL hT h
theorem bW {ops : Array Oper} {i k : Nat} (hs : List Nat) (i' k' : Nat) (L' : Nat → List (Nat × Value)) (T' : Nat → List Ent) (keys : List Nat) (hk : ∀ b, Cont dfs (PL P ops Q i' k') n w0 (L' b) (T' b)) (hi : i' = i + hs.length := by rfl) (hkk : k = hs.length + k' := by rfl) (hkeys : ∀ b, (L' b).map Prod.fst = keys := by intro _; rfl) (h1 : ∀ b, (runB P ops n i hs [b] L T).isSome = true := by intro b; kernel_rfl) (h2 : ∀ b, (runB P ops n i hs [b] L T).map (outB keys) = (runB P ops n i hs [b] L T).map (wishB ((L' b).map Prod.snd) (T' b)) := by intro b; kernel_rfl) : Cont dfs (PL P ops Q i k) n w0 L T := batch1 hs i' k' L' T' hi hkk keys hkeys h1 h2 hk
theorem bZ {ops : Array Oper} {i k : Nat} (hs : List Nat) (i' k' : Nat) (L' : List (Nat × Value)) (T' : List Ent) (hk : Cont dfs (PL P ops Q i' k') n w0 L' T') (hi : i' = i + hs.length := by rfl) (hkk : k = hs.length + k' := by rfl) (h1 : (runB P ops n i hs [] L T).isSome = true := by kernel_rfl) (h2 : (runB P ops n i hs [] L T).map (outB (L'.map Prod.fst)) = (runB P ops n i hs [] L T).map (wishB (L'.map Prod.snd) T') := by kernel_rfl) : Cont dfs (PL P ops Q i k) n w0 L T := batch0 hs i' k' L' T' hi hkk h1 h2 hk
theorem rI {t : TypeId} (e sz : TypeId) {g o len cap off : Nat} {k : IntKind} {x : Int} (w : World) (hu : P.underlying t = some (.slice e) := by kernel_rfl) (hi : (P.info? e).map (·.size) = some sz := by kernel_rfl) (h0 : 0 ≤ x := by omega) (h1 : x < (len : Int) := by omega) (hoff : off = o + x.toNat * sz := by omega) : (Instr.indexAt t (.slice (some ⟨g, o, none⟩) len cap) (.int k x)).run P w = .ok (.pointer (some ⟨g, off, none⟩)) w := run_indexAt off hu hi h0 h1 hoff w
end
theorem sE {K : Act → World → Prop} {n : Nat} {w0 : World} {L : List (Nat × Value)} {T : List Ent} (s : Nat) {x y : Int} (hs : lk L s = some (.bool (x == y))) (ht : x = y → Cont dfs K n w0 ((s, .bool true) :: L) T) (hf : x ≠ y → Cont dfs K n w0 ((s, .bool false) :: L) T) : Cont dfs K n w0 L T := cSp s _ hs (fun h => ht (by simpa using h)) (fun h => hf (by simpa using h))
end Go.Proofs.Ytkfdmfclndaanaa
namespace Go.Proofs.Ytkfdmfclndaanaa
open Go Go.RowKit
set_option maxRecDepth 100000
set_option maxHeartbeats 8000000
theorem rectHas (a b c d x y : Int) (w : World) :
    Calls Try.prog 28 #[.agg #[iQ a, iQ b, iQ c, iQ d], iQ x, iQ y] w fun e w' => e = .returned (.bool (hasB a b c d x y)) ∧ Below w.heap.size w w' := by
 refine eN [(0, .agg #[iq a, iq b, iq c, iq d]), (1, iq x), (2, iq y)] Try.func28 Try.ntmps28 rfl (Tab.start w) ?_
 refine zSR 2 <| bW [0, 0] 2 0 (fun b1 => [(1, iq x), (2, iq y), (3, .pointer (pB b1))]) (fun b1 => [.cells b1 [iq a, iq b, iq c, iq d] 37 true]) [1, 2, 3] fun b1 => ?_
 refine zDNSR 23 <| bD [0, 0, 0, 0, 0] 5 18 [(11, .bool (decide (x ≥ a)))] [7, 8, 9, 10] <| sD 11 rfl (fun c2_ => ?_) fun c2_ => ?_
 ·
  refine bD [0, 0, 0, 0, 0, 0] 11 12 [(17, .bool (decide (x < c)))] [12, 13, 14, 15, 16] <| sD 17 rfl (fun c3_ => ?_) fun c3_ => ?_
  ·
   refine bD [0, 0, 0, 0, 0, 0] 17 6 [(23, .bool (decide (y ≥ b)))] [18, 19, 20, 21, 22] <| sD 23 rfl (fun c4_ => ?_) fun c4_ => ?_
   ·
    refine bS [0, 0, 0, 0, 0, 0] 23 0 [(6, .bool (decide (y < d)))] <| fG 0 <| zDNr <| rA rfl 0 (.bool (decide (y < d))) fun w hT => ?_
    exact ⟨ret_bool (by simp [hasB, *] <;> omega), hT.post rfl⟩
   refine bS [0, 0, 0, 0, 0, 0] 23 0 [(6, .bool false)] <| fG 0 <| zDNr <| rA rfl 0 (.bool false) fun w hT => ?_
   exact ⟨ret_bool (by simp [hasB, *] <;> omega), hT.post rfl⟩
  refine bS [0, 0, 0, 0, 0, 0, 0, 0, 0, 0, 0, 0] 23 0 [(6, .bool false)] <| fG 0 <| zDNr <| rA rfl 0 (.bool false) fun w hT => ?_
  exact ⟨ret_bool (by simp [hasB, *] <;> omega), hT.post rfl⟩
 refine bS [0, 0, 0, 0, 0, 0, 0, 0, 0, 0, 0, 0, 0, 0, 0, 0, 0, 0] 23 0 [(6, .bool false)] <| fG 0 <| zDNr <| rA rfl 0 (.bool false) fun w hT => ?_
 exact ⟨ret_bool (by simp [hasB, *] <;> omega), hT.post rfl⟩
theorem rectEmpty (a b c d : Int) (w : World) :
    Calls Try.prog 53 #[.agg #[iQ a, iQ b, iQ c, iQ d]] w fun e w' => e = .returned (.bool (emptyB a b c d)) ∧ Below w.heap.size w w' := by
 refine eN [(0, .agg #[iq a, iq b, iq c, iq d])] Try.func53 Try.ntmps53 rfl (Tab.start w) ?_
 refine zSR 2 <| bW [0, 0] 2 0 (fun b1 => [(1, .pointer (pB b1))]) (fun b1 => [.cells b1 [iq a, iq b, iq c, iq d] 37 true]) [1] fun b1 => ?_
 refine zDNSR 13 <| bD [0, 0, 0, 0, 0, 0] 6 7 [(8, .bool (decide (a ≥ c)))] [3, 4, 5, 6, 7] <| sD 8 rfl (fun c2_ => ?_) fun c2_ => ?_
 ·
  refine bS [0, 0, 0, 0, 0, 0, 0] 13 0 [(2, .bool true)] <| fG 0 <| zDNr <| rA rfl 0 (.bool true) fun w hT => ?_
  exact ⟨ret_bool (by simp [emptyB, *] <;> omega), hT.post rfl⟩
 refine bS [0, 0, 0, 0, 0, 0, 0] 13 0 [(2, .bool (decide (b ≥ d)))] <| fG 0 <| zDNr <| rA rfl 0 (.bool (decide (b ≥ d))) fun w hT => ?_
 exact ⟨ret_bool (by simp [emptyB, *] <;> omega), hT.post rfl⟩
theorem rectCut (a b c d a' b' c' d' : Int) (w : World) :
    Calls Try.prog 74 #[.agg #[iQ a, iQ b, iQ c, iQ d], .agg #[iQ a', iQ b', iQ c', iQ d']] w fun e w' => e = .returned (.agg #[iQ ((cutR a b c d a' b' c' d').x0), iQ ((cutR a b c d a' b' c' d').y0), iQ ((cutR a b c d a' b' c' d').x1), iQ ((cutR a b c d a' b' c' d').y1)]) ∧ Below w.heap.size w w' := by
 refine eN [(0, .agg #[iq a, iq b, iq c, iq d]), (1, .agg #[iq a', iq b', iq c', iq d'])] Try.func74 Try.ntmps74 rfl (Tab.start w) ?_
 refine zSR 3 <| batch3 [0, 0, 0] 3 0 (fun b1 b2 b3 => [(2, .pointer (pB b1)), (3, .pointer (pB b2)), (4, .pointer (pB b3))]) (fun b1 b2 b3 => [.cells b3 [iq 0, iq 0, iq 0, iq 0] 37 true, .cells b2 [iq a', iq b', iq c', iq d'] 37 true, .cells b1 [iq a, iq b, iq c, iq d] 37 true]) rfl rfl [2, 3, 4] (fun _ _ _ => rfl) (fun b1 b2 b3 => by kernel_rfl) (fun b1 b2 b3 => by kernel_rfl) (fun b1 b2 b3 => ?_)
 refine zDNSR 23 <| bW [0, 2, 0, 1, 0, 0, 2, 0, 1, 0, 0, 2, 0, 1, 0, 0, 2, 0, 1, 0, 0, 0, 0] 23 0 (fun b4 => [(4, .pointer (pB b3)), (5, .pointer (pB b4))]) (fun b4 => [.cells b4 [iq (mx a a'), iq (mx b b'), iq (mn c c'), iq (mn d d')] 37 true, .cells b3 [iq 0, iq 0, iq 0, iq 0] 37 true, .cells b2 [iq a', iq b', iq c', iq d'] 37 true, .cells b1 [iq a, iq b, iq c, iq d] 37 true]) [4, 5] fun b4 => ?_
 refine fG 2 <| fG 2 <| zDNSSR 2 <| bD [0] 1 1 [(27, .agg #[iq (mx a a'), iq (mx b b'), iq (mn c c'), iq (mn d d')])] [] <| pS 2 0 <| cP 28 (.bool (emptyB (mx a a') (mx b b') (mn c c') (mn d d'))) (fun w hT => rectEmpty (mx a a') (mx b b') (mn c c') (mn d d') w) <| zDN <| cSp 28 _ rfl (fun c5_ => ?_) fun c5_ => ?_
 ·
  refine zTSR 2 <| bD [0, 1] 2 0 [] [29] <| fG 0 <| zDNrt <| rA rfl 0 (.agg #[iq 0, iq 0, iq 0, iq 0]) fun w hT => ?_
  simp only [mx_eq, mn_eq] at *
  exact ⟨by simp [cutR, *], hT.post rfl⟩
 refine zFKNSR 2 <| bZ [0, 1] 2 0 [(4, .pointer (pB b3))] [.cells b4 [iq (mx a a'), iq (mx b b'), iq (mn c c'), iq (mn d d')] 37 true, .cells b3 [iq (mx a a'), iq (mx b b'), iq (mn c c'), iq (mn d d')] 37 true] <| fG 0 <| zDNr <| rA rfl 0 (.agg #[iq (mx a a'), iq (mx b b'), iq (mn c c'), iq (mn d d')]) fun w hT => ?_
 simp only [mx_eq, mn_eq] at *
 exact ⟨by simp [cutR, *], hT.post rfl⟩
theorem rectArea (a b c d : Int) (w : World) (h0 : -2000000 ≤ a ∧ a ≤ 2000000) (h1 : -2000000 ≤ b ∧ b ≤ 2000000) (h2 : -2000000 ≤ c ∧ c ≤ 2000000) (h3 : -2000000 ≤ d ∧ d ≤ 2000000) :
    Calls Try.prog 42 #[.agg #[iQ a, iQ b, iQ c, iQ d]] w fun e w' => e = .returned (iQ (areaI a b c d)) ∧ Below w.heap.size w w' := by
 refine eN [(0, .agg #[iq a, iq b, iq c, iq d])] Try.func42 Try.ntmps42 rfl (Tab.start w) ?_
 refine zSR 2 <| bW [0, 0] 2 0 (fun b1 => [(1, .pointer (pB b1))]) (fun b1 => [.cells b1 [iq a, iq b, iq c, iq d] 37 true]) [1] fun b1 => ?_
 refine zDNSSR 2 <| bD [0] 1 1 [(3, .agg #[iq a, iq b, iq c, iq d])] [] <| pS 2 0 <| cP 4 (.bool (emptyB a b c d)) (fun w hT => rectEmpty a b c d w) <| zDN <| cSp 4 _ rfl (fun c2_ => ?_) fun c2_ => ?_
 ·
  refine zTSR 1 <| bS [0] 1 0 [(2, iq 0)] <| fG 0 <| zDNrt <| rA rfl 0 (iq 0) fun w hT => ?_
  exact ⟨ret_int (by simp [areaI, *]), hT.post rfl⟩
 have hem := emptyB_false.1 c2_
 have hp : (c - a) * (d - b) ≤ 4000000 * 4000000 := mul_le_of (by omega) (by omega) (by omega) (by omega)
 have hq : 0 ≤ (c - a) * (d - b) := Int.mul_nonneg (by omega) (by omega)
 refine zFKNSR 12 <| bD [0, 0, 0, 0, 0] 5 7 [(9, iq (IntKind.i64.wrap (c - a)))] [5, 6, 7, 8] <| wI 9 (c - a) <| bD [0, 0, 0, 0, 0] 10 2 [(14, iq (IntKind.i64.wrap (d - b)))] [10, 11, 12, 13] <| wI 14 (d - b) <| fG 0 <| bS [0] 11 1 [(15, iq (IntKind.i64.wrap ((c - a) * (d - b))))] <| wI 15 ((c - a) * (d - b)) <| bS [0] 12 0 [(2, iq ((c - a) * (d - b)))] <| zDNr <| rA rfl 0 (iq ((c - a) * (d - b))) fun w hT => ?_
 exact ⟨ret_int (by simp [areaI, *]), hT.post rfl⟩
theorem rectCovers (a b c d a' b' c' d' : Int) (w : World) :
    Calls Try.prog 54 #[.agg #[iQ a, iQ b, iQ c, iQ d], .agg #[iQ a', iQ b', iQ c', iQ d']] w fun e w' => e = .returned (.bool (coversB a b c d a' b' c' d')) ∧ Below w.heap.size w w' := by
 refine eN [(0, .agg #[iq a, iq b, iq c, iq d]), (1, .agg #[iq a', iq b', iq c', iq d'])] Try.func54 Try.ntmps54 rfl (Tab.start w) ?_
 refine zSR 3 <| batch2 [0, 0, 0] 3 0 (fun b1 b2 => [(2, .pointer (pB b1)), (3, .pointer (pB b2))]) (fun b1 b2 => [.cells b2 [iq a', iq b', iq c', iq d'] 37 true, .cells b1 [iq a, iq b, iq c, iq d] 37 true]) rfl rfl [2, 3] (fun _ _ => rfl) (fun b1 b2 => by kernel_rfl) (fun b1 b2 => by kernel_rfl) (fun b1 b2 => ?_)
 refine zDNS <| drawn_enter 10 [] rfl (by kernel_rfl) ?_
 refine tD 0 [] [(0, 0)] 9 [0] [(5, .agg #[iq a', iq b', iq c', iq d'])] [] <| dO 1 8 <| cP 6 (.bool (emptyB a' b' c' d')) (fun w hT => rectEmpty a' b' c' d' w) <| dX 0 [] <| tD 0 [] [(2, 0)] 7 [2, 1, 0] [(7, .bool (emptyB a' b' c' d'))] [] <| cSp 7 _ rfl (fun c3_ => ?_) fun c3_ => ?_
 ·
  refine tD 0 [] [(3, 0), (4, 0), (6, 0)] 4 [6, 4, 3, 2, 1, 0] [(8, undef), (9, undef), (11, undef)] [] <| dO 5 3 <| oS 0 [(7, .bool true), (10, undef), (11, undef)] [.cells b2 [iq a', iq b', iq c', iq d'] 37 true, .cells b1 [iq a, iq b, iq c, iq d] 37 true] <| dX 0 [] <| tD 0 [] [(7, 0), (8, 0), (9, 0)] 0 [9, 8, 7, 5, 6, 4, 3, 2, 1, 0] [(4, .bool true)] [12, 13] <| dD <| zN <| cont_ret ?_
  refine rA rfl 0 (.bool true) fun w hT => ?_
  exact ⟨ret_bool (by simp [coversB, *]), hT.post rfl⟩
 refine tD 0 [] [(3, 1), (4, 0), (6, 0)] 4 [6, 4, 3, 2, 1, 0] [(8, .agg #[iq a, iq b, iq c, iq d]), (9, .agg #[iq a', iq b', iq c', iq d']), (11, .agg #[iq a', iq b', iq c', iq d'])] [] <| dO 5 3 <| cP 10 (.agg #[iq ((cutR a b c d a' b' c' d').x0), iq ((cutR a b c d a' b' c' d').y0), iq ((cutR a b c d a' b' c' d').x1), iq ((cutR a b c d a' b' c' d').y1)]) (fun w hT => rectCut a b c d a' b' c' d' w) <| dX 0 [] <| sT 0 [] 7 2 12 (bopS .eql 37 (.tmp 10) (.tmp 11) (.agg #[iq ((cutR a b c d a' b' c' d').x0), iq ((cutR a b c d a' b' c' d').y0), iq ((cutR a b c d a' b' c' d').x1), iq ((cutR a b c d a' b' c' d').y1)]) (.agg #[iq a', iq b', iq c', iq d'])) (.bool (eqInts [(cutR a b c d a' b' c' d').x0, (cutR a b c d a' b' c' d').y0, (cutR a b c d a' b' c' d').x1, (cutR a b c d a' b' c' d').y1] [a', b', c', d'])) (fun w hT => run_eqS [(cutR a b c d a' b' c' d').x0, (cutR a b c d a' b' c' d').y0, (cutR a b c d a' b' c' d').x1, (cutR a b c d a' b' c' d').y1] [a', b', c', d'] (by kernel_rfl) (by kernel_rfl) (by kernel_rfl) (by kernel_rfl) rfl rfl w) <| tD 0 [] [(8, 0), (9, 0)] 0 [9, 8, 7, 5, 6, 4, 3, 2, 1, 0] [(4, .bool (eqInts [(cutR a b c d a' b' c' d').x0, (cutR a b c d a' b' c' d').y0, (cutR a b c d a' b' c' d').x1, (cutR a b c d a' b' c' d').y1] [a', b', c', d']))] [13] <| dD <| zN <| cont_ret ?_
 refine rA rfl 0 (.bool (eqInts [(cutR a b c d a' b' c' d').x0, (cutR a b c d a' b' c' d').y0, (cutR a b c d a' b' c' d').x1, (cutR a b c d a' b' c' d').y1] [a', b', c', d'])) fun w hT => ?_
 exact ⟨ret_bool (covers_cut ‹_›), hT.post rfl⟩
theorem colorCut (n : Int) (w : World) :
    Calls Try.prog 56 #[iQ n] w fun e w' => e = .returned (iQ (clip n)) ∧ Below w.heap.size w w' := by
 refine eN [(0, iq n)] Try.func56 Try.ntmps56 rfl (Tab.start w) ?_
 refine zSR 1 <| bD [0] 1 0 [] [2] <| zDNSR 4 <| bS [0, 0, 0, 0] 4 0 [(2, iq (mn (mx n 0) 255))] <| zDNr <| rA rfl 0 (iq (mn (mx n 0) 255)) fun w hT => ?_
 exact ⟨ret_int (by simp only [clip, mx_eq, mn_eq]), hT.post rfl⟩
theorem colorMake (a r g b : Int) (w : World) :
    Calls Try.prog 44 #[iQ a, iQ r, iQ g, iQ b] w fun e w' => e = .returned (cQ (mkC a r g b)) ∧ Below w.heap.size w w' := by
 have ha := clip_range a
 have hr := clip_range r
 have hg := clip_range g
 have hb := clip_range b
 refine eN [(0, iq a), (1, iq r), (2, iq g), (3, iq b)] Try.func44 Try.ntmps44 rfl (Tab.start w) ?_
 refine zSR 1 <| bD [0] 1 0 [] [8] <| zDNSR 1 <| bD [0] 1 0 [(9, cQ 0)] [] <| zDNSSR 6 <| bD [0, 0, 0, 0, 0, 0] 6 0 [(16, .agg #[iq a, iq r, iq g, iq b]), (17, iq 0)] [12, 13, 14, 15] <| zDNB <| cont_rounds 5 ?_
 refine cont_round 5 4 rfl ?_
 refine zSR 1 <| bD [0] 1 0 [(18, .bool true)] [] <| zDNSTKNSBSR 2 <| bD [0, 0] 2 0 [(11, iq a)] [19] <| zDN <| cRg 7 rfl <| bD [0, 0, 0] 3 4 [(21, cQ 0), (22, iq a)] [20] <| pS 4 3 <| cP 23 (iq (clip a)) (fun w hT => colorCut a w) <| bD [0] 5 2 [(24, cQ (IntKind.u32.wrap (clip a)))] [] <| wU 24 (clip a) <| bD [0] 6 1 [(25, cQ (IntKind.u32.wrap (bitOr 32 0 (clip a))))] [] <| rC 25 (cQ (clip a)) rfl (bitOr0V (by omega) (by omega)) <| bD [0] 7 0 [(9, cQ (clip a))] [] <| zDbNR 2 <| bD [0, 0] 2 0 [(17, iq 1)] [26] <| zDN <| cont_round 4 3 rfl ?_
 refine zSR 1 <| bD [0] 1 0 [(18, .bool true)] [] <| zDNSTKNSBSR 2 <| bD [0, 0] 2 0 [(11, iq r)] [19] <| zDN <| cRg 7 rfl <| bD [0, 0] 2 5 [(21, cQ (IntKind.u32.wrap ((clip a) * 256)))] [20] <| wU 21 ((clip a) * 256) <| bD [0] 3 4 [(22, iq r)] [] <| pS 4 3 <| cP 23 (iq (clip r)) (fun w hT => colorCut r w) <| bS [0] 5 2 [(16, .agg #[iq a, iq r, iq g, iq b]), (17, iq 1), (21, cQ ((clip a) * 256)), (24, cQ (IntKind.u32.wrap (clip r)))] <| wU 24 (clip r) <| bD [0] 6 1 [(25, cQ (IntKind.u32.wrap (bitOr 32 ((clip a) * 256) (clip r))))] [] <| rC 25 (cQ ((clip a) * 256 + clip r)) rfl (bitOr8V (by omega) (by omega) (by omega) (by omega)) <| bD [0] 7 0 [(9, cQ ((clip a) * 256 + clip r))] [] <| zDbNR 2 <| bD [0, 0] 2 0 [(17, iq 2)] [26] <| zDN <| cont_round 3 2 rfl ?_
 refine zSR 1 <| bD [0] 1 0 [(18, .bool true)] [] <| zDNSTKNSBSR 2 <| bD [0, 0] 2 0 [(11, iq g)] [19] <| zDN <| cRg 7 rfl <| bD [0, 0] 2 5 [(21, cQ (IntKind.u32.wrap (((clip a) * 256 + clip r) * 256)))] [20] <| wU 21 (((clip a) * 256 + clip r) * 256) <| bD [0] 3 4 [(22, iq g)] [] <| pS 4 3 <| cP 23 (iq (clip g)) (fun w hT => colorCut g w) <| bD [0] 5 2 [(24, cQ (IntKind.u32.wrap (clip g)))] [] <| wU 24 (clip g) <| bD [0] 6 1 [(25, cQ (IntKind.u32.wrap (bitOr 32 (((clip a) * 256 + clip r) * 256) (clip g))))] [] <| rC 25 (cQ (((clip a) * 256 + clip r) * 256 + clip g)) rfl (bitOr8V (by omega) (by omega) (by omega) (by omega)) <| bD [0] 7 0 [(9, cQ (((clip a) * 256 + clip r) * 256 + clip g))] [] <| zDbNR 2 <| bD [0, 0] 2 0 [(17, iq 3)] [26] <| zDN <| cont_round 2 1 rfl ?_
 refine zSR 1 <| bD [0] 1 0 [(18, .bool true)] [] <| zDNSTKNSBSR 2 <| bD [0, 0] 2 0 [(11, iq b)] [19] <| zDN <| cRg 7 rfl <| bD [0, 0] 2 5 [(21, cQ (IntKind.u32.wrap ((((clip a) * 256 + clip r) * 256 + clip g) * 256)))] [20] <| wU 21 ((((clip a) * 256 + clip r) * 256 + clip g) * 256) <| bS [0] 3 4 [(16, .agg #[iq a, iq r, iq g, iq b]), (17, iq 3), (21, cQ ((((clip a) * 256 + clip r) * 256 + clip g) * 256)), (22, iq b)] <| pS 4 3 <| cP 23 (iq (clip b)) (fun w hT => colorCut b w) <| bD [0] 5 2 [(24, cQ (IntKind.u32.wrap (clip b)))] [] <| wU 24 (clip b) <| bD [0] 6 1 [(25, cQ (IntKind.u32.wrap (bitOr 32 ((((clip a) * 256 + clip r) * 256 + clip g) * 256) (clip b))))] [] <| rC 25 (cQ ((((clip a) * 256 + clip r) * 256 + clip g) * 256 + clip b)) rfl (bitOr8V (by omega) (by omega) (by omega) (by omega)) <| bD [0] 7 0 [(9, cQ ((((clip a) * 256 + clip r) * 256 + clip g) * 256 + clip b))] [] <| zDbNR 2 <| bD [0, 0] 2 0 [(17, iq 4)] [26] <| zDN <| cont_round 1 0 rfl ?_
 refine zSR 1 <| bD [0] 1 0 [(18, .bool false)] [] <| zDNS <| zFXxxeNSR 2 <| bS [0, 0] 2 0 [(8, cQ ((((clip a) * 256 + clip r) * 256 + clip g) * 256 + clip b))] <| zDNr <| rA rfl 0 (cQ ((((clip a) * 256 + clip r) * 256 + clip g) * 256 + clip b)) fun w hT => ?_
 exact ⟨ret_int (by unfold mkC; omega), hT.post rfl⟩
theorem colorParts (c : Int) (w : World) (h0 : 0 ≤ c) (h1 : c < 4294967296) :
    Calls Try.prog 57 #[cQ c] w fun e w' => e = .returned (.agg #[iQ (pa c), iQ (pr c), iQ (pg c), iQ (pb c)]) ∧ Below w.heap.size w w' := by
 refine eN [(0, cQ c)] Try.func57 Try.ntmps57 rfl (Tab.start w) ?_
 refine zSR 1 <| bW [0] 1 0 (fun b1 => [(0, cQ c), (2, .pointer (pB b1))]) (fun b1 => [.cells b1 [iq 0, iq 0, iq 0, iq 0] 116 true]) [0, 2] fun b1 => ?_
 refine zDNSR 1 <| bW [0] 1 0 (fun b2 => [(0, cQ c), (2, .pointer (pB b1)), (3, .pointer (pB b2))]) (fun b2 => [.cells b2 [iq 0, iq 0, iq 0, iq 0] 116 true, .cells b1 [iq 0, iq 0, iq 0, iq 0] 116 true]) [0, 2, 3] fun b2 => ?_
 refine zDNSSR 1 <| bD [0] 1 0 [(5, iq 0)] [] <| zDNB <| cont_rounds 5 ?_
 refine cont_round 5 4 rfl ?_
 refine zSR 1 <| bD [0] 1 0 [(6, .bool true)] [] <| zDNSTKNSBSR 2 <| bD [0, 0] 2 0 [(4, iq 0)] [7] <| zDN <| cRg 10 rfl <| bD [0, 0, 0, 0, 0, 0] 6 4 [(8, iq 0), (13, cQ (c.fdiv 16777216))] [9, 10, 11, 12] <| rC 13 (cQ (c / 16777216)) rfl (fdivV (by omega)) <| bD [0] 7 3 [(14, cQ (IntKind.u32.wrap (bitAnd 32 (c / 16777216) 255)))] [] <| rC 14 (cQ ((c / 16777216) % 256)) rfl (bitAnd255V (by omega) (by omega)) <| bD [0] 8 2 [(15, iq (IntKind.i64.wrap ((c / 16777216) % 256)))] [] <| wI 15 ((c / 16777216) % 256) <| bZ [0, 0] 10 0 [(0, cQ c), (2, .pointer (pB b1)), (3, .pointer (pB b2)), (5, iq 0)] [.cells b2 [iq ((c / 16777216) % 256), iq 0, iq 0, iq 0] 116 true, .cells b1 [iq 0, iq 0, iq 0, iq 0] 116 true] <| zDbNR 2 <| bD [0, 0] 2 0 [(5, iq 1)] [17] <| zDN <| cont_round 4 3 rfl ?_
 refine zSR 1 <| bD [0] 1 0 [(6, .bool true)] [] <| zDNSTKNSBSR 2 <| bD [0, 0] 2 0 [(4, iq 1)] [7] <| zDN <| cRg 10 rfl <| bD [0, 0, 0, 0, 0, 0] 6 4 [(8, iq 1), (13, cQ (c.fdiv 65536))] [9, 10, 11, 12] <| rC 13 (cQ (c / 65536)) rfl (fdivV (by omega)) <| bD [0] 7 3 [(14, cQ (IntKind.u32.wrap (bitAnd 32 (c / 65536) 255)))] [] <| rC 14 (cQ ((c / 65536) % 256)) rfl (bitAnd255V (by omega) (by omega)) <| bD [0] 8 2 [(15, iq (IntKind.i64.wrap ((c / 65536) % 256)))] [] <| wI 15 ((c / 65536) % 256) <| bZ [0, 0] 10 0 [(0, cQ c), (2, .pointer (pB b1)), (3, .pointer (pB b2)), (5, iq 1)] [.cells b2 [iq ((c / 16777216) % 256), iq ((c / 65536) % 256), iq 0, iq 0] 116 true, .cells b1 [iq 0, iq 0, iq 0, iq 0] 116 true] <| zDbNR 2 <| bD [0, 0] 2 0 [(5, iq 2)] [17] <| zDN <| cont_round 3 2 rfl ?_
 refine zSR 1 <| bD [0] 1 0 [(6, .bool true)] [] <| zDNSTKNSBSR 2 <| bS [0, 0] 2 0 [(0, cQ c), (2, .pointer (pB b1)), (3, .pointer (pB b2)), (4, iq 2), (5, iq 2)] <| zDN <| cRg 10 rfl <| bD [0, 0, 0, 0, 0, 0] 6 4 [(8, iq 2), (13, cQ (c.fdiv 256))] [9, 10, 11, 12] <| rC 13 (cQ (c / 256)) rfl (fdivV (by omega)) <| bD [0] 7 3 [(14, cQ (IntKind.u32.wrap (bitAnd 32 (c / 256) 255)))] [] <| rC 14 (cQ ((c / 256) % 256)) rfl (bitAnd255V (by omega) (by omega)) <| bD [0] 8 2 [(15, iq (IntKind.i64.wrap ((c / 256) % 256)))] [] <| wI 15 ((c / 256) % 256) <| bZ [0, 0] 10 0 [(0, cQ c), (2, .pointer (pB b1)), (3, .pointer (pB b2)), (5, iq 2)] [.cells b2 [iq ((c / 16777216) % 256), iq ((c / 65536) % 256), iq ((c / 256) % 256), iq 0] 116 true, .cells b1 [iq 0, iq 0, iq 0, iq 0] 116 true] <| zDbNR 2 <| bD [0, 0] 2 0 [(5, iq 3)] [17] <| zDN <| cont_round 2 1 rfl ?_
 refine zSR 1 <| bD [0] 1 0 [(6, .bool true)] [] <| zDNSTKNSBSR 2 <| bD [0, 0] 2 0 [(4, iq 3)] [7] <| zDN <| cRg 10 rfl <| bD [0, 0, 0, 0, 0, 0] 6 4 [(8, iq 3), (13, cQ (c.fdiv 1))] [9, 10, 11, 12] <| rC 13 (cQ (c / 1)) rfl (fdivV (by omega)) <| bD [0] 7 3 [(14, cQ (IntKind.u32.wrap (bitAnd 32 (c / 1) 255)))] [] <| rC 14 (cQ ((c / 1) % 256)) rfl (bitAnd255V (by omega) (by omega)) <| bD [0] 8 2 [(15, iq (IntKind.i64.wrap ((c / 1) % 256)))] [] <| wI 15 ((c / 1) % 256) <| bZ [0, 0] 10 0 [(0, cQ c), (2, .pointer (pB b1)), (3, .pointer (pB b2)), (5, iq 3)] [.cells b2 [iq ((c / 16777216) % 256), iq ((c / 65536) % 256), iq ((c / 256) % 256), iq ((c / 1) % 256)] 116 true, .cells b1 [iq 0, iq 0, iq 0, iq 0] 116 true] <| zDbNR 2 <| bD [0, 0] 2 0 [(5, iq 4)] [17] <| zDN <| cont_round 1 0 rfl ?_
 refine zSR 1 <| bD [0] 1 0 [(6, .bool false)] [] <| zDNS <| zFXxxeNSR 2 <| bZ [0, 1] 2 0 [(2, .pointer (pB b1))] [.cells b2 [iq ((c / 16777216) % 256), iq ((c / 65536) % 256), iq ((c / 256) % 256), iq ((c / 1) % 256)] 116 true, .cells b1 [iq ((c / 16777216) % 256), iq ((c / 65536) % 256), iq ((c / 256) % 256), iq ((c / 1) % 256)] 116 true] <| fG 0 <| zDNr <| rA rfl 0 (.agg #[iq ((c / 16777216) % 256), iq ((c / 65536) % 256), iq ((c / 256) % 256), iq ((c / 1) % 256)]) fun w hT => ?_
 refine ⟨?_, hT.post rfl⟩
 simp only [pa, pr, pg, pb]
 rw [show c / 16777216 % 256 = c / 16777216 from by omega, show c / 1 = c from by omega]
theorem colorMay (c : Int) (w : World) (h0 : 0 ≤ c) (h1 : c < 4294967296) :
    Calls Try.prog 45 #[cQ c] w fun e w' => e = .returned (.bool (mayB c)) ∧ Below w.heap.size w w' := by
 refine eN [(0, cQ c)] Try.func45 Try.ntmps45 rfl (Tab.start w) ?_
 refine zSR 1 <| bD [0] 1 0 [] [2] <| zDNSR 4 <| bS [0] 1 3 [(4, cQ c)] <| pS 2 2 <| cP 5 (.agg #[iq (pa c), iq (pr c), iq (pg c), iq (pb c)]) (fun w hT => colorParts c w (by omega) (by omega)) <| bW [0, 0] 4 0 (fun b1 => [(3, .pointer (pB b1))]) (fun b1 => [.cells b1 [iq (pa c), iq (pr c), iq (pg c), iq (pb c)] 116 true]) [3] fun b1 => ?_
 refine zDNSR 11 <| bS [0, 0, 0, 0, 0, 0, 0, 0, 0, 0, 0] 11 0 [(2, .bool (decide ((mx (mx (pr c) (pg c)) (pb c)) ≤ (pa c))))] <| fG 0 <| zDNr <| rA rfl 0 (.bool (decide ((mx (mx (pr c) (pg c)) (pb c)) ≤ (pa c)))) fun w hT => ?_
 simp only [mx_eq]
 exact ⟨ret_bool (by simp only [mayB]; rw [Bool.eq_iff_iff]; simp only [Bool.and_eq_true, decide_eq_true_eq]; omega), hT.post rfl⟩
end Go.Proofs.Ytkfdmfclndaanaa
namespace Go.Proofs.Ytkfdmfclndaanaa
open Go Go.RowKit
set_option maxRecDepth 100000
set_option maxHeartbeats 8000000
theorem imgBox (m : Nat) (W H : Int) (r n cap : Nat) (px : List Int) (w : World) (hI : ImgR 81 w m W H r n cap px) (hok : ImgOk W H n px) :
    Calls Try.prog 29 #[pT m] w fun e w' => e = .returned (.agg #[iQ 0, iQ 0, iQ W, iQ H]) ∧ Below w.heap.size w w' := by
 refine enter 12 [(0, .pointer (pB m))] [.ro m [iq W, iq H, .slice (pB r) n cap] 81, rD (pB r) r 0 n 1 (cV px)] Try.func29 rfl Try.ntmps29 rfl (by kernel_rfl) hI.tab ?_
 refine zSR 1 <| bW [0] 1 0 (fun b1 => [(0, .pointer (pB m)), (2, .pointer (pB b1))]) (fun b1 => [.cells b1 [iq 0, iq 0, iq 0, iq 0] 37 true, .ro m [iq W, iq H, .slice (pB r) n cap] 81, rD (pB r) r 0 n 1 (cV px)]) [0, 2] fun b1 => ?_
 refine zDNS <| drawn_enter 10 [0] rfl (by kernel_rfl) ?_
 refine tD 0 [0] [(0, 0), (4, 0), (1, 0), (5, 0), (2, 0), (6, 0), (3, 1), (7, 1), (8, 0)] 1 [8, 7, 3, 6, 2, 5, 1, 4, 0] [(11, .agg #[iq 0, iq 0, iq W, iq H])] [3, 4, 5, 6, 7, 8, 9, 10] <| dO 9 0 <| oS 0 [(2, .pointer (pB b1))] [.cells b1 [iq 0, iq 0, iq W, iq H] 37 true, .ro m [iq W, iq H, .slice (pB r) n cap] 81, rD (pB r) r 0 n 1 (cV px)] <| dX 0 [0] <| dD <| zN <| cont_ret ?_
 refine rA rfl 0 (.agg #[iq 0, iq 0, iq W, iq H]) fun w hT => ?_
 exact ⟨rfl, hT.post rfl⟩
theorem imgAt (m : Nat) (W H : Int) (r n cap : Nat) (px : List Int) (x y : Int) (w : World) (hI : ImgR 81 w m W H r n cap px) (hok : ImgOk W H n px) :
    Calls Try.prog 19 #[pT m, iQ x, iQ y] w fun e w' => e = .returned (.tuple #[cQ (atC W H px x y), .bool (hasB 0 0 W H x y)]) ∧ Below w.heap.size w w' := by
 have hw1 := hok.w1
 have hw2 := hok.w2
 have hh1 := hok.h1
 have hh2 := hok.h2
 have hnum := hok.num
 have hlen := hok.len
 have hle := hok.le
 have hcap := hI.cap
 refine enter 28 [(0, .pointer (pB m)), (1, iq x), (2, iq y)] [.ro m [iq W, iq H, .slice (pB r) n cap] 81, rD (pB r) r 0 n 1 (cV px)] Try.func19 rfl Try.ntmps19 rfl (by kernel_rfl) hI.tab ?_
 refine zSR 2 <| bD [0, 0] 2 0 [] [6, 7] <| zDNSSR 6 <| bD [0] 1 5 [(8, .pointer (pB m))] [] <| pS 2 4 <| cP 9 (.agg #[iq 0, iq 0, iq W, iq H]) (fun w hT => imgBox m W H r n cap px  w ⟨hT.ok 0 _ rfl, hT.ok 1 _ rfl, by omega⟩ hok) <| bD [0, 0] 4 2 [(10, iq x), (11, iq y)] [] <| pS 5 1 <| cP 12 (.bool (hasB 0 0 W H x y)) (fun w hT => rectHas 0 0 W H x y w) <| bD [0] 6 0 [(13, .bool (!(hasB 0 0 W H x y)))] [] <| zDN <| cSp 13 _ rfl (fun c1_ => ?_) fun c1_ => ?_
 ·
  replace c1_ : (hasB 0 0 W H x y) = false := by simpa using c1_
  refine zTSR 2 <| bS [0, 0] 2 0 [(6, cQ 0), (7, .bool false)] <| zDNrt <| rB rfl 0 0 (cQ 0) (.bool false) fun w hT => ?_
  exact ⟨by simp [atC, *], hT.post rfl⟩
 replace c1_ : (hasB 0 0 W H x y) = true := by simpa using c1_
 obtain ⟨hx0, hx1, hy0, hy1⟩ := hasB_true.1 c1_
 have hpl := hok.place hx0 hx1 hy0 hy1
 refine cFa rfl <| cont_skip <| zN <| cSq <| drawn_enter 16 [] rfl (by kernel_rfl) ?_
 refine tD 0 [] [(0, 0), (4, 0), (5, 0), (10, 0), (1, 0), (6, 0), (2, 0), (7, 0), (3, 0), (8, 0), (9, 0)] 5 [9, 8, 3, 7, 2, 6, 1, 10, 5, 4, 0] [(17, .slice (pB r) n cap), (23, iq (IntKind.i64.wrap (y * W))), (24, iq x)] [14, 15, 16, 18, 19, 20, 21, 22] <| wI 23 (y * W) <| tD 0 [] [(11, 0)] 4 [11, 9, 8, 3, 7, 2, 6, 1, 10, 5, 4, 0] [(25, iq (IntKind.i64.wrap ((y * W) + x)))] [] <| wI 25 ((y * W) + x) <| sT 0 [] 12 3 26 (Instr.indexAt 79 (.slice (pB r) n cap) (iq ((y * W) + x))) (.pointer (some ⟨r, Int.toNat ((y * W) + x), none⟩)) (fun w hT => rI 48 1 w) <| sT 0 [] 13 2 27 (Instr.loadAt 48 (.pointer (some ⟨r, Int.toNat ((y * W) + x), none⟩))) (cQ (px.getD (Int.toNat ((y * W) + x)) 0)) (fun w hT => rL (Rd.cell0 (hT 1 _ rfl) (Int.toNat ((y * W) + x)) _ (ivals_get (by omega)))) <| tD 0 [] [(14, 0), (15, 0)] 0 [15, 14, 13, 12, 11, 9, 8, 3, 7, 2, 6, 1, 10, 5, 4, 0] [(6, cQ (px.getD (Int.toNat ((y * W) + x)) 0)), (7, .bool true)] [] <| dD <| zN <| cont_ret ?_
 refine rB rfl 0 0 (cQ (px.getD (Int.toNat ((y * W) + x)) 0)) (.bool true) fun w hT => ?_
 exact ⟨by simp [atC, *], hT.post rfl⟩
theorem imgNewBad (W H : Int) (w : World) (hbad : ¬ (1 ≤ W ∧ W ≤ 256 ∧ 1 ≤ H ∧ H ≤ 256)) :
    Calls Try.prog 24 #[iQ W, iQ H] w fun e w' => e = .returned (.tuple #[.pointer none, iQ 1]) ∧ Below w.heap.size w w' := by
 refine eN [(0, iq W), (1, iq H)] Try.func24 Try.ntmps24 rfl (Tab.start w) ?_
 refine zSR 2 <| bD [0, 0] 2 0 [] [4, 5] <| zDNSSR 10 <| bD [0, 0, 0, 0, 0] 5 5 [(10, .bool (decide ((mn W H) < 1)))] [6, 7, 8, 9] <| sD 10 rfl (fun c1_ => ?_) fun c1_ => ?_
 ·
  refine bD [0, 0, 0, 0, 0] 10 0 [(15, .bool true)] [11, 12, 13, 14] <| zDNTSR 2 <| bS [0, 0] 2 0 [(4, .pointer none), (5, iq 1)] <| zDNrt <| rB rfl 0 0 (.pointer none) (iq 1) fun w hT => ?_
  exact ⟨rfl, hT.post rfl⟩
 refine bD [0, 0, 0, 0, 0] 10 0 [(15, .bool (decide ((mx W H) > 256)))] [11, 12, 13, 14] <| zDN <| sD 15 rfl (fun c2_ => ?_) fun c2_ => ?_
 ·
  refine zTSR 2 <| bS [0, 0] 2 0 [(4, .pointer none), (5, iq 1)] <| zDNrt <| rB rfl 0 0 (.pointer none) (iq 1) fun w hT => ?_
  exact ⟨rfl, hT.post rfl⟩
 exfalso; unfold mx mn at *; omega
theorem imgNew (W H : Int) (w : World) (hgood : 1 ≤ W ∧ W ≤ 256 ∧ 1 ≤ H ∧ H ≤ 256) :
    Calls Try.prog 24 #[iQ W, iQ H] w fun e w' => ∃ (b r n : Nat), e = .returned (.tuple #[pT b, iQ 0]) ∧ (n : Int) = W * H ∧ NewImg 81 48 w w' b W H r n n (List.replicate n 0) := by
 have hm : W * H ≤ 256 * 256 := mul_le_of (by omega) (by omega) (by omega) (by omega)
 have hm0 : 0 ≤ W * H := Int.mul_nonneg (by omega) (by omega)
 obtain ⟨n, hn⟩ : ∃ n : Nat, (n : Int) = W * H := ⟨(W * H).toNat, by omega⟩
 refine eN [(0, iq W), (1, iq H)] Try.func24 Try.ntmps24 rfl (Tab.start w) ?_
 refine zSR 2 <| bD [0, 0] 2 0 [] [4, 5] <| zDNSSR 10 <| bD [0, 0, 0, 0, 0] 5 5 [(10, .bool (decide ((mn W H) < 1)))] [6, 7, 8, 9] <| sD 10 rfl (fun c1_ => ?_) fun c1_ => ?_
 ·
  exfalso; unfold mn at *; omega
 refine bD [0, 0, 0, 0, 0] 10 0 [(15, .bool (decide ((mx W H) > 256)))] [11, 12, 13, 14] <| zDN <| sD 15 rfl (fun c2_ => ?_) fun c2_ => ?_
 ·
  exfalso; unfold mx at *; omega
 refine zFKNSR 10 <| bS [0, 0, 0, 0, 0] 5 5 [(16, iq W), (17, iq H), (20, iq (IntKind.i64.wrap (W * H)))] <| rC 20 (iq (n : Int)) rfl (by rw [hn]; exact wrapI (by omega) (by omega)) <| pS 6 4 <| sSW 21 (Instr.makeSlice 79 (iq (n : Int)) (iq (n : Int))) (fun r3 => .slice (pB r3) n n) (fun r3 => [.gen (rowE (pB r3) r3 n n 48 1 (cV (List.replicate n 0)) true)]) (fun _ => True) (by kernel_rfl) (fun w hT => make_row hT (bytes := 4) n (by kernel_rfl) (by kernel_rfl) (by omega) (by omega)) (fun r3 _ => ?_)
 refine bW [0, 0, 0, 0] 10 0 (fun b4 => [(4, .pointer (pB b4)), (5, iq 0)]) (fun b4 => [.cells b4 [iq W, iq H, .slice (pB r3) n n] 81 true, .gen (rowE (pB r3) r3 n n 48 1 (cV (List.replicate n 0)) true)]) [4, 5] fun b4 => ?_
 refine zDNr <| rB rfl 0 0 (.pointer (pB b4)) (iq 0) fun w hT => ?_
 exact ⟨_, _, n, rfl, hn, newImg_of_tab hT⟩
theorem imgRow (m : Nat) (W H : Int) (r n cap : Nat) (px : List Int) (y x0 x1 : Int) (w : World) (hI : ImgR 81 w m W H r n cap px) (hok : ImgOk W H n px) (hin : 0 ≤ y ∧ y < H ∧ 0 ≤ x0 ∧ x0 ≤ x1 ∧ x1 ≤ W) :
    Calls Try.prog 46 #[pT m, iQ y, iQ x0, iQ x1] w fun e w' => e = .returned (.slice (sliceA r 0 (Int.toNat (y * W + x0)) cap 1) (Int.toNat (y * W + x1) - Int.toNat (y * W + x0)) (cap - Int.toNat (y * W + x0))) ∧ Below w.heap.size w w' := by
 have hw1 := hok.w1
 have hw2 := hok.w2
 have hh1 := hok.h1
 have hh2 := hok.h2
 have hnum := hok.num
 have hlen := hok.len
 have hle := hok.le
 have hcap := hI.cap
 have hp0 := hok.place (x := 0) (y := y) (by omega) (by omega) (by omega) (by omega)
 have hp1 := hok.place (x := W - 1) (y := y) (by omega) (by omega) (by omega) (by omega)
 refine enter 30 [(0, .pointer (pB m)), (1, iq y), (2, iq x0), (3, iq x1)] [.ro m [iq W, iq H, .slice (pB r) n cap] 81, rD (pB r) r 0 n 1 (cV px)] Try.func46 rfl Try.ntmps46 rfl (by kernel_rfl) hI.tab ?_
 refine zSR 1 <| bD [0] 1 0 [] [8] <| zDNS <| drawn_enter 22 [] rfl (by kernel_rfl) ?_
 refine tD 0 [] [(0, 0), (4, 0), (5, 0), (10, 0), (12, 0), (13, 0), (18, 0), (1, 0), (6, 0), (14, 0), (2, 0), (7, 0), (15, 0), (3, 0), (8, 0), (16, 0), (9, 0)] 5 [9, 16, 8, 3, 15, 7, 2, 14, 6, 1, 18, 13, 12, 10, 5, 4, 0] [(12, .slice (pB r) n cap), (18, iq (IntKind.i64.wrap (y * W))), (19, iq x0), (21, iq y), (25, iq W), (27, iq x1)] [9, 10, 11, 13, 14, 15, 16, 17, 22, 23, 24] <| wI 18 (y * W) <| tD 0 [] [(11, 0)] 4 [11, 9, 16, 8, 3, 15, 7, 2, 14, 6, 1, 18, 13, 12, 10, 5, 4, 0] [(20, iq (IntKind.i64.wrap ((y * W) + x0)))] [] <| wI 20 ((y * W) + x0) <| tD 0 [] [(17, 0)] 3 [17, 11, 9, 16, 8, 3, 15, 7, 2, 14, 6, 1, 18, 13, 12, 10, 5, 4, 0] [(26, iq (IntKind.i64.wrap (y * W)))] [] <| wI 26 (y * W) <| tD 0 [] [(19, 0)] 2 [19, 17, 11, 9, 16, 8, 3, 15, 7, 2, 14, 6, 1, 18, 13, 12, 10, 5, 4, 0] [(28, iq (IntKind.i64.wrap ((y * W) + x1)))] [] <| wI 28 ((y * W) + x1) <| sT 0 [] 20 1 29 (Instr.sliceAt 79 (.slice (pB r) n cap) (some (iq ((y * W) + x0))) (some (iq ((y * W) + x1))) none) (.slice (sliceA r 0 (Int.toNat ((y * W) + x0)) cap 1) ((Int.toNat ((y * W) + x1)) - (Int.toNat ((y * W) + x0))) (cap - (Int.toNat ((y * W) + x0)))) (fun w hT => run_slice2 (e := 48) (sz := 1) _ _ (by kernel_rfl) (by kernel_rfl) (by omega) (by omega) (by omega) (by omega) (by omega) w) <| tD 0 [] [(21, 0)] 0 [21, 20, 19, 17, 11, 9, 16, 8, 3, 15, 7, 2, 14, 6, 1, 18, 13, 12, 10, 5, 4, 0] [(8, .slice (sliceA r 0 (Int.toNat ((y * W) + x0)) cap 1) ((Int.toNat ((y * W) + x1)) - (Int.toNat ((y * W) + x0))) (cap - (Int.toNat ((y * W) + x0))))] [] <| dD <| zN <| cont_ret ?_
 refine rA rfl 0 (.slice (sliceA r 0 (Int.toNat ((y * W) + x0)) cap 1) ((Int.toNat ((y * W) + x1)) - (Int.toNat ((y * W) + x0))) (cap - (Int.toNat ((y * W) + x0)))) fun w hT => ?_
 exact ⟨rfl, hT.post rfl⟩
end Go.Proofs.Ytkfdmfclndaanaa
