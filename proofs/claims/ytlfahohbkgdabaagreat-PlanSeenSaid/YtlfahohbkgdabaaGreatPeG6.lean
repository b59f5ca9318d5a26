/- Texts of this proof's own, put together: what each holds is told ahead of it. -/
import Derived.Test.YtlfahohbkgdabaaGreatPeG4
import Derived.Test.YtlfahohbkgdabaaGreatPeG3
import Derived.Test.YtlfahohbkgdabaaGreatPeG2
import Derived.Test.YtlfahohbkgdabaaGreatPeL2d
import Derived.Test.YtlfahohbkgdabaaGreatProg
set_option linter.unusedSimpArgs false
set_option linter.unusedVariables false
namespace Go.Proofs.YtlfahohbkgdabaaGreat
open Go Go.ChangeShapes Go.WideShapes Go.ChangeAt Go.RowKit Go.Deep
variable {dfs : List Deferred}
section
def dget {α : Type} [Inhabited α] (l : List α) (i : Nat) : α := l.getD i default
theorem dget_zero {α : Type} [Inhabited α] (a : α) (l : List α) : dget (a :: l) 0 = a := rfl
theorem dget_succ {α : Type} [Inhabited α] (a : α) (l : List α) (i : Nat) : dget (a :: l) (i + 1) = dget l i := by simp [dget]
theorem dget_mem {α : Type} [Inhabited α] {l : List α} {i : Nat} (h : i < l.length) : dget l i ∈ l := by
  unfold dget; rw [List.getD_eq_getElem?_getD, List.getElem?_eq_getElem h]; simp
def dvals {α : Type} (cel : α → List Value) : List α → List Value
  | [] => []
  | a :: l => cel a ++ dvals cel l
theorem dvals_length {α : Type} {cel : α → List Value} {z : Nat} (hz : ∀ a, (cel a).length = z) : ∀ l : List α, (dvals cel l).length = l.length * z := by
  intro l
  induction l with
  | nil => simp [dvals]
  | cons a l ih => rw [dvals, List.length_append, ih, hz, List.length_cons, Nat.succ_mul, Nat.add_comm]
theorem dvals_get {α : Type} [Inhabited α] {cel : α → List Value} {z : Nat} (hz : ∀ a, (cel a).length = z) : ∀ {l : List α} {i k : Nat} {v : Value}, i < l.length → (cel (dget l i))[k]? = some v → (dvals cel l)[i * z + k]? = some v := by
  intro l
  induction l with
  | nil => intro i k v h; simp at h
  | cons a l ih =>
    intro i k v h hk
    cases i with
    | zero =>
      rw [dget_zero] at hk
      rw [Nat.zero_mul, Nat.zero_add, dvals, List.getElem?_append_left (List.getElem?_eq_some_iff.1 hk).1]
      exact hk
    | succ i =>
      rw [dget_succ] at hk
      rw [dvals, Nat.succ_mul, List.getElem?_append_right (by rw [hz]; omega), hz, show i * z + z + k - z = i * z + k by omega]
      exact ih (by simpa using h) hk
theorem Rd.dcell {α : Type} [Inhabited α] {w : World} {A : Option Addr} {g o n z : Nat} {cel : α → List Value} {l : List α} (hz : ∀ a, (cel a).length = z) (h : Rd w A g o n z (dvals cel l)) {i : Nat} (hi : i < l.length) : ∀ j v, (cel (dget l i))[j]? = some v → w.cell? ⟨g, (o + i * z) + j, none⟩ = some v := fun j v hj => by
  have := h.cell (i * z + j) v (dvals_get hz hi hj)
  rwa [← Nat.add_assoc] at this
theorem Rd.dsub {α : Type} [Inhabited α] {w : World} {A : Option Addr} {g o n z : Nat} {cel : α → List Value} {l : List α} (hz : ∀ a, (cel a).length = z) (h : Rd w A g o n z (dvals cel l)) {i : Nat} (hi : i < l.length) (f m : Nat) {cs : List Value} (hc : ((cel (dget l i)).drop f).take m = cs) : ∀ j v, cs[j]? = some v → w.cell? ⟨g, (o + i * z + f) + j, none⟩ = some v := fun j v hj => by
  subst hc
  rw [List.getElem?_take] at hj
  split at hj
  · rw [List.getElem?_drop] at hj
    have := h.dcell hz hi (f + j) v hj
    rwa [← Nat.add_assoc] at this
  · cases hj
theorem Rd.dcell1 {α : Type} [Inhabited α] {w : World} {A : Option Addr} {g o n z : Nat} {cel : α → List Value} {l : List α} (hz : ∀ a, (cel a).length = z) (h : Rd w A g o n z (dvals cel l)) {i : Nat} (hi : i < l.length) (f : Nat) {v : Value} (hv : (cel (dget l i))[f]? = some v) : w.cell? ⟨g, o + i * z + f, none⟩ = some v := h.dcell hz hi f v hv
theorem Rd.factsD {α : Type} {w : World} {A : Option Addr} {g o n z : Nat} {cel : α → List Value} {l : List α} (hz : ∀ a, (cel a).length = z) (h0 : 0 < z) (h : Rd w A g o n z (dvals cel l)) : (0 < n → A = some ⟨g, o, none⟩) ∧ l.length = n := by
  refine ⟨h.at_, ?_⟩
  have := h.len
  rw [dvals_length hz] at this
  exact Nat.eq_of_mul_eq_mul_right h0 this
theorem dget_map {α : Type} [Inhabited α] {F : Nat → α} {n i : Nat} (h : i < n) : dget ((List.range n).map F) i = F i := by
  simp [dget, List.getD_eq_getElem?_getD, h]
end
def subE (n : Nat) (G : Nat → GenEnt) : GenEnt :=
  { blk := fun k => ∃ i, i < n ∧ (G i).blk k, wr := false, own := false, ok := fun w => ∀ i, i < n → (G i).ok w,
    stable := fun w w' hb h i hi => (G i).stable w w' (fun b hbk => hb b ⟨i, hi, hbk⟩) (h i hi),
    inb := fun w b h hb => by obtain ⟨i, hi, hk⟩ := hb; exact (G i).inb w b (h i hi) hk }
theorem Tab.sub {w0 w : World} {T : List Ent} (hT : Tab w0 w T) {j n : Nat} {G : Nat → GenEnt} (hj : T[j]? = some (.gen (subE n G))) {i : Nat} (hi : i < n) (hw : (G i).wr = false) (ho : (G i).own = false) : Tab w0 w (.gen (G i) :: T) := by
  have hok := hT.ok j _ hj i hi
  refine ⟨hT.os, hT.tape, hT.output, hT.size, ?_, ?_, ?_, ?_⟩
  · intro q e he
    cases q with
    | zero => simp at he; subst he; exact hok
    | succ q => exact hT.ok q e (by simpa using he)
  · intro k hk hne
    exact hT.frame k hk (fun q e he hwr => hne (q + 1) e (by simpa using he) hwr)
  · intro q e he hown
    cases q with
    | zero => simp at he; subst he; exact absurd hown (by show ¬ (G i).own = true; rw [ho]; simp)
    | succ q => exact hT.own q e (by simpa using he) hown
  · intro p q e e' hpq he he' hwr k hk hk'
    cases p with
    | zero =>
      simp at he; subst he
      cases q with
      | zero => exact hpq rfl
      | succ q =>
        have he2 : T[q]? = some e' := by simpa using he'
        have hw' : e'.wr = true := by
          rcases hwr with h | h
          · exact absurd h (by show ¬ (G i).wr = true; rw [hw]; simp)
          · exact h
        have hne : j ≠ q := by
          intro hq; subst hq
          rw [hj] at he2; cases he2; cases hw'
        exact hT.disj j q _ e' hne hj he2 (.inr hw') k ⟨i, hi, hk⟩ hk'
    | succ p =>
      have he2 : T[p]? = some e := by simpa using he
      cases q with
      | zero =>
        simp at he'; subst he'
        have hw' : e.wr = true := by
          rcases hwr with h | h
          · exact h
          · exact absurd h (by show ¬ (G i).wr = true; rw [hw]; simp)
        have hne : p ≠ j := by
          intro hq; subst hq
          rw [hj] at he2; cases he2; cases hw'
        exact hT.disj p j e _ hne he2 hj (.inl hw') k hk ⟨i, hi, hk'⟩
      | succ q => exact hT.disj p q e e' (by omega) he2 (by simpa using he') hwr k hk hk'
theorem Tab.olds {w : World} : ∀ {T : List Ent}, (∀ (i : Nat) (e : Ent), T[i]? = some e → e.ok w ∧ e.own = false ∧ e.wr = false) → Tab w w T := by
  intro T
  induction T with
  | nil => intro _; exact Tab.start w
  | cons e T ih =>
    intro h
    have h0 := h 0 e rfl
    refine Tab.addOld (ih (fun i x hx => h (i + 1) x (by simpa using hx))) e h0.1 h0.2.1 (fun i x hx hw => ?_)
    have h1 := h (i + 1) x (by simpa using hx)
    rcases hw with hw | hw
    · rw [h0.2.2] at hw; cases hw
    · rw [h1.2.2] at hw; cases hw
theorem cont_sub {K : Act → World → Prop} {n : Nat} {w0 : World} {L : List (Nat × Value)} {T : List Ent} (j i m : Nat) (G : Nat → GenEnt) (hj : T[j]? = some (.gen (subE m G))) (hi : i < m) (hw : (G i).wr = false) (ho : (G i).own = false) (h : Cont dfs K n w0 L (.gen (G i) :: T)) : Cont dfs K n w0 L T :=
  fun a w ha hf hT => h a w ha hf (hT.sub hj hi hw ho)
theorem open_listC {α : Type} [Inhabited α] {cel : α → List Value} {z : Nat} (hz : ∀ a, (cel a).length = z) (hz0 : 0 < z) {good : World → α → Prop} {H : Type} {enc : TypeId × Value → H} {P : Program} {W : World} {ts t : TypeId} {c : Value} {n : Nat} {x : DataW H × List MemPlace} (ht : P.underlying ts = some (.slice t)) (hct : P.cellsOf t = z)
    (hone : ∀ (cs : List Value) (n : Nat) (x : DataW H × List MemPlace), cs.length = z → DataW.trod enc P W 0 (fun _ => true) true n t cs = some x → ∃ a : α, cs = cel a ∧ good W a)
    (h : DataW.trod enc P W 0 (fun _ => true) true n ts [c] = some x) :
    ∃ (A : Option Addr) (g o n cap : Nat) (l : List α), c = .slice A n cap ∧ Rd W A g o n z (dvals cel l) ∧ l.length = n ∧ n ≤ cap ∧ cap ≤ maxLen ∧ (∀ a ∈ l, good W a) := by
  rcases open_slice ht h with ⟨e, _⟩ | ⟨a, len, cap, m, k, D, Pl, e, _, hle, hm, hmm, _, hx⟩
  · simp only [List.cons.injEq, and_true] at e
    exact ⟨none, 0, 0, 0, 0, [], e, ⟨by simp [dvals], fun h => by omega, fun j v hj => by simp [dvals] at hj⟩, rfl, Nat.le_refl _, by unfold maxLen; omega, fun x hx => by cases hx⟩
  · simp only [List.cons.injEq, and_true] at e
    simp only [if_true] at hmm
    have each : ∀ i, i < len → ∃ r : α, (∀ j v, (cel r)[j]? = some v → W.cell? ((a.add (i * z)).add j) = some v) ∧ good W r := by
      intro i hil
      obtain ⟨cs', g1, g2⟩ := hx i (by omega)
      rw [hct] at g1
      obtain ⟨_, hlen, hcell⟩ := World.cells?_some g1
      obtain ⟨r, rfl, hr⟩ := hone _ _ _ (by simpa using hlen) g2
      refine ⟨r, fun j v hj => ?_, hr⟩
      have hjl := (List.getElem?_eq_some_iff.1 hj).1
      have := hcell j (by rw [hz] at hjl; simpa using hjl)
      rw [this]
      simpa using hj
    have hF : ∃ F : Nat → α, ∀ i, i < len → (∀ j v, (cel (F i))[j]? = some v → W.cell? ((a.add (i * z)).add j) = some v) ∧ good W (F i) :=
      ⟨fun i => if h : i < len then Classical.choose (each i h) else default, fun i h => by simp only [dif_pos h]; exact Classical.choose_spec (each i h)⟩
    obtain ⟨F, hF⟩ := hF
    have hsp : 0 < len → a.spot = none := fun hp => by
      have h0 : 0 < (cel (F 0)).length := by rw [hz]; exact hz0
      have := (hF 0 hp).1 0 _ (List.getElem?_eq_getElem h0)
      have z' : (a.add (0 * z)).add 0 = a := by simp [Addr.add]
      rw [z'] at this
      exact spot_of_cell this
    refine ⟨some a, a.block, a.off, len, cap, (List.range len).map F, e, ⟨by rw [dvals_length hz]; simp, fun hp => ?_, fun j v hj => ?_⟩, by simp, hle, hm, fun r hr => ?_⟩
    · have := hsp hp
      cases a with
      | mk b o s => simp only at this; subst this; rfl
    · have hjl := (List.getElem?_eq_some_iff.1 hj).1
      rw [dvals_length hz, List.length_map, List.length_range] at hjl
      have hq : j / z < len := Nat.div_lt_of_lt_mul (by rwa [Nat.mul_comm])
      have hr : j % z < z := Nat.mod_lt _ hz0
      have hk := List.getElem?_eq_getElem (l := cel (F (j / z))) (i := j % z) (by rw [hz]; exact hr)
      have h2 := dvals_get hz (l := (List.range len).map F) (i := j / z) (k := j % z) (by simpa using hq) (by rw [dget_map hq]; exact hk)
      rw [show j / z * z + j % z = j by rw [Nat.mul_comm]; exact Nat.div_add_mod j z, hj] at h2
      have h3 := (hF _ hq).1 (j % z) v (by rw [hk]; exact h2.symm)
      have hs2 := hsp (Nat.lt_of_le_of_lt (Nat.zero_le _) hq)
      rw [addr_split hs2, addr_split rfl] at h3
      simp only at h3
      rw [show a.off + j / z * z + j % z = a.off + j by rw [Nat.add_assoc, Nat.mul_comm, Nat.div_add_mod]] at h3
      exact h3
    · obtain ⟨i, hi, rfl⟩ := List.mem_map.1 hr
      exact (hF i (List.mem_range.1 hi)).2
theorem open_list {α : Type} [Inhabited α] {cel : α → List Value} {z : Nat} (hz : ∀ a, (cel a).length = z) (hz0 : 0 < z) {good : World → α → Prop} {H : Type} {enc : TypeId × Value → H} {P : Program} {W : World} {ts t : TypeId} {v : Value} {d : DataW H} {ps : List MemPlace} (ht : P.underlying ts = some (.slice t)) (hct : P.cellsOf t = z)
    (hone : ∀ (cs : List Value) (n : Nat) (x : DataW H × List MemPlace), cs.length = z → DataW.trod enc P W 0 (fun _ => true) true n t cs = some x → ∃ a : α, cs = cel a ∧ good W a)
    (hval : Value.okWide P W .any 0 ts v) (h : DataW.Trod enc P W 0 (fun _ => true) true ts v d ps) :
    ∃ (A : Option Addr) (g o n cap : Nat) (l : List α), v = .slice A n cap ∧ Rd W A g o n z (dvals cel l) ∧ l.length = n ∧ n ≤ cap ∧ cap ≤ maxLen ∧ (∀ a ∈ l, good W a) := by
  obtain ⟨a, len, cap, rfl⟩ := okWide_slice ht hval
  obtain ⟨fuel, hf⟩ := h
  exact open_listC hz hz0 ht hct hone hf
end Go.Proofs.YtlfahohbkgdabaaGreat
namespace Go.Proofs.YtlfahohbkgdabaaGreat
open Go Go.RowKit
variable {dfs : List Deferred}
def bunO (n : Nat) (G : Nat → GenEnt) : GenEnt := { subE n G with own := true }
def roE (b : Nat) (cs : List Value) (t : TypeId) : GenEnt :=
  { blk := fun k => k = b, wr := false, own := false, ok := fun w => w.heap[b]? = some (.cells cs.toArray t (0, 0)),
    stable := fun w w' hb h => (hb b rfl).trans h,
    inb := fun w k h hk => by rw [show k = b from hk]; exact (Array.getElem?_eq_some_iff.1 h).1 }
theorem Tab.see {w0 w : World} {T : List Ent} (hT : Tab w0 w T) {j : Nat} {e e0 : Ent} (hj : T[j]? = some e) (hw : e.wr = false) (hv : Vw e e0) (hw0 : e0.wr = false) : Tab w0 w (e0 :: T) := by
  refine ⟨hT.os, hT.tape, hT.output, hT.size, ?_, ?_, ?_, ?_⟩
  · intro q x hx
    cases q with
    | zero => simp at hx; subst hx; exact hv.ok w (hT.ok j e hj)
    | succ q => exact hT.ok q x (by simpa using hx)
  · intro k hk hne
    exact hT.frame k hk (fun q x hx hwr => hne (q + 1) x (by simpa using hx) hwr)
  · intro q x hx hown
    cases q with
    | zero => simp at hx; subst hx; rw [hv.own] at hown; cases hown
    | succ q => exact hT.own q x (by simpa using hx) hown
  · intro p q x y hpq hx hy hwr k hk hk'
    cases p with
    | zero =>
      simp at hx; subst hx
      cases q with
      | zero => exact hpq rfl
      | succ q =>
        have hy2 : T[q]? = some y := by simpa using hy
        have hw' : y.wr = true := by
          rcases hwr with h | h
          · rw [hw0] at h; cases h
          · exact h
        have hne : j ≠ q := by
          intro hq; subst hq
          rw [hj] at hy2; cases hy2; rw [hw] at hw'; cases hw'
        exact hT.disj j q e y hne hj hy2 (.inr hw') k (hv.blk w (hT.ok j e hj) k hk) hk'
    | succ p =>
      have hx2 : T[p]? = some x := by simpa using hx
      cases q with
      | zero =>
        simp at hy; subst hy
        have hw' : x.wr = true := by
          rcases hwr with h | h
          · exact h
          · rw [hw0] at h; cases h
        have hne : p ≠ j := by
          intro hq; subst hq
          rw [hj] at hx2; cases hx2; rw [hw] at hw'; cases hw'
        exact hT.disj p j x e hne hx2 hj (.inl hw') k hk (hv.blk w (hT.ok j e hj) k hk')
      | succ q => exact hT.disj p q x y (by omega) hx2 (by simpa using hy) hwr k hk hk'
theorem cont_see {K : Act → World → Prop} {n : Nat} {w0 : World} {L : List (Tmp × Value)} {T : List Ent} (j : Nat) (e0 : Ent) {e : Ent} (hj : T[j]? = some e) (hw : e.wr = false) (hv : Vw e e0) (hw0 : e0.wr = false) (h : Cont dfs K n w0 L (e0 :: T)) : Cont dfs K n w0 L T :=
  fun a w ha hf hT => h a w ha hf (hT.see hj hw hv hw0)
theorem Tab.weakenO {w0 w : World} {T : List Ent} (hT : Tab w0 w T) {i : Nat} {e e0 : Ent} (hi : T[i]? = some e) (ho : e.own = true) (hok : e0.ok w) (hb : ∀ k, e0.blk k → e.blk k) (hw : e0.wr = false) : Tab w0 w (T.set i e0) := by
  refine ⟨hT.os, hT.tape, hT.output, hT.size, ?_, ?_, ?_, ?_⟩
  · intro j x hx
    rcases getElem?_set_cases _ _ _ _ _ hx with ⟨_, rfl⟩ | ⟨_, hx⟩
    · exact hok
    · exact hT.ok j x hx
  · intro k hk hno
    refine hT.frame k hk (fun j x hx hxw hb' => ?_)
    by_cases hj : j = i
    · subst hj
      rw [hi] at hx; cases hx
      have := hT.own j e hi ho k hb'; omega
    · exact hno j x (by rw [List.getElem?_set_ne (Ne.symm hj)]; exact hx) hxw hb'
  · intro j x hx hxo k hk
    rcases getElem?_set_cases _ _ _ _ _ hx with ⟨_, rfl⟩ | ⟨_, hx⟩
    · exact hT.own i e hi ho k (hb k hk)
    · exact hT.own j x hx hxo k hk
  · intro j l x y hjl hx hy hxy k hk hk'
    rcases getElem?_set_cases _ _ _ _ _ hx with ⟨hji, rfl⟩ | ⟨hj, hx2⟩
    · rcases getElem?_set_cases _ _ _ _ _ hy with ⟨hli, rfl⟩ | ⟨hl, hy⟩
      · omega
      · rw [hw] at hxy
        exact hT.disj i l e y (Ne.symm hl) hi hy (.inr (hxy.resolve_left (by simp))) k (hb k hk) hk'
    · rcases getElem?_set_cases _ _ _ _ _ hy with ⟨hli, rfl⟩ | ⟨hl, hy⟩
      · rw [hw] at hxy
        exact hT.disj j i x e hj hx2 hi (.inl (hxy.resolve_right (by simp))) k hk (hb k hk')
      · exact hT.disj j l x y hjl hx2 hy hxy k hk hk'
theorem Tab.grow {w0 w : World} {T : List Ent} (hT : Tab w0 w T) {i j : Nat} {e0 e1 e2 : Ent} (hi : T[i]? = some e0) (hoi : e0.own = true) (hwi : e0.wr = false) (hj : T[j]? = some e1) (hw1 : e1.wr = false) (ho1 : e1.own = true) (hw2 : e2.wr = false) (hok : e2.ok w)
    (hb : ∀ k, e2.blk k → e1.blk k ∨ e0.blk k) : Tab w0 w (T.set j e2) := by
  refine ⟨hT.os, hT.tape, hT.output, hT.size, ?_, ?_, ?_, ?_⟩
  · intro q x hx
    rcases getElem?_set_cases _ _ _ _ _ hx with ⟨_, rfl⟩ | ⟨_, hx⟩
    · exact hok
    · exact hT.ok q x hx
  · intro k hk hno
    refine hT.frame k hk (fun q x hx hxw hb' => ?_)
    by_cases hq : q = j
    · subst hq
      rw [hj] at hx; cases hx; rw [hw1] at hxw; cases hxw
    · exact hno q x (by rw [List.getElem?_set_ne (Ne.symm hq)]; exact hx) hxw hb'
  · intro q x hx hxo k hk
    rcases getElem?_set_cases _ _ _ _ _ hx with ⟨_, rfl⟩ | ⟨_, hx⟩
    · rcases hb k hk with h | h
      · exact hT.own j e1 hj ho1 k h
      · exact hT.own i e0 hi hoi k h
    · exact hT.own q x hx hxo k hk
  · have key : ∀ (l : Nat) (y : Ent) (k : Nat), T[l]? = some y → y.wr = true → e2.blk k → ¬ y.blk k := by
      intro l y k hy hyw hk hk'
      rcases hb k hk with h | h
      · refine hT.disj j l e1 y (fun he => ?_) hj hy (.inr hyw) k h hk'
        subst he; rw [hj] at hy; cases hy; rw [hw1] at hyw; cases hyw
      · refine hT.disj i l e0 y (fun he => ?_) hi hy (.inr hyw) k h hk'
        subst he; rw [hi] at hy; cases hy; rw [hwi] at hyw; cases hyw
    intro p q x y hpq hx hy hxy k hk hk'
    rcases getElem?_set_cases _ _ _ _ _ hx with ⟨hp, hxe⟩ | ⟨hp, hx2⟩
    · rcases getElem?_set_cases _ _ _ _ _ hy with ⟨hq, hye⟩ | ⟨hq, hy2⟩
      · omega
      · rw [hxe] at hk hxy
        exact key q y k hy2 (hxy.resolve_left (by rw [hw2]; simp)) hk hk'
    · rcases getElem?_set_cases _ _ _ _ _ hy with ⟨hq, hye⟩ | ⟨hq, hy2⟩
      · rw [hye] at hk' hxy
        exact key p x k hx2 (hxy.resolve_right (by rw [hw2]; simp)) hk' hk
      · exact hT.disj p q x y hpq hx2 hy2 hxy k hk hk'
theorem cont_nilbun {K : Act → World → Prop} {n : Nat} {w0 : World} {L : List (Tmp × Value)} {T : List Ent} (G : Nat → GenEnt) (h : Cont dfs K n w0 L (.gen (bunO 0 G) :: T)) : Cont dfs K n w0 L T :=
  fun a w ha hf hT => h a w ha hf (hT.fresh (.gen (bunO 0 G)) (fun i hi => absurd hi (Nat.not_lt_zero i)) (fun k hk => by obtain ⟨i, hi, _⟩ := hk; exact absurd hi (Nat.not_lt_zero i)))
theorem cont_bun {K : Act → World → Prop} {n : Nat} {w0 : World} {L : List (Tmp × Value)} {T : List Ent} (i j m : Nat) (G G' : Nat → GenEnt) (g : GenEnt) {e : Ent} (hi : T[i]? = some e) (ho : e.own = true) (hv : Vw e (.gen g)) (hj : T[j]? = some (.gen (bunO m G))) (hij : i ≠ j)
    (hG : ∀ k, k < m → G' k = G k) (hg : G' m = g) (h : Cont dfs K n w0 L ((T.set j (.gen (bunO (m + 1) G'))).eraseIdx i)) : Cont dfs K n w0 L T := by
  intro a w ha hf hT
  have hok := hT.ok i e hi
  have h1 : Tab w0 w (T.set i (.gen { g with wr := false, own := true })) := hT.weakenO hi ho (hv.ok w hok) (fun k hk => hv.blk w hok k hk) rfl
  have hil : i < T.length := (List.getElem?_eq_some_iff.1 hi).1
  have hi2 : (T.set i (.gen { g with wr := false, own := true }))[i]? = some (.gen { g with wr := false, own := true }) := by rw [List.getElem?_set_self hil]
  have hj2 : (T.set i (.gen { g with wr := false, own := true }))[j]? = some (.gen (bunO m G)) := by rw [List.getElem?_set_ne hij]; exact hj
  have h2 := h1.grow (e2 := .gen (bunO (m + 1) G')) hi2 rfl rfl hj2 rfl rfl rfl (by
    intro q hq
    rcases Nat.lt_or_ge q m with hlt | hge
    · rw [hG q hlt]; exact h1.ok j _ hj2 q hlt
    · rw [show q = m by omega, hg]; exact hv.ok w hok) (by
    rintro k ⟨q, hq, hk⟩
    rcases Nat.lt_or_ge q m with hlt | hge
    · rw [hG q hlt] at hk; exact .inl ⟨q, hlt, hk⟩
    · rw [show q = m by omega, hg] at hk; exact .inr hk)
  have h3 := h2.erase i (by
    intro x hx hxw
    rw [List.getElem?_set_ne (Ne.symm hij), hi2] at hx; cases hx; rfl)
  rw [List.set_comm _ _ hij, List.eraseIdx_set_eq] at h3
  exact h a w ha hf h3
theorem Vw.bunSub {n : Nat} {G : Nat → GenEnt} : Vw (.gen (bunO n G)) (.gen (subE n G)) := ⟨fun _ h => h, fun _ _ _ h => h, fun h => h, rfl⟩
theorem Vw.subSub {n : Nat} {G : Nat → GenEnt} : Vw (.gen (subE n G)) (.gen (subE n G)) := ⟨fun _ h => h, fun _ _ _ h => h, fun h => h, rfl⟩
theorem Vw.bunAt {n : Nat} {G : Nat → GenEnt} (i : Nat) (hi : i < n) (hw : (G i).wr = false) (ho : (G i).own = false) : Vw (.gen (bunO n G)) (.gen (G i)) := ⟨fun _ h => h i hi, fun _ _ _ hk => ⟨i, hi, hk⟩, fun h => (by rw [show (Ent.gen (G i)).wr = (G i).wr from rfl, hw] at h; cases h), ho⟩
theorem Vw.subAt {n : Nat} {G : Nat → GenEnt} (i : Nat) (hi : i < n) (hw : (G i).wr = false) (ho : (G i).own = false) : Vw (.gen (subE n G)) (.gen (G i)) := ⟨fun _ h => h i hi, fun _ _ _ hk => ⟨i, hi, hk⟩, fun h => (by rw [show (Ent.gen (G i)).wr = (G i).wr from rfl, hw] at h; cases h), ho⟩
theorem Vw.subAtRo {n : Nat} {G : Nat → GenEnt} {b : Nat} {cs : List Value} {t : TypeId} (i : Nat) (hi : i < n) (hG : G i = roE b cs t) : Vw (.gen (subE n G)) (.ro b cs t) := ⟨fun w h => by have := h i hi; rw [hG] at this; exact this, fun _ _ _ hk => ⟨i, hi, by rw [hG]; exact hk⟩, fun h => (by cases h), rfl⟩
theorem Vw.cellsRo {b : Nat} {cs : List Value} {t : TypeId} {o : Bool} : Vw (.cells b cs t o) (.gen (roE b cs t)) := ⟨fun _ h => h, fun _ _ _ h => h, fun h => (by cases h), rfl⟩
theorem dget_app {α : Type} [Inhabited α] {l : List α} {a : α} {i : Nat} (h : i < l.length) : dget (l ++ [a]) i = dget l i := by
  unfold dget; rw [List.getD_eq_getElem?_getD, List.getD_eq_getElem?_getD, List.getElem?_append_left h]
theorem dget_end {α : Type} [Inhabited α] {l : List α} {a : α} {n : Nat} (h : l.length = n) : dget (l ++ [a]) n = a := by
  subst h; unfold dget; rw [List.getD_eq_getElem?_getD, List.getElem?_append_right (Nat.le_refl _)]; simp
end Go.Proofs.YtlfahohbkgdabaaGreat
namespace Go.Proofs.YtlfahohbkgdabaaGreat
open Go Go.RowKit
variable {dfs : List Deferred}
section
variable {α : Type} {cel : α → List Value} {z : Nat}
theorem dvals_append : ∀ a b : List α, dvals cel a ++ dvals cel b = dvals cel (a ++ b) := by
  intro a b
  induction a with
  | nil => rfl
  | cons x a ih => rw [dvals, List.append_assoc, ih]; rfl
theorem dvals_one (h1 : ∀ a, ∀ u ∈ cel a, u.oneCell' = true) : ∀ l : List α, ∀ u ∈ dvals cel l, u.oneCell' = true := by
  intro l
  induction l with
  | nil => intro u hu; cases hu
  | cons x l ih =>
    intro u hu
    rcases List.mem_append.1 hu with h | h
    · exact h1 x u h
    · exact ih u h
theorem Row.factsD {w : World} {A : Option Addr} {g n cap : Nat} {e : TypeId} {l : List α} (hz : ∀ a, (cel a).length = z) (h0 : 0 < z) (h : Row w A g n cap e z (dvals cel l)) : (0 < n → A = some ⟨g, 0, none⟩) ∧ l.length = n ∧ n ≤ cap ∧ cap ≤ maxLen := by
  refine ⟨h.at_, (h.rd.factsD hz h0).2, h.capLe, ?_⟩
  rcases h.own.2 with ⟨h1, _⟩ | ⟨g', cap', cur, hv, _, _, _, hm, _⟩
  · cases h1; unfold maxLen; omega
  · cases hv; exact hm
theorem cont_rowEqD {K : Act → World → Prop} {n' : Nat} {w0 : World} {L : List (Nat × Value)} {T : List Ent} (i : Nat) {A : Option Addr} {g n cap : Nat} {e : TypeId} (xs ys : List α) {own : Bool} (hi : T[i]? = some (.gen (rowE A g n cap e z (dvals cel xs) own))) (hxy : xs = ys)
    (h : Cont dfs K n' w0 L (T.set i (.gen (rowE A g n cap e z (dvals cel ys) own)))) : Cont dfs K n' w0 L T := by
  subst hxy
  have : T.set i (.gen (rowE A g n cap e z (dvals cel xs) own)) = T := by
    obtain ⟨hlt, he⟩ := List.getElem?_eq_some_iff.1 hi
    rw [← he]
    exact List.set_getElem_self hlt
  rwa [this] at h
end
end Go.Proofs.YtlfahohbkgdabaaGreat
namespace Go.Proofs.YtlfahohbkgdabaaGreat
open Go Go.RowKit
theorem reg_ext {l l' : List Rect} {F G : Int → Int → Bool} (h : IsReg l F) (h' : IsReg l' G) (e : ∀ x y, F x y = G x y) : l = l' := (h.congr e).unique h'
theorem hasL_and (a b : List Rect) (x y : Int) : hasL (regM andB a b) x y = (hasL a x y && hasL b x y) := (regM_isReg rfl a b).has x y
theorem hasL_less (a b : List Rect) (x y : Int) : hasL (regM lessB a b) x y = (hasL a x y && !hasL b x y) := (regM_isReg rfl a b).has x y
theorem hasL_can (a : List Rect) (x y : Int) : hasL (canR a) x y = hasL a x y := (canR_isReg a).has x y
theorem runs_length {β : Type} {lo : Int} : ∀ {l : List (Run β)} {hi : Int}, RunsOk l → (∀ r ∈ l, lo ≤ r.1 ∧ r.2.1 ≤ hi) → lo ≤ hi → (l.length : Int) ≤ hi - lo := by
  intro l
  induction l with
  | nil => intro hi _ _ h; simp; omega
  | cons r t ih =>
    intro hi h hb hle
    have h1 := hb r (by simp)
    have h2 := h.1
    have := ih (hi := r.1) h.tail (fun s hs => ⟨(hb s (by simp [hs])).1, h.below s hs⟩) (by omega)
    simp only [List.length_cons]
    omega
theorem look_at {β : Type} : ∀ {l : List (Run β)}, RunsOk l → ∀ r ∈ l, ∀ p, r.1 ≤ p → p < r.2.1 → look l p = some r.2.2 := by
  intro l
  induction l with
  | nil => intro _ r hr; cases hr
  | cons s t ih =>
    intro h r hr p h1 h2
    rcases List.mem_cons.1 hr with rfl | hr
    · rw [look, if_pos ⟨h1, h2⟩]
    · have := h.below r hr
      rw [look, if_neg (by omega)]
      exact ih h.tail r hr p h1 h2
theorem RunsOk.lt {β : Type} : ∀ {l : List (Run β)}, RunsOk l → ∀ r ∈ l, r.1 < r.2.1 := by
  intro l
  induction l with
  | nil => intro _ r hr; cases hr
  | cons s t ih =>
    intro h r hr
    rcases List.mem_cons.1 hr with rfl | hr
    · exact h.1
    · exact ih h.tail r hr
theorem flatR_length {m : Nat} : ∀ {bs : Bands}, (∀ b ∈ bs, b.2.2.length ≤ m) → (flatR bs).length ≤ bs.length * m := by
  intro bs
  induction bs with
  | nil => intro _; simp [flatR]
  | cons b t ih =>
    intro h
    have h1 := ih (fun c hc => h c (by simp [hc]))
    have h2 := h b (by simp)
    rw [flatR, List.length_append, bandR_length, List.length_cons, Nat.succ_mul]
    omega
theorem flatR_mem : ∀ {bs : Bands} {r : Rect}, r ∈ flatR bs → ∃ b ∈ bs, ∃ s ∈ b.2.2, r = ⟨s.1, b.1, s.2.1, b.2.1⟩ := by
  intro bs
  induction bs with
  | nil => intro r h; cases h
  | cons b t ih =>
    intro r h
    rw [flatR] at h
    rcases List.mem_append.1 h with h | h
    · obtain ⟨c, hc, s, hs, e⟩ := ih h
      exact ⟨c, by simp [hc], s, hs, e⟩
    · unfold bandR at h
      rw [List.mem_reverse, List.mem_map] at h
      obtain ⟨s, hs, e⟩ := h
      exact ⟨b, by simp, s, hs, e.symm⟩
def areaL (l : List Rect) : Int := (l.map fun r => areaI r.x0 r.y0 r.x1 r.y1).sum
end Go.Proofs.YtlfahohbkgdabaaGreat
namespace Go.Proofs.YtlfahohbkgdabaaGreat
open Go Go.RowKit
structure TS where
  W : Int
  H : Int
  r : Nat
  n : Nat
  cap : Nat
  px : List Int
  X : Int
  Y : Int
  s : Int
  al : Int
  ca : Int
  cb : Int
  cc : Int
  cd : Int
  A : Option Addr
  g : Nat
  k : Nat
  cp : Nat
  op : List Rect
instance : Inhabited TS := ⟨⟨0, 0, 0, 0, 0, [], 0, 0, 0, 0, 0, 0, 0, 0, none, 0, 0, 0, []⟩⟩
def TS.cells (t : TS) : List Value := [.bool true, .int .i64 t.W, .int .i64 t.H, .slice (some ⟨t.r, 0, none⟩) t.n t.cap, .int .i64 t.X, .int .i64 t.Y, .int .i64 t.s, .int .i64 t.al, .int .i64 t.ca, .int .i64 t.cb, .int .i64 t.cc, .int .i64 t.cd, .slice t.A t.k t.cp, .string ⟨#[]⟩]
theorem TS.size (t : TS) : (TS.cells t).length = 14 := rfl
theorem TS.one : ∀ a : TS, ∀ u ∈ TS.cells a, u.oneCell' = true := by
  intro a u hu
  simp only [TS.cells, List.mem_cons, List.not_mem_nil, or_false] at hu
  rcases hu with rfl | rfl | rfl | rfl | rfl | rfl | rfl | rfl | rfl | rfl | rfl | rfl | rfl | rfl <;> rfl
def TS.pxG (t : TS) : GenEnt := rdE (some ⟨t.r, 0, none⟩) t.r 0 t.n 1 (ivals .u32 t.px)
def TS.opG (t : TS) : GenEnt := rdE t.A t.g 0 t.k 4 (rvals t.op)
def TS.pxs (l : List TS) (i : Nat) : GenEnt := (dget l i).pxG
def TS.ops (l : List TS) (i : Nat) : GenEnt := (dget l i).opG
theorem TS.pxs_app {l : List TS} {t : TS} {m : Nat} (h : l.length = m) : (∀ k, k < m → TS.pxs (l ++ [t]) k = TS.pxs l k) ∧ TS.pxs (l ++ [t]) m = t.pxG :=
  ⟨fun k hk => by unfold TS.pxs; rw [dget_app (by omega)], by unfold TS.pxs; rw [dget_end h]⟩
theorem TS.ops_app {l : List TS} {t : TS} {m : Nat} (h : l.length = m) : (∀ k, k < m → TS.ops (l ++ [t]) k = TS.ops l k) ∧ TS.ops (l ++ [t]) m = t.opG :=
  ⟨fun k hk => by unfold TS.ops; rw [dget_app (by omega)], by unfold TS.ops; rw [dget_end h]⟩
def SolR (W : Int) (px : List Int) (r : Rect) : Prop := ∃ i : Nat, i < px.length ∧ r = ⟨(i : Int) % W, (i : Int) / W, (i : Int) % W + 1, (i : Int) / W + 1⟩ ∧ pa (px.getD i 0) = 255
structure TS.Ok (t : TS) : Prop where
  img : ImgOk t.W t.H t.n t.px
  may : AllMay t.px
  w16 : t.W ≤ 16
  h16 : t.H ≤ 16
  s_ : 1 ≤ t.s ∧ t.s ≤ 3
  x_ : -6 ≤ t.X ∧ t.X ≤ 17
  y_ : -6 ≤ t.Y ∧ t.Y ≤ 17
  a_ : 0 ≤ t.al ∧ t.al ≤ 255
  clip : R64 ⟨t.ca, t.cb, t.cc, t.cd⟩
  opq : ∃ l : List Rect, t.op = canR l ∧ l.length ≤ 65536 ∧ ∀ r ∈ l, SolR t.W t.px r
structure IT where
  b : Nat
  q : Nat
  t : TS
instance : Inhabited IT := ⟨⟨0, 0, default⟩⟩
def IT.cells (x : IT) : List Value := [.int .i64 0, .int .i64 0, .pointer (some ⟨x.b, 0, none⟩), .int .i64 x.t.X, .int .i64 x.t.Y, .int .i64 x.t.s, .int .i64 x.t.al, .int .i64 x.t.ca, .int .i64 x.t.cb, .int .i64 x.t.cc, .int .i64 x.t.cd, .slice x.t.A x.t.k x.t.cp, .string ⟨#[]⟩, .int .i64 0]
theorem IT.size (x : IT) : (IT.cells x).length = 14 := rfl
theorem IT.one : ∀ a : IT, ∀ u ∈ IT.cells a, u.oneCell' = true := by
  intro a u hu
  simp only [IT.cells, List.mem_cons, List.not_mem_nil, or_false] at hu
  rcases hu with rfl | rfl | rfl | rfl | rfl | rfl | rfl | rfl | rfl | rfl | rfl | rfl | rfl | rfl <;> rfl
def IT.hdG (tI : TypeId) (x : IT) : GenEnt := roE x.b [.int .i64 x.t.W, .int .i64 x.t.H, .slice (some ⟨x.q, 0, none⟩) x.t.n x.t.n] tI
def IT.pxG (x : IT) : GenEnt := rdE (some ⟨x.q, 0, none⟩) x.q 0 x.t.n 1 (ivals .u32 x.t.px)
def IT.hds (tI : TypeId) (l : List IT) (i : Nat) : GenEnt := (dget l i).hdG tI
def IT.pxs (l : List IT) (i : Nat) : GenEnt := (dget l i).pxG
theorem IT.hds_app {tI : TypeId} {l : List IT} {t : IT} {m : Nat} (h : l.length = m) : (∀ k, k < m → IT.hds tI (l ++ [t]) k = IT.hds tI l k) ∧ IT.hds tI (l ++ [t]) m = t.hdG tI :=
  ⟨fun k hk => by unfold IT.hds; rw [dget_app (by omega)], by unfold IT.hds; rw [dget_end h]⟩
theorem IT.pxs_app {l : List IT} {t : IT} {m : Nat} (h : l.length = m) : (∀ k, k < m → IT.pxs (l ++ [t]) k = IT.pxs l k) ∧ IT.pxs (l ++ [t]) m = t.pxG :=
  ⟨fun k hk => by unfold IT.pxs; rw [dget_app (by omega)], by unfold IT.pxs; rw [dget_end h]⟩
theorem dget_mapT {its : List IT} {ts : List TS} (h : its.map (·.t) = ts) {i : Nat} (hi : i < its.length) : (dget its i).t = dget ts i := by
  subst h
  unfold dget
  rw [List.getD_eq_getElem?_getD, List.getD_eq_getElem?_getD, List.getElem?_map, List.getElem?_eq_getElem hi]; rfl
theorem map_take {its : List IT} {ts : List TS} {x : IT} {i : Nat} (h : its.map (·.t) = ts.take i) (hi : i < ts.length) (hx : x.t = dget ts i) : (its ++ [x]).map (·.t) = ts.take (i + 1) := by
  rw [List.map_append, h, List.take_add_one, List.getElem?_eq_getElem hi]
  simp only [List.map_cons, List.map_nil, Option.toList_some]
  rw [hx]
  unfold dget
  rw [List.getD_eq_getElem?_getD, List.getElem?_eq_getElem hi]; rfl
theorem map_len {its : List IT} {ts : List TS} {i : Nat} (h : its.map (·.t) = ts.take i) (hi : i ≤ ts.length) : its.length = i := by
  have := congrArg List.length h
  rw [List.length_map, List.length_take] at this
  omega
theorem okIT {its : List IT} {ts : List TS} (h : its.map (·.t) = ts) (hok : ∀ t ∈ ts, TS.Ok t) : ∀ x ∈ its, TS.Ok x.t := fun x hx => hok _ (by rw [← h]; exact List.mem_map.2 ⟨x, hx, rfl⟩)
end Go.Proofs.YtlfahohbkgdabaaGreat
namespace Go.Proofs.YtlfahohbkgdabaaGreat
open Go Go.RowKit
set_option maxRecDepth 100000
set_option maxHeartbeats 8000000
structure V17 where
  x0 : Bool
  x1 : Int
  x2 : Int
  A3 : Option Addr
  g3 : Nat
  o3 : Nat
  m3 : Nat
  k3 : Nat
  x3 : List Int
  x4 : Int
  x5 : Int
  x6 : Int
  x7 : Int
  x8 : Int
  x9 : Int
  x10 : Int
  x11 : Int
  x12 : Int
  x13 : Int
  A14 : Option Addr
  g14 : Nat
  o14 : Nat
  m14 : Nat
  k14 : Nat
  x14 : List Int
  A15 : Option Addr
  g15 : Nat
  o15 : Nat
  m15 : Nat
  k15 : Nat
  x15 : List Rect
instance : Inhabited V17 := ⟨⟨false, 0, 0, none, 0, 0, 0, 0, [], 0, 0, 0, 0, 0, 0, 0, 0, 0, 0, none, 0, 0, 0, 0, [], none, 0, 0, 0, 0, []⟩⟩
def V17.cells (d : V17) : List Value := [.bool d.x0, iQ d.x1, iQ d.x2, .slice d.A3 d.m3 d.k3, iQ d.x4, iQ d.x5, iQ d.x6, iQ d.x7, iQ d.x8, iQ d.x9, iQ d.x10, iQ d.x11, iQ d.x12, iQ d.x13, .slice d.A14 d.m14 d.k14, .slice d.A15 d.m15 d.k15]
theorem V17.size (d : V17) : (V17.cells d).length = 16 := rfl
structure V17.Good (w : World) (d : V17) : Prop where
  w1 : -9223372036854775808 ≤ d.x1 ∧ d.x1 ≤ 9223372036854775807
  w2 : -9223372036854775808 ≤ d.x2 ∧ d.x2 ≤ 9223372036854775807
  r3 : Rd w d.A3 d.g3 d.o3 d.m3 1 (cV d.x3)
  l3 : d.x3.length = d.m3
  c3 : d.m3 ≤ d.k3
  m3 : d.k3 ≤ maxLen
  b3 : ∀ x ∈ d.x3, 0 ≤ x ∧ x < 4294967296
  w4 : -9223372036854775808 ≤ d.x4 ∧ d.x4 ≤ 9223372036854775807
  w5 : -9223372036854775808 ≤ d.x5 ∧ d.x5 ≤ 9223372036854775807
  w6 : -9223372036854775808 ≤ d.x6 ∧ d.x6 ≤ 9223372036854775807
  w7 : -9223372036854775808 ≤ d.x7 ∧ d.x7 ≤ 9223372036854775807
  w8 : -9223372036854775808 ≤ d.x8 ∧ d.x8 ≤ 9223372036854775807
  w9 : -9223372036854775808 ≤ d.x9 ∧ d.x9 ≤ 9223372036854775807
  w10 : -9223372036854775808 ≤ d.x10 ∧ d.x10 ≤ 9223372036854775807
  w11 : -9223372036854775808 ≤ d.x11 ∧ d.x11 ≤ 9223372036854775807
  w12 : -9223372036854775808 ≤ d.x12 ∧ d.x12 ≤ 9223372036854775807
  w13 : -9223372036854775808 ≤ d.x13 ∧ d.x13 ≤ 9223372036854775807
  r14 : Rd w d.A14 d.g14 d.o14 d.m14 1 (cV d.x14)
  l14 : d.x14.length = d.m14
  c14 : d.m14 ≤ d.k14
  m14 : d.k14 ≤ maxLen
  b14 : ∀ x ∈ d.x14, 0 ≤ x ∧ x < 4294967296
  r15 : Rd w d.A15 d.g15 d.o15 d.m15 4 (rvals d.x15)
  l15 : d.x15.length = d.m15
  c15 : d.m15 ≤ d.k15
  m15 : d.k15 ≤ maxLen
  b15 : ∀ r ∈ d.x15, R64 r
section
open Go.ChangeShapes Go.WideShapes Go.ChangeAt Go.RowKit Go.Deep
theorem V17.openC {H : Type} {enc : TypeId × Value → H} {W : World} (cs : List Value) (n : Nat) (x : DataW H × List MemPlace) (hl : cs.length = 16) (hf : DataW.trod enc Tryz.prog W 0 (fun _ => true) true n 85 cs = some x) : ∃ d : V17, cs = V17.cells d ∧ V17.Good W d := by
  match cs, hl with
  | [c0, c1, c2, c3, c4, c5, c6, c7, c8, c9, c10, c11, c12, c13, c14, c15], _ =>
    obtain ⟨n1, y1, t1⟩ := trod_sub Tryz.underlying85 hf (i := 0) rfl (ty := 82) rfl (cs' := [c0, c1, c2, c3, c4, c5, c6, c7, c8, c9, c10, c11]) (by kernel_rfl)
    obtain ⟨n2, y2, t2⟩ := trod_sub Tryz.underlying82 t1 (i := 0) rfl (ty := 4) rfl (cs' := [c0]) (by kernel_rfl)
    obtain ⟨x0, rfl⟩ := open_boolC Tryz.underlying4 t2
    obtain ⟨n3, y3, t3⟩ := trod_sub Tryz.underlying82 t1 (i := 1) rfl (ty := 59) rfl (cs' := [c1, c2, c3]) (by kernel_rfl)
    obtain ⟨n4, y4, t4⟩ := trod_sub Tryz.underlying59 t3 (i := 0) rfl (ty := 3) rfl (cs' := [c1]) (by kernel_rfl)
    obtain ⟨x1, rfl, w1⟩ := open_intC Tryz.underlying3 t4
    obtain ⟨n5, y5, t5⟩ := trod_sub Tryz.underlying59 t3 (i := 1) rfl (ty := 3) rfl (cs' := [c2]) (by kernel_rfl)
    obtain ⟨x2, rfl, w2⟩ := open_intC Tryz.underlying3 t5
    obtain ⟨n6, y6, t6⟩ := trod_sub Tryz.underlying59 t3 (i := 2) rfl (ty := 50) rfl (cs' := [c3]) (by kernel_rfl)
    obtain ⟨A3, g3, o3, m3, k3, x3, rfl, hr3, hl3, hc3, hm3, w3⟩ := open_numsC Tryz.underlying50 Tryz.underlying52 (by kernel_rfl) t6
    obtain ⟨n7, y7, t7⟩ := trod_sub Tryz.underlying82 t1 (i := 2) rfl (ty := 80) rfl (cs' := [c4, c5]) (by kernel_rfl)
    obtain ⟨n8, y8, t8⟩ := trod_sub Tryz.underlying80 t7 (i := 0) rfl (ty := 3) rfl (cs' := [c4]) (by kernel_rfl)
    obtain ⟨x4, rfl, w4⟩ := open_intC Tryz.underlying3 t8
    obtain ⟨n9, y9, t9⟩ := trod_sub Tryz.underlying80 t7 (i := 1) rfl (ty := 3) rfl (cs' := [c5]) (by kernel_rfl)
    obtain ⟨x5, rfl, w5⟩ := open_intC Tryz.underlying3 t9
    obtain ⟨n10, y10, t10⟩ := trod_sub Tryz.underlying82 t1 (i := 3) rfl (ty := 3) rfl (cs' := [c6]) (by kernel_rfl)
    obtain ⟨x6, rfl, w6⟩ := open_intC Tryz.underlying3 t10
    obtain ⟨n11, y11, t11⟩ := trod_sub Tryz.underlying82 t1 (i := 4) rfl (ty := 3) rfl (cs' := [c7]) (by kernel_rfl)
    obtain ⟨x7, rfl, w7⟩ := open_intC Tryz.underlying3 t11
    obtain ⟨n12, y12, t12⟩ := trod_sub Tryz.underlying82 t1 (i := 5) rfl (ty := 32) rfl (cs' := [c8, c9, c10, c11]) (by kernel_rfl)
    obtain ⟨n13, y13, t13⟩ := trod_sub Tryz.underlying32 t12 (i := 0) rfl (ty := 3) rfl (cs' := [c8]) (by kernel_rfl)
    obtain ⟨x8, rfl, w8⟩ := open_intC Tryz.underlying3 t13
    obtain ⟨n14, y14, t14⟩ := trod_sub Tryz.underlying32 t12 (i := 1) rfl (ty := 3) rfl (cs' := [c9]) (by kernel_rfl)
    obtain ⟨x9, rfl, w9⟩ := open_intC Tryz.underlying3 t14
    obtain ⟨n15, y15, t15⟩ := trod_sub Tryz.underlying32 t12 (i := 2) rfl (ty := 3) rfl (cs' := [c10]) (by kernel_rfl)
    obtain ⟨x10, rfl, w10⟩ := open_intC Tryz.underlying3 t15
    obtain ⟨n16, y16, t16⟩ := trod_sub Tryz.underlying32 t12 (i := 3) rfl (ty := 3) rfl (cs' := [c11]) (by kernel_rfl)
    obtain ⟨x11, rfl, w11⟩ := open_intC Tryz.underlying3 t16
    obtain ⟨n17, y17, t17⟩ := trod_sub Tryz.underlying85 hf (i := 1) rfl (ty := 3) rfl (cs' := [c12]) (by kernel_rfl)
    obtain ⟨x12, rfl, w12⟩ := open_intC Tryz.underlying3 t17
    obtain ⟨n18, y18, t18⟩ := trod_sub Tryz.underlying85 hf (i := 2) rfl (ty := 3) rfl (cs' := [c13]) (by kernel_rfl)
    obtain ⟨x13, rfl, w13⟩ := open_intC Tryz.underlying3 t18
    obtain ⟨n19, y19, t19⟩ := trod_sub Tryz.underlying85 hf (i := 3) rfl (ty := 50) rfl (cs' := [c14]) (by kernel_rfl)
    obtain ⟨A14, g14, o14, m14, k14, x14, rfl, hr14, hl14, hc14, hm14, w14⟩ := open_numsC Tryz.underlying50 Tryz.underlying52 (by kernel_rfl) t19
    obtain ⟨n20, y20, t20⟩ := trod_sub Tryz.underlying85 hf (i := 4) rfl (ty := 23) rfl (cs' := [c15]) (by kernel_rfl)
    obtain ⟨A15, g15, o15, m15, k15, x15, rfl, hr15, hl15, hc15, hm15, w15⟩ := open_rectsC Tryz.underlying23 Tryz.underlying32 rfl rfl rfl rfl rfl rfl rfl rfl Tryz.underlying3 (by kernel_rfl) (by kernel_rfl) t20
    exact ⟨⟨x0, x1, x2, A3, g3, o3, m3, k3, x3, x4, x5, x6, x7, x8, x9, x10, x11, x12, x13, A14, g14, o14, m14, k14, x14, A15, g15, o15, m15, k15, x15⟩, rfl, ⟨wf64 w1, wf64 w2, hr3, hl3, hc3, hm3, fun x hx => wf32 (w3 x hx), wf64 w4, wf64 w5, wf64 w6, wf64 w7, wf64 w8, wf64 w9, wf64 w10, wf64 w11, wf64 w12, wf64 w13, hr14, hl14, hc14, hm14, fun x hx => wf32 (w14 x hx), hr15, hl15, hc15, hm15, w15⟩⟩
end
structure V17P (d : V17) : Prop where
  x_ : -9223372036854775808 ≤ d.x4 ∧ d.x4 ≤ 9223372036854775807
  y_ : -9223372036854775808 ≤ d.x5 ∧ d.x5 ≤ 9223372036854775807
  s_ : -9223372036854775808 ≤ d.x6 ∧ d.x6 ≤ 9223372036854775807
  a_ : -9223372036854775808 ≤ d.x7 ∧ d.x7 ≤ 9223372036854775807
  clip : R64 ⟨d.x8, d.x9, d.x10, d.x11⟩
  w_ : -9223372036854775808 ≤ d.x12 ∧ d.x12 ≤ 9223372036854775807
  h_ : -9223372036854775808 ≤ d.x13 ∧ d.x13 ≤ 9223372036854775807
  l_ : d.x14.length = d.m14
  c_ : d.m14 ≤ d.k14
  m_ : d.k14 ≤ maxLen
  b_ : ∀ x ∈ d.x14, 0 ≤ x ∧ x < 4294967296
  r_ : ∀ r ∈ d.x15, R64 r
theorem V17.Good.pure {w : World} {d : V17} (h : V17.Good w d) : V17P d := ⟨h.w4, h.w5, h.w6, h.w7, ⟨h.w8, h.w9, h.w10, h.w11⟩, h.w12, h.w13, h.l14, h.c14, h.m14, h.b14, h.b15⟩
abbrev sB3 (n : Nat) (xs : List V17) : Ent := .gen (subE n (fun i_ => rdE ((dget xs i_).A3) (dget xs i_).g3 (dget xs i_).o3 (dget xs i_).m3 1 (ivals .u32 (dget xs i_).x3)))
abbrev sB14 (n : Nat) (xs : List V17) : Ent := .gen (subE n (fun i_ => rdE ((dget xs i_).A14) (dget xs i_).g14 (dget xs i_).o14 (dget xs i_).m14 1 (ivals .u32 (dget xs i_).x14)))
abbrev sB15 (n : Nat) (xs : List V17) : Ent := .gen (subE n (fun i_ => rdE ((dget xs i_).A15) (dget xs i_).g15 (dget xs i_).o15 (dget xs i_).m15 4 (rvals (dget xs i_).x15)))
theorem refGood17 (A : Option Addr) (g o n cap : Nat) (xs : List V17) (w : World) (hT0 : Tab w w [rD (A) g o n 16 (dvals V17.cells xs), sB3 n xs, sB14 n xs, sB15 n xs]) (hgp : ∀ d ∈ xs, V17P d) :
    Calls Tryz.prog 8 #[.slice A n cap] w fun e w' => ∃ (A_ : Option Addr) (g_ k_ cp_ : Nat) (ts : List TS), e = .returned (.slice A_ k_ cp_) ∧ (k_ ≤ 5 ∧ ∀ t ∈ ts, TS.Ok t) ∧ Tab w w' [.gen (bunO k_ (TS.pxs ts)), .gen (bunO k_ (TS.ops ts)), .gen (rowE (A_) g_ k_ cp_ 87 14 (dvals TS.cells ts) true)] := by
  obtain ⟨hra, hrl⟩ := Rd.factsD V17.size (by decide) (hT0.ok 0 _ rfl)
  refine enter 123 [(0, .slice A n cap)] [rD (A) g o n 16 (dvals V17.cells xs), sB3 n xs, sB14 n xs, sB15 n xs] Tryz.func8 rfl Tryz.ntmps8 rfl (by kernel_rfl) hT0 ?_
  refine cSq <| cRg 1 rfl <| bD [0] 1 0 [] [2] ?_
  refine cDn <| tNo <| cSq <| cRg 1 rfl <| bD [0] 1 0 [(3, .slice none 0 0)] [] ?_
  refine cDn <| tNo <| cSq <| cSq <| cRg 1 rfl <| bD [0] 1 0 [(4, iQ 0)] [] ?_
  refine cDn <| tNo <| cont_block <| cont_nilrow 87 14 ?_
  refine cN [.gen (rowE (none) 0 0 0 87 14 (dvals TS.cells []) true), rD (A) g o n 16 (dvals V17.cells xs), sB3 n xs, sB14 n xs, sB15 n xs] ?_
  refine cont_rowEqD (cel := TS.cells) (z := 14) 0 ([]) (([] : List TS)) rfl rfl ?_
  refine cont_nilbun (TS.ops ([] : List TS)) ?_
  refine cN [.gen (bunO 0 (TS.ops ([] : List TS))), .gen (rowE (none) 0 0 0 87 14 (dvals TS.cells ([] : List TS)) true), rD (A) g o n 16 (dvals V17.cells xs), sB3 n xs, sB14 n xs, sB15 n xs] ?_
  refine cont_nilbun (TS.pxs ([] : List TS)) ?_
  refine cN [.gen (bunO 0 (TS.pxs ([] : List TS))), .gen (bunO 0 (TS.ops ([] : List TS))), .gen (rowE (none) 0 0 0 87 14 (dvals TS.cells ([] : List TS)) true), rD (A) g o n 16 (dvals V17.cells xs), sB3 n xs, sB14 n xs, sB15 n xs] ?_
  refine cont_loop (α := Nat × List TS × Option Addr × Nat × Nat) (fun x_ : Nat × List TS × Option Addr × Nat × Nat => x_.1 ≤ n ∧ x_.1 ≤ 5 ∧ x_.2.1.length = x_.1 ∧ ∀ u_ ∈ x_.2.1, TS.Ok u_) (fun x_ : Nat × List TS × Option Addr × Nat × Nat => [(0, .slice A n cap), (3, .slice x_.2.2.1 x_.1 x_.2.2.2.2), (4, iQ (x_.1 : Int))]) (fun x_ : Nat × List TS × Option Addr × Nat × Nat => [.gen (bunO x_.1 (TS.pxs x_.2.1)), .gen (bunO x_.1 (TS.ops x_.2.1)), .gen (rowE (x_.2.2.1) x_.2.2.2.1 x_.1 x_.2.2.2.2 87 14 (dvals TS.cells x_.2.1) true), rD (A) g o n 16 (dvals V17.cells xs), sB3 n xs, sB14 n xs, sB15 n xs]) (fun x_ : Nat × List TS × Option Addr × Nat × Nat => n - x_.1) (0, ([] : List TS), none, 0, 0) (show (0) ≤ n ∧ (0) ≤ 5 ∧ (([] : List TS)).length = (0) ∧ ∀ u_ ∈ (([] : List TS)), TS.Ok u_ from ⟨by omega, by omega, rfl, fun t ht => absurd ht (by simp)⟩) (by kernel_rfl) (by kernel_rfl) ?_
  rintro ⟨i, ts, Ao, gw, co⟩ hinv2_
  replace hinv2_ : i ≤ n ∧ i ≤ 5 ∧ ts.length = i ∧ ∀ u_ ∈ ts, TS.Ok u_ := hinv2_
  refine cN [.gen (bunO i (TS.pxs ts)), .gen (bunO i (TS.ops ts)), .gen (rowE (Ao) gw i co 87 14 (dvals TS.cells ts) true), rD (A) g o n 16 (dvals V17.cells xs), sB3 n xs, sB14 n xs, sB15 n xs] ?_
  obtain ⟨hi, hi5, hlen, hts⟩ := hinv2_
  refine cSq <| cSq <| cRg 8 rfl <| bD [0, 0, 0, 0, 0] 5 3 [(14, .bool (decide ((i : Int) < (n : Int))))] [10, 11, 12, 13] ?_
  refine cSp 14 (decide ((i : Int) < (n : Int))) rfl (fun c3_ => ?_) (fun c3_ => ?_)
  ·
    replace c3_ := of_decide_eq_true c3_
    refine bD [0, 0, 0] 8 0 [(15, iQ (i : Int)), (16, .bool (decide ((i : Int) < 5))), (17, .bool (decide ((i : Int) < 5)))] [] ?_
    refine cDn <| tNo ?_
    refine cSp 17 (decide ((i : Int) < 5)) rfl (fun c4_ => ?_) (fun c4_ => ?_)
    ·
      refine cRc 16 (.bool (decide ((i : Int) < 5))) (.bool true) rfl (congrArg Value.bool c4_) ?_
      replace c4_ := of_decide_eq_true c4_
      refine cTr rfl <| cont_skip <| tNo <| cSq <| cont_block <| cSq <| cont_sub 4 i n (fun i_ => rdE ((dget xs i_).A3) (dget xs i_).g3 (dget xs i_).o3 (dget xs i_).m3 1 (cV (dget xs i_).x3)) rfl (by omega) rfl rfl ?_
      refine cN [rD ((dget xs i).A3) ((dget xs i).g3) ((dget xs i).o3) ((dget xs i).m3) 1 (cV ((dget xs i).x3)), .gen (bunO i (TS.pxs ts)), .gen (bunO i (TS.ops ts)), .gen (rowE (Ao) gw i co 87 14 (dvals TS.cells ts) true), rD (A) g o n 16 (dvals V17.cells xs), sB3 n xs, sB14 n xs, sB15 n xs] ?_
      refine cont_sub 6 i n (fun i_ => rdE ((dget xs i_).A14) (dget xs i_).g14 (dget xs i_).o14 (dget xs i_).m14 1 (cV (dget xs i_).x14)) rfl (by omega) rfl rfl ?_
      refine cN [rD ((dget xs i).A14) ((dget xs i).g14) ((dget xs i).o14) ((dget xs i).m14) 1 (cV ((dget xs i).x14)), rD ((dget xs i).A3) ((dget xs i).g3) ((dget xs i).o3) ((dget xs i).m3) 1 (cV ((dget xs i).x3)), .gen (bunO i (TS.pxs ts)), .gen (bunO i (TS.ops ts)), .gen (rowE (Ao) gw i co 87 14 (dvals TS.cells ts) true), rD (A) g o n 16 (dvals V17.cells xs), sB3 n xs, sB14 n xs, sB15 n xs] ?_
      refine cont_sub 8 i n (fun i_ => rdE ((dget xs i_).A15) (dget xs i_).g15 (dget xs i_).o15 (dget xs i_).m15 4 (rvals (dget xs i_).x15)) rfl (by omega) rfl rfl ?_
      refine cN [rD ((dget xs i).A15) ((dget xs i).g15) ((dget xs i).o15) ((dget xs i).m15) 4 (rvals ((dget xs i).x15)), rD ((dget xs i).A14) ((dget xs i).g14) ((dget xs i).o14) ((dget xs i).m14) 1 (cV ((dget xs i).x14)), rD ((dget xs i).A3) ((dget xs i).g3) ((dget xs i).o3) ((dget xs i).m3) 1 (cV ((dget xs i).x3)), .gen (bunO i (TS.pxs ts)), .gen (bunO i (TS.ops ts)), .gen (rowE (Ao) gw i co 87 14 (dvals TS.cells ts) true), rD (A) g o n 16 (dvals V17.cells xs), sB3 n xs, sB14 n xs, sB15 n xs] ?_
      generalize hv : dget xs i = v
      have hvg := hgp _ (dget_mem (l := xs) (i := i) (by omega))
      rw [hv] at hvg
      refine cont_fact (F := (0 < v.m14 → (v.A14 : Option Addr) = some ⟨v.g14, v.o14, none⟩) ∧ v.x14.length = v.m14) (fun w hT => Rd.facts (hT.ok 1 _ rfl)) (fun hl5_ => ?_)
      obtain ⟨hl5_a, hl5_l⟩ := hl5_
      obtain ⟨hvx0, hvx1⟩ := hvg.x_
      obtain ⟨hvy0, hvy1⟩ := hvg.y_
      obtain ⟨hvs0, hvs1⟩ := hvg.s_
      obtain ⟨hva0, hva1⟩ := hvg.a_
      obtain ⟨hvw0, hvw1⟩ := hvg.w_
      obtain ⟨hvh0, hvh1⟩ := hvg.h_
      refine cont_fact (F := (0 < v.m15 → (v.A15 : Option Addr) = some ⟨v.g15, v.o15, none⟩) ∧ v.x15.length = v.m15) (fun w hT => Rd.factsR (hT.ok 0 _ rfl)) (fun hl6_ => ?_)
      obtain ⟨hl6_a, hl6_l⟩ := hl6_
      have hr15 := hvg.r_
      refine drawn_enter 23 [] rfl (by kernel_rfl) ?_
      refine tD 0 [] [(0, 0), (1, 0), (5, 0), (6, 0), (10, 0), (11, 0), (15, 0), (16, 0)] 15 [16, 15, 11, 10, 6, 5, 1, 0] [(20, .slice A n cap), (21, iQ (i : Int)), (25, .slice A n cap), (26, iQ (i : Int)), (30, .slice A n cap), (31, iQ (i : Int)), (35, .slice A n cap), (36, iQ (i : Int))] [] ?_
      refine cRc 20 (.slice A n cap) (.slice (some ⟨g, o, none⟩) n cap) rfl (by rw [hra (by omega)]) ?_
      refine sT 0 [] 2 14 22 (Instr.indexAt 22 (.slice (some ⟨g, o, none⟩) n cap) (iQ (i : Int))) (.pointer (some ⟨g, o + i * 16, none⟩)) (fun w hT => run_indexAt (e := 85) (sz := 16) _ (by kernel_rfl) (by kernel_rfl) (by omega) (by omega) (by omega) w) ?_
      refine tD 0 [] [(3, 0)] 13 [3, 2, 16, 15, 11, 10, 6, 5, 1, 0] [(23, .pointer (some ⟨g, o + i * 16, none⟩))] [] ?_
      refine cont_fact (F := (0 < v.m3 → (v.A3 : Option Addr) = some ⟨v.g3, v.o3, none⟩) ∧ v.x3.length = v.m3) (fun w hT => Rd.facts (hT.ok 2 _ rfl)) (fun hl7_ => ?_)
      obtain ⟨hl7_a, hl7_l⟩ := hl7_
      refine sT 0 [] 4 12 24 (Instr.loadAt 82 (.pointer (some ⟨g, o + i * 16, none⟩))) (.agg #[.bool v.x0, iQ v.x1, iQ v.x2, .slice v.A3 v.m3 v.k3, iQ v.x4, iQ v.x5, iQ v.x6, iQ v.x7, iQ v.x8, iQ v.x9, iQ v.x10, iQ v.x11]) (fun w hT => run_loadN (m := 12) (cs := [.bool v.x0, iQ v.x1, iQ v.x2, .slice v.A3 v.m3 v.k3, iQ v.x4, iQ v.x5, iQ v.x6, iQ v.x7, iQ v.x8, iQ v.x9, iQ v.x10, iQ v.x11]) (by kernel_rfl) (by kernel_rfl) rfl (by have h_ := Rd.dsub V17.size (hT 6 _ rfl) (i := i) (by omega) 0 12 rfl; rw [hv] at h_; exact h_)) ?_
      refine cRc 25 (.slice A n cap) (.slice (some ⟨g, o, none⟩) n cap) rfl (by rw [hra (by omega)]) ?_
      refine sT 0 [] 7 11 27 (Instr.indexAt 22 (.slice (some ⟨g, o, none⟩) n cap) (iQ (i : Int))) (.pointer (some ⟨g, o + i * 16, none⟩)) (fun w hT => run_indexAt (e := 85) (sz := 16) _ (by kernel_rfl) (by kernel_rfl) (by omega) (by omega) (by omega) w) ?_
      refine tD 0 [] [(8, 0)] 10 [8, 7, 4, 3, 2, 16, 15, 11, 10, 6, 5, 1, 0] [(28, .pointer (some ⟨g, o + i * 16 + 12, none⟩))] [] ?_
      refine sT 0 [] 9 9 29 (Instr.loadAt 3 (.pointer (some ⟨g, o + i * 16 + 12, none⟩))) (iQ v.x12) (fun w hT => run_load1 (by kernel_rfl) (Rd.dcell1 V17.size (hT 6 _ rfl) (i := i) (by omega) 12 (by rw [hv]; rfl))) ?_
      refine cRc 30 (.slice A n cap) (.slice (some ⟨g, o, none⟩) n cap) rfl (by rw [hra (by omega)]) ?_
      refine sT 0 [] 12 8 32 (Instr.indexAt 22 (.slice (some ⟨g, o, none⟩) n cap) (iQ (i : Int))) (.pointer (some ⟨g, o + i * 16, none⟩)) (fun w hT => run_indexAt (e := 85) (sz := 16) _ (by kernel_rfl) (by kernel_rfl) (by omega) (by omega) (by omega) w) ?_
      refine tD 0 [] [(13, 0)] 7 [13, 12, 9, 8, 7, 4, 3, 2, 16, 15, 11, 10, 6, 5, 1, 0] [(33, .pointer (some ⟨g, o + i * 16 + 13, none⟩))] [] ?_
      refine sT 0 [] 14 6 34 (Instr.loadAt 3 (.pointer (some ⟨g, o + i * 16 + 13, none⟩))) (iQ v.x13) (fun w hT => run_load1 (by kernel_rfl) (Rd.dcell1 V17.size (hT 6 _ rfl) (i := i) (by omega) 13 (by rw [hv]; rfl))) ?_
      refine cRc 35 (.slice A n cap) (.slice (some ⟨g, o, none⟩) n cap) rfl (by rw [hra (by omega)]) ?_
      refine sT 0 [] 17 5 37 (Instr.indexAt 22 (.slice (some ⟨g, o, none⟩) n cap) (iQ (i : Int))) (.pointer (some ⟨g, o + i * 16, none⟩)) (fun w hT => run_indexAt (e := 85) (sz := 16) _ (by kernel_rfl) (by kernel_rfl) (by omega) (by omega) (by omega) w) ?_
      refine tD 0 [] [(18, 0)] 4 [18, 17, 14, 13, 12, 9, 8, 7, 4, 3, 2, 16, 15, 11, 10, 6, 5, 1, 0] [(38, .pointer (some ⟨g, o + i * 16 + 14, none⟩))] [] ?_
      refine cont_fact (F := (0 < v.m14 → (v.A14 : Option Addr) = some ⟨v.g14, v.o14, none⟩) ∧ v.x14.length = v.m14) (fun w hT => Rd.facts (hT.ok 1 _ rfl)) (fun hl8_ => ?_)
      obtain ⟨hl8_a, hl8_l⟩ := hl8_
      refine sT 0 [] 19 3 39 (Instr.loadAt 50 (.pointer (some ⟨g, o + i * 16 + 14, none⟩))) (.slice v.A14 v.m14 v.k14) (fun w hT => run_load1 (by kernel_rfl) (Rd.dcell1 V17.size (hT 6 _ rfl) (i := i) (by omega) 14 (by rw [hv]; rfl))) ?_
      refine drawn_two 20 21 2 rfl (by kernel_rfl) ?_ ?_
      ·
        refine call_gen (d := 40) (α := Nat × Nat) (fun x_ => .agg #[.bool true, iQ (1 + aroundI (aroundI v.x12 6) 16), iQ (1 + aroundI (aroundI v.x13 6) 16), sL x_.1 x_.2 x_.2, iQ (aroundI v.x4 24 - 6), iQ (aroundI v.x5 24 - 6), iQ (1 + aroundI v.x6 3), iQ (aroundI v.x7 256), iQ v.x8, iQ v.x9, iQ v.x10, iQ v.x11]) (fun x_ => [.gen (rowE (some ⟨x_.1, 0, none⟩) x_.1 x_.2 x_.2 52 1 (cV (goodP x_.2 v.x14 x_.2)) true), rD (v.A15) v.g15 v.o15 v.m15 4 (rvals v.x15), rD (v.A14) v.g14 v.o14 v.m14 1 (cV v.x14), rD (v.A3) v.g3 v.o3 v.m3 1 (cV v.x3), .gen (bunO i (TS.pxs ts)), .gen (bunO i (TS.ops ts)), .gen (rowE (Ao) gw i co 87 14 (dvals TS.cells ts) true), rD (A) g o n 16 (dvals V17.cells xs), sB3 n xs, sB14 n xs, sB15 n xs]) (fun x_ => (x_.2 : Int) = (1 + aroundI (aroundI v.x12 6) 16) * (1 + aroundI (aroundI v.x13 6) 16)) (by kernel_rfl) (fun w hT => (refGood5 v.A14 v.g14 v.o14 v.m14 v.k14 v.x14 v.x0 v.x1 v.x2 (.slice v.A3 v.m3 v.k3) v.x4 v.x5 v.x6 v.x7 v.x8 v.x9 v.x10 v.x11 v.x12 v.x13 w (hT.viewRo (.cons (i := 1) rfl Vw.rd .nil) rfl) ⟨hvg.w_, hvg.h_, hvg.l_, hvg.c_, hvg.m_, hvg.b_, hl5_a⟩ (by omega) (by omega) (by omega) (by omega)).mono fun e w' ⟨r9, n10, he_, hf_, ht_⟩ => ⟨(r9, n10), he_, hf_, hT.news ht_ rfl⟩) ?_
        rintro ⟨r9, n10⟩ hf11_
        replace hf11_ : (n10 : Int) = (1 + aroundI (aroundI v.x12 6) 16) * (1 + aroundI (aroundI v.x13 6) 16) := hf11_
        refine cN [oE r9 n10 n10 52 1 (cV (goodP n10 v.x14 n10)), rD (v.A15) v.g15 v.o15 v.m15 4 (rvals v.x15), rD (v.A14) v.g14 v.o14 v.m14 1 (cV v.x14), rD (v.A3) v.g3 v.o3 v.m3 1 (cV v.x3), .gen (bunO i (TS.pxs ts)), .gen (bunO i (TS.ops ts)), .gen (rowE (Ao) gw i co 87 14 (dvals TS.cells ts) true), rD (A) g o n 16 (dvals V17.cells xs), sB3 n xs, sB14 n xs, sB15 n xs] ?_
        have hq12_ := aroundI_range v.x4 (m := 24) (by omega)
        have hq13_ := aroundI_range v.x5 (m := 24) (by omega)
        have hq14_ := aroundI_range v.x6 (m := 3) (by omega)
        have hq15_ := aroundI_range v.x7 (m := 256) (by omega)
        have hq16_ := aroundI_range v.x12 (m := 6) (by omega)
        have hq17_ := aroundI_range v.x13 (m := 6) (by omega)
        have hq18_ := aroundI_range (aroundI v.x12 6) (m := 16) (by omega)
        have hq19_ := aroundI_range (aroundI v.x13 6) (m := 16) (by omega)
        have hM20_m : AllMay (goodP n10 v.x14 n10) := goodP_may _ hvg.b_
        have hM20_ : ImgOk (1 + aroundI (aroundI v.x12 6) 16) (1 + aroundI (aroundI v.x13 6) 16) n10 (goodP n10 v.x14 n10) := imgOk_of (by omega) hf11_ (by simp [goodP_length]) hM20_m
        have hM20_w1 := hM20_.w1
        have hM20_h1 := hM20_.h1
        have hM20_le := hM20_.le
        have hM20_num := hM20_.num
        have hM20_len := hM20_.len
        refine dNx 1 [] (by kernel_rfl) ?_
        refine dOn 21 1 rfl (by kernel_rfl) ?_
        refine one_step1 0 (fun b21 => [(0, .slice A n cap), (3, .slice Ao i co), (4, iQ (i : Int)), (5, pT b21), (15, iQ (i : Int)), (16, .bool true), (40, .agg #[.bool true, iQ (1 + aroundI (aroundI v.x12 6) 16), iQ (1 + aroundI (aroundI v.x13 6) 16), sL r9 n10 n10, iQ (aroundI v.x4 24 - 6), iQ (aroundI v.x5 24 - 6), iQ (1 + aroundI v.x6 3), iQ (aroundI v.x7 256), iQ v.x8, iQ v.x9, iQ v.x10, iQ v.x11])]) (fun b21 => [.cells b21 [.bool false, iQ 0, iQ 0, .slice none 0 0, iQ 0, iQ 0, iQ 0, iQ 0, iQ 0, iQ 0, iQ 0, iQ 0] 82 true, oE r9 n10 n10 52 1 (cV (goodP n10 v.x14 n10)), rD (v.A15) v.g15 v.o15 v.m15 4 (rvals v.x15), rD (v.A14) v.g14 v.o14 v.m14 1 (cV v.x14), rD (v.A3) v.g3 v.o3 v.m3 1 (cV v.x3), .gen (bunO i (TS.pxs ts)), .gen (bunO i (TS.ops ts)), .gen (rowE (Ao) gw i co 87 14 (dvals TS.cells ts) true), rD (A) g o n 16 (dvals V17.cells xs), sB3 n xs, sB14 n xs, sB15 n xs]) (fun b21 => by kernel_rfl) (fun b21 => by kernel_rfl) (fun b21 => ?_)
        refine dNx 2 [] (by kernel_rfl) ?_
        refine dOn 22 0 rfl (by kernel_rfl) ?_
        refine oS 0 [(0, .slice A n cap), (3, .slice Ao i co), (4, iQ (i : Int)), (5, pT b21), (15, iQ (i : Int)), (16, .bool true)] [.cells b21 [.bool true, iQ (1 + aroundI (aroundI v.x12 6) 16), iQ (1 + aroundI (aroundI v.x13 6) 16), sL r9 n10 n10, iQ (aroundI v.x4 24 - 6), iQ (aroundI v.x5 24 - 6), iQ (1 + aroundI v.x6 3), iQ (aroundI v.x7 256), iQ v.x8, iQ v.x9, iQ v.x10, iQ v.x11] 82 true, oE r9 n10 n10 52 1 (cV (goodP n10 v.x14 n10)), rD (v.A15) v.g15 v.o15 v.m15 4 (rvals v.x15), rD (v.A14) v.g14 v.o14 v.m14 1 (cV v.x14), rD (v.A3) v.g3 v.o3 v.m3 1 (cV v.x3), .gen (bunO i (TS.pxs ts)), .gen (bunO i (TS.ops ts)), .gen (rowE (Ao) gw i co 87 14 (dvals TS.cells ts) true), rD (A) g o n 16 (dvals V17.cells xs), sB3 n xs, sB14 n xs, sB15 n xs] ?_
        refine dNx 2 [] (by kernel_rfl) ?_
        refine drawn_done (by kernel_rfl) ?_
        refine tNo <| cSq <| cRg 13 rfl ?_
        refine batch1 [0, 0, 0, 0, 0, 0, 0, 0, 0, 0, 0, 0, 0] 13 0 (fun b22 => [(0, .slice A n cap), (3, .slice Ao i co), (4, iQ (i : Int)), (5, pT b21), (6, pT b22), (15, iQ (i : Int)), (16, .bool true)]) (fun b22 => [.cells b22 [.bool true, iQ (1 + aroundI (aroundI v.x12 6) 16), iQ (1 + aroundI (aroundI v.x13 6) 16), sL r9 n10 n10, iQ (aroundI v.x4 24 - 6), iQ (aroundI v.x5 24 - 6), iQ (1 + aroundI v.x6 3), iQ (aroundI v.x7 256), iQ v.x8, iQ v.x9, iQ v.x10, iQ v.x11, .slice none 0 0, .string ⟨#[]⟩] 87 true, .cells b21 [.bool true, iQ (1 + aroundI (aroundI v.x12 6) 16), iQ (1 + aroundI (aroundI v.x13 6) 16), sL r9 n10 n10, iQ (aroundI v.x4 24 - 6), iQ (aroundI v.x5 24 - 6), iQ (1 + aroundI v.x6 3), iQ (aroundI v.x7 256), iQ v.x8, iQ v.x9, iQ v.x10, iQ v.x11] 82 true, oE r9 n10 n10 52 1 (cV (goodP n10 v.x14 n10)), rD (v.A15) v.g15 v.o15 v.m15 4 (rvals v.x15), rD (v.A14) v.g14 v.o14 v.m14 1 (cV v.x14), rD (v.A3) v.g3 v.o3 v.m3 1 (cV v.x3), .gen (bunO i (TS.pxs ts)), .gen (bunO i (TS.ops ts)), .gen (rowE (Ao) gw i co 87 14 (dvals TS.cells ts) true), rD (A) g o n 16 (dvals V17.cells xs), sB3 n xs, sB14 n xs, sB15 n xs]) rfl rfl [0, 3, 4, 5, 6, 15, 16] (fun _ => rfl) (fun b22 => by kernel_rfl) (fun b22 => by kernel_rfl) (fun b22 => ?_)
        refine cDn <| tNo <| cSq <| cRg 1 rfl <| bD [0] 1 0 [(7, .slice none 0 0)] [] ?_
        refine cDn <| tNo <| cSq <| cSq <| cRg 1 rfl <| bD [0] 1 0 [(8, iQ 0)] [] ?_
        refine cDn <| tNo <| cont_block <| cont_nilrow 32 4 ?_
        refine cont_norm [(0, .slice A n cap), (3, .slice Ao i co), (4, iQ (i : Int)), (5, pT b21), (6, pT b22), (7, .slice none 0 0), (8, iQ 0), (15, iQ (i : Int)), (16, .bool true)] [.gen (rowE (none) 0 0 0 32 4 (rvals []) true), .cells b22 [.bool true, iQ (1 + aroundI (aroundI v.x12 6) 16), iQ (1 + aroundI (aroundI v.x13 6) 16), sL r9 n10 n10, iQ (aroundI v.x4 24 - 6), iQ (aroundI v.x5 24 - 6), iQ (1 + aroundI v.x6 3), iQ (aroundI v.x7 256), iQ v.x8, iQ v.x9, iQ v.x10, iQ v.x11, .slice none 0 0, .string ⟨#[]⟩] 87 true, .cells b21 [.bool true, iQ (1 + aroundI (aroundI v.x12 6) 16), iQ (1 + aroundI (aroundI v.x13 6) 16), sL r9 n10 n10, iQ (aroundI v.x4 24 - 6), iQ (aroundI v.x5 24 - 6), iQ (1 + aroundI v.x6 3), iQ (aroundI v.x7 256), iQ v.x8, iQ v.x9, iQ v.x10, iQ v.x11] 82 true, oE r9 n10 n10 52 1 (cV (goodP n10 v.x14 n10)), rD (v.A15) v.g15 v.o15 v.m15 4 (rvals v.x15), rD (v.A14) v.g14 v.o14 v.m14 1 (cV v.x14), rD (v.A3) v.g3 v.o3 v.m3 1 (cV v.x3), .gen (bunO i (TS.pxs ts)), .gen (bunO i (TS.ops ts)), .gen (rowE (Ao) gw i co 87 14 (dvals TS.cells ts) true), rD (A) g o n 16 (dvals V17.cells xs), sB3 n xs, sB14 n xs, sB15 n xs] (by kernel_rfl) rfl ?_
        refine cont_loop (α := Nat × List Rect × Option Addr × Nat × Nat × Nat) (fun x_ : Nat × List Rect × Option Addr × Nat × Nat × Nat => x_.1 ≤ n10 ∧ x_.2.2.2.2.1 ≤ x_.1 ∧ ∀ r ∈ x_.2.1, SolR (1 + aroundI (aroundI v.x12 6) 16) (goodP n10 v.x14 n10) r) (fun x_ : Nat × List Rect × Option Addr × Nat × Nat × Nat => [(0, .slice A n cap), (3, .slice Ao i co), (4, iQ (i : Int)), (5, pT b21), (6, pT b22), (7, .slice x_.2.2.1 x_.2.2.2.2.1 x_.2.2.2.2.2), (8, iQ ((x_.1 : Nat) : Int)), (15, iQ (i : Int)), (16, .bool true)]) (fun x_ : Nat × List Rect × Option Addr × Nat × Nat × Nat => [.gen (rowE (x_.2.2.1) x_.2.2.2.1 x_.2.2.2.2.1 x_.2.2.2.2.2 32 4 (rvals x_.2.1) true), .cells b22 [.bool true, iQ (1 + aroundI (aroundI v.x12 6) 16), iQ (1 + aroundI (aroundI v.x13 6) 16), sL r9 n10 n10, iQ (aroundI v.x4 24 - 6), iQ (aroundI v.x5 24 - 6), iQ (1 + aroundI v.x6 3), iQ (aroundI v.x7 256), iQ v.x8, iQ v.x9, iQ v.x10, iQ v.x11, .slice none 0 0, .string ⟨#[]⟩] 87 true, .cells b21 [.bool true, iQ (1 + aroundI (aroundI v.x12 6) 16), iQ (1 + aroundI (aroundI v.x13 6) 16), sL r9 n10 n10, iQ (aroundI v.x4 24 - 6), iQ (aroundI v.x5 24 - 6), iQ (1 + aroundI v.x6 3), iQ (aroundI v.x7 256), iQ v.x8, iQ v.x9, iQ v.x10, iQ v.x11] 82 true, oE r9 n10 n10 52 1 (cV (goodP n10 v.x14 n10)), rD (v.A15) v.g15 v.o15 v.m15 4 (rvals v.x15), rD (v.A14) v.g14 v.o14 v.m14 1 (cV v.x14), rD (v.A3) v.g3 v.o3 v.m3 1 (cV v.x3), .gen (bunO i (TS.pxs ts)), .gen (bunO i (TS.ops ts)), .gen (rowE (Ao) gw i co 87 14 (dvals TS.cells ts) true), rD (A) g o n 16 (dvals V17.cells xs), sB3 n xs, sB14 n xs, sB15 n xs]) (fun x_ : Nat × List Rect × Option Addr × Nat × Nat × Nat => n10 - x_.1) (0, ([] : List Rect), none, 0, 0, 0) (show (0) ≤ n10 ∧ (0) ≤ (0) ∧ ∀ r ∈ (([] : List Rect)), SolR (1 + aroundI (aroundI v.x12 6) 16) (goodP n10 v.x14 n10) r from ⟨by omega, by omega, fun r hr => absurd hr (by simp)⟩) (by kernel_rfl) (by kernel_rfl) ?_
        rintro ⟨k, ss, As, gs, ns, cs⟩ hinv24_
        replace hinv24_ : k ≤ n10 ∧ ns ≤ k ∧ ∀ r ∈ ss, SolR (1 + aroundI (aroundI v.x12 6) 16) (goodP n10 v.x14 n10) r := hinv24_
        refine cN [.gen (rowE (As) gs ns cs 32 4 (rvals ss) true), .cells b22 [.bool true, iQ (1 + aroundI (aroundI v.x12 6) 16), iQ (1 + aroundI (aroundI v.x13 6) 16), sL r9 n10 n10, iQ (aroundI v.x4 24 - 6), iQ (aroundI v.x5 24 - 6), iQ (1 + aroundI v.x6 3), iQ (aroundI v.x7 256), iQ v.x8, iQ v.x9, iQ v.x10, iQ v.x11, .slice none 0 0, .string ⟨#[]⟩] 87 true, .cells b21 [.bool true, iQ (1 + aroundI (aroundI v.x12 6) 16), iQ (1 + aroundI (aroundI v.x13 6) 16), sL r9 n10 n10, iQ (aroundI v.x4 24 - 6), iQ (aroundI v.x5 24 - 6), iQ (1 + aroundI v.x6 3), iQ (aroundI v.x7 256), iQ v.x8, iQ v.x9, iQ v.x10, iQ v.x11] 82 true, oE r9 n10 n10 52 1 (cV (goodP n10 v.x14 n10)), rD (v.A15) v.g15 v.o15 v.m15 4 (rvals v.x15), rD (v.A14) v.g14 v.o14 v.m14 1 (cV v.x14), rD (v.A3) v.g3 v.o3 v.m3 1 (cV v.x3), .gen (bunO i (TS.pxs ts)), .gen (bunO i (TS.ops ts)), .gen (rowE (Ao) gw i co 87 14 (dvals TS.cells ts) true), rD (A) g o n 16 (dvals V17.cells xs), sB3 n xs, sB14 n xs, sB15 n xs] ?_
        obtain ⟨hk, hns, hss⟩ := hinv24_
        have hem := emod_range k (W := (1 + aroundI (aroundI v.x12 6) 16)) (by omega)
        have hpr : k < n10 → 0 ≤ (goodP n10 v.x14 n10).getD k 0 ∧ (goodP n10 v.x14 n10).getD k 0 < 4294967296 := fun h_ => hM20_.rng _ (by rw [List.getD_eq_getElem?_getD, List.getElem?_eq_getElem (by omega)]; simp)
        refine cSq <| cSq <| cRg 6 rfl <| bD [0, 0, 0, 2, 0, 0] 6 0 [(57, .bool (decide (((k : Nat) : Int) < (n10 : Int))))] [52, 53, 54, 55, 56] ?_
        refine cDn <| tNo ?_
        refine cSp 57 (decide (((k : Nat) : Int) < (n10 : Int))) rfl (fun c25_ => ?_) (fun c25_ => ?_)
        ·
          replace c25_ := of_decide_eq_true c25_
          refine cTr rfl <| cont_skip <| tNo <| cSq <| cont_block <| cSq <| cRg 9 rfl ?_
          refine cont_fact (F := (0 < ns → (As : Option Addr) = some ⟨gs, 0, none⟩) ∧ ss.length = ns ∧ ns ≤ cs ∧ cs ≤ maxLen) (fun w hT => Row.factsR (hT.ok 0 _ rfl)) (fun hr26_ => ?_)
          obtain ⟨hr26_a, hr26_l, hr26_c, hr26_m⟩ := hr26_
          unfold maxLen at hr26_m
          have hrs := hr26_a
          obtain ⟨hpr0, hpr1⟩ := hpr (by omega)
          refine bD [0, 0, 2, 0] 4 5 [(62, sL r9 n10 n10), (63, iQ ((k : Nat) : Int))] [60, 61] ?_
          refine pSt 5 4 rfl rfl <| sem_step 64 (Instr.indexAt 50 (sL r9 n10 n10) (iQ ((k : Nat) : Int))) (.pointer (some ⟨r9, (k : Nat), none⟩)) (by kernel_rfl) (fun w hT => run_indexAt (e := 52) (sz := 1) _ (by kernel_rfl) (by kernel_rfl) (by omega) (by omega) (by omega) w) ?_
          refine pSt 6 3 rfl rfl <| sem_step 65 (Instr.loadAt 52 (.pointer (some ⟨r9, (k : Nat), none⟩))) (cQ ((goodP n10 v.x14 n10).getD (k : Nat) 0)) (by kernel_rfl) (fun w hT => run_load1 (by kernel_rfl) (Row.cell (hT.ok 3 _ rfl) ((k : Nat)) _ (ivals_get (by omega)))) ?_
          refine pSt 7 2 rfl rfl <| call_pure (d := 66) (.agg #[iQ (pa ((goodP n10 v.x14 n10).getD (k : Nat) 0)), iQ (pr ((goodP n10 v.x14 n10).getD (k : Nat) 0)), iQ (pg ((goodP n10 v.x14 n10).getD (k : Nat) 0)), iQ (pb ((goodP n10 v.x14 n10).getD (k : Nat) 0))]) (by kernel_rfl) (fun w hT => refParts ((goodP n10 v.x14 n10).getD (k : Nat) 0) w (by omega) (by omega)) ?_
          refine batch1 [0, 0] 9 0 (fun b27 => [(0, .slice A n cap), (3, .slice Ao i co), (4, iQ (i : Int)), (5, pT b21), (6, pT b22), (7, .slice As ns cs), (8, iQ ((k : Nat) : Int)), (9, pT b27), (15, iQ (i : Int)), (16, .bool true)]) (fun b27 => [.cells b27 [iQ (pa ((goodP n10 v.x14 n10).getD (k : Nat) 0)), iQ (pr ((goodP n10 v.x14 n10).getD (k : Nat) 0)), iQ (pg ((goodP n10 v.x14 n10).getD (k : Nat) 0)), iQ (pb ((goodP n10 v.x14 n10).getD (k : Nat) 0))] 53 true, .gen (rowE (As) gs ns cs 32 4 (rvals ss) true), .cells b22 [.bool true, iQ (1 + aroundI (aroundI v.x12 6) 16), iQ (1 + aroundI (aroundI v.x13 6) 16), sL r9 n10 n10, iQ (aroundI v.x4 24 - 6), iQ (aroundI v.x5 24 - 6), iQ (1 + aroundI v.x6 3), iQ (aroundI v.x7 256), iQ v.x8, iQ v.x9, iQ v.x10, iQ v.x11, .slice none 0 0, .string ⟨#[]⟩] 87 true, .cells b21 [.bool true, iQ (1 + aroundI (aroundI v.x12 6) 16), iQ (1 + aroundI (aroundI v.x13 6) 16), sL r9 n10 n10, iQ (aroundI v.x4 24 - 6), iQ (aroundI v.x5 24 - 6), iQ (1 + aroundI v.x6 3), iQ (aroundI v.x7 256), iQ v.x8, iQ v.x9, iQ v.x10, iQ v.x11] 82 true, oE r9 n10 n10 52 1 (cV (goodP n10 v.x14 n10)), rD (v.A15) v.g15 v.o15 v.m15 4 (rvals v.x15), rD (v.A14) v.g14 v.o14 v.m14 1 (cV v.x14), rD (v.A3) v.g3 v.o3 v.m3 1 (cV v.x3), .gen (bunO i (TS.pxs ts)), .gen (bunO i (TS.ops ts)), .gen (rowE (Ao) gw i co 87 14 (dvals TS.cells ts) true), rD (A) g o n 16 (dvals V17.cells xs), sB3 n xs, sB14 n xs, sB15 n xs]) rfl rfl [0, 3, 4, 5, 6, 7, 8, 9, 15, 16] (fun _ => rfl) (fun b27 => by kernel_rfl) (fun b27 => by kernel_rfl) (fun b27 => ?_)
          refine cDn <| tNo <| cSq <| drawn_enter 22 [] rfl (by kernel_rfl) ?_
          refine tD 0 [] [(0, 0), (1, 0), (2, 0), (3, 0)] 18 [3, 2, 1, 0] [(70, .bool ((pa ((goodP n10 v.x14 n10).getD (k : Nat) 0)) == 255))] [67, 68, 69] ?_
          refine cSp 70 ((pa ((goodP n10 v.x14 n10).getD (k : Nat) 0)) == 255) rfl (fun c28_ => ?_) (fun c28_ => ?_)
          ·
            replace c28_ := eq_of_beqt c28_
            have hpk := c28_
            refine tD 0 [] [(4, 0), (5, 0), (10, 0), (11, 0), (15, 0), (16, 0)] 12 [16, 15, 11, 10, 5, 4, 3, 2, 1, 0] [(71, .slice A n cap), (72, iQ (i : Int)), (77, iQ ((k : Nat) : Int)), (78, .pointer (some ⟨b21, 1, none⟩)), (82, iQ ((k : Nat) : Int)), (83, .pointer (some ⟨b21, 1, none⟩))] [] ?_
            refine cRc 71 (.slice A n cap) (.slice (some ⟨g, o, none⟩) n cap) rfl (by rw [hra (by omega)]) ?_
            refine sT 0 [] 6 11 73 (Instr.indexAt 22 (.slice (some ⟨g, o, none⟩) n cap) (iQ (i : Int))) (.pointer (some ⟨g, o + i * 16, none⟩)) (fun w hT => run_indexAt (e := 85) (sz := 16) _ (by kernel_rfl) (by kernel_rfl) (by omega) (by omega) (by omega) w) ?_
            refine tD 0 [] [(7, 0), (12, 0), (17, 0)] 8 [17, 12, 7, 6, 16, 15, 11, 10, 5, 4, 3, 2, 1, 0] [(74, .pointer (some ⟨g, o + i * 16 + 15, none⟩)), (79, .pointer (some ⟨b21, 1, none⟩)), (84, .pointer (some ⟨b21, 1, none⟩))] [] ?_
            refine cont_fact (F := (0 < v.m15 → (v.A15 : Option Addr) = some ⟨v.g15, v.o15, none⟩) ∧ v.x15.length = v.m15) (fun w hT => Rd.factsR (hT.ok 5 _ rfl)) (fun hl29_ => ?_)
            obtain ⟨hl29_a, hl29_l⟩ := hl29_
            refine sT 0 [] 8 7 75 (Instr.loadAt 23 (.pointer (some ⟨g, o + i * 16 + 15, none⟩))) (.slice v.A15 v.m15 v.k15) (fun w hT => run_load1 (by kernel_rfl) (Rd.dcell1 V17.size (hT 11 _ rfl) (i := i) (by omega) 15 (by rw [hv]; rfl))) ?_
            refine tD 0 [] [(13, 3), (18, 3)] 5 [18, 13, 8, 17, 12, 7, 6, 16, 15, 11, 10, 5, 4, 3, 2, 1, 0] [(80, iQ (1 + aroundI (aroundI v.x12 6) 16)), (85, iQ (1 + aroundI (aroundI v.x12 6) 16))] [] ?_
            refine sT 0 [] 14 4 81 (bopS .rem 3 (.tmp 77) (.tmp 80) (iQ ((k : Nat) : Int)) (iQ (1 + aroundI (aroundI v.x12 6) 16))) (iQ (((k : Nat) : Int).tmod (1 + aroundI (aroundI v.x12 6) 16))) (fun w hT => run_rem (by omega) w) ?_
            refine cRc 81 (iQ (((k : Nat) : Int).tmod (1 + aroundI (aroundI v.x12 6) 16))) (iQ (((k : Nat) : Int) % (1 + aroundI (aroundI v.x12 6) 16))) rfl (tmodI (by omega)) ?_
            refine sT 0 [] 19 3 86 (bopS .quo 3 (.tmp 82) (.tmp 85) (iQ ((k : Nat) : Int)) (iQ (1 + aroundI (aroundI v.x12 6) 16))) (iQ (IntKind.i64.wrap (((k : Nat) : Int).tdiv (1 + aroundI (aroundI v.x12 6) 16)))) (fun w hT => run_quo (by omega) w) ?_
            refine cRc 86 (iQ (IntKind.i64.wrap (((k : Nat) : Int).tdiv (1 + aroundI (aroundI v.x12 6) 16)))) (iQ (((k : Nat) : Int) / (1 + aroundI (aroundI v.x12 6) 16))) rfl (tdivI (by omega) (by omega) (by omega)) ?_
            refine dOn 9 2 rfl (by kernel_rfl) ?_
            refine call_gen (d := 76) (α := Option Addr × Nat × Nat × Nat) (fun x_ => .slice x_.1 x_.2.2.1 x_.2.2.2) (fun x_ => [.gen (rowE (x_.1) x_.2.1 x_.2.2.1 x_.2.2.2 32 4 (rvals (smallL v.x15 3)) true), .cells b27 [iQ (pa ((goodP n10 v.x14 n10).getD (k : Nat) 0)), iQ (pr ((goodP n10 v.x14 n10).getD (k : Nat) 0)), iQ (pg ((goodP n10 v.x14 n10).getD (k : Nat) 0)), iQ (pb ((goodP n10 v.x14 n10).getD (k : Nat) 0))] 53 true, .gen (rowE (As) gs ns cs 32 4 (rvals ss) true), .cells b22 [.bool true, iQ (1 + aroundI (aroundI v.x12 6) 16), iQ (1 + aroundI (aroundI v.x13 6) 16), sL r9 n10 n10, iQ (aroundI v.x4 24 - 6), iQ (aroundI v.x5 24 - 6), iQ (1 + aroundI v.x6 3), iQ (aroundI v.x7 256), iQ v.x8, iQ v.x9, iQ v.x10, iQ v.x11, .slice none 0 0, .string ⟨#[]⟩] 87 true, .cells b21 [.bool true, iQ (1 + aroundI (aroundI v.x12 6) 16), iQ (1 + aroundI (aroundI v.x13 6) 16), sL r9 n10 n10, iQ (aroundI v.x4 24 - 6), iQ (aroundI v.x5 24 - 6), iQ (1 + aroundI v.x6 3), iQ (aroundI v.x7 256), iQ v.x8, iQ v.x9, iQ v.x10, iQ v.x11] 82 true, oE r9 n10 n10 52 1 (cV (goodP n10 v.x14 n10)), rD (v.A15) v.g15 v.o15 v.m15 4 (rvals v.x15), rD (v.A14) v.g14 v.o14 v.m14 1 (cV v.x14), rD (v.A3) v.g3 v.o3 v.m3 1 (cV v.x3), .gen (bunO i (TS.pxs ts)), .gen (bunO i (TS.ops ts)), .gen (rowE (Ao) gw i co 87 14 (dvals TS.cells ts) true), rD (A) g o n 16 (dvals V17.cells xs), sB3 n xs, sB14 n xs, sB15 n xs]) (fun x_ => True) (by kernel_rfl) (fun w hT => (refSmallL v.A15 v.g15 v.o15 v.m15 v.k15 v.x15 3 w (hT.viewRo (.cons (i := 5) rfl Vw.rd .nil) rfl) hr15 (by omega)).mono fun e w' ⟨A30, g31, k32, cp33, he_, ht_⟩ => ⟨(A30, g31, k32, cp33), he_, trivial, hT.news ht_ rfl⟩) ?_
            rintro ⟨A30, g31, k32, cp33⟩ hf34_
            refine cN [.gen (rowE (A30) g31 k32 cp33 32 4 (rvals (smallL v.x15 3)) true), .cells b27 [iQ (pa ((goodP n10 v.x14 n10).getD (k : Nat) 0)), iQ (pr ((goodP n10 v.x14 n10).getD (k : Nat) 0)), iQ (pg ((goodP n10 v.x14 n10).getD (k : Nat) 0)), iQ (pb ((goodP n10 v.x14 n10).getD (k : Nat) 0))] 53 true, .gen (rowE (As) gs ns cs 32 4 (rvals ss) true), .cells b22 [.bool true, iQ (1 + aroundI (aroundI v.x12 6) 16), iQ (1 + aroundI (aroundI v.x13 6) 16), sL r9 n10 n10, iQ (aroundI v.x4 24 - 6), iQ (aroundI v.x5 24 - 6), iQ (1 + aroundI v.x6 3), iQ (aroundI v.x7 256), iQ v.x8, iQ v.x9, iQ v.x10, iQ v.x11, .slice none 0 0, .string ⟨#[]⟩] 87 true, .cells b21 [.bool true, iQ (1 + aroundI (aroundI v.x12 6) 16), iQ (1 + aroundI (aroundI v.x13 6) 16), sL r9 n10 n10, iQ (aroundI v.x4 24 - 6), iQ (aroundI v.x5 24 - 6), iQ (1 + aroundI v.x6 3), iQ (aroundI v.x7 256), iQ v.x8, iQ v.x9, iQ v.x10, iQ v.x11] 82 true, oE r9 n10 n10 52 1 (cV (goodP n10 v.x14 n10)), rD (v.A15) v.g15 v.o15 v.m15 4 (rvals v.x15), rD (v.A14) v.g14 v.o14 v.m14 1 (cV v.x14), rD (v.A3) v.g3 v.o3 v.m3 1 (cV v.x3), .gen (bunO i (TS.pxs ts)), .gen (bunO i (TS.ops ts)), .gen (rowE (Ao) gw i co 87 14 (dvals TS.cells ts) true), rD (A) g o n 16 (dvals V17.cells xs), sB3 n xs, sB14 n xs, sB15 n xs] ?_
            refine cont_fact (F := (0 < k32 → (A30 : Option Addr) = some ⟨g31, 0, none⟩) ∧ (smallL v.x15 3).length = k32 ∧ k32 ≤ cp33 ∧ cp33 ≤ maxLen) (fun w hT => Row.factsR (hT.ok 0 _ rfl)) (fun hr35_ => ?_)
            obtain ⟨hr35_a, hr35_l, hr35_c, hr35_m⟩ := hr35_
            unfold maxLen at hr35_m
            have hsl36_ := smallL_length v.x15 3
            refine dNx 1 [] (by kernel_rfl) ?_
            refine dOn 20 1 rfl (by kernel_rfl) ?_
            refine call_pure (d := 87) (.bool (hasL (smallL v.x15 3) (((k : Nat) : Int) % (1 + aroundI (aroundI v.x12 6) 16)) (((k : Nat) : Int) / (1 + aroundI (aroundI v.x12 6) 16)))) (by kernel_rfl) (fun w hT => refHasL A30 g31 0 k32 cp33 (smallL v.x15 3) (((k : Nat) : Int) % (1 + aroundI (aroundI v.x12 6) 16)) (((k : Nat) : Int) / (1 + aroundI (aroundI v.x12 6) 16)) w (hT.viewRo (.cons (i := 0) rfl Vw.rowRd .nil) rfl) (by omega)) ?_
            refine dNx 1 [] (by kernel_rfl) ?_
            refine tD 1 [] [(21, 0)] 0 [21, 20, 9, 19, 14, 18, 13, 8, 17, 12, 7, 6, 16, 15, 11, 10, 5, 4, 3, 2, 1, 0] [(88, .bool (hasL (smallL v.x15 3) (((k : Nat) : Int) % (1 + aroundI (aroundI v.x12 6) 16)) (((k : Nat) : Int) / (1 + aroundI (aroundI v.x12 6) 16))))] [] ?_
            refine drawn_done (by kernel_rfl) ?_
            refine tNo ?_
            refine cSp 88 (hasL (smallL v.x15 3) (((k : Nat) : Int) % (1 + aroundI (aroundI v.x12 6) 16)) (((k : Nat) : Int) / (1 + aroundI (aroundI v.x12 6) 16))) rfl (fun c37_ => ?_) (fun c37_ => ?_)
            ·
              refine cRc 87 (.bool (hasL (smallL v.x15 3) (((k : Nat) : Int) % (1 + aroundI (aroundI v.x12 6) 16)) (((k : Nat) : Int) / (1 + aroundI (aroundI v.x12 6) 16)))) (.bool true) rfl (congrArg Value.bool c37_) ?_
              refine cTr rfl <| drawn_enter 27 [2] rfl (by kernel_rfl) ?_
              refine tD 0 [2] [(0, 0), (1, 0), (2, 0), (6, 0), (7, 0), (11, 0), (12, 0), (17, 0), (18, 0), (3, 0), (8, 0), (13, 0), (19, 0), (4, 4), (9, 4), (14, 4), (20, 4)] 10 [20, 14, 9, 4, 19, 13, 8, 3, 18, 17, 12, 11, 7, 6, 2, 1, 0] [(89, .slice As ns cs), (90, iQ ((k : Nat) : Int)), (93, iQ (1 + aroundI (aroundI v.x12 6) 16)), (95, iQ ((k : Nat) : Int)), (98, iQ (1 + aroundI (aroundI v.x12 6) 16)), (100, iQ ((k : Nat) : Int)), (103, iQ (1 + aroundI (aroundI v.x12 6) 16)), (106, iQ ((k : Nat) : Int)), (109, iQ (1 + aroundI (aroundI v.x12 6) 16))] [91, 92, 96, 97, 101, 102, 107, 108] ?_
              refine sT 0 [2] 5 9 94 (bopS .rem 3 (.tmp 90) (.tmp 93) (iQ ((k : Nat) : Int)) (iQ (1 + aroundI (aroundI v.x12 6) 16))) (iQ (((k : Nat) : Int).tmod (1 + aroundI (aroundI v.x12 6) 16))) (fun w hT => run_rem (by omega) w) ?_
              refine cRc 94 (iQ (((k : Nat) : Int).tmod (1 + aroundI (aroundI v.x12 6) 16))) (iQ (((k : Nat) : Int) % (1 + aroundI (aroundI v.x12 6) 16))) rfl (tmodI (by omega)) ?_
              refine sT 0 [2] 10 8 99 (bopS .quo 3 (.tmp 95) (.tmp 98) (iQ ((k : Nat) : Int)) (iQ (1 + aroundI (aroundI v.x12 6) 16))) (iQ (IntKind.i64.wrap (((k : Nat) : Int).tdiv (1 + aroundI (aroundI v.x12 6) 16)))) (fun w hT => run_quo (by omega) w) ?_
              refine cRc 99 (iQ (IntKind.i64.wrap (((k : Nat) : Int).tdiv (1 + aroundI (aroundI v.x12 6) 16)))) (iQ (((k : Nat) : Int) / (1 + aroundI (aroundI v.x12 6) 16))) rfl (tdivI (by omega) (by omega) (by omega)) ?_
              refine sT 0 [2] 15 7 104 (bopS .rem 3 (.tmp 100) (.tmp 103) (iQ ((k : Nat) : Int)) (iQ (1 + aroundI (aroundI v.x12 6) 16))) (iQ (((k : Nat) : Int).tmod (1 + aroundI (aroundI v.x12 6) 16))) (fun w hT => run_rem (by omega) w) ?_
              refine cRc 104 (iQ (((k : Nat) : Int).tmod (1 + aroundI (aroundI v.x12 6) 16))) (iQ (((k : Nat) : Int) % (1 + aroundI (aroundI v.x12 6) 16))) rfl (tmodI (by omega)) ?_
              refine tD 0 [2] [(16, 0)] 6 [16, 15, 10, 5, 20, 14, 9, 4, 19, 13, 8, 3, 18, 17, 12, 11, 7, 6, 2, 1, 0] [(105, iQ (IntKind.i64.wrap ((((k : Nat) : Int) % (1 + aroundI (aroundI v.x12 6) 16)) + 1)))] [] ?_
              refine cRc 105 (iQ (IntKind.i64.wrap ((((k : Nat) : Int) % (1 + aroundI (aroundI v.x12 6) 16)) + 1))) (iQ ((((k : Nat) : Int) % (1 + aroundI (aroundI v.x12 6) 16)) + 1)) rfl (wrapI (by omega) (by omega)) ?_
              refine sT 0 [2] 21 5 110 (bopS .quo 3 (.tmp 106) (.tmp 109) (iQ ((k : Nat) : Int)) (iQ (1 + aroundI (aroundI v.x12 6) 16))) (iQ (IntKind.i64.wrap (((k : Nat) : Int).tdiv (1 + aroundI (aroundI v.x12 6) 16)))) (fun w hT => run_quo (by omega) w) ?_
              refine cRc 110 (iQ (IntKind.i64.wrap (((k : Nat) : Int).tdiv (1 + aroundI (aroundI v.x12 6) 16)))) (iQ (((k : Nat) : Int) / (1 + aroundI (aroundI v.x12 6) 16))) rfl (tdivI (by omega) (by omega) (by omega)) ?_
              refine tD 0 [2] [(22, 0)] 4 [22, 21, 16, 15, 10, 5, 20, 14, 9, 4, 19, 13, 8, 3, 18, 17, 12, 11, 7, 6, 2, 1, 0] [(111, iQ (IntKind.i64.wrap ((((k : Nat) : Int) / (1 + aroundI (aroundI v.x12 6) 16)) + 1)))] [] ?_
              refine cRc 111 (iQ (IntKind.i64.wrap ((((k : Nat) : Int) / (1 + aroundI (aroundI v.x12 6) 16)) + 1))) (iQ ((((k : Nat) : Int) / (1 + aroundI (aroundI v.x12 6) 16)) + 1)) rfl (wrapI (by omega) (by omega)) ?_
              refine tD 0 [2] [(23, 0)] 3 [23, 22, 21, 16, 15, 10, 5, 20, 14, 9, 4, 19, 13, 8, 3, 18, 17, 12, 11, 7, 6, 2, 1, 0] [(112, .agg #[iQ (((k : Nat) : Int) % (1 + aroundI (aroundI v.x12 6) 16)), iQ (((k : Nat) : Int) / (1 + aroundI (aroundI v.x12 6) 16)), iQ ((((k : Nat) : Int) % (1 + aroundI (aroundI v.x12 6) 16)) + 1), iQ ((((k : Nat) : Int) / (1 + aroundI (aroundI v.x12 6) 16)) + 1)])] [] ?_
              refine dOn 24 2 rfl (by kernel_rfl) ?_
              refine one_step1 0 (fun b38 => [(0, .slice A n cap), (3, .slice Ao i co), (4, iQ (i : Int)), (5, pT b21), (6, pT b22), (7, .slice As ns cs), (8, iQ ((k : Nat) : Int)), (15, iQ (i : Int)), (16, .bool true), (71, .slice (some ⟨g, o, none⟩) n cap), (72, iQ (i : Int)), (73, .pointer (some ⟨g, o + i * 16, none⟩)), (74, .pointer (some ⟨g, o + i * 16 + 15, none⟩)), (75, .slice v.A15 v.m15 v.k15), (76, .slice A30 k32 cp33), (77, iQ ((k : Nat) : Int)), (78, .pointer (some ⟨b21, 1, none⟩)), (79, .pointer (some ⟨b21, 1, none⟩)), (80, iQ (1 + aroundI (aroundI v.x12 6) 16)), (81, iQ (((k : Nat) : Int) % (1 + aroundI (aroundI v.x12 6) 16))), (82, iQ ((k : Nat) : Int)), (83, .pointer (some ⟨b21, 1, none⟩)), (84, .pointer (some ⟨b21, 1, none⟩)), (85, iQ (1 + aroundI (aroundI v.x12 6) 16)), (86, iQ (((k : Nat) : Int) / (1 + aroundI (aroundI v.x12 6) 16))), (87, .bool true), (89, .slice As ns cs), (113, sL b38 1 1)]) (fun b38 => [.cells b38 [iQ (((k : Nat) : Int) % (1 + aroundI (aroundI v.x12 6) 16)), iQ (((k : Nat) : Int) / (1 + aroundI (aroundI v.x12 6) 16)), iQ ((((k : Nat) : Int) % (1 + aroundI (aroundI v.x12 6) 16)) + 1), iQ ((((k : Nat) : Int) / (1 + aroundI (aroundI v.x12 6) 16)) + 1)] 32 true, .gen (rowE (A30) g31 k32 cp33 32 4 (rvals (smallL v.x15 3)) true), .cells b27 [iQ (pa ((goodP n10 v.x14 n10).getD (k : Nat) 0)), iQ (pr ((goodP n10 v.x14 n10).getD (k : Nat) 0)), iQ (pg ((goodP n10 v.x14 n10).getD (k : Nat) 0)), iQ (pb ((goodP n10 v.x14 n10).getD (k : Nat) 0))] 53 true, .gen (rowE (As) gs ns cs 32 4 (rvals ss) true), .cells b22 [.bool true, iQ (1 + aroundI (aroundI v.x12 6) 16), iQ (1 + aroundI (aroundI v.x13 6) 16), sL r9 n10 n10, iQ (aroundI v.x4 24 - 6), iQ (aroundI v.x5 24 - 6), iQ (1 + aroundI v.x6 3), iQ (aroundI v.x7 256), iQ v.x8, iQ v.x9, iQ v.x10, iQ v.x11, .slice none 0 0, .string ⟨#[]⟩] 87 true, .cells b21 [.bool true, iQ (1 + aroundI (aroundI v.x12 6) 16), iQ (1 + aroundI (aroundI v.x13 6) 16), sL r9 n10 n10, iQ (aroundI v.x4 24 - 6), iQ (aroundI v.x5 24 - 6), iQ (1 + aroundI v.x6 3), iQ (aroundI v.x7 256), iQ v.x8, iQ v.x9, iQ v.x10, iQ v.x11] 82 true, oE r9 n10 n10 52 1 (cV (goodP n10 v.x14 n10)), rD (v.A15) v.g15 v.o15 v.m15 4 (rvals v.x15), rD (v.A14) v.g14 v.o14 v.m14 1 (cV v.x14), rD (v.A3) v.g3 v.o3 v.m3 1 (cV v.x3), .gen (bunO i (TS.pxs ts)), .gen (bunO i (TS.ops ts)), .gen (rowE (Ao) gw i co 87 14 (dvals TS.cells ts) true), rD (A) g o n 16 (dvals V17.cells xs), sB3 n xs, sB14 n xs, sB15 n xs]) (fun b38 => by kernel_rfl) (fun b38 => by kernel_rfl) (fun b38 => ?_)
              refine dNx 1 [2] (by kernel_rfl) ?_
              refine dOn 25 1 rfl (by kernel_rfl) ?_
              refine sSW (α := Option Addr × Nat × Nat) 114 (Builtin.append_ #[23, 23] 23 #[.slice As ns cs, sL b38 1 1]) (fun x_ => .slice x_.1 (ns + 1) x_.2.2) (fun x_ => [.cells b38 [iQ (((k : Nat) : Int) % (1 + aroundI (aroundI v.x12 6) 16)), iQ (((k : Nat) : Int) / (1 + aroundI (aroundI v.x12 6) 16)), iQ ((((k : Nat) : Int) % (1 + aroundI (aroundI v.x12 6) 16)) + 1), iQ ((((k : Nat) : Int) / (1 + aroundI (aroundI v.x12 6) 16)) + 1)] 32 true, .gen (rowE (A30) g31 k32 cp33 32 4 (rvals (smallL v.x15 3)) true), .cells b27 [iQ (pa ((goodP n10 v.x14 n10).getD (k : Nat) 0)), iQ (pr ((goodP n10 v.x14 n10).getD (k : Nat) 0)), iQ (pg ((goodP n10 v.x14 n10).getD (k : Nat) 0)), iQ (pb ((goodP n10 v.x14 n10).getD (k : Nat) 0))] 53 true, .gen (rowE (x_.1) x_.2.1 (ns + 1) x_.2.2 32 4 (rvals (ss ++ [(⟨((k : Nat) : Int) % (1 + aroundI (aroundI v.x12 6) 16), ((k : Nat) : Int) / (1 + aroundI (aroundI v.x12 6) 16), (((k : Nat) : Int) % (1 + aroundI (aroundI v.x12 6) 16)) + 1, (((k : Nat) : Int) / (1 + aroundI (aroundI v.x12 6) 16)) + 1⟩ : Rect)])) true), .cells b22 [.bool true, iQ (1 + aroundI (aroundI v.x12 6) 16), iQ (1 + aroundI (aroundI v.x13 6) 16), sL r9 n10 n10, iQ (aroundI v.x4 24 - 6), iQ (aroundI v.x5 24 - 6), iQ (1 + aroundI v.x6 3), iQ (aroundI v.x7 256), iQ v.x8, iQ v.x9, iQ v.x10, iQ v.x11, .slice none 0 0, .string ⟨#[]⟩] 87 true, .cells b21 [.bool true, iQ (1 + aroundI (aroundI v.x12 6) 16), iQ (1 + aroundI (aroundI v.x13 6) 16), sL r9 n10 n10, iQ (aroundI v.x4 24 - 6), iQ (aroundI v.x5 24 - 6), iQ (1 + aroundI v.x6 3), iQ (aroundI v.x7 256), iQ v.x8, iQ v.x9, iQ v.x10, iQ v.x11] 82 true, oE r9 n10 n10 52 1 (cV (goodP n10 v.x14 n10)), rD (v.A15) v.g15 v.o15 v.m15 4 (rvals v.x15), rD (v.A14) v.g14 v.o14 v.m14 1 (cV v.x14), rD (v.A3) v.g3 v.o3 v.m3 1 (cV v.x3), .gen (bunO i (TS.pxs ts)), .gen (bunO i (TS.ops ts)), .gen (rowE (Ao) gw i co 87 14 (dvals TS.cells ts) true), rD (A) g o n 16 (dvals V17.cells xs), sB3 n xs, sB14 n xs, sB15 n xs]) (fun _ => True) (by kernel_rfl) (fun w hT => append_own (n' := (ns + 1)) (z := .agg #[iQ 0, iQ 0, iQ 0, iQ 0]) hT (i := 3) (bytes := 32) rfl (by kernel_rfl) (by kernel_rfl) rfl (by decide) (by decide) (Rd.ofCells (vals := rvals [(⟨((k : Nat) : Int) % (1 + aroundI (aroundI v.x12 6) 16), ((k : Nat) : Int) / (1 + aroundI (aroundI v.x12 6) 16), (((k : Nat) : Int) % (1 + aroundI (aroundI v.x12 6) 16)) + 1, (((k : Nat) : Int) / (1 + aroundI (aroundI v.x12 6) 16)) + 1⟩ : Rect)]) (hT.ok 0 _ rfl) rfl rfl) (rvals_one [(⟨((k : Nat) : Int) % (1 + aroundI (aroundI v.x12 6) 16), ((k : Nat) : Int) / (1 + aroundI (aroundI v.x12 6) 16), (((k : Nat) : Int) % (1 + aroundI (aroundI v.x12 6) 16)) + 1, (((k : Nat) : Int) / (1 + aroundI (aroundI v.x12 6) 16)) + 1⟩ : Rect)]) (by omega) (rvals_append ss [(⟨((k : Nat) : Int) % (1 + aroundI (aroundI v.x12 6) 16), ((k : Nat) : Int) / (1 + aroundI (aroundI v.x12 6) 16), (((k : Nat) : Int) % (1 + aroundI (aroundI v.x12 6) 16)) + 1, (((k : Nat) : Int) / (1 + aroundI (aroundI v.x12 6) 16)) + 1⟩ : Rect)]) rfl) ?_
              rintro ⟨A39, g39, cp39⟩ -
              refine cN [.cells b38 [iQ (((k : Nat) : Int) % (1 + aroundI (aroundI v.x12 6) 16)), iQ (((k : Nat) : Int) / (1 + aroundI (aroundI v.x12 6) 16)), iQ ((((k : Nat) : Int) % (1 + aroundI (aroundI v.x12 6) 16)) + 1), iQ ((((k : Nat) : Int) / (1 + aroundI (aroundI v.x12 6) 16)) + 1)] 32 true, .gen (rowE (A30) g31 k32 cp33 32 4 (rvals (smallL v.x15 3)) true), .cells b27 [iQ (pa ((goodP n10 v.x14 n10).getD (k : Nat) 0)), iQ (pr ((goodP n10 v.x14 n10).getD (k : Nat) 0)), iQ (pg ((goodP n10 v.x14 n10).getD (k : Nat) 0)), iQ (pb ((goodP n10 v.x14 n10).getD (k : Nat) 0))] 53 true, .gen (rowE (A39) g39 (ns + 1) cp39 32 4 (rvals (ss ++ [(⟨((k : Nat) : Int) % (1 + aroundI (aroundI v.x12 6) 16), ((k : Nat) : Int) / (1 + aroundI (aroundI v.x12 6) 16), (((k : Nat) : Int) % (1 + aroundI (aroundI v.x12 6) 16)) + 1, (((k : Nat) : Int) / (1 + aroundI (aroundI v.x12 6) 16)) + 1⟩ : Rect)])) true), .cells b22 [.bool true, iQ (1 + aroundI (aroundI v.x12 6) 16), iQ (1 + aroundI (aroundI v.x13 6) 16), sL r9 n10 n10, iQ (aroundI v.x4 24 - 6), iQ (aroundI v.x5 24 - 6), iQ (1 + aroundI v.x6 3), iQ (aroundI v.x7 256), iQ v.x8, iQ v.x9, iQ v.x10, iQ v.x11, .slice none 0 0, .string ⟨#[]⟩] 87 true, .cells b21 [.bool true, iQ (1 + aroundI (aroundI v.x12 6) 16), iQ (1 + aroundI (aroundI v.x13 6) 16), sL r9 n10 n10, iQ (aroundI v.x4 24 - 6), iQ (aroundI v.x5 24 - 6), iQ (1 + aroundI v.x6 3), iQ (aroundI v.x7 256), iQ v.x8, iQ v.x9, iQ v.x10, iQ v.x11] 82 true, oE r9 n10 n10 52 1 (cV (goodP n10 v.x14 n10)), rD (v.A15) v.g15 v.o15 v.m15 4 (rvals v.x15), rD (v.A14) v.g14 v.o14 v.m14 1 (cV v.x14), rD (v.A3) v.g3 v.o3 v.m3 1 (cV v.x3), .gen (bunO i (TS.pxs ts)), .gen (bunO i (TS.ops ts)), .gen (rowE (Ao) gw i co 87 14 (dvals TS.cells ts) true), rD (A) g o n 16 (dvals V17.cells xs), sB3 n xs, sB14 n xs, sB15 n xs] ?_
              refine cont_fact (F := (0 < (ns + 1) → (A39 : Option Addr) = some ⟨g39, 0, none⟩) ∧ (ss ++ [(⟨((k : Nat) : Int) % (1 + aroundI (aroundI v.x12 6) 16), ((k : Nat) : Int) / (1 + aroundI (aroundI v.x12 6) 16), (((k : Nat) : Int) % (1 + aroundI (aroundI v.x12 6) 16)) + 1, (((k : Nat) : Int) / (1 + aroundI (aroundI v.x12 6) 16)) + 1⟩ : Rect)]).length = (ns + 1) ∧ (ns + 1) ≤ cp39 ∧ cp39 ≤ maxLen) (fun w hT => Row.factsR (hT.ok 3 _ rfl)) (fun hr40_ => ?_)
              obtain ⟨hr40_a, hr40_l, hr40_c, hr40_m⟩ := hr40_
              unfold maxLen at hr40_m
              refine dNx 1 [2] (by kernel_rfl) ?_
              refine tK 1 [2] [(26, 0)] 0 [26, 25, 24, 23, 22, 21, 16, 15, 10, 5, 20, 14, 9, 4, 19, 13, 8, 3, 18, 17, 12, 11, 7, 6, 2, 1, 0] [(0, .slice A n cap), (3, .slice Ao i co), (4, iQ (i : Int)), (5, pT b21), (6, pT b22), (7, .slice A39 (ns + 1) cp39), (8, iQ ((k : Nat) : Int)), (15, iQ (i : Int)), (16, .bool true), (71, .slice (some ⟨g, o, none⟩) n cap), (72, iQ (i : Int)), (73, .pointer (some ⟨g, o + i * 16, none⟩)), (74, .pointer (some ⟨g, o + i * 16 + 15, none⟩)), (75, .slice v.A15 v.m15 v.k15), (76, .slice A30 k32 cp33), (77, iQ ((k : Nat) : Int)), (78, .pointer (some ⟨b21, 1, none⟩)), (79, .pointer (some ⟨b21, 1, none⟩)), (80, iQ (1 + aroundI (aroundI v.x12 6) 16)), (81, iQ (((k : Nat) : Int) % (1 + aroundI (aroundI v.x12 6) 16))), (82, iQ ((k : Nat) : Int)), (83, .pointer (some ⟨b21, 1, none⟩)), (84, .pointer (some ⟨b21, 1, none⟩)), (85, iQ (1 + aroundI (aroundI v.x12 6) 16)), (86, iQ (((k : Nat) : Int) / (1 + aroundI (aroundI v.x12 6) 16))), (87, .bool true)] ?_
              refine drawn_done (by kernel_rfl) ?_
              refine blk_normal <| tNo <| cRg 3 rfl <| bS [0, 0] 2 1 [(0, .slice A n cap), (3, .slice Ao i co), (4, iQ (i : Int)), (5, pT b21), (6, pT b22), (7, .slice A39 (ns + 1) cp39), (15, iQ (i : Int)), (16, .bool true), (59, iQ (IntKind.i64.wrap (((k : Nat) : Int) + 1))), (71, .slice (some ⟨g, o, none⟩) n cap), (72, iQ (i : Int)), (73, .pointer (some ⟨g, o + i * 16, none⟩)), (74, .pointer (some ⟨g, o + i * 16 + 15, none⟩)), (75, .slice v.A15 v.m15 v.k15), (76, .slice A30 k32 cp33), (77, iQ ((k : Nat) : Int)), (78, .pointer (some ⟨b21, 1, none⟩)), (79, .pointer (some ⟨b21, 1, none⟩)), (80, iQ (1 + aroundI (aroundI v.x12 6) 16)), (81, iQ (((k : Nat) : Int) % (1 + aroundI (aroundI v.x12 6) 16))), (82, iQ ((k : Nat) : Int)), (83, .pointer (some ⟨b21, 1, none⟩)), (84, .pointer (some ⟨b21, 1, none⟩)), (85, iQ (1 + aroundI (aroundI v.x12 6) 16)), (86, iQ (((k : Nat) : Int) / (1 + aroundI (aroundI v.x12 6) 16))), (87, .bool true)] ?_
              refine cRc 59 (iQ (IntKind.i64.wrap (((k : Nat) : Int) + 1))) (iQ (((k : Nat) : Int) + 1)) rfl (wrapI (by omega) (by omega)) ?_
              refine cFg 0 rfl <| cFg 1 rfl <| bD [0] 3 0 [(8, iQ (((k : Nat) : Int) + 1))] [] ?_
              refine cDn <| tNo <| cFg 0 rfl ?_
              refine cont_again (k + 1, ss ++ [(⟨((k : Nat) : Int) % (1 + aroundI (aroundI v.x12 6) 16), ((k : Nat) : Int) / (1 + aroundI (aroundI v.x12 6) 16), (((k : Nat) : Int) % (1 + aroundI (aroundI v.x12 6) 16)) + 1, (((k : Nat) : Int) / (1 + aroundI (aroundI v.x12 6) 16)) + 1⟩ : Rect)], A39, g39, (ns + 1), cp39) (show (k + 1) ≤ n10 ∧ ((ns + 1)) ≤ (k + 1) ∧ ∀ r ∈ (ss ++ [(⟨((k : Nat) : Int) % (1 + aroundI (aroundI v.x12 6) 16), ((k : Nat) : Int) / (1 + aroundI (aroundI v.x12 6) 16), (((k : Nat) : Int) % (1 + aroundI (aroundI v.x12 6) 16)) + 1, (((k : Nat) : Int) / (1 + aroundI (aroundI v.x12 6) 16)) + 1⟩ : Rect)]), SolR (1 + aroundI (aroundI v.x12 6) 16) (goodP n10 v.x14 n10) r from ⟨by omega, by omega, fun r_ hr_ => by rcases List.mem_append.1 hr_ with h_ | h_; exact hss r_ h_; rw [List.mem_singleton.1 h_]; exact ⟨k, by omega, rfl, hpk⟩⟩) (show n10 - (k + 1) < n10 - k from by omega) (by kernel_rfl) (by kernel_rfl)
            refine cRc 87 (.bool (hasL (smallL v.x15 3) (((k : Nat) : Int) % (1 + aroundI (aroundI v.x12 6) 16)) (((k : Nat) : Int) / (1 + aroundI (aroundI v.x12 6) 16)))) (.bool false) rfl (congrArg Value.bool c37_) ?_
            refine cFa rfl <| cont_skip <| blk_normal <| tNo <| cRg 3 rfl <| bD [0, 0] 2 1 [(59, iQ (IntKind.i64.wrap (((k : Nat) : Int) + 1)))] [58] ?_
            refine cRc 59 (iQ (IntKind.i64.wrap (((k : Nat) : Int) + 1))) (iQ (((k : Nat) : Int) + 1)) rfl (wrapI (by omega) (by omega)) ?_
            refine cFg 1 rfl <| bD [0] 3 0 [(8, iQ (((k : Nat) : Int) + 1))] [] ?_
            refine cDn <| tNo <| cFg 0 rfl ?_
            refine cont_again (k + 1, ss, As, gs, ns, cs) (show (k + 1) ≤ n10 ∧ (ns) ≤ (k + 1) ∧ ∀ r ∈ (ss), SolR (1 + aroundI (aroundI v.x12 6) 16) (goodP n10 v.x14 n10) r from ⟨by omega, by omega, hss⟩) (show n10 - (k + 1) < n10 - k from by omega) (by kernel_rfl) (by kernel_rfl)
          replace c28_ := ne_of_beqf c28_
          refine tD 0 [] [(4, 0), (5, 0), (10, 0), (11, 0), (15, 0), (16, 0), (6, 0), (12, 0), (17, 0), (7, 0), (13, 0), (18, 0), (8, 0), (14, 0), (19, 0)] 3 [19, 14, 8, 18, 13, 7, 17, 12, 6, 16, 15, 11, 10, 5, 4, 3, 2, 1, 0] [(71, undef), (72, undef), (73, undef), (74, undef), (75, undef), (77, undef), (78, undef), (79, undef), (80, undef), (81, undef), (82, undef), (83, undef), (84, undef), (85, undef), (86, undef)] [] ?_
          refine dOn 9 2 rfl (by kernel_rfl) ?_
          refine oS 0 [(0, .slice A n cap), (3, .slice Ao i co), (4, iQ (i : Int)), (5, pT b21), (6, pT b22), (7, .slice As ns cs), (8, iQ ((k : Nat) : Int)), (15, iQ (i : Int)), (16, .bool true), (70, .bool false), (71, undef), (72, undef), (73, undef), (74, undef), (75, undef), (76, undef), (77, undef), (78, undef), (79, undef), (80, undef), (81, undef), (82, undef), (83, undef), (84, undef), (85, undef), (86, undef)] [.cells b27 [iQ (pa ((goodP n10 v.x14 n10).getD (k : Nat) 0)), iQ (pr ((goodP n10 v.x14 n10).getD (k : Nat) 0)), iQ (pg ((goodP n10 v.x14 n10).getD (k : Nat) 0)), iQ (pb ((goodP n10 v.x14 n10).getD (k : Nat) 0))] 53 true, .gen (rowE (As) gs ns cs 32 4 (rvals ss) true), .cells b22 [.bool true, iQ (1 + aroundI (aroundI v.x12 6) 16), iQ (1 + aroundI (aroundI v.x13 6) 16), sL r9 n10 n10, iQ (aroundI v.x4 24 - 6), iQ (aroundI v.x5 24 - 6), iQ (1 + aroundI v.x6 3), iQ (aroundI v.x7 256), iQ v.x8, iQ v.x9, iQ v.x10, iQ v.x11, .slice none 0 0, .string ⟨#[]⟩] 87 true, .cells b21 [.bool true, iQ (1 + aroundI (aroundI v.x12 6) 16), iQ (1 + aroundI (aroundI v.x13 6) 16), sL r9 n10 n10, iQ (aroundI v.x4 24 - 6), iQ (aroundI v.x5 24 - 6), iQ (1 + aroundI v.x6 3), iQ (aroundI v.x7 256), iQ v.x8, iQ v.x9, iQ v.x10, iQ v.x11] 82 true, oE r9 n10 n10 52 1 (cV (goodP n10 v.x14 n10)), rD (v.A15) v.g15 v.o15 v.m15 4 (rvals v.x15), rD (v.A14) v.g14 v.o14 v.m14 1 (cV v.x14), rD (v.A3) v.g3 v.o3 v.m3 1 (cV v.x3), .gen (bunO i (TS.pxs ts)), .gen (bunO i (TS.ops ts)), .gen (rowE (Ao) gw i co 87 14 (dvals TS.cells ts) true), rD (A) g o n 16 (dvals V17.cells xs), sB3 n xs, sB14 n xs, sB15 n xs] ?_
          refine dNx 0 [] (by kernel_rfl) ?_
          refine dOn 20 1 rfl (by kernel_rfl) ?_
          refine oS 0 [(0, .slice A n cap), (3, .slice Ao i co), (4, iQ (i : Int)), (5, pT b21), (6, pT b22), (7, .slice As ns cs), (8, iQ ((k : Nat) : Int)), (15, iQ (i : Int)), (16, .bool true), (70, .bool false), (71, undef), (72, undef), (73, undef), (74, undef), (75, undef), (76, undef), (77, undef), (78, undef), (79, undef), (80, undef), (81, undef), (82, undef), (83, undef), (84, undef), (85, undef), (86, undef), (87, undef)] [.cells b27 [iQ (pa ((goodP n10 v.x14 n10).getD (k : Nat) 0)), iQ (pr ((goodP n10 v.x14 n10).getD (k : Nat) 0)), iQ (pg ((goodP n10 v.x14 n10).getD (k : Nat) 0)), iQ (pb ((goodP n10 v.x14 n10).getD (k : Nat) 0))] 53 true, .gen (rowE (As) gs ns cs 32 4 (rvals ss) true), .cells b22 [.bool true, iQ (1 + aroundI (aroundI v.x12 6) 16), iQ (1 + aroundI (aroundI v.x13 6) 16), sL r9 n10 n10, iQ (aroundI v.x4 24 - 6), iQ (aroundI v.x5 24 - 6), iQ (1 + aroundI v.x6 3), iQ (aroundI v.x7 256), iQ v.x8, iQ v.x9, iQ v.x10, iQ v.x11, .slice none 0 0, .string ⟨#[]⟩] 87 true, .cells b21 [.bool true, iQ (1 + aroundI (aroundI v.x12 6) 16), iQ (1 + aroundI (aroundI v.x13 6) 16), sL r9 n10 n10, iQ (aroundI v.x4 24 - 6), iQ (aroundI v.x5 24 - 6), iQ (1 + aroundI v.x6 3), iQ (aroundI v.x7 256), iQ v.x8, iQ v.x9, iQ v.x10, iQ v.x11] 82 true, oE r9 n10 n10 52 1 (cV (goodP n10 v.x14 n10)), rD (v.A15) v.g15 v.o15 v.m15 4 (rvals v.x15), rD (v.A14) v.g14 v.o14 v.m14 1 (cV v.x14), rD (v.A3) v.g3 v.o3 v.m3 1 (cV v.x3), .gen (bunO i (TS.pxs ts)), .gen (bunO i (TS.ops ts)), .gen (rowE (Ao) gw i co 87 14 (dvals TS.cells ts) true), rD (A) g o n 16 (dvals V17.cells xs), sB3 n xs, sB14 n xs, sB15 n xs] ?_
          refine dNx 0 [] (by kernel_rfl) ?_
          refine tD 0 [] [(21, 0)] 0 [21, 20, 9, 19, 14, 8, 18, 13, 7, 17, 12, 6, 16, 15, 11, 10, 5, 4, 3, 2, 1, 0] [(88, .bool false)] [] ?_
          refine drawn_done (by kernel_rfl) ?_
          refine tNo <| cFa rfl <| cont_skip <| blk_normal <| tNo <| cRg 3 rfl <| bD [0, 0] 2 1 [(59, iQ (IntKind.i64.wrap (((k : Nat) : Int) + 1)))] [58] ?_
          refine cRc 59 (iQ (IntKind.i64.wrap (((k : Nat) : Int) + 1))) (iQ (((k : Nat) : Int) + 1)) rfl (wrapI (by omega) (by omega)) ?_
          refine cFg 0 rfl <| bD [0] 3 0 [(8, iQ (((k : Nat) : Int) + 1))] [] ?_
          refine cDn <| tNo ?_
          refine cont_again (k + 1, ss, As, gs, ns, cs) (show (k + 1) ≤ n10 ∧ (ns) ≤ (k + 1) ∧ ∀ r ∈ (ss), SolR (1 + aroundI (aroundI v.x12 6) 16) (goodP n10 v.x14 n10) r from ⟨by omega, by omega, hss⟩) (show n10 - (k + 1) < n10 - k from by omega) (by kernel_rfl) (by kernel_rfl)
        replace c25_ := of_decide_eq_false c25_
        refine cFa rfl <| cont_exit <| then_exit <| then_exit <| blk_exit <| tNo <| cSq <| cRg 4 rfl ?_
        refine cont_fact (F := (0 < ns → (As : Option Addr) = some ⟨gs, 0, none⟩) ∧ ss.length = ns ∧ ns ≤ cs ∧ cs ≤ maxLen) (fun w hT => Row.factsR (hT.ok 0 _ rfl)) (fun hr41_ => ?_)
        obtain ⟨hr41_a, hr41_l, hr41_c, hr41_m⟩ := hr41_
        unfold maxLen at hr41_m
        have hrs := hr41_a
        refine bD [0] 1 3 [(115, .slice As ns cs)] [] ?_
        refine cFg 2 rfl <| pSt 2 2 rfl rfl <| call_gen (d := 116) (α := Option Addr × Nat × Nat × Nat) (fun x_ => .slice x_.1 x_.2.2.1 x_.2.2.2) (fun x_ => [.gen (rowE (x_.1) x_.2.1 x_.2.2.1 x_.2.2.2 32 4 (rvals (canR ss)) true), .gen (rowE (As) gs ns cs 32 4 (rvals ss) true), .cells b22 [.bool true, iQ (1 + aroundI (aroundI v.x12 6) 16), iQ (1 + aroundI (aroundI v.x13 6) 16), sL r9 n10 n10, iQ (aroundI v.x4 24 - 6), iQ (aroundI v.x5 24 - 6), iQ (1 + aroundI v.x6 3), iQ (aroundI v.x7 256), iQ v.x8, iQ v.x9, iQ v.x10, iQ v.x11, .slice none 0 0, .string ⟨#[]⟩] 87 true, oE r9 n10 n10 52 1 (cV (goodP n10 v.x14 n10)), rD (v.A15) v.g15 v.o15 v.m15 4 (rvals v.x15), rD (v.A14) v.g14 v.o14 v.m14 1 (cV v.x14), rD (v.A3) v.g3 v.o3 v.m3 1 (cV v.x3), .gen (bunO i (TS.pxs ts)), .gen (bunO i (TS.ops ts)), .gen (rowE (Ao) gw i co 87 14 (dvals TS.cells ts) true), rD (A) g o n 16 (dvals V17.cells xs), sB3 n xs, sB14 n xs, sB15 n xs]) (fun x_ => True) (by kernel_rfl) (fun w hT => (refOf As gs 0 ns cs ss w (hT.viewRo (.cons (i := 0) rfl Vw.rowRd .nil) rfl) (by omega)).mono fun e w' ⟨A42, g43, k44, cp45, he_, ht_⟩ => ⟨(A42, g43, k44, cp45), he_, trivial, hT.news ht_ rfl⟩) ?_
        rintro ⟨A42, g43, k44, cp45⟩ hf46_
        refine cN [.gen (rowE (A42) g43 k44 cp45 32 4 (rvals (canR ss)) true), .gen (rowE (As) gs ns cs 32 4 (rvals ss) true), .cells b22 [.bool true, iQ (1 + aroundI (aroundI v.x12 6) 16), iQ (1 + aroundI (aroundI v.x13 6) 16), sL r9 n10 n10, iQ (aroundI v.x4 24 - 6), iQ (aroundI v.x5 24 - 6), iQ (1 + aroundI v.x6 3), iQ (aroundI v.x7 256), iQ v.x8, iQ v.x9, iQ v.x10, iQ v.x11, .slice none 0 0, .string ⟨#[]⟩] 87 true, oE r9 n10 n10 52 1 (cV (goodP n10 v.x14 n10)), rD (v.A15) v.g15 v.o15 v.m15 4 (rvals v.x15), rD (v.A14) v.g14 v.o14 v.m14 1 (cV v.x14), rD (v.A3) v.g3 v.o3 v.m3 1 (cV v.x3), .gen (bunO i (TS.pxs ts)), .gen (bunO i (TS.ops ts)), .gen (rowE (Ao) gw i co 87 14 (dvals TS.cells ts) true), rD (A) g o n 16 (dvals V17.cells xs), sB3 n xs, sB14 n xs, sB15 n xs] ?_
        refine cont_fact (F := (0 < k44 → (A42 : Option Addr) = some ⟨g43, 0, none⟩) ∧ (canR ss).length = k44 ∧ k44 ≤ cp45 ∧ cp45 ≤ maxLen) (fun w hT => Row.factsR (hT.ok 0 _ rfl)) (fun hr47_ => ?_)
        obtain ⟨hr47_a, hr47_l, hr47_c, hr47_m⟩ := hr47_
        unfold maxLen at hr47_m
        refine batch0 [0, 2] 4 0 [(0, .slice A n cap), (3, .slice Ao i co), (4, iQ (i : Int)), (6, pT b22), (15, iQ (i : Int)), (16, .bool true)] [.gen (rowE (A42) g43 k44 cp45 32 4 (rvals (canR ss)) true), .gen (rowE (As) gs ns cs 32 4 (rvals ss) true), .cells b22 [.bool true, iQ (1 + aroundI (aroundI v.x12 6) 16), iQ (1 + aroundI (aroundI v.x13 6) 16), sL r9 n10 n10, iQ (aroundI v.x4 24 - 6), iQ (aroundI v.x5 24 - 6), iQ (1 + aroundI v.x6 3), iQ (aroundI v.x7 256), iQ v.x8, iQ v.x9, iQ v.x10, iQ v.x11, .slice A42 k44 cp45, .string ⟨#[]⟩] 87 true, oE r9 n10 n10 52 1 (cV (goodP n10 v.x14 n10)), rD (v.A15) v.g15 v.o15 v.m15 4 (rvals v.x15), rD (v.A14) v.g14 v.o14 v.m14 1 (cV v.x14), rD (v.A3) v.g3 v.o3 v.m3 1 (cV v.x3), .gen (bunO i (TS.pxs ts)), .gen (bunO i (TS.ops ts)), .gen (rowE (Ao) gw i co 87 14 (dvals TS.cells ts) true), rD (A) g o n 16 (dvals V17.cells xs), sB3 n xs, sB14 n xs, sB15 n xs] rfl rfl (by kernel_rfl) (by kernel_rfl) ?_
        refine cDn <| tNo <| cRg 5 rfl ?_
        refine batch1 [0, 2, 0] 3 2 (fun b48 => [(0, .slice A n cap), (4, iQ (i : Int)), (15, iQ (i : Int)), (16, .bool true), (118, .slice Ao i co), (120, sL b48 1 1)]) (fun b48 => [.cells b48 [.bool true, iQ (1 + aroundI (aroundI v.x12 6) 16), iQ (1 + aroundI (aroundI v.x13 6) 16), sL r9 n10 n10, iQ (aroundI v.x4 24 - 6), iQ (aroundI v.x5 24 - 6), iQ (1 + aroundI v.x6 3), iQ (aroundI v.x7 256), iQ v.x8, iQ v.x9, iQ v.x10, iQ v.x11, .slice A42 k44 cp45, .string ⟨#[]⟩] 87 true, .gen (rowE (A42) g43 k44 cp45 32 4 (rvals (canR ss)) true), .gen (rowE (As) gs ns cs 32 4 (rvals ss) true), .cells b22 [.bool true, iQ (1 + aroundI (aroundI v.x12 6) 16), iQ (1 + aroundI (aroundI v.x13 6) 16), sL r9 n10 n10, iQ (aroundI v.x4 24 - 6), iQ (aroundI v.x5 24 - 6), iQ (1 + aroundI v.x6 3), iQ (aroundI v.x7 256), iQ v.x8, iQ v.x9, iQ v.x10, iQ v.x11, .slice A42 k44 cp45, .string ⟨#[]⟩] 87 true, oE r9 n10 n10 52 1 (cV (goodP n10 v.x14 n10)), rD (v.A15) v.g15 v.o15 v.m15 4 (rvals v.x15), rD (v.A14) v.g14 v.o14 v.m14 1 (cV v.x14), rD (v.A3) v.g3 v.o3 v.m3 1 (cV v.x3), .gen (bunO i (TS.pxs ts)), .gen (bunO i (TS.ops ts)), .gen (rowE (Ao) gw i co 87 14 (dvals TS.cells ts) true), rD (A) g o n 16 (dvals V17.cells xs), sB3 n xs, sB14 n xs, sB15 n xs]) rfl rfl [0, 4, 15, 16, 118, 120] (fun _ => rfl) (fun b48 => by kernel_rfl) (fun b48 => by kernel_rfl) (fun b48 => ?_)
        refine cFg 3 rfl <| pSt 4 1 rfl rfl <| sSW (α := Option Addr × Nat × Nat) 121 (Builtin.append_ #[24, 24] 24 #[.slice Ao i co, sL b48 1 1]) (fun x_ => .slice x_.1 (i + 1) x_.2.2) (fun x_ => [.cells b48 [.bool true, iQ (1 + aroundI (aroundI v.x12 6) 16), iQ (1 + aroundI (aroundI v.x13 6) 16), sL r9 n10 n10, iQ (aroundI v.x4 24 - 6), iQ (aroundI v.x5 24 - 6), iQ (1 + aroundI v.x6 3), iQ (aroundI v.x7 256), iQ v.x8, iQ v.x9, iQ v.x10, iQ v.x11, .slice A42 k44 cp45, .string ⟨#[]⟩] 87 true, .gen (rowE (A42) g43 k44 cp45 32 4 (rvals (canR ss)) true), .gen (rowE (As) gs ns cs 32 4 (rvals ss) true), oE r9 n10 n10 52 1 (cV (goodP n10 v.x14 n10)), rD (v.A15) v.g15 v.o15 v.m15 4 (rvals v.x15), rD (v.A14) v.g14 v.o14 v.m14 1 (cV v.x14), rD (v.A3) v.g3 v.o3 v.m3 1 (cV v.x3), .gen (bunO i (TS.pxs ts)), .gen (bunO i (TS.ops ts)), .gen (rowE (x_.1) x_.2.1 (i + 1) x_.2.2 87 14 (dvals TS.cells (ts ++ [(⟨(1 + aroundI (aroundI v.x12 6) 16), (1 + aroundI (aroundI v.x13 6) 16), r9, n10, n10, goodP n10 v.x14 n10, (aroundI v.x4 24 - 6), (aroundI v.x5 24 - 6), 1 + aroundI v.x6 3, aroundI v.x7 256, v.x8, v.x9, v.x10, v.x11, A42, g43, k44, cp45, canR ss⟩ : TS)])) true), rD (A) g o n 16 (dvals V17.cells xs), sB3 n xs, sB14 n xs, sB15 n xs]) (fun _ => True) (by kernel_rfl) (fun w hT => append_own (n' := (i + 1)) (z := .agg #[.bool false, iQ 0, iQ 0, .slice none 0 0, iQ 0, iQ 0, iQ 0, iQ 0, iQ 0, iQ 0, iQ 0, iQ 0, .slice none 0 0, .string ⟨#[]⟩]) hT (i := 9) (bytes := 152) rfl (by kernel_rfl) (by kernel_rfl) rfl (by decide) (by decide) (Rd.ofCells (vals := dvals TS.cells [(⟨(1 + aroundI (aroundI v.x12 6) 16), (1 + aroundI (aroundI v.x13 6) 16), r9, n10, n10, goodP n10 v.x14 n10, (aroundI v.x4 24 - 6), (aroundI v.x5 24 - 6), 1 + aroundI v.x6 3, aroundI v.x7 256, v.x8, v.x9, v.x10, v.x11, A42, g43, k44, cp45, canR ss⟩ : TS)]) (hT.ok 0 _ rfl) rfl rfl) (dvals_one TS.one [(⟨(1 + aroundI (aroundI v.x12 6) 16), (1 + aroundI (aroundI v.x13 6) 16), r9, n10, n10, goodP n10 v.x14 n10, (aroundI v.x4 24 - 6), (aroundI v.x5 24 - 6), 1 + aroundI v.x6 3, aroundI v.x7 256, v.x8, v.x9, v.x10, v.x11, A42, g43, k44, cp45, canR ss⟩ : TS)]) (by omega) (dvals_append ts [(⟨(1 + aroundI (aroundI v.x12 6) 16), (1 + aroundI (aroundI v.x13 6) 16), r9, n10, n10, goodP n10 v.x14 n10, (aroundI v.x4 24 - 6), (aroundI v.x5 24 - 6), 1 + aroundI v.x6 3, aroundI v.x7 256, v.x8, v.x9, v.x10, v.x11, A42, g43, k44, cp45, canR ss⟩ : TS)]) rfl) ?_
        rintro ⟨A49, g49, cp49⟩ -
        refine cN [.cells b48 [.bool true, iQ (1 + aroundI (aroundI v.x12 6) 16), iQ (1 + aroundI (aroundI v.x13 6) 16), sL r9 n10 n10, iQ (aroundI v.x4 24 - 6), iQ (aroundI v.x5 24 - 6), iQ (1 + aroundI v.x6 3), iQ (aroundI v.x7 256), iQ v.x8, iQ v.x9, iQ v.x10, iQ v.x11, .slice A42 k44 cp45, .string ⟨#[]⟩] 87 true, .gen (rowE (A42) g43 k44 cp45 32 4 (rvals (canR ss)) true), .gen (rowE (As) gs ns cs 32 4 (rvals ss) true), oE r9 n10 n10 52 1 (cV (goodP n10 v.x14 n10)), rD (v.A15) v.g15 v.o15 v.m15 4 (rvals v.x15), rD (v.A14) v.g14 v.o14 v.m14 1 (cV v.x14), rD (v.A3) v.g3 v.o3 v.m3 1 (cV v.x3), .gen (bunO i (TS.pxs ts)), .gen (bunO i (TS.ops ts)), .gen (rowE (A49) g49 (i + 1) cp49 87 14 (dvals TS.cells (ts ++ [(⟨(1 + aroundI (aroundI v.x12 6) 16), (1 + aroundI (aroundI v.x13 6) 16), r9, n10, n10, goodP n10 v.x14 n10, (aroundI v.x4 24 - 6), (aroundI v.x5 24 - 6), 1 + aroundI v.x6 3, aroundI v.x7 256, v.x8, v.x9, v.x10, v.x11, A42, g43, k44, cp45, canR ss⟩ : TS)])) true), rD (A) g o n 16 (dvals V17.cells xs), sB3 n xs, sB14 n xs, sB15 n xs] ?_
        refine cont_fact (F := (0 < (i + 1) → (A49 : Option Addr) = some ⟨g49, 0, none⟩) ∧ (ts ++ [(⟨(1 + aroundI (aroundI v.x12 6) 16), (1 + aroundI (aroundI v.x13 6) 16), r9, n10, n10, goodP n10 v.x14 n10, (aroundI v.x4 24 - 6), (aroundI v.x5 24 - 6), 1 + aroundI v.x6 3, aroundI v.x7 256, v.x8, v.x9, v.x10, v.x11, A42, g43, k44, cp45, canR ss⟩ : TS)]).length = (i + 1) ∧ (i + 1) ≤ cp49 ∧ cp49 ≤ maxLen) (fun w hT => Row.factsD TS.size (by decide) (hT.ok 9 _ rfl)) (fun hr50_ => ?_)
        obtain ⟨hr50_a, hr50_l, hr50_c, hr50_m⟩ := hr50_
        unfold maxLen at hr50_m
        refine bD [0] 5 0 [(3, .slice A49 (i + 1) cp49)] [] ?_
        refine cFg 0 rfl <| cDn <| blk_normal <| tNo <| cRg 3 rfl <| bD [0, 0] 2 1 [(19, iQ (IntKind.i64.wrap ((i : Int) + 1)))] [18] ?_
        refine cRc 19 (iQ (IntKind.i64.wrap ((i : Int) + 1))) (iQ ((i : Int) + 1)) rfl (wrapI (by omega) (by omega)) ?_
        refine bD [0] 3 0 [(4, iQ ((i : Int) + 1))] [] ?_
        refine cDn <| tNo ?_
        obtain ⟨t, ht⟩ : ∃ t_ : TS, t_ = (⟨(1 + aroundI (aroundI v.x12 6) 16), (1 + aroundI (aroundI v.x13 6) 16), r9, n10, n10, goodP n10 v.x14 n10, (aroundI v.x4 24 - 6), (aroundI v.x5 24 - 6), 1 + aroundI v.x6 3, aroundI v.x7 256, v.x8, v.x9, v.x10, v.x11, A42, g43, k44, cp45, canR ss⟩ : TS) := ⟨_, rfl⟩
        refine cont_rowEqD (cel := TS.cells) (z := 14) 8 (ts ++ [(⟨(1 + aroundI (aroundI v.x12 6) 16), (1 + aroundI (aroundI v.x13 6) 16), r9, n10, n10, goodP n10 v.x14 n10, (aroundI v.x4 24 - 6), (aroundI v.x5 24 - 6), 1 + aroundI v.x6 3, aroundI v.x7 256, v.x8, v.x9, v.x10, v.x11, A42, g43, k44, cp45, canR ss⟩ : TS)]) (ts ++ [t]) rfl (by rw [ht]) ?_
        refine cN [.gen (rowE (A42) g43 k44 cp45 32 4 (rvals (canR ss)) true), .gen (rowE (As) gs ns cs 32 4 (rvals ss) true), oE r9 n10 n10 52 1 (cV (goodP n10 v.x14 n10)), rD (v.A15) v.g15 v.o15 v.m15 4 (rvals v.x15), rD (v.A14) v.g14 v.o14 v.m14 1 (cV v.x14), rD (v.A3) v.g3 v.o3 v.m3 1 (cV v.x3), .gen (bunO i (TS.pxs ts)), .gen (bunO i (TS.ops ts)), .gen (rowE (A49) g49 (i + 1) cp49 87 14 (dvals TS.cells (ts ++ [t])) true), rD (A) g o n 16 (dvals V17.cells xs), sB3 n xs, sB14 n xs, sB15 n xs] ?_
        have hpa := TS.pxs_app (t := t) hlen
        have hoa := TS.ops_app (t := t) hlen
        refine cont_bun 2 6 i (TS.pxs ts) (TS.pxs (ts ++ [t])) t.pxG rfl rfl (by rw [ht]; exact Vw.rowRd) rfl (by decide) hpa.1 hpa.2 ?_
        refine cN [.gen (rowE (A42) g43 k44 cp45 32 4 (rvals (canR ss)) true), .gen (rowE (As) gs ns cs 32 4 (rvals ss) true), rD (v.A15) v.g15 v.o15 v.m15 4 (rvals v.x15), rD (v.A14) v.g14 v.o14 v.m14 1 (cV v.x14), rD (v.A3) v.g3 v.o3 v.m3 1 (cV v.x3), .gen (bunO (i + 1) (TS.pxs (ts ++ [t]))), .gen (bunO i (TS.ops ts)), .gen (rowE (A49) g49 (i + 1) cp49 87 14 (dvals TS.cells (ts ++ [t])) true), rD (A) g o n 16 (dvals V17.cells xs), sB3 n xs, sB14 n xs, sB15 n xs] ?_
        refine cont_bun 0 6 i (TS.ops ts) (TS.ops (ts ++ [t])) t.opG rfl rfl (by rw [ht]; exact Vw.rowRd) rfl (by decide) hoa.1 hoa.2 ?_
        refine cN [.gen (rowE (As) gs ns cs 32 4 (rvals ss) true), rD (v.A15) v.g15 v.o15 v.m15 4 (rvals v.x15), rD (v.A14) v.g14 v.o14 v.m14 1 (cV v.x14), rD (v.A3) v.g3 v.o3 v.m3 1 (cV v.x3), .gen (bunO (i + 1) (TS.pxs (ts ++ [t]))), .gen (bunO (i + 1) (TS.ops (ts ++ [t]))), .gen (rowE (A49) g49 (i + 1) cp49 87 14 (dvals TS.cells (ts ++ [t])) true), rD (A) g o n 16 (dvals V17.cells xs), sB3 n xs, sB14 n xs, sB15 n xs] ?_
        have hokt : TS.Ok t := by rw [ht]; exact ⟨hM20_, hM20_m, by dsimp only; omega, by dsimp only; omega, ⟨by dsimp only; omega, by dsimp only; omega⟩, ⟨by dsimp only; omega, by dsimp only; omega⟩, ⟨by dsimp only; omega, by dsimp only; omega⟩, ⟨by dsimp only; omega, by dsimp only; omega⟩, hvg.clip, ⟨ss, rfl, by omega, hss⟩⟩
        refine cFg 3 rfl <| cFg 2 rfl <| cFg 1 rfl <| cFg 0 rfl ?_
        refine cont_again (i + 1, ts ++ [t], A49, g49, cp49) (show (i + 1) ≤ n ∧ (i + 1) ≤ 5 ∧ (ts ++ [t]).length = (i + 1) ∧ ∀ u_ ∈ (ts ++ [t]), TS.Ok u_ from ⟨by omega, by omega, by rw [List.length_append, hlen]; rfl, fun x hx => by rcases List.mem_append.1 hx with h_ | h_; exact hts x h_; (have e_ := List.mem_singleton.1 h_; subst e_; exact hokt)⟩) (show n - (i + 1) < n - i from by omega) (by kernel_rfl) (by kernel_rfl)
      refine one_step1 0 (fun b51 => [(0, .slice A n cap), (3, .slice Ao i co), (4, iQ (i : Int)), (5, pT b51), (15, iQ (i : Int)), (16, .bool true), (24, .agg #[.bool v.x0, iQ v.x1, iQ v.x2, .slice v.A3 v.m3 v.k3, iQ v.x4, iQ v.x5, iQ v.x6, iQ v.x7, iQ v.x8, iQ v.x9, iQ v.x10, iQ v.x11]), (29, iQ v.x12), (34, iQ v.x13), (39, .slice v.A14 v.m14 v.k14)]) (fun b51 => [.cells b51 [.bool false, iQ 0, iQ 0, .slice none 0 0, iQ 0, iQ 0, iQ 0, iQ 0, iQ 0, iQ 0, iQ 0, iQ 0] 82 true, rD (v.A15) v.g15 v.o15 v.m15 4 (rvals v.x15), rD (v.A14) v.g14 v.o14 v.m14 1 (cV v.x14), rD (v.A3) v.g3 v.o3 v.m3 1 (cV v.x3), .gen (bunO i (TS.pxs ts)), .gen (bunO i (TS.ops ts)), .gen (rowE (Ao) gw i co 87 14 (dvals TS.cells ts) true), rD (A) g o n 16 (dvals V17.cells xs), sB3 n xs, sB14 n xs, sB15 n xs]) (fun b51 => by kernel_rfl) (fun b51 => by kernel_rfl) (fun b51 => ?_)
      refine dNx 1 [] (by kernel_rfl) ?_
      refine dOn 20 1 rfl (by kernel_rfl) ?_
      refine call_gen (d := 40) (α := Nat × Nat) (fun x_ => .agg #[.bool true, iQ (1 + aroundI (aroundI v.x12 6) 16), iQ (1 + aroundI (aroundI v.x13 6) 16), sL x_.1 x_.2 x_.2, iQ (aroundI v.x4 24 - 6), iQ (aroundI v.x5 24 - 6), iQ (1 + aroundI v.x6 3), iQ (aroundI v.x7 256), iQ v.x8, iQ v.x9, iQ v.x10, iQ v.x11]) (fun x_ => [.gen (rowE (some ⟨x_.1, 0, none⟩) x_.1 x_.2 x_.2 52 1 (cV (goodP x_.2 v.x14 x_.2)) true), .cells b51 [.bool false, iQ 0, iQ 0, .slice none 0 0, iQ 0, iQ 0, iQ 0, iQ 0, iQ 0, iQ 0, iQ 0, iQ 0] 82 true, rD (v.A15) v.g15 v.o15 v.m15 4 (rvals v.x15), rD (v.A14) v.g14 v.o14 v.m14 1 (cV v.x14), rD (v.A3) v.g3 v.o3 v.m3 1 (cV v.x3), .gen (bunO i (TS.pxs ts)), .gen (bunO i (TS.ops ts)), .gen (rowE (Ao) gw i co 87 14 (dvals TS.cells ts) true), rD (A) g o n 16 (dvals V17.cells xs), sB3 n xs, sB14 n xs, sB15 n xs]) (fun x_ => (x_.2 : Int) = (1 + aroundI (aroundI v.x12 6) 16) * (1 + aroundI (aroundI v.x13 6) 16)) (by kernel_rfl) (fun w hT => (refGood5 v.A14 v.g14 v.o14 v.m14 v.k14 v.x14 v.x0 v.x1 v.x2 (.slice v.A3 v.m3 v.k3) v.x4 v.x5 v.x6 v.x7 v.x8 v.x9 v.x10 v.x11 v.x12 v.x13 w (hT.viewRo (.cons (i := 2) rfl Vw.rd .nil) rfl) ⟨hvg.w_, hvg.h_, hvg.l_, hvg.c_, hvg.m_, hvg.b_, hl5_a⟩ (by omega) (by omega) (by omega) (by omega)).mono fun e w' ⟨r52, n53, he_, hf_, ht_⟩ => ⟨(r52, n53), he_, hf_, hT.news ht_ rfl⟩) ?_
      rintro ⟨r52, n53⟩ hf54_
      replace hf54_ : (n53 : Int) = (1 + aroundI (aroundI v.x12 6) 16) * (1 + aroundI (aroundI v.x13 6) 16) := hf54_
      refine cN [oE r52 n53 n53 52 1 (cV (goodP n53 v.x14 n53)), .cells b51 [.bool false, iQ 0, iQ 0, .slice none 0 0, iQ 0, iQ 0, iQ 0, iQ 0, iQ 0, iQ 0, iQ 0, iQ 0] 82 true, rD (v.A15) v.g15 v.o15 v.m15 4 (rvals v.x15), rD (v.A14) v.g14 v.o14 v.m14 1 (cV v.x14), rD (v.A3) v.g3 v.o3 v.m3 1 (cV v.x3), .gen (bunO i (TS.pxs ts)), .gen (bunO i (TS.ops ts)), .gen (rowE (Ao) gw i co 87 14 (dvals TS.cells ts) true), rD (A) g o n 16 (dvals V17.cells xs), sB3 n xs, sB14 n xs, sB15 n xs] ?_
      have hq55_ := aroundI_range v.x4 (m := 24) (by omega)
      have hq56_ := aroundI_range v.x5 (m := 24) (by omega)
      have hq57_ := aroundI_range v.x6 (m := 3) (by omega)
      have hq58_ := aroundI_range v.x7 (m := 256) (by omega)
      have hq59_ := aroundI_range v.x12 (m := 6) (by omega)
      have hq60_ := aroundI_range v.x13 (m := 6) (by omega)
      have hq61_ := aroundI_range (aroundI v.x12 6) (m := 16) (by omega)
      have hq62_ := aroundI_range (aroundI v.x13 6) (m := 16) (by omega)
      have hM63_m : AllMay (goodP n53 v.x14 n53) := goodP_may _ hvg.b_
      have hM63_ : ImgOk (1 + aroundI (aroundI v.x12 6) 16) (1 + aroundI (aroundI v.x13 6) 16) n53 (goodP n53 v.x14 n53) := imgOk_of (by omega) hf54_ (by simp [goodP_length]) hM63_m
      have hM63_w1 := hM63_.w1
      have hM63_h1 := hM63_.h1
      have hM63_le := hM63_.le
      have hM63_num := hM63_.num
      have hM63_len := hM63_.len
      refine dNx 2 [] (by kernel_rfl) ?_
      refine dOn 22 0 rfl (by kernel_rfl) ?_
      refine oS 1 [(0, .slice A n cap), (3, .slice Ao i co), (4, iQ (i : Int)), (5, pT b51), (15, iQ (i : Int)), (16, .bool true)] [oE r52 n53 n53 52 1 (cV (goodP n53 v.x14 n53)), .cells b51 [.bool true, iQ (1 + aroundI (aroundI v.x12 6) 16), iQ (1 + aroundI (aroundI v.x13 6) 16), sL r52 n53 n53, iQ (aroundI v.x4 24 - 6), iQ (aroundI v.x5 24 - 6), iQ (1 + aroundI v.x6 3), iQ (aroundI v.x7 256), iQ v.x8, iQ v.x9, iQ v.x10, iQ v.x11] 82 true, rD (v.A15) v.g15 v.o15 v.m15 4 (rvals v.x15), rD (v.A14) v.g14 v.o14 v.m14 1 (cV v.x14), rD (v.A3) v.g3 v.o3 v.m3 1 (cV v.x3), .gen (bunO i (TS.pxs ts)), .gen (bunO i (TS.ops ts)), .gen (rowE (Ao) gw i co 87 14 (dvals TS.cells ts) true), rD (A) g o n 16 (dvals V17.cells xs), sB3 n xs, sB14 n xs, sB15 n xs] ?_
      refine dNx 2 [] (by kernel_rfl) ?_
      refine drawn_done (by kernel_rfl) ?_
      refine tNo <| cSq <| cRg 13 rfl ?_
      refine batch1 [0, 1, 0, 1, 0, 1, 0, 1, 0, 1, 0, 0, 0] 13 0 (fun b64 => [(0, .slice A n cap), (3, .slice Ao i co), (4, iQ (i : Int)), (5, pT b51), (6, pT b64), (15, iQ (i : Int)), (16, .bool true)]) (fun b64 => [.cells b64 [.bool true, iQ (1 + aroundI (aroundI v.x12 6) 16), iQ (1 + aroundI (aroundI v.x13 6) 16), sL r52 n53 n53, iQ (aroundI v.x4 24 - 6), iQ (aroundI v.x5 24 - 6), iQ (1 + aroundI v.x6 3), iQ (aroundI v.x7 256), iQ v.x8, iQ v.x9, iQ v.x10, iQ v.x11, .slice none 0 0, .string ⟨#[]⟩] 87 true, oE r52 n53 n53 52 1 (cV (goodP n53 v.x14 n53)), .cells b51 [.bool true, iQ (1 + aroundI (aroundI v.x12 6) 16), iQ (1 + aroundI (aroundI v.x13 6) 16), sL r52 n53 n53, iQ (aroundI v.x4 24 - 6), iQ (aroundI v.x5 24 - 6), iQ (1 + aroundI v.x6 3), iQ (aroundI v.x7 256), iQ v.x8, iQ v.x9, iQ v.x10, iQ v.x11] 82 true, rD (v.A15) v.g15 v.o15 v.m15 4 (rvals v.x15), rD (v.A14) v.g14 v.o14 v.m14 1 (cV v.x14), rD (v.A3) v.g3 v.o3 v.m3 1 (cV v.x3), .gen (bunO i (TS.pxs ts)), .gen (bunO i (TS.ops ts)), .gen (rowE (Ao) gw i co 87 14 (dvals TS.cells ts) true), rD (A) g o n 16 (dvals V17.cells xs), sB3 n xs, sB14 n xs, sB15 n xs]) rfl rfl [0, 3, 4, 5, 6, 15, 16] (fun _ => rfl) (fun b64 => by kernel_rfl) (fun b64 => by kernel_rfl) (fun b64 => ?_)
      refine cDn <| tNo <| cSq <| cRg 1 rfl <| bD [0] 1 0 [(7, .slice none 0 0)] [] ?_
      refine cDn <| tNo <| cSq <| cSq <| cRg 1 rfl <| bD [0] 1 0 [(8, iQ 0)] [] ?_
      refine cDn <| tNo <| cont_block <| cont_nilrow 32 4 ?_
      refine cont_norm [(0, .slice A n cap), (3, .slice Ao i co), (4, iQ (i : Int)), (5, pT b51), (6, pT b64), (7, .slice none 0 0), (8, iQ 0), (15, iQ (i : Int)), (16, .bool true)] [.gen (rowE (none) 0 0 0 32 4 (rvals []) true), .cells b64 [.bool true, iQ (1 + aroundI (aroundI v.x12 6) 16), iQ (1 + aroundI (aroundI v.x13 6) 16), sL r52 n53 n53, iQ (aroundI v.x4 24 - 6), iQ (aroundI v.x5 24 - 6), iQ (1 + aroundI v.x6 3), iQ (aroundI v.x7 256), iQ v.x8, iQ v.x9, iQ v.x10, iQ v.x11, .slice none 0 0, .string ⟨#[]⟩] 87 true, oE r52 n53 n53 52 1 (cV (goodP n53 v.x14 n53)), .cells b51 [.bool true, iQ (1 + aroundI (aroundI v.x12 6) 16), iQ (1 + aroundI (aroundI v.x13 6) 16), sL r52 n53 n53, iQ (aroundI v.x4 24 - 6), iQ (aroundI v.x5 24 - 6), iQ (1 + aroundI v.x6 3), iQ (aroundI v.x7 256), iQ v.x8, iQ v.x9, iQ v.x10, iQ v.x11] 82 true, rD (v.A15) v.g15 v.o15 v.m15 4 (rvals v.x15), rD (v.A14) v.g14 v.o14 v.m14 1 (cV v.x14), rD (v.A3) v.g3 v.o3 v.m3 1 (cV v.x3), .gen (bunO i (TS.pxs ts)), .gen (bunO i (TS.ops ts)), .gen (rowE (Ao) gw i co 87 14 (dvals TS.cells ts) true), rD (A) g o n 16 (dvals V17.cells xs), sB3 n xs, sB14 n xs, sB15 n xs] (by kernel_rfl) rfl ?_
      refine cont_loop (α := Nat × List Rect × Option Addr × Nat × Nat × Nat) (fun x_ : Nat × List Rect × Option Addr × Nat × Nat × Nat => x_.1 ≤ n53 ∧ x_.2.2.2.2.1 ≤ x_.1 ∧ ∀ r ∈ x_.2.1, SolR (1 + aroundI (aroundI v.x12 6) 16) (goodP n53 v.x14 n53) r) (fun x_ : Nat × List Rect × Option Addr × Nat × Nat × Nat => [(0, .slice A n cap), (3, .slice Ao i co), (4, iQ (i : Int)), (5, pT b51), (6, pT b64), (7, .slice x_.2.2.1 x_.2.2.2.2.1 x_.2.2.2.2.2), (8, iQ ((x_.1 : Nat) : Int)), (15, iQ (i : Int)), (16, .bool true)]) (fun x_ : Nat × List Rect × Option Addr × Nat × Nat × Nat => [.gen (rowE (x_.2.2.1) x_.2.2.2.1 x_.2.2.2.2.1 x_.2.2.2.2.2 32 4 (rvals x_.2.1) true), .cells b64 [.bool true, iQ (1 + aroundI (aroundI v.x12 6) 16), iQ (1 + aroundI (aroundI v.x13 6) 16), sL r52 n53 n53, iQ (aroundI v.x4 24 - 6), iQ (aroundI v.x5 24 - 6), iQ (1 + aroundI v.x6 3), iQ (aroundI v.x7 256), iQ v.x8, iQ v.x9, iQ v.x10, iQ v.x11, .slice none 0 0, .string ⟨#[]⟩] 87 true, oE r52 n53 n53 52 1 (cV (goodP n53 v.x14 n53)), .cells b51 [.bool true, iQ (1 + aroundI (aroundI v.x12 6) 16), iQ (1 + aroundI (aroundI v.x13 6) 16), sL r52 n53 n53, iQ (aroundI v.x4 24 - 6), iQ (aroundI v.x5 24 - 6), iQ (1 + aroundI v.x6 3), iQ (aroundI v.x7 256), iQ v.x8, iQ v.x9, iQ v.x10, iQ v.x11] 82 true, rD (v.A15) v.g15 v.o15 v.m15 4 (rvals v.x15), rD (v.A14) v.g14 v.o14 v.m14 1 (cV v.x14), rD (v.A3) v.g3 v.o3 v.m3 1 (cV v.x3), .gen (bunO i (TS.pxs ts)), .gen (bunO i (TS.ops ts)), .gen (rowE (Ao) gw i co 87 14 (dvals TS.cells ts) true), rD (A) g o n 16 (dvals V17.cells xs), sB3 n xs, sB14 n xs, sB15 n xs]) (fun x_ : Nat × List Rect × Option Addr × Nat × Nat × Nat => n53 - x_.1) (0, ([] : List Rect), none, 0, 0, 0) (show (0) ≤ n53 ∧ (0) ≤ (0) ∧ ∀ r ∈ (([] : List Rect)), SolR (1 + aroundI (aroundI v.x12 6) 16) (goodP n53 v.x14 n53) r from ⟨by omega, by omega, fun r hr => absurd hr (by simp)⟩) (by kernel_rfl) (by kernel_rfl) ?_
      rintro ⟨k, ss, As, gs, ns, cs⟩ hinv66_
      replace hinv66_ : k ≤ n53 ∧ ns ≤ k ∧ ∀ r ∈ ss, SolR (1 + aroundI (aroundI v.x12 6) 16) (goodP n53 v.x14 n53) r := hinv66_
      refine cN [.gen (rowE (As) gs ns cs 32 4 (rvals ss) true), .cells b64 [.bool true, iQ (1 + aroundI (aroundI v.x12 6) 16), iQ (1 + aroundI (aroundI v.x13 6) 16), sL r52 n53 n53, iQ (aroundI v.x4 24 - 6), iQ (aroundI v.x5 24 - 6), iQ (1 + aroundI v.x6 3), iQ (aroundI v.x7 256), iQ v.x8, iQ v.x9, iQ v.x10, iQ v.x11, .slice none 0 0, .string ⟨#[]⟩] 87 true, oE r52 n53 n53 52 1 (cV (goodP n53 v.x14 n53)), .cells b51 [.bool true, iQ (1 + aroundI (aroundI v.x12 6) 16), iQ (1 + aroundI (aroundI v.x13 6) 16), sL r52 n53 n53, iQ (aroundI v.x4 24 - 6), iQ (aroundI v.x5 24 - 6), iQ (1 + aroundI v.x6 3), iQ (aroundI v.x7 256), iQ v.x8, iQ v.x9, iQ v.x10, iQ v.x11] 82 true, rD (v.A15) v.g15 v.o15 v.m15 4 (rvals v.x15), rD (v.A14) v.g14 v.o14 v.m14 1 (cV v.x14), rD (v.A3) v.g3 v.o3 v.m3 1 (cV v.x3), .gen (bunO i (TS.pxs ts)), .gen (bunO i (TS.ops ts)), .gen (rowE (Ao) gw i co 87 14 (dvals TS.cells ts) true), rD (A) g o n 16 (dvals V17.cells xs), sB3 n xs, sB14 n xs, sB15 n xs] ?_
      obtain ⟨hk, hns, hss⟩ := hinv66_
      have hem := emod_range k (W := (1 + aroundI (aroundI v.x12 6) 16)) (by omega)
      have hpr : k < n53 → 0 ≤ (goodP n53 v.x14 n53).getD k 0 ∧ (goodP n53 v.x14 n53).getD k 0 < 4294967296 := fun h_ => hM63_.rng _ (by rw [List.getD_eq_getElem?_getD, List.getElem?_eq_getElem (by omega)]; simp)
      refine cSq <| cSq <| cRg 6 rfl <| bD [0, 0, 0, 3, 0, 0] 6 0 [(57, .bool (decide (((k : Nat) : Int) < (n53 : Int))))] [52, 53, 54, 55, 56] ?_
      refine cDn <| tNo ?_
      refine cSp 57 (decide (((k : Nat) : Int) < (n53 : Int))) rfl (fun c67_ => ?_) (fun c67_ => ?_)
      ·
        replace c67_ := of_decide_eq_true c67_
        refine cTr rfl <| cont_skip <| tNo <| cSq <| cont_block <| cSq <| cRg 9 rfl ?_
        refine cont_fact (F := (0 < ns → (As : Option Addr) = some ⟨gs, 0, none⟩) ∧ ss.length = ns ∧ ns ≤ cs ∧ cs ≤ maxLen) (fun w hT => Row.factsR (hT.ok 0 _ rfl)) (fun hr68_ => ?_)
        obtain ⟨hr68_a, hr68_l, hr68_c, hr68_m⟩ := hr68_
        unfold maxLen at hr68_m
        have hrs := hr68_a
        obtain ⟨hpr0, hpr1⟩ := hpr (by omega)
        refine bD [0, 0, 3, 0] 4 5 [(62, sL r52 n53 n53), (63, iQ ((k : Nat) : Int))] [60, 61] ?_
        refine pSt 5 4 rfl rfl <| sem_step 64 (Instr.indexAt 50 (sL r52 n53 n53) (iQ ((k : Nat) : Int))) (.pointer (some ⟨r52, (k : Nat), none⟩)) (by kernel_rfl) (fun w hT => run_indexAt (e := 52) (sz := 1) _ (by kernel_rfl) (by kernel_rfl) (by omega) (by omega) (by omega) w) ?_
        refine pSt 6 3 rfl rfl <| sem_step 65 (Instr.loadAt 52 (.pointer (some ⟨r52, (k : Nat), none⟩))) (cQ ((goodP n53 v.x14 n53).getD (k : Nat) 0)) (by kernel_rfl) (fun w hT => run_load1 (by kernel_rfl) (Row.cell (hT.ok 2 _ rfl) ((k : Nat)) _ (ivals_get (by omega)))) ?_
        refine pSt 7 2 rfl rfl <| call_pure (d := 66) (.agg #[iQ (pa ((goodP n53 v.x14 n53).getD (k : Nat) 0)), iQ (pr ((goodP n53 v.x14 n53).getD (k : Nat) 0)), iQ (pg ((goodP n53 v.x14 n53).getD (k : Nat) 0)), iQ (pb ((goodP n53 v.x14 n53).getD (k : Nat) 0))]) (by kernel_rfl) (fun w hT => refParts ((goodP n53 v.x14 n53).getD (k : Nat) 0) w (by omega) (by omega)) ?_
        refine batch1 [0, 0] 9 0 (fun b69 => [(0, .slice A n cap), (3, .slice Ao i co), (4, iQ (i : Int)), (5, pT b51), (6, pT b64), (7, .slice As ns cs), (8, iQ ((k : Nat) : Int)), (9, pT b69), (15, iQ (i : Int)), (16, .bool true)]) (fun b69 => [.cells b69 [iQ (pa ((goodP n53 v.x14 n53).getD (k : Nat) 0)), iQ (pr ((goodP n53 v.x14 n53).getD (k : Nat) 0)), iQ (pg ((goodP n53 v.x14 n53).getD (k : Nat) 0)), iQ (pb ((goodP n53 v.x14 n53).getD (k : Nat) 0))] 53 true, .gen (rowE (As) gs ns cs 32 4 (rvals ss) true), .cells b64 [.bool true, iQ (1 + aroundI (aroundI v.x12 6) 16), iQ (1 + aroundI (aroundI v.x13 6) 16), sL r52 n53 n53, iQ (aroundI v.x4 24 - 6), iQ (aroundI v.x5 24 - 6), iQ (1 + aroundI v.x6 3), iQ (aroundI v.x7 256), iQ v.x8, iQ v.x9, iQ v.x10, iQ v.x11, .slice none 0 0, .string ⟨#[]⟩] 87 true, oE r52 n53 n53 52 1 (cV (goodP n53 v.x14 n53)), .cells b51 [.bool true, iQ (1 + aroundI (aroundI v.x12 6) 16), iQ (1 + aroundI (aroundI v.x13 6) 16), sL r52 n53 n53, iQ (aroundI v.x4 24 - 6), iQ (aroundI v.x5 24 - 6), iQ (1 + aroundI v.x6 3), iQ (aroundI v.x7 256), iQ v.x8, iQ v.x9, iQ v.x10, iQ v.x11] 82 true, rD (v.A15) v.g15 v.o15 v.m15 4 (rvals v.x15), rD (v.A14) v.g14 v.o14 v.m14 1 (cV v.x14), rD (v.A3) v.g3 v.o3 v.m3 1 (cV v.x3), .gen (bunO i (TS.pxs ts)), .gen (bunO i (TS.ops ts)), .gen (rowE (Ao) gw i co 87 14 (dvals TS.cells ts) true), rD (A) g o n 16 (dvals V17.cells xs), sB3 n xs, sB14 n xs, sB15 n xs]) rfl rfl [0, 3, 4, 5, 6, 7, 8, 9, 15, 16] (fun _ => rfl) (fun b69 => by kernel_rfl) (fun b69 => by kernel_rfl) (fun b69 => ?_)
        refine cDn <| tNo <| cSq <| drawn_enter 22 [] rfl (by kernel_rfl) ?_
        refine tD 0 [] [(0, 0), (1, 0), (2, 0), (3, 0)] 18 [3, 2, 1, 0] [(70, .bool ((pa ((goodP n53 v.x14 n53).getD (k : Nat) 0)) == 255))] [67, 68, 69] ?_
        refine cSp 70 ((pa ((goodP n53 v.x14 n53).getD (k : Nat) 0)) == 255) rfl (fun c70_ => ?_) (fun c70_ => ?_)
        ·
          replace c70_ := eq_of_beqt c70_
          have hpk := c70_
          refine tD 0 [] [(4, 0), (5, 0), (10, 0), (11, 0), (15, 0), (16, 0)] 12 [16, 15, 11, 10, 5, 4, 3, 2, 1, 0] [(71, .slice A n cap), (72, iQ (i : Int)), (77, iQ ((k : Nat) : Int)), (78, .pointer (some ⟨b51, 1, none⟩)), (82, iQ ((k : Nat) : Int)), (83, .pointer (some ⟨b51, 1, none⟩))] [] ?_
          refine cRc 71 (.slice A n cap) (.slice (some ⟨g, o, none⟩) n cap) rfl (by rw [hra (by omega)]) ?_
          refine sT 0 [] 6 11 73 (Instr.indexAt 22 (.slice (some ⟨g, o, none⟩) n cap) (iQ (i : Int))) (.pointer (some ⟨g, o + i * 16, none⟩)) (fun w hT => run_indexAt (e := 85) (sz := 16) _ (by kernel_rfl) (by kernel_rfl) (by omega) (by omega) (by omega) w) ?_
          refine tD 0 [] [(7, 0), (12, 0), (17, 0)] 8 [17, 12, 7, 6, 16, 15, 11, 10, 5, 4, 3, 2, 1, 0] [(74, .pointer (some ⟨g, o + i * 16 + 15, none⟩)), (79, .pointer (some ⟨b51, 1, none⟩)), (84, .pointer (some ⟨b51, 1, none⟩))] [] ?_
          refine cont_fact (F := (0 < v.m15 → (v.A15 : Option Addr) = some ⟨v.g15, v.o15, none⟩) ∧ v.x15.length = v.m15) (fun w hT => Rd.factsR (hT.ok 5 _ rfl)) (fun hl71_ => ?_)
          obtain ⟨hl71_a, hl71_l⟩ := hl71_
          refine sT 0 [] 8 7 75 (Instr.loadAt 23 (.pointer (some ⟨g, o + i * 16 + 15, none⟩))) (.slice v.A15 v.m15 v.k15) (fun w hT => run_load1 (by kernel_rfl) (Rd.dcell1 V17.size (hT 11 _ rfl) (i := i) (by omega) 15 (by rw [hv]; rfl))) ?_
          refine tD 0 [] [(13, 4), (18, 4)] 5 [18, 13, 8, 17, 12, 7, 6, 16, 15, 11, 10, 5, 4, 3, 2, 1, 0] [(80, iQ (1 + aroundI (aroundI v.x12 6) 16)), (85, iQ (1 + aroundI (aroundI v.x12 6) 16))] [] ?_
          refine sT 0 [] 14 4 81 (bopS .rem 3 (.tmp 77) (.tmp 80) (iQ ((k : Nat) : Int)) (iQ (1 + aroundI (aroundI v.x12 6) 16))) (iQ (((k : Nat) : Int).tmod (1 + aroundI (aroundI v.x12 6) 16))) (fun w hT => run_rem (by omega) w) ?_
          refine cRc 81 (iQ (((k : Nat) : Int).tmod (1 + aroundI (aroundI v.x12 6) 16))) (iQ (((k : Nat) : Int) % (1 + aroundI (aroundI v.x12 6) 16))) rfl (tmodI (by omega)) ?_
          refine sT 0 [] 19 3 86 (bopS .quo 3 (.tmp 82) (.tmp 85) (iQ ((k : Nat) : Int)) (iQ (1 + aroundI (aroundI v.x12 6) 16))) (iQ (IntKind.i64.wrap (((k : Nat) : Int).tdiv (1 + aroundI (aroundI v.x12 6) 16)))) (fun w hT => run_quo (by omega) w) ?_
          refine cRc 86 (iQ (IntKind.i64.wrap (((k : Nat) : Int).tdiv (1 + aroundI (aroundI v.x12 6) 16)))) (iQ (((k : Nat) : Int) / (1 + aroundI (aroundI v.x12 6) 16))) rfl (tdivI (by omega) (by omega) (by omega)) ?_
          refine dOn 9 2 rfl (by kernel_rfl) ?_
          refine call_gen (d := 76) (α := Option Addr × Nat × Nat × Nat) (fun x_ => .slice x_.1 x_.2.2.1 x_.2.2.2) (fun x_ => [.gen (rowE (x_.1) x_.2.1 x_.2.2.1 x_.2.2.2 32 4 (rvals (smallL v.x15 3)) true), .cells b69 [iQ (pa ((goodP n53 v.x14 n53).getD (k : Nat) 0)), iQ (pr ((goodP n53 v.x14 n53).getD (k : Nat) 0)), iQ (pg ((goodP n53 v.x14 n53).getD (k : Nat) 0)), iQ (pb ((goodP n53 v.x14 n53).getD (k : Nat) 0))] 53 true, .gen (rowE (As) gs ns cs 32 4 (rvals ss) true), .cells b64 [.bool true, iQ (1 + aroundI (aroundI v.x12 6) 16), iQ (1 + aroundI (aroundI v.x13 6) 16), sL r52 n53 n53, iQ (aroundI v.x4 24 - 6), iQ (aroundI v.x5 24 - 6), iQ (1 + aroundI v.x6 3), iQ (aroundI v.x7 256), iQ v.x8, iQ v.x9, iQ v.x10, iQ v.x11, .slice none 0 0, .string ⟨#[]⟩] 87 true, oE r52 n53 n53 52 1 (cV (goodP n53 v.x14 n53)), .cells b51 [.bool true, iQ (1 + aroundI (aroundI v.x12 6) 16), iQ (1 + aroundI (aroundI v.x13 6) 16), sL r52 n53 n53, iQ (aroundI v.x4 24 - 6), iQ (aroundI v.x5 24 - 6), iQ (1 + aroundI v.x6 3), iQ (aroundI v.x7 256), iQ v.x8, iQ v.x9, iQ v.x10, iQ v.x11] 82 true, rD (v.A15) v.g15 v.o15 v.m15 4 (rvals v.x15), rD (v.A14) v.g14 v.o14 v.m14 1 (cV v.x14), rD (v.A3) v.g3 v.o3 v.m3 1 (cV v.x3), .gen (bunO i (TS.pxs ts)), .gen (bunO i (TS.ops ts)), .gen (rowE (Ao) gw i co 87 14 (dvals TS.cells ts) true), rD (A) g o n 16 (dvals V17.cells xs), sB3 n xs, sB14 n xs, sB15 n xs]) (fun x_ => True) (by kernel_rfl) (fun w hT => (refSmallL v.A15 v.g15 v.o15 v.m15 v.k15 v.x15 3 w (hT.viewRo (.cons (i := 5) rfl Vw.rd .nil) rfl) hr15 (by omega)).mono fun e w' ⟨A72, g73, k74, cp75, he_, ht_⟩ => ⟨(A72, g73, k74, cp75), he_, trivial, hT.news ht_ rfl⟩) ?_
          rintro ⟨A72, g73, k74, cp75⟩ hf76_
          refine cN [.gen (rowE (A72) g73 k74 cp75 32 4 (rvals (smallL v.x15 3)) true), .cells b69 [iQ (pa ((goodP n53 v.x14 n53).getD (k : Nat) 0)), iQ (pr ((goodP n53 v.x14 n53).getD (k : Nat) 0)), iQ (pg ((goodP n53 v.x14 n53).getD (k : Nat) 0)), iQ (pb ((goodP n53 v.x14 n53).getD (k : Nat) 0))] 53 true, .gen (rowE (As) gs ns cs 32 4 (rvals ss) true), .cells b64 [.bool true, iQ (1 + aroundI (aroundI v.x12 6) 16), iQ (1 + aroundI (aroundI v.x13 6) 16), sL r52 n53 n53, iQ (aroundI v.x4 24 - 6), iQ (aroundI v.x5 24 - 6), iQ (1 + aroundI v.x6 3), iQ (aroundI v.x7 256), iQ v.x8, iQ v.x9, iQ v.x10, iQ v.x11, .slice none 0 0, .string ⟨#[]⟩] 87 true, oE r52 n53 n53 52 1 (cV (goodP n53 v.x14 n53)), .cells b51 [.bool true, iQ (1 + aroundI (aroundI v.x12 6) 16), iQ (1 + aroundI (aroundI v.x13 6) 16), sL r52 n53 n53, iQ (aroundI v.x4 24 - 6), iQ (aroundI v.x5 24 - 6), iQ (1 + aroundI v.x6 3), iQ (aroundI v.x7 256), iQ v.x8, iQ v.x9, iQ v.x10, iQ v.x11] 82 true, rD (v.A15) v.g15 v.o15 v.m15 4 (rvals v.x15), rD (v.A14) v.g14 v.o14 v.m14 1 (cV v.x14), rD (v.A3) v.g3 v.o3 v.m3 1 (cV v.x3), .gen (bunO i (TS.pxs ts)), .gen (bunO i (TS.ops ts)), .gen (rowE (Ao) gw i co 87 14 (dvals TS.cells ts) true), rD (A) g o n 16 (dvals V17.cells xs), sB3 n xs, sB14 n xs, sB15 n xs] ?_
          refine cont_fact (F := (0 < k74 → (A72 : Option Addr) = some ⟨g73, 0, none⟩) ∧ (smallL v.x15 3).length = k74 ∧ k74 ≤ cp75 ∧ cp75 ≤ maxLen) (fun w hT => Row.factsR (hT.ok 0 _ rfl)) (fun hr77_ => ?_)
          obtain ⟨hr77_a, hr77_l, hr77_c, hr77_m⟩ := hr77_
          unfold maxLen at hr77_m
          have hsl78_ := smallL_length v.x15 3
          refine dNx 1 [] (by kernel_rfl) ?_
          refine dOn 20 1 rfl (by kernel_rfl) ?_
          refine call_pure (d := 87) (.bool (hasL (smallL v.x15 3) (((k : Nat) : Int) % (1 + aroundI (aroundI v.x12 6) 16)) (((k : Nat) : Int) / (1 + aroundI (aroundI v.x12 6) 16)))) (by kernel_rfl) (fun w hT => refHasL A72 g73 0 k74 cp75 (smallL v.x15 3) (((k : Nat) : Int) % (1 + aroundI (aroundI v.x12 6) 16)) (((k : Nat) : Int) / (1 + aroundI (aroundI v.x12 6) 16)) w (hT.viewRo (.cons (i := 0) rfl Vw.rowRd .nil) rfl) (by omega)) ?_
          refine dNx 1 [] (by kernel_rfl) ?_
          refine tD 1 [] [(21, 0)] 0 [21, 20, 9, 19, 14, 18, 13, 8, 17, 12, 7, 6, 16, 15, 11, 10, 5, 4, 3, 2, 1, 0] [(88, .bool (hasL (smallL v.x15 3) (((k : Nat) : Int) % (1 + aroundI (aroundI v.x12 6) 16)) (((k : Nat) : Int) / (1 + aroundI (aroundI v.x12 6) 16))))] [] ?_
          refine drawn_done (by kernel_rfl) ?_
          refine tNo ?_
          refine cSp 88 (hasL (smallL v.x15 3) (((k : Nat) : Int) % (1 + aroundI (aroundI v.x12 6) 16)) (((k : Nat) : Int) / (1 + aroundI (aroundI v.x12 6) 16))) rfl (fun c79_ => ?_) (fun c79_ => ?_)
          ·
            refine cRc 87 (.bool (hasL (smallL v.x15 3) (((k : Nat) : Int) % (1 + aroundI (aroundI v.x12 6) 16)) (((k : Nat) : Int) / (1 + aroundI (aroundI v.x12 6) 16)))) (.bool true) rfl (congrArg Value.bool c79_) ?_
            refine cTr rfl <| drawn_enter 27 [2] rfl (by kernel_rfl) ?_
            refine tD 0 [2] [(0, 0), (1, 0), (2, 0), (6, 0), (7, 0), (11, 0), (12, 0), (17, 0), (18, 0), (3, 0), (8, 0), (13, 0), (19, 0), (4, 5), (9, 5), (14, 5), (20, 5)] 10 [20, 14, 9, 4, 19, 13, 8, 3, 18, 17, 12, 11, 7, 6, 2, 1, 0] [(89, .slice As ns cs), (90, iQ ((k : Nat) : Int)), (93, iQ (1 + aroundI (aroundI v.x12 6) 16)), (95, iQ ((k : Nat) : Int)), (98, iQ (1 + aroundI (aroundI v.x12 6) 16)), (100, iQ ((k : Nat) : Int)), (103, iQ (1 + aroundI (aroundI v.x12 6) 16)), (106, iQ ((k : Nat) : Int)), (109, iQ (1 + aroundI (aroundI v.x12 6) 16))] [91, 92, 96, 97, 101, 102, 107, 108] ?_
            refine sT 0 [2] 5 9 94 (bopS .rem 3 (.tmp 90) (.tmp 93) (iQ ((k : Nat) : Int)) (iQ (1 + aroundI (aroundI v.x12 6) 16))) (iQ (((k : Nat) : Int).tmod (1 + aroundI (aroundI v.x12 6) 16))) (fun w hT => run_rem (by omega) w) ?_
            refine cRc 94 (iQ (((k : Nat) : Int).tmod (1 + aroundI (aroundI v.x12 6) 16))) (iQ (((k : Nat) : Int) % (1 + aroundI (aroundI v.x12 6) 16))) rfl (tmodI (by omega)) ?_
            refine sT 0 [2] 10 8 99 (bopS .quo 3 (.tmp 95) (.tmp 98) (iQ ((k : Nat) : Int)) (iQ (1 + aroundI (aroundI v.x12 6) 16))) (iQ (IntKind.i64.wrap (((k : Nat) : Int).tdiv (1 + aroundI (aroundI v.x12 6) 16)))) (fun w hT => run_quo (by omega) w) ?_
            refine cRc 99 (iQ (IntKind.i64.wrap (((k : Nat) : Int).tdiv (1 + aroundI (aroundI v.x12 6) 16)))) (iQ (((k : Nat) : Int) / (1 + aroundI (aroundI v.x12 6) 16))) rfl (tdivI (by omega) (by omega) (by omega)) ?_
            refine sT 0 [2] 15 7 104 (bopS .rem 3 (.tmp 100) (.tmp 103) (iQ ((k : Nat) : Int)) (iQ (1 + aroundI (aroundI v.x12 6) 16))) (iQ (((k : Nat) : Int).tmod (1 + aroundI (aroundI v.x12 6) 16))) (fun w hT => run_rem (by omega) w) ?_
            refine cRc 104 (iQ (((k : Nat) : Int).tmod (1 + aroundI (aroundI v.x12 6) 16))) (iQ (((k : Nat) : Int) % (1 + aroundI (aroundI v.x12 6) 16))) rfl (tmodI (by omega)) ?_
            refine tD 0 [2] [(16, 0)] 6 [16, 15, 10, 5, 20, 14, 9, 4, 19, 13, 8, 3, 18, 17, 12, 11, 7, 6, 2, 1, 0] [(105, iQ (IntKind.i64.wrap ((((k : Nat) : Int) % (1 + aroundI (aroundI v.x12 6) 16)) + 1)))] [] ?_
            refine cRc 105 (iQ (IntKind.i64.wrap ((((k : Nat) : Int) % (1 + aroundI (aroundI v.x12 6) 16)) + 1))) (iQ ((((k : Nat) : Int) % (1 + aroundI (aroundI v.x12 6) 16)) + 1)) rfl (wrapI (by omega) (by omega)) ?_
            refine sT 0 [2] 21 5 110 (bopS .quo 3 (.tmp 106) (.tmp 109) (iQ ((k : Nat) : Int)) (iQ (1 + aroundI (aroundI v.x12 6) 16))) (iQ (IntKind.i64.wrap (((k : Nat) : Int).tdiv (1 + aroundI (aroundI v.x12 6) 16)))) (fun w hT => run_quo (by omega) w) ?_
            refine cRc 110 (iQ (IntKind.i64.wrap (((k : Nat) : Int).tdiv (1 + aroundI (aroundI v.x12 6) 16)))) (iQ (((k : Nat) : Int) / (1 + aroundI (aroundI v.x12 6) 16))) rfl (tdivI (by omega) (by omega) (by omega)) ?_
            refine tD 0 [2] [(22, 0)] 4 [22, 21, 16, 15, 10, 5, 20, 14, 9, 4, 19, 13, 8, 3, 18, 17, 12, 11, 7, 6, 2, 1, 0] [(111, iQ (IntKind.i64.wrap ((((k : Nat) : Int) / (1 + aroundI (aroundI v.x12 6) 16)) + 1)))] [] ?_
            refine cRc 111 (iQ (IntKind.i64.wrap ((((k : Nat) : Int) / (1 + aroundI (aroundI v.x12 6) 16)) + 1))) (iQ ((((k : Nat) : Int) / (1 + aroundI (aroundI v.x12 6) 16)) + 1)) rfl (wrapI (by omega) (by omega)) ?_
            refine tD 0 [2] [(23, 0)] 3 [23, 22, 21, 16, 15, 10, 5, 20, 14, 9, 4, 19, 13, 8, 3, 18, 17, 12, 11, 7, 6, 2, 1, 0] [(112, .agg #[iQ (((k : Nat) : Int) % (1 + aroundI (aroundI v.x12 6) 16)), iQ (((k : Nat) : Int) / (1 + aroundI (aroundI v.x12 6) 16)), iQ ((((k : Nat) : Int) % (1 + aroundI (aroundI v.x12 6) 16)) + 1), iQ ((((k : Nat) : Int) / (1 + aroundI (aroundI v.x12 6) 16)) + 1)])] [] ?_
            refine dOn 24 2 rfl (by kernel_rfl) ?_
            refine one_step1 0 (fun b80 => [(0, .slice A n cap), (3, .slice Ao i co), (4, iQ (i : Int)), (5, pT b51), (6, pT b64), (7, .slice As ns cs), (8, iQ ((k : Nat) : Int)), (15, iQ (i : Int)), (16, .bool true), (71, .slice (some ⟨g, o, none⟩) n cap), (72, iQ (i : Int)), (73, .pointer (some ⟨g, o + i * 16, none⟩)), (74, .pointer (some ⟨g, o + i * 16 + 15, none⟩)), (75, .slice v.A15 v.m15 v.k15), (76, .slice A72 k74 cp75), (77, iQ ((k : Nat) : Int)), (78, .pointer (some ⟨b51, 1, none⟩)), (79, .pointer (some ⟨b51, 1, none⟩)), (80, iQ (1 + aroundI (aroundI v.x12 6) 16)), (81, iQ (((k : Nat) : Int) % (1 + aroundI (aroundI v.x12 6) 16))), (82, iQ ((k : Nat) : Int)), (83, .pointer (some ⟨b51, 1, none⟩)), (84, .pointer (some ⟨b51, 1, none⟩)), (85, iQ (1 + aroundI (aroundI v.x12 6) 16)), (86, iQ (((k : Nat) : Int) / (1 + aroundI (aroundI v.x12 6) 16))), (87, .bool true), (89, .slice As ns cs), (113, sL b80 1 1)]) (fun b80 => [.cells b80 [iQ (((k : Nat) : Int) % (1 + aroundI (aroundI v.x12 6) 16)), iQ (((k : Nat) : Int) / (1 + aroundI (aroundI v.x12 6) 16)), iQ ((((k : Nat) : Int) % (1 + aroundI (aroundI v.x12 6) 16)) + 1), iQ ((((k : Nat) : Int) / (1 + aroundI (aroundI v.x12 6) 16)) + 1)] 32 true, .gen (rowE (A72) g73 k74 cp75 32 4 (rvals (smallL v.x15 3)) true), .cells b69 [iQ (pa ((goodP n53 v.x14 n53).getD (k : Nat) 0)), iQ (pr ((goodP n53 v.x14 n53).getD (k : Nat) 0)), iQ (pg ((goodP n53 v.x14 n53).getD (k : Nat) 0)), iQ (pb ((goodP n53 v.x14 n53).getD (k : Nat) 0))] 53 true, .gen (rowE (As) gs ns cs 32 4 (rvals ss) true), .cells b64 [.bool true, iQ (1 + aroundI (aroundI v.x12 6) 16), iQ (1 + aroundI (aroundI v.x13 6) 16), sL r52 n53 n53, iQ (aroundI v.x4 24 - 6), iQ (aroundI v.x5 24 - 6), iQ (1 + aroundI v.x6 3), iQ (aroundI v.x7 256), iQ v.x8, iQ v.x9, iQ v.x10, iQ v.x11, .slice none 0 0, .string ⟨#[]⟩] 87 true, oE r52 n53 n53 52 1 (cV (goodP n53 v.x14 n53)), .cells b51 [.bool true, iQ (1 + aroundI (aroundI v.x12 6) 16), iQ (1 + aroundI (aroundI v.x13 6) 16), sL r52 n53 n53, iQ (aroundI v.x4 24 - 6), iQ (aroundI v.x5 24 - 6), iQ (1 + aroundI v.x6 3), iQ (aroundI v.x7 256), iQ v.x8, iQ v.x9, iQ v.x10, iQ v.x11] 82 true, rD (v.A15) v.g15 v.o15 v.m15 4 (rvals v.x15), rD (v.A14) v.g14 v.o14 v.m14 1 (cV v.x14), rD (v.A3) v.g3 v.o3 v.m3 1 (cV v.x3), .gen (bunO i (TS.pxs ts)), .gen (bunO i (TS.ops ts)), .gen (rowE (Ao) gw i co 87 14 (dvals TS.cells ts) true), rD (A) g o n 16 (dvals V17.cells xs), sB3 n xs, sB14 n xs, sB15 n xs]) (fun b80 => by kernel_rfl) (fun b80 => by kernel_rfl) (fun b80 => ?_)
            refine dNx 1 [2] (by kernel_rfl) ?_
            refine dOn 25 1 rfl (by kernel_rfl) ?_
            refine sSW (α := Option Addr × Nat × Nat) 114 (Builtin.append_ #[23, 23] 23 #[.slice As ns cs, sL b80 1 1]) (fun x_ => .slice x_.1 (ns + 1) x_.2.2) (fun x_ => [.cells b80 [iQ (((k : Nat) : Int) % (1 + aroundI (aroundI v.x12 6) 16)), iQ (((k : Nat) : Int) / (1 + aroundI (aroundI v.x12 6) 16)), iQ ((((k : Nat) : Int) % (1 + aroundI (aroundI v.x12 6) 16)) + 1), iQ ((((k : Nat) : Int) / (1 + aroundI (aroundI v.x12 6) 16)) + 1)] 32 true, .gen (rowE (A72) g73 k74 cp75 32 4 (rvals (smallL v.x15 3)) true), .cells b69 [iQ (pa ((goodP n53 v.x14 n53).getD (k : Nat) 0)), iQ (pr ((goodP n53 v.x14 n53).getD (k : Nat) 0)), iQ (pg ((goodP n53 v.x14 n53).getD (k : Nat) 0)), iQ (pb ((goodP n53 v.x14 n53).getD (k : Nat) 0))] 53 true, .gen (rowE (x_.1) x_.2.1 (ns + 1) x_.2.2 32 4 (rvals (ss ++ [(⟨((k : Nat) : Int) % (1 + aroundI (aroundI v.x12 6) 16), ((k : Nat) : Int) / (1 + aroundI (aroundI v.x12 6) 16), (((k : Nat) : Int) % (1 + aroundI (aroundI v.x12 6) 16)) + 1, (((k : Nat) : Int) / (1 + aroundI (aroundI v.x12 6) 16)) + 1⟩ : Rect)])) true), .cells b64 [.bool true, iQ (1 + aroundI (aroundI v.x12 6) 16), iQ (1 + aroundI (aroundI v.x13 6) 16), sL r52 n53 n53, iQ (aroundI v.x4 24 - 6), iQ (aroundI v.x5 24 - 6), iQ (1 + aroundI v.x6 3), iQ (aroundI v.x7 256), iQ v.x8, iQ v.x9, iQ v.x10, iQ v.x11, .slice none 0 0, .string ⟨#[]⟩] 87 true, oE r52 n53 n53 52 1 (cV (goodP n53 v.x14 n53)), .cells b51 [.bool true, iQ (1 + aroundI (aroundI v.x12 6) 16), iQ (1 + aroundI (aroundI v.x13 6) 16), sL r52 n53 n53, iQ (aroundI v.x4 24 - 6), iQ (aroundI v.x5 24 - 6), iQ (1 + aroundI v.x6 3), iQ (aroundI v.x7 256), iQ v.x8, iQ v.x9, iQ v.x10, iQ v.x11] 82 true, rD (v.A15) v.g15 v.o15 v.m15 4 (rvals v.x15), rD (v.A14) v.g14 v.o14 v.m14 1 (cV v.x14), rD (v.A3) v.g3 v.o3 v.m3 1 (cV v.x3), .gen (bunO i (TS.pxs ts)), .gen (bunO i (TS.ops ts)), .gen (rowE (Ao) gw i co 87 14 (dvals TS.cells ts) true), rD (A) g o n 16 (dvals V17.cells xs), sB3 n xs, sB14 n xs, sB15 n xs]) (fun _ => True) (by kernel_rfl) (fun w hT => append_own (n' := (ns + 1)) (z := .agg #[iQ 0, iQ 0, iQ 0, iQ 0]) hT (i := 3) (bytes := 32) rfl (by kernel_rfl) (by kernel_rfl) rfl (by decide) (by decide) (Rd.ofCells (vals := rvals [(⟨((k : Nat) : Int) % (1 + aroundI (aroundI v.x12 6) 16), ((k : Nat) : Int) / (1 + aroundI (aroundI v.x12 6) 16), (((k : Nat) : Int) % (1 + aroundI (aroundI v.x12 6) 16)) + 1, (((k : Nat) : Int) / (1 + aroundI (aroundI v.x12 6) 16)) + 1⟩ : Rect)]) (hT.ok 0 _ rfl) rfl rfl) (rvals_one [(⟨((k : Nat) : Int) % (1 + aroundI (aroundI v.x12 6) 16), ((k : Nat) : Int) / (1 + aroundI (aroundI v.x12 6) 16), (((k : Nat) : Int) % (1 + aroundI (aroundI v.x12 6) 16)) + 1, (((k : Nat) : Int) / (1 + aroundI (aroundI v.x12 6) 16)) + 1⟩ : Rect)]) (by omega) (rvals_append ss [(⟨((k : Nat) : Int) % (1 + aroundI (aroundI v.x12 6) 16), ((k : Nat) : Int) / (1 + aroundI (aroundI v.x12 6) 16), (((k : Nat) : Int) % (1 + aroundI (aroundI v.x12 6) 16)) + 1, (((k : Nat) : Int) / (1 + aroundI (aroundI v.x12 6) 16)) + 1⟩ : Rect)]) rfl) ?_
            rintro ⟨A81, g81, cp81⟩ -
            refine cN [.cells b80 [iQ (((k : Nat) : Int) % (1 + aroundI (aroundI v.x12 6) 16)), iQ (((k : Nat) : Int) / (1 + aroundI (aroundI v.x12 6) 16)), iQ ((((k : Nat) : Int) % (1 + aroundI (aroundI v.x12 6) 16)) + 1), iQ ((((k : Nat) : Int) / (1 + aroundI (aroundI v.x12 6) 16)) + 1)] 32 true, .gen (rowE (A72) g73 k74 cp75 32 4 (rvals (smallL v.x15 3)) true), .cells b69 [iQ (pa ((goodP n53 v.x14 n53).getD (k : Nat) 0)), iQ (pr ((goodP n53 v.x14 n53).getD (k : Nat) 0)), iQ (pg ((goodP n53 v.x14 n53).getD (k : Nat) 0)), iQ (pb ((goodP n53 v.x14 n53).getD (k : Nat) 0))] 53 true, .gen (rowE (A81) g81 (ns + 1) cp81 32 4 (rvals (ss ++ [(⟨((k : Nat) : Int) % (1 + aroundI (aroundI v.x12 6) 16), ((k : Nat) : Int) / (1 + aroundI (aroundI v.x12 6) 16), (((k : Nat) : Int) % (1 + aroundI (aroundI v.x12 6) 16)) + 1, (((k : Nat) : Int) / (1 + aroundI (aroundI v.x12 6) 16)) + 1⟩ : Rect)])) true), .cells b64 [.bool true, iQ (1 + aroundI (aroundI v.x12 6) 16), iQ (1 + aroundI (aroundI v.x13 6) 16), sL r52 n53 n53, iQ (aroundI v.x4 24 - 6), iQ (aroundI v.x5 24 - 6), iQ (1 + aroundI v.x6 3), iQ (aroundI v.x7 256), iQ v.x8, iQ v.x9, iQ v.x10, iQ v.x11, .slice none 0 0, .string ⟨#[]⟩] 87 true, oE r52 n53 n53 52 1 (cV (goodP n53 v.x14 n53)), .cells b51 [.bool true, iQ (1 + aroundI (aroundI v.x12 6) 16), iQ (1 + aroundI (aroundI v.x13 6) 16), sL r52 n53 n53, iQ (aroundI v.x4 24 - 6), iQ (aroundI v.x5 24 - 6), iQ (1 + aroundI v.x6 3), iQ (aroundI v.x7 256), iQ v.x8, iQ v.x9, iQ v.x10, iQ v.x11] 82 true, rD (v.A15) v.g15 v.o15 v.m15 4 (rvals v.x15), rD (v.A14) v.g14 v.o14 v.m14 1 (cV v.x14), rD (v.A3) v.g3 v.o3 v.m3 1 (cV v.x3), .gen (bunO i (TS.pxs ts)), .gen (bunO i (TS.ops ts)), .gen (rowE (Ao) gw i co 87 14 (dvals TS.cells ts) true), rD (A) g o n 16 (dvals V17.cells xs), sB3 n xs, sB14 n xs, sB15 n xs] ?_
            refine cont_fact (F := (0 < (ns + 1) → (A81 : Option Addr) = some ⟨g81, 0, none⟩) ∧ (ss ++ [(⟨((k : Nat) : Int) % (1 + aroundI (aroundI v.x12 6) 16), ((k : Nat) : Int) / (1 + aroundI (aroundI v.x12 6) 16), (((k : Nat) : Int) % (1 + aroundI (aroundI v.x12 6) 16)) + 1, (((k : Nat) : Int) / (1 + aroundI (aroundI v.x12 6) 16)) + 1⟩ : Rect)]).length = (ns + 1) ∧ (ns + 1) ≤ cp81 ∧ cp81 ≤ maxLen) (fun w hT => Row.factsR (hT.ok 3 _ rfl)) (fun hr82_ => ?_)
            obtain ⟨hr82_a, hr82_l, hr82_c, hr82_m⟩ := hr82_
            unfold maxLen at hr82_m
            refine dNx 1 [2] (by kernel_rfl) ?_
            refine tK 1 [2] [(26, 0)] 0 [26, 25, 24, 23, 22, 21, 16, 15, 10, 5, 20, 14, 9, 4, 19, 13, 8, 3, 18, 17, 12, 11, 7, 6, 2, 1, 0] [(0, .slice A n cap), (3, .slice Ao i co), (4, iQ (i : Int)), (5, pT b51), (6, pT b64), (7, .slice A81 (ns + 1) cp81), (8, iQ ((k : Nat) : Int)), (15, iQ (i : Int)), (16, .bool true), (71, .slice (some ⟨g, o, none⟩) n cap), (72, iQ (i : Int)), (73, .pointer (some ⟨g, o + i * 16, none⟩)), (74, .pointer (some ⟨g, o + i * 16 + 15, none⟩)), (75, .slice v.A15 v.m15 v.k15), (76, .slice A72 k74 cp75), (77, iQ ((k : Nat) : Int)), (78, .pointer (some ⟨b51, 1, none⟩)), (79, .pointer (some ⟨b51, 1, none⟩)), (80, iQ (1 + aroundI (aroundI v.x12 6) 16)), (81, iQ (((k : Nat) : Int) % (1 + aroundI (aroundI v.x12 6) 16))), (82, iQ ((k : Nat) : Int)), (83, .pointer (some ⟨b51, 1, none⟩)), (84, .pointer (some ⟨b51, 1, none⟩)), (85, iQ (1 + aroundI (aroundI v.x12 6) 16)), (86, iQ (((k : Nat) : Int) / (1 + aroundI (aroundI v.x12 6) 16))), (87, .bool true)] ?_
            refine drawn_done (by kernel_rfl) ?_
            refine blk_normal <| tNo <| cRg 3 rfl <| bS [0, 0] 2 1 [(0, .slice A n cap), (3, .slice Ao i co), (4, iQ (i : Int)), (5, pT b51), (6, pT b64), (7, .slice A81 (ns + 1) cp81), (15, iQ (i : Int)), (16, .bool true), (59, iQ (IntKind.i64.wrap (((k : Nat) : Int) + 1))), (71, .slice (some ⟨g, o, none⟩) n cap), (72, iQ (i : Int)), (73, .pointer (some ⟨g, o + i * 16, none⟩)), (74, .pointer (some ⟨g, o + i * 16 + 15, none⟩)), (75, .slice v.A15 v.m15 v.k15), (76, .slice A72 k74 cp75), (77, iQ ((k : Nat) : Int)), (78, .pointer (some ⟨b51, 1, none⟩)), (79, .pointer (some ⟨b51, 1, none⟩)), (80, iQ (1 + aroundI (aroundI v.x12 6) 16)), (81, iQ (((k : Nat) : Int) % (1 + aroundI (aroundI v.x12 6) 16))), (82, iQ ((k : Nat) : Int)), (83, .pointer (some ⟨b51, 1, none⟩)), (84, .pointer (some ⟨b51, 1, none⟩)), (85, iQ (1 + aroundI (aroundI v.x12 6) 16)), (86, iQ (((k : Nat) : Int) / (1 + aroundI (aroundI v.x12 6) 16))), (87, .bool true)] ?_
            refine cRc 59 (iQ (IntKind.i64.wrap (((k : Nat) : Int) + 1))) (iQ (((k : Nat) : Int) + 1)) rfl (wrapI (by omega) (by omega)) ?_
            refine cFg 0 rfl <| cFg 1 rfl <| bD [0] 3 0 [(8, iQ (((k : Nat) : Int) + 1))] [] ?_
            refine cDn <| tNo <| cFg 0 rfl ?_
            refine cont_again (k + 1, ss ++ [(⟨((k : Nat) : Int) % (1 + aroundI (aroundI v.x12 6) 16), ((k : Nat) : Int) / (1 + aroundI (aroundI v.x12 6) 16), (((k : Nat) : Int) % (1 + aroundI (aroundI v.x12 6) 16)) + 1, (((k : Nat) : Int) / (1 + aroundI (aroundI v.x12 6) 16)) + 1⟩ : Rect)], A81, g81, (ns + 1), cp81) (show (k + 1) ≤ n53 ∧ ((ns + 1)) ≤ (k + 1) ∧ ∀ r ∈ (ss ++ [(⟨((k : Nat) : Int) % (1 + aroundI (aroundI v.x12 6) 16), ((k : Nat) : Int) / (1 + aroundI (aroundI v.x12 6) 16), (((k : Nat) : Int) % (1 + aroundI (aroundI v.x12 6) 16)) + 1, (((k : Nat) : Int) / (1 + aroundI (aroundI v.x12 6) 16)) + 1⟩ : Rect)]), SolR (1 + aroundI (aroundI v.x12 6) 16) (goodP n53 v.x14 n53) r from ⟨by omega, by omega, fun r_ hr_ => by rcases List.mem_append.1 hr_ with h_ | h_; exact hss r_ h_; rw [List.mem_singleton.1 h_]; exact ⟨k, by omega, rfl, hpk⟩⟩) (show n53 - (k + 1) < n53 - k from by omega) (by kernel_rfl) (by kernel_rfl)
          refine cRc 87 (.bool (hasL (smallL v.x15 3) (((k : Nat) : Int) % (1 + aroundI (aroundI v.x12 6) 16)) (((k : Nat) : Int) / (1 + aroundI (aroundI v.x12 6) 16)))) (.bool false) rfl (congrArg Value.bool c79_) ?_
          refine cFa rfl <| cont_skip <| blk_normal <| tNo <| cRg 3 rfl <| bD [0, 0] 2 1 [(59, iQ (IntKind.i64.wrap (((k : Nat) : Int) + 1)))] [58] ?_
          refine cRc 59 (iQ (IntKind.i64.wrap (((k : Nat) : Int) + 1))) (iQ (((k : Nat) : Int) + 1)) rfl (wrapI (by omega) (by omega)) ?_
          refine cFg 1 rfl <| bD [0] 3 0 [(8, iQ (((k : Nat) : Int) + 1))] [] ?_
          refine cDn <| tNo <| cFg 0 rfl ?_
          refine cont_again (k + 1, ss, As, gs, ns, cs) (show (k + 1) ≤ n53 ∧ (ns) ≤ (k + 1) ∧ ∀ r ∈ (ss), SolR (1 + aroundI (aroundI v.x12 6) 16) (goodP n53 v.x14 n53) r from ⟨by omega, by omega, hss⟩) (show n53 - (k + 1) < n53 - k from by omega) (by kernel_rfl) (by kernel_rfl)
        replace c70_ := ne_of_beqf c70_
        refine tD 0 [] [(4, 0), (5, 0), (10, 0), (11, 0), (15, 0), (16, 0), (6, 0), (12, 0), (17, 0), (7, 0), (13, 0), (18, 0), (8, 0), (14, 0), (19, 0)] 3 [19, 14, 8, 18, 13, 7, 17, 12, 6, 16, 15, 11, 10, 5, 4, 3, 2, 1, 0] [(71, undef), (72, undef), (73, undef), (74, undef), (75, undef), (77, undef), (78, undef), (79, undef), (80, undef), (81, undef), (82, undef), (83, undef), (84, undef), (85, undef), (86, undef)] [] ?_
        refine dOn 9 2 rfl (by kernel_rfl) ?_
        refine oS 0 [(0, .slice A n cap), (3, .slice Ao i co), (4, iQ (i : Int)), (5, pT b51), (6, pT b64), (7, .slice As ns cs), (8, iQ ((k : Nat) : Int)), (15, iQ (i : Int)), (16, .bool true), (70, .bool false), (71, undef), (72, undef), (73, undef), (74, undef), (75, undef), (76, undef), (77, undef), (78, undef), (79, undef), (80, undef), (81, undef), (82, undef), (83, undef), (84, undef), (85, undef), (86, undef)] [.cells b69 [iQ (pa ((goodP n53 v.x14 n53).getD (k : Nat) 0)), iQ (pr ((goodP n53 v.x14 n53).getD (k : Nat) 0)), iQ (pg ((goodP n53 v.x14 n53).getD (k : Nat) 0)), iQ (pb ((goodP n53 v.x14 n53).getD (k : Nat) 0))] 53 true, .gen (rowE (As) gs ns cs 32 4 (rvals ss) true), .cells b64 [.bool true, iQ (1 + aroundI (aroundI v.x12 6) 16), iQ (1 + aroundI (aroundI v.x13 6) 16), sL r52 n53 n53, iQ (aroundI v.x4 24 - 6), iQ (aroundI v.x5 24 - 6), iQ (1 + aroundI v.x6 3), iQ (aroundI v.x7 256), iQ v.x8, iQ v.x9, iQ v.x10, iQ v.x11, .slice none 0 0, .string ⟨#[]⟩] 87 true, oE r52 n53 n53 52 1 (cV (goodP n53 v.x14 n53)), .cells b51 [.bool true, iQ (1 + aroundI (aroundI v.x12 6) 16), iQ (1 + aroundI (aroundI v.x13 6) 16), sL r52 n53 n53, iQ (aroundI v.x4 24 - 6), iQ (aroundI v.x5 24 - 6), iQ (1 + aroundI v.x6 3), iQ (aroundI v.x7 256), iQ v.x8, iQ v.x9, iQ v.x10, iQ v.x11] 82 true, rD (v.A15) v.g15 v.o15 v.m15 4 (rvals v.x15), rD (v.A14) v.g14 v.o14 v.m14 1 (cV v.x14), rD (v.A3) v.g3 v.o3 v.m3 1 (cV v.x3), .gen (bunO i (TS.pxs ts)), .gen (bunO i (TS.ops ts)), .gen (rowE (Ao) gw i co 87 14 (dvals TS.cells ts) true), rD (A) g o n 16 (dvals V17.cells xs), sB3 n xs, sB14 n xs, sB15 n xs] ?_
        refine dNx 0 [] (by kernel_rfl) ?_
        refine dOn 20 1 rfl (by kernel_rfl) ?_
        refine oS 0 [(0, .slice A n cap), (3, .slice Ao i co), (4, iQ (i : Int)), (5, pT b51), (6, pT b64), (7, .slice As ns cs), (8, iQ ((k : Nat) : Int)), (15, iQ (i : Int)), (16, .bool true), (70, .bool false), (71, undef), (72, undef), (73, undef), (74, undef), (75, undef), (76, undef), (77, undef), (78, undef), (79, undef), (80, undef), (81, undef), (82, undef), (83, undef), (84, undef), (85, undef), (86, undef), (87, undef)] [.cells b69 [iQ (pa ((goodP n53 v.x14 n53).getD (k : Nat) 0)), iQ (pr ((goodP n53 v.x14 n53).getD (k : Nat) 0)), iQ (pg ((goodP n53 v.x14 n53).getD (k : Nat) 0)), iQ (pb ((goodP n53 v.x14 n53).getD (k : Nat) 0))] 53 true, .gen (rowE (As) gs ns cs 32 4 (rvals ss) true), .cells b64 [.bool true, iQ (1 + aroundI (aroundI v.x12 6) 16), iQ (1 + aroundI (aroundI v.x13 6) 16), sL r52 n53 n53, iQ (aroundI v.x4 24 - 6), iQ (aroundI v.x5 24 - 6), iQ (1 + aroundI v.x6 3), iQ (aroundI v.x7 256), iQ v.x8, iQ v.x9, iQ v.x10, iQ v.x11, .slice none 0 0, .string ⟨#[]⟩] 87 true, oE r52 n53 n53 52 1 (cV (goodP n53 v.x14 n53)), .cells b51 [.bool true, iQ (1 + aroundI (aroundI v.x12 6) 16), iQ (1 + aroundI (aroundI v.x13 6) 16), sL r52 n53 n53, iQ (aroundI v.x4 24 - 6), iQ (aroundI v.x5 24 - 6), iQ (1 + aroundI v.x6 3), iQ (aroundI v.x7 256), iQ v.x8, iQ v.x9, iQ v.x10, iQ v.x11] 82 true, rD (v.A15) v.g15 v.o15 v.m15 4 (rvals v.x15), rD (v.A14) v.g14 v.o14 v.m14 1 (cV v.x14), rD (v.A3) v.g3 v.o3 v.m3 1 (cV v.x3), .gen (bunO i (TS.pxs ts)), .gen (bunO i (TS.ops ts)), .gen (rowE (Ao) gw i co 87 14 (dvals TS.cells ts) true), rD (A) g o n 16 (dvals V17.cells xs), sB3 n xs, sB14 n xs, sB15 n xs] ?_
        refine dNx 0 [] (by kernel_rfl) ?_
        refine tD 0 [] [(21, 0)] 0 [21, 20, 9, 19, 14, 8, 18, 13, 7, 17, 12, 6, 16, 15, 11, 10, 5, 4, 3, 2, 1, 0] [(88, .bool false)] [] ?_
        refine drawn_done (by kernel_rfl) ?_
        refine tNo <| cFa rfl <| cont_skip <| blk_normal <| tNo <| cRg 3 rfl <| bD [0, 0] 2 1 [(59, iQ (IntKind.i64.wrap (((k : Nat) : Int) + 1)))] [58] ?_
        refine cRc 59 (iQ (IntKind.i64.wrap (((k : Nat) : Int) + 1))) (iQ (((k : Nat) : Int) + 1)) rfl (wrapI (by omega) (by omega)) ?_
        refine cFg 0 rfl <| bD [0] 3 0 [(8, iQ (((k : Nat) : Int) + 1))] [] ?_
        refine cDn <| tNo ?_
        refine cont_again (k + 1, ss, As, gs, ns, cs) (show (k + 1) ≤ n53 ∧ (ns) ≤ (k + 1) ∧ ∀ r ∈ (ss), SolR (1 + aroundI (aroundI v.x12 6) 16) (goodP n53 v.x14 n53) r from ⟨by omega, by omega, hss⟩) (show n53 - (k + 1) < n53 - k from by omega) (by kernel_rfl) (by kernel_rfl)
      replace c67_ := of_decide_eq_false c67_
      refine cFa rfl <| cont_exit <| then_exit <| then_exit <| blk_exit <| tNo <| cSq <| cRg 4 rfl ?_
      refine cont_fact (F := (0 < ns → (As : Option Addr) = some ⟨gs, 0, none⟩) ∧ ss.length = ns ∧ ns ≤ cs ∧ cs ≤ maxLen) (fun w hT => Row.factsR (hT.ok 0 _ rfl)) (fun hr83_ => ?_)
      obtain ⟨hr83_a, hr83_l, hr83_c, hr83_m⟩ := hr83_
      unfold maxLen at hr83_m
      have hrs := hr83_a
      refine bD [0] 1 3 [(115, .slice As ns cs)] [] ?_
      refine cFg 3 rfl <| pSt 2 2 rfl rfl <| call_gen (d := 116) (α := Option Addr × Nat × Nat × Nat) (fun x_ => .slice x_.1 x_.2.2.1 x_.2.2.2) (fun x_ => [.gen (rowE (x_.1) x_.2.1 x_.2.2.1 x_.2.2.2 32 4 (rvals (canR ss)) true), .gen (rowE (As) gs ns cs 32 4 (rvals ss) true), .cells b64 [.bool true, iQ (1 + aroundI (aroundI v.x12 6) 16), iQ (1 + aroundI (aroundI v.x13 6) 16), sL r52 n53 n53, iQ (aroundI v.x4 24 - 6), iQ (aroundI v.x5 24 - 6), iQ (1 + aroundI v.x6 3), iQ (aroundI v.x7 256), iQ v.x8, iQ v.x9, iQ v.x10, iQ v.x11, .slice none 0 0, .string ⟨#[]⟩] 87 true, oE r52 n53 n53 52 1 (cV (goodP n53 v.x14 n53)), rD (v.A15) v.g15 v.o15 v.m15 4 (rvals v.x15), rD (v.A14) v.g14 v.o14 v.m14 1 (cV v.x14), rD (v.A3) v.g3 v.o3 v.m3 1 (cV v.x3), .gen (bunO i (TS.pxs ts)), .gen (bunO i (TS.ops ts)), .gen (rowE (Ao) gw i co 87 14 (dvals TS.cells ts) true), rD (A) g o n 16 (dvals V17.cells xs), sB3 n xs, sB14 n xs, sB15 n xs]) (fun x_ => True) (by kernel_rfl) (fun w hT => (refOf As gs 0 ns cs ss w (hT.viewRo (.cons (i := 0) rfl Vw.rowRd .nil) rfl) (by omega)).mono fun e w' ⟨A84, g85, k86, cp87, he_, ht_⟩ => ⟨(A84, g85, k86, cp87), he_, trivial, hT.news ht_ rfl⟩) ?_
      rintro ⟨A84, g85, k86, cp87⟩ hf88_
      refine cN [.gen (rowE (A84) g85 k86 cp87 32 4 (rvals (canR ss)) true), .gen (rowE (As) gs ns cs 32 4 (rvals ss) true), .cells b64 [.bool true, iQ (1 + aroundI (aroundI v.x12 6) 16), iQ (1 + aroundI (aroundI v.x13 6) 16), sL r52 n53 n53, iQ (aroundI v.x4 24 - 6), iQ (aroundI v.x5 24 - 6), iQ (1 + aroundI v.x6 3), iQ (aroundI v.x7 256), iQ v.x8, iQ v.x9, iQ v.x10, iQ v.x11, .slice none 0 0, .string ⟨#[]⟩] 87 true, oE r52 n53 n53 52 1 (cV (goodP n53 v.x14 n53)), rD (v.A15) v.g15 v.o15 v.m15 4 (rvals v.x15), rD (v.A14) v.g14 v.o14 v.m14 1 (cV v.x14), rD (v.A3) v.g3 v.o3 v.m3 1 (cV v.x3), .gen (bunO i (TS.pxs ts)), .gen (bunO i (TS.ops ts)), .gen (rowE (Ao) gw i co 87 14 (dvals TS.cells ts) true), rD (A) g o n 16 (dvals V17.cells xs), sB3 n xs, sB14 n xs, sB15 n xs] ?_
      refine cont_fact (F := (0 < k86 → (A84 : Option Addr) = some ⟨g85, 0, none⟩) ∧ (canR ss).length = k86 ∧ k86 ≤ cp87 ∧ cp87 ≤ maxLen) (fun w hT => Row.factsR (hT.ok 0 _ rfl)) (fun hr89_ => ?_)
      obtain ⟨hr89_a, hr89_l, hr89_c, hr89_m⟩ := hr89_
      unfold maxLen at hr89_m
      refine batch0 [0, 2] 4 0 [(0, .slice A n cap), (3, .slice Ao i co), (4, iQ (i : Int)), (6, pT b64), (15, iQ (i : Int)), (16, .bool true)] [.gen (rowE (A84) g85 k86 cp87 32 4 (rvals (canR ss)) true), .gen (rowE (As) gs ns cs 32 4 (rvals ss) true), .cells b64 [.bool true, iQ (1 + aroundI (aroundI v.x12 6) 16), iQ (1 + aroundI (aroundI v.x13 6) 16), sL r52 n53 n53, iQ (aroundI v.x4 24 - 6), iQ (aroundI v.x5 24 - 6), iQ (1 + aroundI v.x6 3), iQ (aroundI v.x7 256), iQ v.x8, iQ v.x9, iQ v.x10, iQ v.x11, .slice A84 k86 cp87, .string ⟨#[]⟩] 87 true, oE r52 n53 n53 52 1 (cV (goodP n53 v.x14 n53)), rD (v.A15) v.g15 v.o15 v.m15 4 (rvals v.x15), rD (v.A14) v.g14 v.o14 v.m14 1 (cV v.x14), rD (v.A3) v.g3 v.o3 v.m3 1 (cV v.x3), .gen (bunO i (TS.pxs ts)), .gen (bunO i (TS.ops ts)), .gen (rowE (Ao) gw i co 87 14 (dvals TS.cells ts) true), rD (A) g o n 16 (dvals V17.cells xs), sB3 n xs, sB14 n xs, sB15 n xs] rfl rfl (by kernel_rfl) (by kernel_rfl) ?_
      refine cDn <| tNo <| cRg 5 rfl ?_
      refine batch1 [0, 2, 0] 3 2 (fun b90 => [(0, .slice A n cap), (4, iQ (i : Int)), (15, iQ (i : Int)), (16, .bool true), (118, .slice Ao i co), (120, sL b90 1 1)]) (fun b90 => [.cells b90 [.bool true, iQ (1 + aroundI (aroundI v.x12 6) 16), iQ (1 + aroundI (aroundI v.x13 6) 16), sL r52 n53 n53, iQ (aroundI v.x4 24 - 6), iQ (aroundI v.x5 24 - 6), iQ (1 + aroundI v.x6 3), iQ (aroundI v.x7 256), iQ v.x8, iQ v.x9, iQ v.x10, iQ v.x11, .slice A84 k86 cp87, .string ⟨#[]⟩] 87 true, .gen (rowE (A84) g85 k86 cp87 32 4 (rvals (canR ss)) true), .gen (rowE (As) gs ns cs 32 4 (rvals ss) true), .cells b64 [.bool true, iQ (1 + aroundI (aroundI v.x12 6) 16), iQ (1 + aroundI (aroundI v.x13 6) 16), sL r52 n53 n53, iQ (aroundI v.x4 24 - 6), iQ (aroundI v.x5 24 - 6), iQ (1 + aroundI v.x6 3), iQ (aroundI v.x7 256), iQ v.x8, iQ v.x9, iQ v.x10, iQ v.x11, .slice A84 k86 cp87, .string ⟨#[]⟩] 87 true, oE r52 n53 n53 52 1 (cV (goodP n53 v.x14 n53)), rD (v.A15) v.g15 v.o15 v.m15 4 (rvals v.x15), rD (v.A14) v.g14 v.o14 v.m14 1 (cV v.x14), rD (v.A3) v.g3 v.o3 v.m3 1 (cV v.x3), .gen (bunO i (TS.pxs ts)), .gen (bunO i (TS.ops ts)), .gen (rowE (Ao) gw i co 87 14 (dvals TS.cells ts) true), rD (A) g o n 16 (dvals V17.cells xs), sB3 n xs, sB14 n xs, sB15 n xs]) rfl rfl [0, 4, 15, 16, 118, 120] (fun _ => rfl) (fun b90 => by kernel_rfl) (fun b90 => by kernel_rfl) (fun b90 => ?_)
      refine cFg 3 rfl <| pSt 4 1 rfl rfl <| sSW (α := Option Addr × Nat × Nat) 121 (Builtin.append_ #[24, 24] 24 #[.slice Ao i co, sL b90 1 1]) (fun x_ => .slice x_.1 (i + 1) x_.2.2) (fun x_ => [.cells b90 [.bool true, iQ (1 + aroundI (aroundI v.x12 6) 16), iQ (1 + aroundI (aroundI v.x13 6) 16), sL r52 n53 n53, iQ (aroundI v.x4 24 - 6), iQ (aroundI v.x5 24 - 6), iQ (1 + aroundI v.x6 3), iQ (aroundI v.x7 256), iQ v.x8, iQ v.x9, iQ v.x10, iQ v.x11, .slice A84 k86 cp87, .string ⟨#[]⟩] 87 true, .gen (rowE (A84) g85 k86 cp87 32 4 (rvals (canR ss)) true), .gen (rowE (As) gs ns cs 32 4 (rvals ss) true), oE r52 n53 n53 52 1 (cV (goodP n53 v.x14 n53)), rD (v.A15) v.g15 v.o15 v.m15 4 (rvals v.x15), rD (v.A14) v.g14 v.o14 v.m14 1 (cV v.x14), rD (v.A3) v.g3 v.o3 v.m3 1 (cV v.x3), .gen (bunO i (TS.pxs ts)), .gen (bunO i (TS.ops ts)), .gen (rowE (x_.1) x_.2.1 (i + 1) x_.2.2 87 14 (dvals TS.cells (ts ++ [(⟨(1 + aroundI (aroundI v.x12 6) 16), (1 + aroundI (aroundI v.x13 6) 16), r52, n53, n53, goodP n53 v.x14 n53, (aroundI v.x4 24 - 6), (aroundI v.x5 24 - 6), 1 + aroundI v.x6 3, aroundI v.x7 256, v.x8, v.x9, v.x10, v.x11, A84, g85, k86, cp87, canR ss⟩ : TS)])) true), rD (A) g o n 16 (dvals V17.cells xs), sB3 n xs, sB14 n xs, sB15 n xs]) (fun _ => True) (by kernel_rfl) (fun w hT => append_own (n' := (i + 1)) (z := .agg #[.bool false, iQ 0, iQ 0, .slice none 0 0, iQ 0, iQ 0, iQ 0, iQ 0, iQ 0, iQ 0, iQ 0, iQ 0, .slice none 0 0, .string ⟨#[]⟩]) hT (i := 9) (bytes := 152) rfl (by kernel_rfl) (by kernel_rfl) rfl (by decide) (by decide) (Rd.ofCells (vals := dvals TS.cells [(⟨(1 + aroundI (aroundI v.x12 6) 16), (1 + aroundI (aroundI v.x13 6) 16), r52, n53, n53, goodP n53 v.x14 n53, (aroundI v.x4 24 - 6), (aroundI v.x5 24 - 6), 1 + aroundI v.x6 3, aroundI v.x7 256, v.x8, v.x9, v.x10, v.x11, A84, g85, k86, cp87, canR ss⟩ : TS)]) (hT.ok 0 _ rfl) rfl rfl) (dvals_one TS.one [(⟨(1 + aroundI (aroundI v.x12 6) 16), (1 + aroundI (aroundI v.x13 6) 16), r52, n53, n53, goodP n53 v.x14 n53, (aroundI v.x4 24 - 6), (aroundI v.x5 24 - 6), 1 + aroundI v.x6 3, aroundI v.x7 256, v.x8, v.x9, v.x10, v.x11, A84, g85, k86, cp87, canR ss⟩ : TS)]) (by omega) (dvals_append ts [(⟨(1 + aroundI (aroundI v.x12 6) 16), (1 + aroundI (aroundI v.x13 6) 16), r52, n53, n53, goodP n53 v.x14 n53, (aroundI v.x4 24 - 6), (aroundI v.x5 24 - 6), 1 + aroundI v.x6 3, aroundI v.x7 256, v.x8, v.x9, v.x10, v.x11, A84, g85, k86, cp87, canR ss⟩ : TS)]) rfl) ?_
      rintro ⟨A91, g91, cp91⟩ -
      refine cN [.cells b90 [.bool true, iQ (1 + aroundI (aroundI v.x12 6) 16), iQ (1 + aroundI (aroundI v.x13 6) 16), sL r52 n53 n53, iQ (aroundI v.x4 24 - 6), iQ (aroundI v.x5 24 - 6), iQ (1 + aroundI v.x6 3), iQ (aroundI v.x7 256), iQ v.x8, iQ v.x9, iQ v.x10, iQ v.x11, .slice A84 k86 cp87, .string ⟨#[]⟩] 87 true, .gen (rowE (A84) g85 k86 cp87 32 4 (rvals (canR ss)) true), .gen (rowE (As) gs ns cs 32 4 (rvals ss) true), oE r52 n53 n53 52 1 (cV (goodP n53 v.x14 n53)), rD (v.A15) v.g15 v.o15 v.m15 4 (rvals v.x15), rD (v.A14) v.g14 v.o14 v.m14 1 (cV v.x14), rD (v.A3) v.g3 v.o3 v.m3 1 (cV v.x3), .gen (bunO i (TS.pxs ts)), .gen (bunO i (TS.ops ts)), .gen (rowE (A91) g91 (i + 1) cp91 87 14 (dvals TS.cells (ts ++ [(⟨(1 + aroundI (aroundI v.x12 6) 16), (1 + aroundI (aroundI v.x13 6) 16), r52, n53, n53, goodP n53 v.x14 n53, (aroundI v.x4 24 - 6), (aroundI v.x5 24 - 6), 1 + aroundI v.x6 3, aroundI v.x7 256, v.x8, v.x9, v.x10, v.x11, A84, g85, k86, cp87, canR ss⟩ : TS)])) true), rD (A) g o n 16 (dvals V17.cells xs), sB3 n xs, sB14 n xs, sB15 n xs] ?_
      refine cont_fact (F := (0 < (i + 1) → (A91 : Option Addr) = some ⟨g91, 0, none⟩) ∧ (ts ++ [(⟨(1 + aroundI (aroundI v.x12 6) 16), (1 + aroundI (aroundI v.x13 6) 16), r52, n53, n53, goodP n53 v.x14 n53, (aroundI v.x4 24 - 6), (aroundI v.x5 24 - 6), 1 + aroundI v.x6 3, aroundI v.x7 256, v.x8, v.x9, v.x10, v.x11, A84, g85, k86, cp87, canR ss⟩ : TS)]).length = (i + 1) ∧ (i + 1) ≤ cp91 ∧ cp91 ≤ maxLen) (fun w hT => Row.factsD TS.size (by decide) (hT.ok 9 _ rfl)) (fun hr92_ => ?_)
      obtain ⟨hr92_a, hr92_l, hr92_c, hr92_m⟩ := hr92_
      unfold maxLen at hr92_m
      refine bD [0] 5 0 [(3, .slice A91 (i + 1) cp91)] [] ?_
      refine cFg 0 rfl <| cDn <| blk_normal <| tNo <| cRg 3 rfl <| bD [0, 0] 2 1 [(19, iQ (IntKind.i64.wrap ((i : Int) + 1)))] [18] ?_
      refine cRc 19 (iQ (IntKind.i64.wrap ((i : Int) + 1))) (iQ ((i : Int) + 1)) rfl (wrapI (by omega) (by omega)) ?_
      refine bD [0] 3 0 [(4, iQ ((i : Int) + 1))] [] ?_
      refine cDn <| tNo ?_
      obtain ⟨t, ht⟩ : ∃ t_ : TS, t_ = (⟨(1 + aroundI (aroundI v.x12 6) 16), (1 + aroundI (aroundI v.x13 6) 16), r52, n53, n53, goodP n53 v.x14 n53, (aroundI v.x4 24 - 6), (aroundI v.x5 24 - 6), 1 + aroundI v.x6 3, aroundI v.x7 256, v.x8, v.x9, v.x10, v.x11, A84, g85, k86, cp87, canR ss⟩ : TS) := ⟨_, rfl⟩
      refine cont_rowEqD (cel := TS.cells) (z := 14) 8 (ts ++ [(⟨(1 + aroundI (aroundI v.x12 6) 16), (1 + aroundI (aroundI v.x13 6) 16), r52, n53, n53, goodP n53 v.x14 n53, (aroundI v.x4 24 - 6), (aroundI v.x5 24 - 6), 1 + aroundI v.x6 3, aroundI v.x7 256, v.x8, v.x9, v.x10, v.x11, A84, g85, k86, cp87, canR ss⟩ : TS)]) (ts ++ [t]) rfl (by rw [ht]) ?_
      refine cN [.gen (rowE (A84) g85 k86 cp87 32 4 (rvals (canR ss)) true), .gen (rowE (As) gs ns cs 32 4 (rvals ss) true), oE r52 n53 n53 52 1 (cV (goodP n53 v.x14 n53)), rD (v.A15) v.g15 v.o15 v.m15 4 (rvals v.x15), rD (v.A14) v.g14 v.o14 v.m14 1 (cV v.x14), rD (v.A3) v.g3 v.o3 v.m3 1 (cV v.x3), .gen (bunO i (TS.pxs ts)), .gen (bunO i (TS.ops ts)), .gen (rowE (A91) g91 (i + 1) cp91 87 14 (dvals TS.cells (ts ++ [t])) true), rD (A) g o n 16 (dvals V17.cells xs), sB3 n xs, sB14 n xs, sB15 n xs] ?_
      have hpa := TS.pxs_app (t := t) hlen
      have hoa := TS.ops_app (t := t) hlen
      refine cont_bun 2 6 i (TS.pxs ts) (TS.pxs (ts ++ [t])) t.pxG rfl rfl (by rw [ht]; exact Vw.rowRd) rfl (by decide) hpa.1 hpa.2 ?_
      refine cN [.gen (rowE (A84) g85 k86 cp87 32 4 (rvals (canR ss)) true), .gen (rowE (As) gs ns cs 32 4 (rvals ss) true), rD (v.A15) v.g15 v.o15 v.m15 4 (rvals v.x15), rD (v.A14) v.g14 v.o14 v.m14 1 (cV v.x14), rD (v.A3) v.g3 v.o3 v.m3 1 (cV v.x3), .gen (bunO (i + 1) (TS.pxs (ts ++ [t]))), .gen (bunO i (TS.ops ts)), .gen (rowE (A91) g91 (i + 1) cp91 87 14 (dvals TS.cells (ts ++ [t])) true), rD (A) g o n 16 (dvals V17.cells xs), sB3 n xs, sB14 n xs, sB15 n xs] ?_
      refine cont_bun 0 6 i (TS.ops ts) (TS.ops (ts ++ [t])) t.opG rfl rfl (by rw [ht]; exact Vw.rowRd) rfl (by decide) hoa.1 hoa.2 ?_
      refine cN [.gen (rowE (As) gs ns cs 32 4 (rvals ss) true), rD (v.A15) v.g15 v.o15 v.m15 4 (rvals v.x15), rD (v.A14) v.g14 v.o14 v.m14 1 (cV v.x14), rD (v.A3) v.g3 v.o3 v.m3 1 (cV v.x3), .gen (bunO (i + 1) (TS.pxs (ts ++ [t]))), .gen (bunO (i + 1) (TS.ops (ts ++ [t]))), .gen (rowE (A91) g91 (i + 1) cp91 87 14 (dvals TS.cells (ts ++ [t])) true), rD (A) g o n 16 (dvals V17.cells xs), sB3 n xs, sB14 n xs, sB15 n xs] ?_
      have hokt : TS.Ok t := by rw [ht]; exact ⟨hM63_, hM63_m, by dsimp only; omega, by dsimp only; omega, ⟨by dsimp only; omega, by dsimp only; omega⟩, ⟨by dsimp only; omega, by dsimp only; omega⟩, ⟨by dsimp only; omega, by dsimp only; omega⟩, ⟨by dsimp only; omega, by dsimp only; omega⟩, hvg.clip, ⟨ss, rfl, by omega, hss⟩⟩
      refine cFg 3 rfl <| cFg 2 rfl <| cFg 1 rfl <| cFg 0 rfl ?_
      refine cont_again (i + 1, ts ++ [t], A91, g91, cp91) (show (i + 1) ≤ n ∧ (i + 1) ≤ 5 ∧ (ts ++ [t]).length = (i + 1) ∧ ∀ u_ ∈ (ts ++ [t]), TS.Ok u_ from ⟨by omega, by omega, by rw [List.length_append, hlen]; rfl, fun x hx => by rcases List.mem_append.1 hx with h_ | h_; exact hts x h_; (have e_ := List.mem_singleton.1 h_; subst e_; exact hokt)⟩) (show n - (i + 1) < n - i from by omega) (by kernel_rfl) (by kernel_rfl)
    refine cRc 16 (.bool (decide ((i : Int) < 5))) (.bool false) rfl (congrArg Value.bool c4_) ?_
    replace c4_ := of_decide_eq_false c4_
    refine cFa rfl <| cont_exit <| then_exit <| then_exit <| blk_exit <| tNo <| cSq <| cRg 2 rfl <| bS [0, 0] 2 0 [(2, .slice Ao i co)] ?_
    refine cDn <| tNo <| cont_ret ?_
    refine ret_one (.inl rfl) rfl 0 (.slice Ao i co) (by kernel_rfl) (by kernel_rfl) (fun w hT => ?_)
    replace hT := hT.erase 6 (fun e h hw => by cases h; first | rfl | cases hw)
    replace hT := hT.erase 5 (fun e h hw => by cases h; first | rfl | cases hw)
    replace hT := hT.erase 4 (fun e h hw => by cases h; first | rfl | cases hw)
    replace hT := hT.erase 3 (fun e h hw => by cases h; first | rfl | cases hw)
    exact ⟨_, _, _, _, ts, rfl, ⟨by omega, hts⟩, hT⟩
  replace c3_ := of_decide_eq_false c3_
  refine bD [0, 0, 0] 8 0 [(15, undef), (16, undef), (17, .bool false)] [] ?_
  refine cDn <| tNo <| cFa rfl <| cont_exit <| then_exit <| then_exit <| blk_exit <| tNo <| cSq <| cRg 2 rfl <| bS [0, 0] 2 0 [(2, .slice Ao i co)] ?_
  refine cDn <| tNo <| cont_ret ?_
  refine ret_one (.inl rfl) rfl 0 (.slice Ao i co) (by kernel_rfl) (by kernel_rfl) (fun w hT => ?_)
  replace hT := hT.erase 6 (fun e h hw => by cases h; first | rfl | cases hw)
  replace hT := hT.erase 5 (fun e h hw => by cases h; first | rfl | cases hw)
  replace hT := hT.erase 4 (fun e h hw => by cases h; first | rfl | cases hw)
  replace hT := hT.erase 3 (fun e h hw => by cases h; first | rfl | cases hw)
  exact ⟨_, _, _, _, ts, rfl, ⟨by omega, hts⟩, hT⟩
end Go.Proofs.YtlfahohbkgdabaaGreat
