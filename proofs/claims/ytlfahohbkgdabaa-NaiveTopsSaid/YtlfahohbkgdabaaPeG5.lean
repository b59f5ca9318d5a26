/- Texts of this proof's own, put together: what each holds is told ahead of it. -/
import Derived.Test.YtlfahohbkgdabaaPeG3
import Derived.Test.YtlfahohbkgdabaaPeG2
/- Lists of structs that hold slices: how they are read, how a law's argument of that kind opens. -/
set_option linter.unusedVariables false
set_option linter.unusedSimpArgs false
namespace Go.Proofs.Ytlfahohbkgdabaa
open Go Go.ChangeShapes Go.WideShapes Go.ChangeAt Go.RowKit Go.Deep
variable {dfs : List Deferred}
/-! ### The cells of a list of structs -/
section
def dget {α : Type} [Inhabited α] (l : List α) (i : Nat) : α := l.getD i default
theorem dget_zero {α : Type} [Inhabited α] (a : α) (l : List α) : dget (a :: l) 0 = a := rfl
theorem dget_succ {α : Type} [Inhabited α] (a : α) (l : List α) (i : Nat) : dget (a :: l) (i + 1) = dget l i := by simp [dget]
theorem dget_mem {α : Type} [Inhabited α] {l : List α} {i : Nat} (h : i < l.length) : dget l i ∈ l := by
  unfold dget; rw [List.getD_eq_getElem?_getD, List.getElem?_eq_getElem h]; simp
def dvals {α : Type} (cel : α → List Value) : List α → List Value
  | [] => []
  | a :: l => cel a ++ dvals cel l
theorem dvals_length {α : Type} {cel : α → List Value} {z : Nat} (hz : ∀ a, (cel a).length = z) : ∀ l : List α, (dvals cel l).length = l.length * z := by
  intro l
  induction l with
  | nil => simp [dvals]
  | cons a l ih => rw [dvals, List.length_append, ih, hz, List.length_cons, Nat.succ_mul, Nat.add_comm]
theorem dvals_get {α : Type} [Inhabited α] {cel : α → List Value} {z : Nat} (hz : ∀ a, (cel a).length = z) : ∀ {l : List α} {i k : Nat} {v : Value}, i < l.length → (cel (dget l i))[k]? = some v → (dvals cel l)[i * z + k]? = some v := by
  intro l
  induction l with
  | nil => intro i k v h; simp at h
  | cons a l ih =>
    intro i k v h hk
    cases i with
    | zero =>
      rw [dget_zero] at hk
      rw [Nat.zero_mul, Nat.zero_add, dvals, List.getElem?_append_left (List.getElem?_eq_some_iff.1 hk).1]
      exact hk
    | succ i =>
      rw [dget_succ] at hk
      rw [dvals, Nat.succ_mul, List.getElem?_append_right (by rw [hz]; omega), hz, show i * z + z + k - z = i * z + k by omega]
      exact ih (by simpa using h) hk
theorem Rd.dcell {α : Type} [Inhabited α] {w : World} {A : Option Addr} {g o n z : Nat} {cel : α → List Value} {l : List α} (hz : ∀ a, (cel a).length = z) (h : Rd w A g o n z (dvals cel l)) {i : Nat} (hi : i < l.length) : ∀ j v, (cel (dget l i))[j]? = some v → w.cell? ⟨g, (o + i * z) + j, none⟩ = some v := fun j v hj => by
  have := h.cell (i * z + j) v (dvals_get hz hi hj)
  rwa [← Nat.add_assoc] at this
theorem Rd.dsub {α : Type} [Inhabited α] {w : World} {A : Option Addr} {g o n z : Nat} {cel : α → List Value} {l : List α} (hz : ∀ a, (cel a).length = z) (h : Rd w A g o n z (dvals cel l)) {i : Nat} (hi : i < l.length) (f m : Nat) {cs : List Value} (hc : ((cel (dget l i)).drop f).take m = cs) : ∀ j v, cs[j]? = some v → w.cell? ⟨g, (o + i * z + f) + j, none⟩ = some v := fun j v hj => by
  subst hc
  rw [List.getElem?_take] at hj
  split at hj
  · rw [List.getElem?_drop] at hj
    have := h.dcell hz hi (f + j) v hj
    rwa [← Nat.add_assoc] at this
  · cases hj
theorem Rd.dcell1 {α : Type} [Inhabited α] {w : World} {A : Option Addr} {g o n z : Nat} {cel : α → List Value} {l : List α} (hz : ∀ a, (cel a).length = z) (h : Rd w A g o n z (dvals cel l)) {i : Nat} (hi : i < l.length) (f : Nat) {v : Value} (hv : (cel (dget l i))[f]? = some v) : w.cell? ⟨g, o + i * z + f, none⟩ = some v := h.dcell hz hi f v hv
theorem Rd.factsD {α : Type} {w : World} {A : Option Addr} {g o n z : Nat} {cel : α → List Value} {l : List α} (hz : ∀ a, (cel a).length = z) (h0 : 0 < z) (h : Rd w A g o n z (dvals cel l)) : (0 < n → A = some ⟨g, o, none⟩) ∧ l.length = n := by
  refine ⟨h.at_, ?_⟩
  have := h.len
  rw [dvals_length hz] at this
  exact Nat.eq_of_mul_eq_mul_right h0 this
theorem dget_map {α : Type} [Inhabited α] {F : Nat → α} {n i : Nat} (h : i < n) : dget ((List.range n).map F) i = F i := by
  simp [dget, List.getD_eq_getElem?_getD, h]
end
/-! ### What lies behind the slices of each -/
def subE (n : Nat) (G : Nat → GenEnt) : GenEnt :=
  { blk := fun k => ∃ i, i < n ∧ (G i).blk k, wr := false, own := false, ok := fun w => ∀ i, i < n → (G i).ok w,
    stable := fun w w' hb h i hi => (G i).stable w w' (fun b hbk => hb b ⟨i, hi, hbk⟩) (h i hi),
    inb := fun w b h hb => by obtain ⟨i, hi, hk⟩ := hb; exact (G i).inb w b (h i hi) hk }
theorem Tab.sub {w0 w : World} {T : List Ent} (hT : Tab w0 w T) {j n : Nat} {G : Nat → GenEnt} (hj : T[j]? = some (.gen (subE n G))) {i : Nat} (hi : i < n) (hw : (G i).wr = false) (ho : (G i).own = false) : Tab w0 w (.gen (G i) :: T) := by
  have hok := hT.ok j _ hj i hi
  refine ⟨hT.os, hT.tape, hT.output, hT.size, ?_, ?_, ?_, ?_⟩
  · intro q e he
    cases q with
    | zero => simp at he; subst he; exact hok
    | succ q => exact hT.ok q e (by simpa using he)
  · intro k hk hne
    exact hT.frame k hk (fun q e he hwr => hne (q + 1) e (by simpa using he) hwr)
  · intro q e he hown
    cases q with
    | zero => simp at he; subst he; exact absurd hown (by show ¬ (G i).own = true; rw [ho]; simp)
    | succ q => exact hT.own q e (by simpa using he) hown
  · intro p q e e' hpq he he' hwr k hk hk'
    cases p with
    | zero =>
      simp at he; subst he
      cases q with
      | zero => exact hpq rfl
      | succ q =>
        have he2 : T[q]? = some e' := by simpa using he'
        have hw' : e'.wr = true := by
          rcases hwr with h | h
          · exact absurd h (by show ¬ (G i).wr = true; rw [hw]; simp)
          · exact h
        have hne : j ≠ q := by
          intro hq; subst hq
          rw [hj] at he2; cases he2; cases hw'
        exact hT.disj j q _ e' hne hj he2 (.inr hw') k ⟨i, hi, hk⟩ hk'
    | succ p =>
      have he2 : T[p]? = some e := by simpa using he
      cases q with
      | zero =>
        simp at he'; subst he'
        have hw' : e.wr = true := by
          rcases hwr with h | h
          · exact h
          · exact absurd h (by show ¬ (G i).wr = true; rw [hw]; simp)
        have hne : p ≠ j := by
          intro hq; subst hq
          rw [hj] at he2; cases he2; cases hw'
        exact hT.disj p j e _ hne he2 hj (.inl hw') k hk ⟨i, hi, hk'⟩
      | succ q => exact hT.disj p q e e' (by omega) he2 (by simpa using he') hwr k hk hk'
theorem Tab.olds {w : World} : ∀ {T : List Ent}, (∀ (i : Nat) (e : Ent), T[i]? = some e → e.ok w ∧ e.own = false ∧ e.wr = false) → Tab w w T := by
  intro T
  induction T with
  | nil => intro _; exact Tab.start w
  | cons e T ih =>
    intro h
    have h0 := h 0 e rfl
    refine Tab.addOld (ih (fun i x hx => h (i + 1) x (by simpa using hx))) e h0.1 h0.2.1 (fun i x hx hw => ?_)
    have h1 := h (i + 1) x (by simpa using hx)
    rcases hw with hw | hw
    · rw [h0.2.2] at hw; cases hw
    · rw [h1.2.2] at hw; cases hw
theorem cont_sub {K : Act → World → Prop} {n : Nat} {w0 : World} {L : List (Nat × Value)} {T : List Ent} (j i m : Nat) (G : Nat → GenEnt) (hj : T[j]? = some (.gen (subE m G))) (hi : i < m) (hw : (G i).wr = false) (ho : (G i).own = false) (h : Cont dfs K n w0 L (.gen (G i) :: T)) : Cont dfs K n w0 L T :=
  fun a w ha hf hT => h a w ha hf (hT.sub hj hi hw ho)
/-- A slice of structs that came in; what each is told by an opening of its own. -/
theorem open_listC {α : Type} [Inhabited α] {cel : α → List Value} {z : Nat} (hz : ∀ a, (cel a).length = z) (hz0 : 0 < z) {good : World → α → Prop} {H : Type} {enc : TypeId × Value → H} {P : Program} {W : World} {ts t : TypeId} {c : Value} {n : Nat} {x : DataW H × List MemPlace} (ht : P.underlying ts = some (.slice t)) (hct : P.cellsOf t = z)
    (hone : ∀ (cs : List Value) (n : Nat) (x : DataW H × List MemPlace), cs.length = z → DataW.trod enc P W 0 (fun _ => true) true n t cs = some x → ∃ a : α, cs = cel a ∧ good W a)
    (h : DataW.trod enc P W 0 (fun _ => true) true n ts [c] = some x) :
    ∃ (A : Option Addr) (g o n cap : Nat) (l : List α), c = .slice A n cap ∧ Rd W A g o n z (dvals cel l) ∧ l.length = n ∧ n ≤ cap ∧ cap ≤ maxLen ∧ (∀ a ∈ l, good W a) := by
  rcases open_slice ht h with ⟨e, _⟩ | ⟨a, len, cap, m, k, D, Pl, e, _, hle, hm, hmm, _, hx⟩
  · simp only [List.cons.injEq, and_true] at e
    exact ⟨none, 0, 0, 0, 0, [], e, ⟨by simp [dvals], fun h => by omega, fun j v hj => by simp [dvals] at hj⟩, rfl, Nat.le_refl _, by unfold maxLen; omega, fun x hx => by cases hx⟩
  · simp only [List.cons.injEq, and_true] at e
    simp only [if_true] at hmm
    have each : ∀ i, i < len → ∃ r : α, (∀ j v, (cel r)[j]? = some v → W.cell? ((a.add (i * z)).add j) = some v) ∧ good W r := by
      intro i hil
      obtain ⟨cs', g1, g2⟩ := hx i (by omega)
      rw [hct] at g1
      obtain ⟨_, hlen, hcell⟩ := World.cells?_some g1
      obtain ⟨r, rfl, hr⟩ := hone _ _ _ (by simpa using hlen) g2
      refine ⟨r, fun j v hj => ?_, hr⟩
      have hjl := (List.getElem?_eq_some_iff.1 hj).1
      have := hcell j (by rw [hz] at hjl; simpa using hjl)
      rw [this]
      simpa using hj
    have hF : ∃ F : Nat → α, ∀ i, i < len → (∀ j v, (cel (F i))[j]? = some v → W.cell? ((a.add (i * z)).add j) = some v) ∧ good W (F i) :=
      ⟨fun i => if h : i < len then Classical.choose (each i h) else default, fun i h => by simp only [dif_pos h]; exact Classical.choose_spec (each i h)⟩
    obtain ⟨F, hF⟩ := hF
    have hsp : 0 < len → a.spot = none := fun hp => by
      have h0 : 0 < (cel (F 0)).length := by rw [hz]; exact hz0
      have := (hF 0 hp).1 0 _ (List.getElem?_eq_getElem h0)
      have z' : (a.add (0 * z)).add 0 = a := by simp [Addr.add]
      rw [z'] at this
      exact spot_of_cell this
    refine ⟨some a, a.block, a.off, len, cap, (List.range len).map F, e, ⟨by rw [dvals_length hz]; simp, fun hp => ?_, fun j v hj => ?_⟩, by simp, hle, hm, fun r hr => ?_⟩
    · have := hsp hp
      cases a with
      | mk b o s => simp only at this; subst this; rfl
    · have hjl := (List.getElem?_eq_some_iff.1 hj).1
      rw [dvals_length hz, List.length_map, List.length_range] at hjl
      have hq : j / z < len := Nat.div_lt_of_lt_mul (by rwa [Nat.mul_comm])
      have hr : j % z < z := Nat.mod_lt _ hz0
      have hk := List.getElem?_eq_getElem (l := cel (F (j / z))) (i := j % z) (by rw [hz]; exact hr)
      have h2 := dvals_get hz (l := (List.range len).map F) (i := j / z) (k := j % z) (by simpa using hq) (by rw [dget_map hq]; exact hk)
      rw [show j / z * z + j % z = j by rw [Nat.mul_comm]; exact Nat.div_add_mod j z, hj] at h2
      have h3 := (hF _ hq).1 (j % z) v (by rw [hk]; exact h2.symm)
      have hs2 := hsp (Nat.lt_of_le_of_lt (Nat.zero_le _) hq)
      rw [addr_split hs2, addr_split rfl] at h3
      simp only at h3
      rw [show a.off + j / z * z + j % z = a.off + j by rw [Nat.add_assoc, Nat.mul_comm, Nat.div_add_mod]] at h3
      exact h3
    · obtain ⟨i, hi, rfl⟩ := List.mem_map.1 hr
      exact (hF i (List.mem_range.1 hi)).2
theorem open_list {α : Type} [Inhabited α] {cel : α → List Value} {z : Nat} (hz : ∀ a, (cel a).length = z) (hz0 : 0 < z) {good : World → α → Prop} {H : Type} {enc : TypeId × Value → H} {P : Program} {W : World} {ts t : TypeId} {v : Value} {d : DataW H} {ps : List MemPlace} (ht : P.underlying ts = some (.slice t)) (hct : P.cellsOf t = z)
    (hone : ∀ (cs : List Value) (n : Nat) (x : DataW H × List MemPlace), cs.length = z → DataW.trod enc P W 0 (fun _ => true) true n t cs = some x → ∃ a : α, cs = cel a ∧ good W a)
    (hval : Value.okWide P W .any 0 ts v) (h : DataW.Trod enc P W 0 (fun _ => true) true ts v d ps) :
    ∃ (A : Option Addr) (g o n cap : Nat) (l : List α), v = .slice A n cap ∧ Rd W A g o n z (dvals cel l) ∧ l.length = n ∧ n ≤ cap ∧ cap ≤ maxLen ∧ (∀ a ∈ l, good W a) := by
  obtain ⟨a, len, cap, rfl⟩ := okWide_slice ht hval
  obtain ⟨fuel, hf⟩ := h
  exact open_listC hz hz0 ht hct hone hf
end Go.Proofs.Ytlfahohbkgdabaa

/- Bundles of entries of the call's own that are only read: they grow, one entry by one, and are looked into. Generic in the program. -/
set_option linter.unusedVariables false
set_option linter.unusedSimpArgs false
namespace Go.Proofs.Ytlfahohbkgdabaa
open Go Go.RowKit
variable {dfs : List Deferred}
def bunO (n : Nat) (G : Nat → GenEnt) : GenEnt := { subE n G with own := true }
/-- A block of cells that is only read. -/
def roE (b : Nat) (cs : List Value) (t : TypeId) : GenEnt :=
  { blk := fun k => k = b, wr := false, own := false, ok := fun w => w.heap[b]? = some (.cells cs.toArray t (0, 0)),
    stable := fun w w' hb h => (hb b rfl).trans h,
    inb := fun w k h hk => by rw [show k = b from hk]; exact (Array.getElem?_eq_some_iff.1 h).1 }
/-- Another view of an entry that is only read. -/
theorem Tab.see {w0 w : World} {T : List Ent} (hT : Tab w0 w T) {j : Nat} {e e0 : Ent} (hj : T[j]? = some e) (hw : e.wr = false) (hv : Vw e e0) (hw0 : e0.wr = false) : Tab w0 w (e0 :: T) := by
  refine ⟨hT.os, hT.tape, hT.output, hT.size, ?_, ?_, ?_, ?_⟩
  · intro q x hx
    cases q with
    | zero => simp at hx; subst hx; exact hv.ok w (hT.ok j e hj)
    | succ q => exact hT.ok q x (by simpa using hx)
  · intro k hk hne
    exact hT.frame k hk (fun q x hx hwr => hne (q + 1) x (by simpa using hx) hwr)
  · intro q x hx hown
    cases q with
    | zero => simp at hx; subst hx; rw [hv.own] at hown; cases hown
    | succ q => exact hT.own q x (by simpa using hx) hown
  · intro p q x y hpq hx hy hwr k hk hk'
    cases p with
    | zero =>
      simp at hx; subst hx
      cases q with
      | zero => exact hpq rfl
      | succ q =>
        have hy2 : T[q]? = some y := by simpa using hy
        have hw' : y.wr = true := by
          rcases hwr with h | h
          · rw [hw0] at h; cases h
          · exact h
        have hne : j ≠ q := by
          intro hq; subst hq
          rw [hj] at hy2; cases hy2; rw [hw] at hw'; cases hw'
        exact hT.disj j q e y hne hj hy2 (.inr hw') k (hv.blk w (hT.ok j e hj) k hk) hk'
    | succ p =>
      have hx2 : T[p]? = some x := by simpa using hx
      cases q with
      | zero =>
        simp at hy; subst hy
        have hw' : x.wr = true := by
          rcases hwr with h | h
          · exact h
          · rw [hw0] at h; cases h
        have hne : p ≠ j := by
          intro hq; subst hq
          rw [hj] at hx2; cases hx2; rw [hw] at hw'; cases hw'
        exact hT.disj p j x e hne hx2 hj (.inl hw') k hk (hv.blk w (hT.ok j e hj) k hk')
      | succ q => exact hT.disj p q x y (by omega) hx2 (by simpa using hy) hwr k hk hk'
theorem cont_see {K : Act → World → Prop} {n : Nat} {w0 : World} {L : List (Tmp × Value)} {T : List Ent} (j : Nat) (e0 : Ent) {e : Ent} (hj : T[j]? = some e) (hw : e.wr = false) (hv : Vw e e0) (hw0 : e0.wr = false) (h : Cont dfs K n w0 L (e0 :: T)) : Cont dfs K n w0 L T :=
  fun a w ha hf hT => h a w ha hf (hT.see hj hw hv hw0)
/-- An entry of the call's own is only read from here on; it stays the call's own. -/
theorem Tab.weakenO {w0 w : World} {T : List Ent} (hT : Tab w0 w T) {i : Nat} {e e0 : Ent} (hi : T[i]? = some e) (ho : e.own = true) (hok : e0.ok w) (hb : ∀ k, e0.blk k → e.blk k) (hw : e0.wr = false) : Tab w0 w (T.set i e0) := by
  refine ⟨hT.os, hT.tape, hT.output, hT.size, ?_, ?_, ?_, ?_⟩
  · intro j x hx
    rcases getElem?_set_cases _ _ _ _ _ hx with ⟨_, rfl⟩ | ⟨_, hx⟩
    · exact hok
    · exact hT.ok j x hx
  · intro k hk hno
    refine hT.frame k hk (fun j x hx hxw hb' => ?_)
    by_cases hj : j = i
    · subst hj
      rw [hi] at hx; cases hx
      have := hT.own j e hi ho k hb'; omega
    · exact hno j x (by rw [List.getElem?_set_ne (Ne.symm hj)]; exact hx) hxw hb'
  · intro j x hx hxo k hk
    rcases getElem?_set_cases _ _ _ _ _ hx with ⟨_, rfl⟩ | ⟨_, hx⟩
    · exact hT.own i e hi ho k (hb k hk)
    · exact hT.own j x hx hxo k hk
  · intro j l x y hjl hx hy hxy k hk hk'
    rcases getElem?_set_cases _ _ _ _ _ hx with ⟨hji, rfl⟩ | ⟨hj, hx2⟩
    · rcases getElem?_set_cases _ _ _ _ _ hy with ⟨hli, rfl⟩ | ⟨hl, hy⟩
      · omega
      · rw [hw] at hxy
        exact hT.disj i l e y (Ne.symm hl) hi hy (.inr (hxy.resolve_left (by simp))) k (hb k hk) hk'
    · rcases getElem?_set_cases _ _ _ _ _ hy with ⟨hli, rfl⟩ | ⟨hl, hy⟩
      · rw [hw] at hxy
        exact hT.disj j i x e hj hx2 hi (.inl (hxy.resolve_right (by simp))) k hk (hb k hk')
      · exact hT.disj j l x y hjl hx2 hy hxy k hk hk'
/-- One entry of the call's own that is only read takes another one's blocks. -/
theorem Tab.grow {w0 w : World} {T : List Ent} (hT : Tab w0 w T) {i j : Nat} {e0 e1 e2 : Ent} (hi : T[i]? = some e0) (hoi : e0.own = true) (hwi : e0.wr = false) (hj : T[j]? = some e1) (hw1 : e1.wr = false) (ho1 : e1.own = true) (hw2 : e2.wr = false) (hok : e2.ok w)
    (hb : ∀ k, e2.blk k → e1.blk k ∨ e0.blk k) : Tab w0 w (T.set j e2) := by
  refine ⟨hT.os, hT.tape, hT.output, hT.size, ?_, ?_, ?_, ?_⟩
  · intro q x hx
    rcases getElem?_set_cases _ _ _ _ _ hx with ⟨_, rfl⟩ | ⟨_, hx⟩
    · exact hok
    · exact hT.ok q x hx
  · intro k hk hno
    refine hT.frame k hk (fun q x hx hxw hb' => ?_)
    by_cases hq : q = j
    · subst hq
      rw [hj] at hx; cases hx; rw [hw1] at hxw; cases hxw
    · exact hno q x (by rw [List.getElem?_set_ne (Ne.symm hq)]; exact hx) hxw hb'
  · intro q x hx hxo k hk
    rcases getElem?_set_cases _ _ _ _ _ hx with ⟨_, rfl⟩ | ⟨_, hx⟩
    · rcases hb k hk with h | h
      · exact hT.own j e1 hj ho1 k h
      · exact hT.own i e0 hi hoi k h
    · exact hT.own q x hx hxo k hk
  · have key : ∀ (l : Nat) (y : Ent) (k : Nat), T[l]? = some y → y.wr = true → e2.blk k → ¬ y.blk k := by
      intro l y k hy hyw hk hk'
      rcases hb k hk with h | h
      · refine hT.disj j l e1 y (fun he => ?_) hj hy (.inr hyw) k h hk'
        subst he; rw [hj] at hy; cases hy; rw [hw1] at hyw; cases hyw
      · refine hT.disj i l e0 y (fun he => ?_) hi hy (.inr hyw) k h hk'
        subst he; rw [hi] at hy; cases hy; rw [hwi] at hyw; cases hyw
    intro p q x y hpq hx hy hxy k hk hk'
    rcases getElem?_set_cases _ _ _ _ _ hx with ⟨hp, hxe⟩ | ⟨hp, hx2⟩
    · rcases getElem?_set_cases _ _ _ _ _ hy with ⟨hq, hye⟩ | ⟨hq, hy2⟩
      · omega
      · rw [hxe] at hk hxy
        exact key q y k hy2 (hxy.resolve_left (by rw [hw2]; simp)) hk hk'
    · rcases getElem?_set_cases _ _ _ _ _ hy with ⟨hq, hye⟩ | ⟨hq, hy2⟩
      · rw [hye] at hk' hxy
        exact key p x k hx2 (hxy.resolve_right (by rw [hw2]; simp)) hk' hk
      · exact hT.disj p q x y hpq hx2 hy2 hxy k hk hk'
theorem cont_nilbun {K : Act → World → Prop} {n : Nat} {w0 : World} {L : List (Tmp × Value)} {T : List Ent} (G : Nat → GenEnt) (h : Cont dfs K n w0 L (.gen (bunO 0 G) :: T)) : Cont dfs K n w0 L T :=
  fun a w ha hf hT => h a w ha hf (hT.fresh (.gen (bunO 0 G)) (fun i hi => absurd hi (Nat.not_lt_zero i)) (fun k hk => by obtain ⟨i, hi, _⟩ := hk; exact absurd hi (Nat.not_lt_zero i)))
/-- An entry of the call's own goes into a bundle. -/
theorem cont_bun {K : Act → World → Prop} {n : Nat} {w0 : World} {L : List (Tmp × Value)} {T : List Ent} (i j m : Nat) (G G' : Nat → GenEnt) (g : GenEnt) {e : Ent} (hi : T[i]? = some e) (ho : e.own = true) (hv : Vw e (.gen g)) (hj : T[j]? = some (.gen (bunO m G))) (hij : i ≠ j)
    (hG : ∀ k, k < m → G' k = G k) (hg : G' m = g) (h : Cont dfs K n w0 L ((T.set j (.gen (bunO (m + 1) G'))).eraseIdx i)) : Cont dfs K n w0 L T := by
  intro a w ha hf hT
  have hok := hT.ok i e hi
  have h1 : Tab w0 w (T.set i (.gen { g with wr := false, own := true })) := hT.weakenO hi ho (hv.ok w hok) (fun k hk => hv.blk w hok k hk) rfl
  have hil : i < T.length := (List.getElem?_eq_some_iff.1 hi).1
  have hi2 : (T.set i (.gen { g with wr := false, own := true }))[i]? = some (.gen { g with wr := false, own := true }) := by rw [List.getElem?_set_self hil]
  have hj2 : (T.set i (.gen { g with wr := false, own := true }))[j]? = some (.gen (bunO m G)) := by rw [List.getElem?_set_ne hij]; exact hj
  have h2 := h1.grow (e2 := .gen (bunO (m + 1) G')) hi2 rfl rfl hj2 rfl rfl rfl (by
    intro q hq
    rcases Nat.lt_or_ge q m with hlt | hge
    · rw [hG q hlt]; exact h1.ok j _ hj2 q hlt
    · rw [show q = m by omega, hg]; exact hv.ok w hok) (by
    rintro k ⟨q, hq, hk⟩
    rcases Nat.lt_or_ge q m with hlt | hge
    · rw [hG q hlt] at hk; exact .inl ⟨q, hlt, hk⟩
    · rw [show q = m by omega, hg] at hk; exact .inr hk)
  have h3 := h2.erase i (by
    intro x hx hxw
    rw [List.getElem?_set_ne (Ne.symm hij), hi2] at hx; cases hx; rfl)
  rw [List.set_comm _ _ hij, List.eraseIdx_set_eq] at h3
  exact h a w ha hf h3
theorem Vw.bunSub {n : Nat} {G : Nat → GenEnt} : Vw (.gen (bunO n G)) (.gen (subE n G)) := ⟨fun _ h => h, fun _ _ _ h => h, fun h => h, rfl⟩
theorem Vw.subSub {n : Nat} {G : Nat → GenEnt} : Vw (.gen (subE n G)) (.gen (subE n G)) := ⟨fun _ h => h, fun _ _ _ h => h, fun h => h, rfl⟩
theorem Vw.subAt {n : Nat} {G : Nat → GenEnt} (i : Nat) (hi : i < n) (hw : (G i).wr = false) (ho : (G i).own = false) : Vw (.gen (subE n G)) (.gen (G i)) := ⟨fun _ h => h i hi, fun _ _ _ hk => ⟨i, hi, hk⟩, fun h => (by rw [show (Ent.gen (G i)).wr = (G i).wr from rfl, hw] at h; cases h), ho⟩
theorem Vw.subAtRo {n : Nat} {G : Nat → GenEnt} {b : Nat} {cs : List Value} {t : TypeId} (i : Nat) (hi : i < n) (hG : G i = roE b cs t) : Vw (.gen (subE n G)) (.ro b cs t) := ⟨fun w h => by have := h i hi; rw [hG] at this; exact this, fun _ _ _ hk => ⟨i, hi, by rw [hG]; exact hk⟩, fun h => (by cases h), rfl⟩
theorem Vw.cellsRo {b : Nat} {cs : List Value} {t : TypeId} {o : Bool} : Vw (.cells b cs t o) (.gen (roE b cs t)) := ⟨fun _ h => h, fun _ _ _ h => h, fun h => (by cases h), rfl⟩
theorem dget_app {α : Type} [Inhabited α] {l : List α} {a : α} {i : Nat} (h : i < l.length) : dget (l ++ [a]) i = dget l i := by
  unfold dget; rw [List.getD_eq_getElem?_getD, List.getD_eq_getElem?_getD, List.getElem?_append_left h]
theorem dget_end {α : Type} [Inhabited α] {l : List α} {a : α} {n : Nat} (h : l.length = n) : dget (l ++ [a]) n = a := by
  subst h; unfold dget; rw [List.getD_eq_getElem?_getD, List.getElem?_append_right (Nat.le_refl _)]; simp
end Go.Proofs.Ytlfahohbkgdabaa

/- Rows of structs of the call's own. -/
set_option linter.unusedVariables false
set_option linter.unusedSimpArgs false
namespace Go.Proofs.Ytlfahohbkgdabaa
open Go Go.RowKit
variable {dfs : List Deferred}
section
variable {α : Type} {cel : α → List Value} {z : Nat}
theorem dvals_append : ∀ a b : List α, dvals cel a ++ dvals cel b = dvals cel (a ++ b) := by
  intro a b
  induction a with
  | nil => rfl
  | cons x a ih => rw [dvals, List.append_assoc, ih]; rfl
theorem dvals_one (h1 : ∀ a, ∀ u ∈ cel a, u.oneCell' = true) : ∀ l : List α, ∀ u ∈ dvals cel l, u.oneCell' = true := by
  intro l
  induction l with
  | nil => intro u hu; cases hu
  | cons x l ih =>
    intro u hu
    rcases List.mem_append.1 hu with h | h
    · exact h1 x u h
    · exact ih u h
theorem Row.factsD {w : World} {A : Option Addr} {g n cap : Nat} {e : TypeId} {l : List α} (hz : ∀ a, (cel a).length = z) (h0 : 0 < z) (h : Row w A g n cap e z (dvals cel l)) : (0 < n → A = some ⟨g, 0, none⟩) ∧ l.length = n ∧ n ≤ cap ∧ cap ≤ maxLen := by
  refine ⟨h.at_, (h.rd.factsD hz h0).2, h.capLe, ?_⟩
  rcases h.own.2 with ⟨h1, _⟩ | ⟨g', cap', cur, hv, _, _, _, hm, _⟩
  · cases h1; unfold maxLen; omega
  · cases hv; exact hm
theorem cont_rowEqD {K : Act → World → Prop} {n' : Nat} {w0 : World} {L : List (Nat × Value)} {T : List Ent} (i : Nat) {A : Option Addr} {g n cap : Nat} {e : TypeId} (xs ys : List α) {own : Bool} (hi : T[i]? = some (.gen (rowE A g n cap e z (dvals cel xs) own))) (hxy : xs = ys)
    (h : Cont dfs K n' w0 L (T.set i (.gen (rowE A g n cap e z (dvals cel ys) own)))) : Cont dfs K n' w0 L T := by
  subst hxy
  have : T.set i (.gen (rowE A g n cap e z (dvals cel xs) own)) = T := by
    obtain ⟨hlt, he⟩ := List.getElem?_eq_some_iff.1 hi
    rw [← he]
    exact List.set_getElem_self hlt
  rwa [this] at h
theorem dvals_part (hz : ∀ a, (cel a).length = z) {l : List α} {J m : Nat} (h : J + m ≤ l.length) : ∀ j v, (dvals cel ((l.drop J).take m))[j]? = some v → (dvals cel l)[J * z + j]? = some v := by
  intro j v hj
  have e : l = l.take J ++ ((l.drop J).take m ++ (l.drop J).drop m) := by rw [List.take_append_drop, List.take_append_drop]
  have e2 : dvals cel l = dvals cel (l.take J) ++ (dvals cel ((l.drop J).take m) ++ dvals cel ((l.drop J).drop m)) := by
    rw [dvals_append, dvals_append, ← e]
  have e3 : (dvals cel (l.take J)).length = J * z := by rw [dvals_length hz, List.length_take]; congr 1; omega
  rw [e2, List.getElem?_append_right (by omega), e3, show J * z + j - J * z = j by omega, List.getElem?_append_left (List.getElem?_eq_some_iff.1 hj).1]
  exact hj
theorem Rd.headD {w : World} {g o n : Nat} {l : List α} {A : Option Addr} (hz : ∀ a, (cel a).length = z) (h0 : 0 < z) (h : Rd w A g o n z (dvals cel l)) {m : Nat} (hm : m ≤ n) : Rd w A g o m z (dvals cel (l.take m)) := by
  have hl := (h.factsD hz h0).2
  refine ⟨by rw [dvals_length hz, List.length_take]; congr 1; omega, fun h9 => h.at_ (by omega), fun j v hj => ?_⟩
  have := dvals_part hz (l := l) (J := 0) (m := m) (by omega) j v (by simpa using hj)
  rw [Nat.zero_mul, Nat.zero_add] at this
  exact h.cell _ v this
end
end Go.Proofs.Ytlfahohbkgdabaa

/- Plain laws of regions: boxes, lengths, areas; what the laws of the layer regions come to. -/
set_option linter.unusedVariables false
set_option linter.unusedSimpArgs false
namespace Go.Proofs.Ytlfahohbkgdabaa
open Go Go.RowKit

theorem hasL_can (a : List Rect) (x y : Int) : hasL (canR a) x y = hasL a x y := (canR_isReg a).has x y
/-! ### Boxes -/
def Boxed (l : List Rect) : Prop := ∀ x y, hasL l x y = true → -4 ≤ x ∧ x < 32 ∧ -4 ≤ y ∧ y < 32
theorem Boxed.op {kf : Bool → Bool → Bool} (h0 : kf false false = false) {a b : List Rect} (ha : Boxed a) (hb : Boxed b) : Boxed (regM kf a b) := by
  intro x y h
  rw [(regM_isReg h0 a b).has] at h
  unfold keepF at h
  cases e1 : hasL a x y with
  | true => exact ha x y e1
  | false =>
    cases e2 : hasL b x y with
    | true => exact hb x y e2
    | false => rw [e1, e2, h0] at h; cases h
theorem runs_length {β : Type} {lo : Int} : ∀ {l : List (Run β)} {hi : Int}, RunsOk l → (∀ r ∈ l, lo ≤ r.1 ∧ r.2.1 ≤ hi) → lo ≤ hi → (l.length : Int) ≤ hi - lo := by
  intro l
  induction l with
  | nil => intro hi _ _ h; simp; omega
  | cons r t ih =>
    intro hi h hb hle
    have h1 := hb r (by simp)
    have h2 := h.1
    have := ih (hi := r.1) h.tail (fun s hs => ⟨(hb s (by simp [hs])).1, h.below s hs⟩) (by omega)
    simp only [List.length_cons]
    omega
theorem look_at {β : Type} : ∀ {l : List (Run β)}, RunsOk l → ∀ r ∈ l, ∀ p, r.1 ≤ p → p < r.2.1 → look l p = some r.2.2 := by
  intro l
  induction l with
  | nil => intro _ r hr; cases hr
  | cons s t ih =>
    intro h r hr p h1 h2
    rcases List.mem_cons.1 hr with rfl | hr
    · rw [look, if_pos ⟨h1, h2⟩]
    · have := h.below r hr
      rw [look, if_neg (by omega)]
      exact ih h.tail r hr p h1 h2
theorem RunsOk.lt {β : Type} : ∀ {l : List (Run β)}, RunsOk l → ∀ r ∈ l, r.1 < r.2.1 := by
  intro l
  induction l with
  | nil => intro _ r hr; cases hr
  | cons s t ih =>
    intro h r hr
    rcases List.mem_cons.1 hr with rfl | hr
    · exact h.1
    · exact ih h.tail r hr
/-- Of a region within a box: its bands and their spans lie there. -/
theorem bands_in {bs : Bands} (h : BandsOk bs) (hb : ∀ x y, memB bs x y = true → -4 ≤ x ∧ x < 32 ∧ -4 ≤ y ∧ y < 32) : ∀ b ∈ bs, (-4 ≤ b.1 ∧ b.2.1 ≤ 32) ∧ ∀ s ∈ b.2.2, -4 ≤ s.1 ∧ s.2.1 ≤ 32 := by
  intro b hm
  obtain ⟨h1, h2⟩ := h.each b hm
  have hlt := h.runs.lt b hm
  have pt : ∀ s ∈ b.2.2, ∀ x y, b.1 ≤ y → y < b.2.1 → s.1 ≤ x → x < s.2.1 → -4 ≤ x ∧ x < 32 ∧ -4 ≤ y ∧ y < 32 := by
    intro s hs x y y0 y1 x0 x1
    refine hb x y ?_
    unfold memB
    rw [look_at h.runs b hm y y0 y1]
    simp only
    rw [look_at h1 s hs x x0 x1]; rfl
  have hspan : ∀ s ∈ b.2.2, -4 ≤ s.1 ∧ s.2.1 ≤ 32 := by
    intro s hs
    have hs1 := h1.lt s hs
    have a1 := pt s hs s.1 b.1 (by omega) hlt (by omega) hs1
    have a2 := pt s hs (s.2.1 - 1) b.1 (by omega) hlt (by omega) (by omega)
    omega
  refine ⟨?_, hspan⟩
  cases e : b.2.2 with
  | nil => exact absurd e h2
  | cons s t =>
    have hs : s ∈ b.2.2 := by rw [e]; simp
    have hs1 := h1.lt s hs
    have a1 := pt s hs s.1 b.1 (by omega) hlt (by omega) hs1
    have a2 := pt s hs s.1 (b.2.1 - 1) (by omega) (by omega) (by omega) hs1
    omega
theorem flatR_length {m : Nat} : ∀ {bs : Bands}, (∀ b ∈ bs, b.2.2.length ≤ m) → (flatR bs).length ≤ bs.length * m := by
  intro bs
  induction bs with
  | nil => intro _; simp [flatR]
  | cons b t ih =>
    intro h
    have h1 := ih (fun c hc => h c (by simp [hc]))
    have h2 := h b (by simp)
    rw [flatR, List.length_append, bandR_length, List.length_cons, Nat.succ_mul]
    omega
theorem boxed_len {l : List Rect} {F : Int → Int → Bool} (h : IsReg l F) (hb : Boxed l) : l.length ≤ 1296 := by
  obtain ⟨bs, h1, rfl, h2⟩ := h
  have hin := bands_in h1 (fun x y hm => hb x y (by rw [hasL_flat h1.runs]; exact hm))
  have e1 := runs_length (lo := -4) (hi := 32) h1.runs (fun r hr => (hin r hr).1) (by omega)
  have e2 : ∀ b ∈ bs, b.2.2.length ≤ 36 := fun b hm => by
    have := runs_length (lo := -4) (hi := 32) (h1.each b hm).1 (fun r hr => (hin b hm).2 r hr) (by omega)
    omega
  have e3 := flatR_length e2
  have e4 : bs.length * 36 ≤ 36 * 36 := Nat.mul_le_mul_right _ (by omega)
  omega
theorem flatR_mem : ∀ {bs : Bands} {r : Rect}, r ∈ flatR bs → ∃ b ∈ bs, ∃ s ∈ b.2.2, r = ⟨s.1, b.1, s.2.1, b.2.1⟩ := by
  intro bs
  induction bs with
  | nil => intro r h; cases h
  | cons b t ih =>
    intro r h
    rw [flatR] at h
    rcases List.mem_append.1 h with h | h
    · obtain ⟨c, hc, s, hs, e⟩ := ih h
      exact ⟨c, by simp [hc], s, hs, e⟩
    · unfold bandR at h
      rw [List.mem_reverse, List.mem_map] at h
      obtain ⟨s, hs, e⟩ := h
      exact ⟨b, by simp, s, hs, e.symm⟩
/-- A rectangle of a region within the box. -/
structure InBox (r : Rect) : Prop where
  x : -4 ≤ r.x0 ∧ r.x0 < r.x1 ∧ r.x1 ≤ 32
  y : -4 ≤ r.y0 ∧ r.y0 < r.y1 ∧ r.y1 ≤ 32
theorem boxed_rects {l : List Rect} {F : Int → Int → Bool} (h : IsReg l F) (hb : Boxed l) : ∀ r ∈ l, InBox r := by
  obtain ⟨bs, h1, rfl, h2⟩ := h
  have hin := bands_in h1 (fun x y hm => hb x y (by rw [hasL_flat h1.runs]; exact hm))
  intro r hr
  obtain ⟨b, hm, s, hs, rfl⟩ := flatR_mem hr
  have a1 := (hin b hm).1
  have a2 := (hin b hm).2 s hs
  have a3 := h1.runs.lt b hm
  have a4 := (h1.each b hm).1.lt s hs
  exact ⟨⟨a2.1, a4, a2.2⟩, ⟨a1.1, a3, a1.2⟩⟩
theorem smallR_box (r : Rect) : -4 ≤ (smallR r).x0 ∧ (smallR r).x0 ≤ (smallR r).x1 ∧ (smallR r).x1 ≤ 31 ∧ -4 ≤ (smallR r).y0 ∧ (smallR r).y0 ≤ (smallR r).y1 ∧ (smallR r).y1 ≤ 31 := by
  have h1 := aroundI_range r.x0 (m := 24) (by omega)
  have h2 := aroundI_range r.y0 (m := 24) (by omega)
  have h3 := aroundI_range r.x1 (m := 13) (by omega)
  have h4 := aroundI_range r.y1 (m := 13) (by omega)
  simp only [smallR]; omega
theorem small_boxed {l : List Rect} (h : ∀ r ∈ l, ∃ q, r = smallR q) : Boxed l := by
  intro x y hh
  obtain ⟨r, hm, h1, h2, h3, h4⟩ := hasL_true.1 hh
  obtain ⟨q, rfl⟩ := h r hm
  have := smallR_box q
  omega
theorem can_boxed {l : List Rect} (h : Boxed l) : Boxed (canR l) := fun x y hh => h x y (by rw [← hasL_can]; exact hh)
/-- A region that the laws are handed: made of small rectangles. -/
structure Good (l : List Rect) : Prop where
  reg : IsReg l (hasL l)
  box : Boxed l
theorem Good.one (r : Rect) : Good (canR [smallR r]) := ⟨(canR_isReg _).self, can_boxed (small_boxed (fun q hq => ⟨r, by simpa using hq⟩))⟩
theorem Good.len {l : List Rect} (h : Good l) : l.length ≤ 1296 := boxed_len h.reg h.box
theorem Good.op {kf : Bool → Bool → Bool} (h0 : kf false false = false) {a b : List Rect} (ha : Good a) (hb : Good b) : Good (regM kf a b) := ⟨(regM_isReg h0 a b).self, Boxed.op h0 ha.box hb.box⟩
/-! ### Areas -/
end Go.Proofs.Ytlfahohbkgdabaa

/- States and the items of a snapshot: how they stand in memory; what is shown at a point. -/
set_option linter.unusedVariables false
set_option linter.unusedSimpArgs false
namespace Go.Proofs.Ytlfahohbkgdabaa
open Go Go.RowKit
/-- A state of the document: of an image. -/
structure TS where
  W : Int
  H : Int
  r : Nat
  n : Nat
  cap : Nat
  px : List Int
  X : Int
  Y : Int
  s : Int
  al : Int
  ca : Int
  cb : Int
  cc : Int
  cd : Int
  A : Option Addr
  g : Nat
  k : Nat
  cp : Nat
  op : List Rect
instance : Inhabited TS := ⟨⟨0, 0, 0, 0, 0, [], 0, 0, 0, 0, 0, 0, 0, 0, none, 0, 0, 0, []⟩⟩
def TS.cells (t : TS) : List Value := [.bool true, .int .i64 t.W, .int .i64 t.H, .slice (some ⟨t.r, 0, none⟩) t.n t.cap, .int .i64 t.X, .int .i64 t.Y, .int .i64 t.s, .int .i64 t.al, .int .i64 t.ca, .int .i64 t.cb, .int .i64 t.cc, .int .i64 t.cd, .slice t.A t.k t.cp, .string ⟨#[]⟩]
theorem TS.size (t : TS) : (TS.cells t).length = 14 := rfl
theorem TS.one : ∀ a : TS, ∀ u ∈ TS.cells a, u.oneCell' = true := by
  intro a u hu
  simp only [TS.cells, List.mem_cons, List.not_mem_nil, or_false] at hu
  rcases hu with rfl | rfl | rfl | rfl | rfl | rfl | rfl | rfl | rfl | rfl | rfl | rfl | rfl | rfl <;> rfl
def TS.pxG (t : TS) : GenEnt := rdE (some ⟨t.r, 0, none⟩) t.r 0 t.n 1 (ivals .u32 t.px)
def TS.opG (t : TS) : GenEnt := rdE t.A t.g 0 t.k 4 (rvals t.op)
def TS.pxs (l : List TS) (i : Nat) : GenEnt := (dget l i).pxG
def TS.ops (l : List TS) (i : Nat) : GenEnt := (dget l i).opG
theorem TS.pxs_app {l : List TS} {t : TS} {m : Nat} (h : l.length = m) : (∀ k, k < m → TS.pxs (l ++ [t]) k = TS.pxs l k) ∧ TS.pxs (l ++ [t]) m = t.pxG :=
  ⟨fun k hk => by unfold TS.pxs; rw [dget_app (by omega)], by unfold TS.pxs; rw [dget_end h]⟩
theorem TS.ops_app {l : List TS} {t : TS} {m : Nat} (h : l.length = m) : (∀ k, k < m → TS.ops (l ++ [t]) k = TS.ops l k) ∧ TS.ops (l ++ [t]) m = t.opG :=
  ⟨fun k hk => by unfold TS.ops; rw [dget_app (by omega)], by unfold TS.ops; rw [dget_end h]⟩
/-- One point that is solid, as a rectangle. -/
def SolR (W : Int) (px : List Int) (r : Rect) : Prop := ∃ i : Nat, i < px.length ∧ r = ⟨(i : Int) % W, (i : Int) / W, (i : Int) % W + 1, (i : Int) / W + 1⟩ ∧ pa (px.getD i 0) = 255
/-- A state that may be. -/
structure TS.Ok (t : TS) : Prop where
  img : ImgOk t.W t.H t.n t.px
  may : AllMay t.px
  w16 : t.W ≤ 16
  h16 : t.H ≤ 16
  s_ : 1 ≤ t.s ∧ t.s ≤ 3
  x_ : -6 ≤ t.X ∧ t.X ≤ 17
  y_ : -6 ≤ t.Y ∧ t.Y ≤ 17
  a_ : 0 ≤ t.al ∧ t.al ≤ 255
  clip : R64 ⟨t.ca, t.cb, t.cc, t.cd⟩
  opq : ∃ l : List Rect, t.op = canR l ∧ l.length ≤ 65536 ∧ ∀ r ∈ l, SolR t.W t.px r
/-- An item of a snapshot: a state with an image of its own. -/
structure IT where
  b : Nat
  q : Nat
  t : TS
instance : Inhabited IT := ⟨⟨0, 0, default⟩⟩
def IT.cells (x : IT) : List Value := [.int .i64 0, .int .i64 0, .pointer (some ⟨x.b, 0, none⟩), .int .i64 x.t.X, .int .i64 x.t.Y, .int .i64 x.t.s, .int .i64 x.t.al, .int .i64 x.t.ca, .int .i64 x.t.cb, .int .i64 x.t.cc, .int .i64 x.t.cd, .slice x.t.A x.t.k x.t.cp, .string ⟨#[]⟩, .int .i64 0]
theorem IT.size (x : IT) : (IT.cells x).length = 14 := rfl
theorem IT.one : ∀ a : IT, ∀ u ∈ IT.cells a, u.oneCell' = true := by
  intro a u hu
  simp only [IT.cells, List.mem_cons, List.not_mem_nil, or_false] at hu
  rcases hu with rfl | rfl | rfl | rfl | rfl | rfl | rfl | rfl | rfl | rfl | rfl | rfl | rfl | rfl <;> rfl
def IT.hdG (tI : TypeId) (x : IT) : GenEnt := roE x.b [.int .i64 x.t.W, .int .i64 x.t.H, .slice (some ⟨x.q, 0, none⟩) x.t.n x.t.n] tI
def IT.pxG (x : IT) : GenEnt := rdE (some ⟨x.q, 0, none⟩) x.q 0 x.t.n 1 (ivals .u32 x.t.px)
def IT.hds (tI : TypeId) (l : List IT) (i : Nat) : GenEnt := (dget l i).hdG tI
def IT.pxs (l : List IT) (i : Nat) : GenEnt := (dget l i).pxG
theorem IT.hds_app {tI : TypeId} {l : List IT} {t : IT} {m : Nat} (h : l.length = m) : (∀ k, k < m → IT.hds tI (l ++ [t]) k = IT.hds tI l k) ∧ IT.hds tI (l ++ [t]) m = t.hdG tI :=
  ⟨fun k hk => by unfold IT.hds; rw [dget_app (by omega)], by unfold IT.hds; rw [dget_end h]⟩
theorem IT.pxs_app {l : List IT} {t : IT} {m : Nat} (h : l.length = m) : (∀ k, k < m → IT.pxs (l ++ [t]) k = IT.pxs l k) ∧ IT.pxs (l ++ [t]) m = t.pxG :=
  ⟨fun k hk => by unfold IT.pxs; rw [dget_app (by omega)], by unfold IT.pxs; rw [dget_end h]⟩
theorem dget_mapT {its : List IT} {ts : List TS} (h : its.map (·.t) = ts) {i : Nat} (hi : i < its.length) : (dget its i).t = dget ts i := by
  subst h
  unfold dget
  rw [List.getD_eq_getElem?_getD, List.getD_eq_getElem?_getD, List.getElem?_map, List.getElem?_eq_getElem hi]; rfl
theorem map_take {its : List IT} {ts : List TS} {x : IT} {i : Nat} (h : its.map (·.t) = ts.take i) (hi : i < ts.length) (hx : x.t = dget ts i) : (its ++ [x]).map (·.t) = ts.take (i + 1) := by
  rw [List.map_append, h, List.take_add_one, List.getElem?_eq_getElem hi]
  simp only [List.map_cons, List.map_nil, Option.toList_some]
  rw [hx]
  unfold dget
  rw [List.getD_eq_getElem?_getD, List.getElem?_eq_getElem hi]; rfl
/-! ### What is shown at a point -/
def TS.sh (t : TS) (x y : Int) : Bool := pcolB t.W t.H t.X t.Y t.s t.ca t.cb t.cc t.cd x y
def TS.co (t : TS) (x y : Int) : Int := pcolC t.W t.H t.X t.Y t.s t.al t.ca t.cb t.cc t.cd t.px x y
def colsS (l : List TS) (x y : Int) : List Int := (l.filter fun t => t.sh x y).map fun t => t.co x y
def pixS (l : List TS) (x y g : Int) : Int := pixC g (colsS l x y)
theorem takeT {l : List TS} {i : Nat} (h : i < l.length) : l.take (i + 1) = l.take i ++ [dget l i] := by
  rw [List.take_add_one, List.getElem?_eq_getElem h]
  unfold dget
  rw [List.getD_eq_getElem?_getD, List.getElem?_eq_getElem h]; rfl
theorem colsS_yes {l : List TS} {i : Nat} {x y : Int} (h : i < l.length) (hs : (dget l i).sh x y = true) : colsS (l.take (i + 1)) x y = colsS (l.take i) x y ++ [(dget l i).co x y] := by
  unfold colsS
  rw [takeT h, List.filter_append, List.map_append]
  simp [hs]
theorem colsS_no {l : List TS} {i : Nat} {x y : Int} (h : i < l.length) (hs : (dget l i).sh x y = false) : colsS (l.take (i + 1)) x y = colsS (l.take i) x y := by
  unfold colsS
  rw [takeT h, List.filter_append, List.map_append]
  simp [hs]
theorem colsS_len (l : List TS) (x y : Int) : (colsS l x y).length ≤ l.length := by
  unfold colsS
  rw [List.length_map]
  exact List.length_filter_le _ _
theorem pixC_snocS (c : Int) (l : List Int) (d : Int) : pixC c (l ++ [d]) = overC d (pixC c l) := by
  unfold pixC
  rw [List.foldl_append]; rfl
theorem pcolC_inS (W H X Y s al a b c d : Int) (px : List Int) (x y : Int) : 0 ≤ pcolC W H X Y s al a b c d px x y ∧ pcolC W H X Y s al a b c d px x y < 4294967296 := by
  unfold pcolC
  split
  · exact mkC_range _ _ _ _
  · exact ⟨by decide, by decide⟩
theorem colsS_in (l : List TS) (x y : Int) : ∀ c ∈ colsS l x y, InC c := by
  intro c hc
  obtain ⟨t, _, rfl⟩ := List.mem_map.1 hc
  exact pcolC_inS _ _ _ _ _ _ _ _ _ _ _ _ _
theorem pixS_in (l : List TS) (x y : Int) {g : Int} (hg : InC g) : 0 ≤ pixS l x y g ∧ pixS l x y g < 4294967296 := pixC_in hg _
theorem map_len {its : List IT} {ts : List TS} {i : Nat} (h : its.map (·.t) = ts.take i) (hi : i ≤ ts.length) : its.length = i := by
  have := congrArg List.length h
  rw [List.length_map, List.length_take] at this
  omega
theorem okIT {its : List IT} {ts : List TS} (h : its.map (·.t) = ts) (hok : ∀ t ∈ ts, TS.Ok t) : ∀ x ∈ its, TS.Ok x.t := fun x hx => hok _ (by rw [← h]; exact List.mem_map.2 ⟨x, hx, rfl⟩)
end Go.Proofs.Ytlfahohbkgdabaa

