/- Lists of structs that hold slices: how they are read, how a law's argument of that kind opens. -/
import Derived.Test.YtlfahohbkgdabaaPcRowR
set_option linter.unusedVariables false
set_option linter.unusedSimpArgs false
namespace Go.Proofs.Ytlfahohbkgdabaa
open Go Go.ChangeShapes Go.WideShapes Go.ChangeAt Go.RowKit Go.Deep
variable {dfs : List Deferred}
/-! ### The cells of a list of structs -/
section
def dget {α : Type} [Inhabited α] (l : List α) (i : Nat) : α := l.getD i default
theorem dget_zero {α : Type} [Inhabited α] (a : α) (l : List α) : dget (a :: l) 0 = a := rfl
theorem dget_succ {α : Type} [Inhabited α] (a : α) (l : List α) (i : Nat) : dget (a :: l) (i + 1) = dget l i := by simp [dget]
theorem dget_mem {α : Type} [Inhabited α] {l : List α} {i : Nat} (h : i < l.length) : dget l i ∈ l := by
  unfold dget; rw [List.getD_eq_getElem?_getD, List.getElem?_eq_getElem h]; simp
def dvals {α : Type} (cel : α → List Value) : List α → List Value
  | [] => []
  | a :: l => cel a ++ dvals cel l
theorem dvals_length {α : Type} {cel : α → List Value} {z : Nat} (hz : ∀ a, (cel a).length = z) : ∀ l : List α, (dvals cel l).length = l.length * z := by
  intro l
  induction l with
  | nil => simp [dvals]
  | cons a l ih => rw [dvals, List.length_append, ih, hz, List.length_cons, Nat.succ_mul, Nat.add_comm]
theorem dvals_get {α : Type} [Inhabited α] {cel : α → List Value} {z : Nat} (hz : ∀ a, (cel a).length = z) : ∀ {l : List α} {i k : Nat} {v : Value}, i < l.length → (cel (dget l i))[k]? = some v → (dvals cel l)[i * z + k]? = some v := by
  intro l
  induction l with
  | nil => intro i k v h; simp at h
  | cons a l ih =>
    intro i k v h hk
    cases i with
    | zero =>
      rw [dget_zero] at hk
      rw [Nat.zero_mul, Nat.zero_add, dvals, List.getElem?_append_left (List.getElem?_eq_some_iff.1 hk).1]
      exact hk
    | succ i =>
      rw [dget_succ] at hk
      rw [dvals, Nat.succ_mul, List.getElem?_append_right (by rw [hz]; omega), hz, show i * z + z + k - z = i * z + k by omega]
      exact ih (by simpa using h) hk
theorem Rd.dcell {α : Type} [Inhabited α] {w : World} {A : Option Addr} {g o n z : Nat} {cel : α → List Value} {l : List α} (hz : ∀ a, (cel a).length = z) (h : Rd w A g o n z (dvals cel l)) {i : Nat} (hi : i < l.length) : ∀ j v, (cel (dget l i))[j]? = some v → w.cell? ⟨g, (o + i * z) + j, none⟩ = some v := fun j v hj => by
  have := h.cell (i * z + j) v (dvals_get hz hi hj)
  rwa [← Nat.add_assoc] at this
theorem Rd.dsub {α : Type} [Inhabited α] {w : World} {A : Option Addr} {g o n z : Nat} {cel : α → List Value} {l : List α} (hz : ∀ a, (cel a).length = z) (h : Rd w A g o n z (dvals cel l)) {i : Nat} (hi : i < l.length) (f m : Nat) {cs : List Value} (hc : ((cel (dget l i)).drop f).take m = cs) : ∀ j v, cs[j]? = some v → w.cell? ⟨g, (o + i * z + f) + j, none⟩ = some v := fun j v hj => by
  subst hc
  rw [List.getElem?_take] at hj
  split at hj
  · rw [List.getElem?_drop] at hj
    have := h.dcell hz hi (f + j) v hj
    rwa [← Nat.add_assoc] at this
  · cases hj
theorem Rd.dcell1 {α : Type} [Inhabited α] {w : World} {A : Option Addr} {g o n z : Nat} {cel : α → List Value} {l : List α} (hz : ∀ a, (cel a).length = z) (h : Rd w A g o n z (dvals cel l)) {i : Nat} (hi : i < l.length) (f : Nat) {v : Value} (hv : (cel (dget l i))[f]? = some v) : w.cell? ⟨g, o + i * z + f, none⟩ = some v := h.dcell hz hi f v hv
theorem Rd.factsD {α : Type} {w : World} {A : Option Addr} {g o n z : Nat} {cel : α → List Value} {l : List α} (hz : ∀ a, (cel a).length = z) (h0 : 0 < z) (h : Rd w A g o n z (dvals cel l)) : (0 < n → A = some ⟨g, o, none⟩) ∧ l.length = n := by
  refine ⟨h.at_, ?_⟩
  have := h.len
  rw [dvals_length hz] at this
  exact Nat.eq_of_mul_eq_mul_right h0 this
theorem dget_map {α : Type} [Inhabited α] {F : Nat → α} {n i : Nat} (h : i < n) : dget ((List.range n).map F) i = F i := by
  simp [dget, List.getD_eq_getElem?_getD, h]
end
/-! ### What lies behind the slices of each -/
def subE (n : Nat) (G : Nat → GenEnt) : GenEnt :=
  { blk := fun k => ∃ i, i < n ∧ (G i).blk k, wr := false, own := false, ok := fun w => ∀ i, i < n → (G i).ok w,
    stable := fun w w' hb h i hi => (G i).stable w w' (fun b hbk => hb b ⟨i, hi, hbk⟩) (h i hi),
    inb := fun w b h hb => by obtain ⟨i, hi, hk⟩ := hb; exact (G i).inb w b (h i hi) hk }
theorem Tab.sub {w0 w : World} {T : List Ent} (hT : Tab w0 w T) {j n : Nat} {G : Nat → GenEnt} (hj : T[j]? = some (.gen (subE n G))) {i : Nat} (hi : i < n) (hw : (G i).wr = false) (ho : (G i).own = false) : Tab w0 w (.gen (G i) :: T) := by
  have hok := hT.ok j _ hj i hi
  refine ⟨hT.os, hT.tape, hT.output, hT.size, ?_, ?_, ?_, ?_⟩
  · intro q e he
    cases q with
    | zero => simp at he; subst he; exact hok
    | succ q => exact hT.ok q e (by simpa using he)
  · intro k hk hne
    exact hT.frame k hk (fun q e he hwr => hne (q + 1) e (by simpa using he) hwr)
  · intro q e he hown
    cases q with
    | zero => simp at he; subst he; exact absurd hown (by show ¬ (G i).own = true; rw [ho]; simp)
    | succ q => exact hT.own q e (by simpa using he) hown
  · intro p q e e' hpq he he' hwr k hk hk'
    cases p with
    | zero =>
      simp at he; subst he
      cases q with
      | zero => exact hpq rfl
      | succ q =>
        have he2 : T[q]? = some e' := by simpa using he'
        have hw' : e'.wr = true := by
          rcases hwr with h | h
          · exact absurd h (by show ¬ (G i).wr = true; rw [hw]; simp)
          · exact h
        have hne : j ≠ q := by
          intro hq; subst hq
          rw [hj] at he2; cases he2; cases hw'
        exact hT.disj j q _ e' hne hj he2 (.inr hw') k ⟨i, hi, hk⟩ hk'
    | succ p =>
      have he2 : T[p]? = some e := by simpa using he
      cases q with
      | zero =>
        simp at he'; subst he'
        have hw' : e.wr = true := by
          rcases hwr with h | h
          · exact h
          · exact absurd h (by show ¬ (G i).wr = true; rw [hw]; simp)
        have hne : p ≠ j := by
          intro hq; subst hq
          rw [hj] at he2; cases he2; cases hw'
        exact hT.disj p j e _ hne he2 hj (.inl hw') k hk ⟨i, hi, hk'⟩
      | succ q => exact hT.disj p q e e' (by omega) he2 (by simpa using he') hwr k hk hk'
theorem Tab.olds {w : World} : ∀ {T : List Ent}, (∀ (i : Nat) (e : Ent), T[i]? = some e → e.ok w ∧ e.own = false ∧ e.wr = false) → Tab w w T := by
  intro T
  induction T with
  | nil => intro _; exact Tab.start w
  | cons e T ih =>
    intro h
    have h0 := h 0 e rfl
    refine Tab.addOld (ih (fun i x hx => h (i + 1) x (by simpa using hx))) e h0.1 h0.2.1 (fun i x hx hw => ?_)
    have h1 := h (i + 1) x (by simpa using hx)
    rcases hw with hw | hw
    · rw [h0.2.2] at hw; cases hw
    · rw [h1.2.2] at hw; cases hw
theorem cont_sub {K : Act → World → Prop} {n : Nat} {w0 : World} {L : List (Nat × Value)} {T : List Ent} (j i m : Nat) (G : Nat → GenEnt) (hj : T[j]? = some (.gen (subE m G))) (hi : i < m) (hw : (G i).wr = false) (ho : (G i).own = false) (h : Cont dfs K n w0 L (.gen (G i) :: T)) : Cont dfs K n w0 L T :=
  fun a w ha hf hT => h a w ha hf (hT.sub hj hi hw ho)
/-- A slice of structs that came in; what each is told by an opening of its own. -/
theorem open_listC {α : Type} [Inhabited α] {cel : α → List Value} {z : Nat} (hz : ∀ a, (cel a).length = z) (hz0 : 0 < z) {good : World → α → Prop} {H : Type} {enc : TypeId × Value → H} {P : Program} {W : World} {ts t : TypeId} {c : Value} {n : Nat} {x : DataW H × List MemPlace} (ht : P.underlying ts = some (.slice t)) (hct : P.cellsOf t = z)
    (hone : ∀ (cs : List Value) (n : Nat) (x : DataW H × List MemPlace), cs.length = z → DataW.trod enc P W 0 (fun _ => true) true n t cs = some x → ∃ a : α, cs = cel a ∧ good W a)
    (h : DataW.trod enc P W 0 (fun _ => true) true n ts [c] = some x) :
    ∃ (A : Option Addr) (g o n cap : Nat) (l : List α), c = .slice A n cap ∧ Rd W A g o n z (dvals cel l) ∧ l.length = n ∧ n ≤ cap ∧ cap ≤ maxLen ∧ (∀ a ∈ l, good W a) := by
  rcases open_slice ht h with ⟨e, _⟩ | ⟨a, len, cap, m, k, D, Pl, e, _, hle, hm, hmm, _, hx⟩
  · simp only [List.cons.injEq, and_true] at e
    exact ⟨none, 0, 0, 0, 0, [], e, ⟨by simp [dvals], fun h => by omega, fun j v hj => by simp [dvals] at hj⟩, rfl, Nat.le_refl _, by unfold maxLen; omega, fun x hx => by cases hx⟩
  · simp only [List.cons.injEq, and_true] at e
    simp only [if_true] at hmm
    have each : ∀ i, i < len → ∃ r : α, (∀ j v, (cel r)[j]? = some v → W.cell? ((a.add (i * z)).add j) = some v) ∧ good W r := by
      intro i hil
      obtain ⟨cs', g1, g2⟩ := hx i (by omega)
      rw [hct] at g1
      obtain ⟨_, hlen, hcell⟩ := World.cells?_some g1
      obtain ⟨r, rfl, hr⟩ := hone _ _ _ (by simpa using hlen) g2
      refine ⟨r, fun j v hj => ?_, hr⟩
      have hjl := (List.getElem?_eq_some_iff.1 hj).1
      have := hcell j (by rw [hz] at hjl; simpa using hjl)
      rw [this]
      simpa using hj
    have hF : ∃ F : Nat → α, ∀ i, i < len → (∀ j v, (cel (F i))[j]? = some v → W.cell? ((a.add (i * z)).add j) = some v) ∧ good W (F i) :=
      ⟨fun i => if h : i < len then Classical.choose (each i h) else default, fun i h => by simp only [dif_pos h]; exact Classical.choose_spec (each i h)⟩
    obtain ⟨F, hF⟩ := hF
    have hsp : 0 < len → a.spot = none := fun hp => by
      have h0 : 0 < (cel (F 0)).length := by rw [hz]; exact hz0
      have := (hF 0 hp).1 0 _ (List.getElem?_eq_getElem h0)
      have z' : (a.add (0 * z)).add 0 = a := by simp [Addr.add]
      rw [z'] at this
      exact spot_of_cell this
    refine ⟨some a, a.block, a.off, len, cap, (List.range len).map F, e, ⟨by rw [dvals_length hz]; simp, fun hp => ?_, fun j v hj => ?_⟩, by simp, hle, hm, fun r hr => ?_⟩
    · have := hsp hp
      cases a with
      | mk b o s => simp only at this; subst this; rfl
    · have hjl := (List.getElem?_eq_some_iff.1 hj).1
      rw [dvals_length hz, List.length_map, List.length_range] at hjl
      have hq : j / z < len := Nat.div_lt_of_lt_mul (by rwa [Nat.mul_comm])
      have hr : j % z < z := Nat.mod_lt _ hz0
      have hk := List.getElem?_eq_getElem (l := cel (F (j / z))) (i := j % z) (by rw [hz]; exact hr)
      have h2 := dvals_get hz (l := (List.range len).map F) (i := j / z) (k := j % z) (by simpa using hq) (by rw [dget_map hq]; exact hk)
      rw [show j / z * z + j % z = j by rw [Nat.mul_comm]; exact Nat.div_add_mod j z, hj] at h2
      have h3 := (hF _ hq).1 (j % z) v (by rw [hk]; exact h2.symm)
      have hs2 := hsp (Nat.lt_of_le_of_lt (Nat.zero_le _) hq)
      rw [addr_split hs2, addr_split rfl] at h3
      simp only at h3
      rw [show a.off + j / z * z + j % z = a.off + j by rw [Nat.add_assoc, Nat.mul_comm, Nat.div_add_mod]] at h3
      exact h3
    · obtain ⟨i, hi, rfl⟩ := List.mem_map.1 hr
      exact (hF i (List.mem_range.1 hi)).2
theorem open_list {α : Type} [Inhabited α] {cel : α → List Value} {z : Nat} (hz : ∀ a, (cel a).length = z) (hz0 : 0 < z) {good : World → α → Prop} {H : Type} {enc : TypeId × Value → H} {P : Program} {W : World} {ts t : TypeId} {v : Value} {d : DataW H} {ps : List MemPlace} (ht : P.underlying ts = some (.slice t)) (hct : P.cellsOf t = z)
    (hone : ∀ (cs : List Value) (n : Nat) (x : DataW H × List MemPlace), cs.length = z → DataW.trod enc P W 0 (fun _ => true) true n t cs = some x → ∃ a : α, cs = cel a ∧ good W a)
    (hval : Value.okWide P W .any 0 ts v) (h : DataW.Trod enc P W 0 (fun _ => true) true ts v d ps) :
    ∃ (A : Option Addr) (g o n cap : Nat) (l : List α), v = .slice A n cap ∧ Rd W A g o n z (dvals cel l) ∧ l.length = n ∧ n ≤ cap ∧ cap ≤ maxLen ∧ (∀ a ∈ l, good W a) := by
  obtain ⟨a, len, cap, rfl⟩ := okWide_slice ht hval
  obtain ⟨fuel, hf⟩ := h
  exact open_listC hz hz0 ht hct hone hf
end Go.Proofs.Ytlfahohbkgdabaa

