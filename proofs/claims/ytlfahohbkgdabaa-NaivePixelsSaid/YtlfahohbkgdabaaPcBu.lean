/- Bundles of entries of the call's own that are only read: they grow, one entry by one, and are looked into. Generic in the program. -/
import Derived.Test.YtlfahohbkgdabaaPcDd
set_option linter.unusedVariables false
set_option linter.unusedSimpArgs false
namespace Go.Proofs.Ytlfahohbkgdabaa
open Go Go.RowKit
variable {dfs : List Deferred}
def bunO (n : Nat) (G : Nat → GenEnt) : GenEnt := { subE n G with own := true }
/-- A block of cells that is only read. -/
def roE (b : Nat) (cs : List Value) (t : TypeId) : GenEnt :=
  { blk := fun k => k = b, wr := false, own := false, ok := fun w => w.heap[b]? = some (.cells cs.toArray t (0, 0)),
    stable := fun w w' hb h => (hb b rfl).trans h,
    inb := fun w k h hk => by rw [show k = b from hk]; exact (Array.getElem?_eq_some_iff.1 h).1 }
/-- Another view of an entry that is only read. -/
theorem Tab.see {w0 w : World} {T : List Ent} (hT : Tab w0 w T) {j : Nat} {e e0 : Ent} (hj : T[j]? = some e) (hw : e.wr = false) (hv : Vw e e0) (hw0 : e0.wr = false) : Tab w0 w (e0 :: T) := by
  refine ⟨hT.os, hT.tape, hT.output, hT.size, ?_, ?_, ?_, ?_⟩
  · intro q x hx
    cases q with
    | zero => simp at hx; subst hx; exact hv.ok w (hT.ok j e hj)
    | succ q => exact hT.ok q x (by simpa using hx)
  · intro k hk hne
    exact hT.frame k hk (fun q x hx hwr => hne (q + 1) x (by simpa using hx) hwr)
  · intro q x hx hown
    cases q with
    | zero => simp at hx; subst hx; rw [hv.own] at hown; cases hown
    | succ q => exact hT.own q x (by simpa using hx) hown
  · intro p q x y hpq hx hy hwr k hk hk'
    cases p with
    | zero =>
      simp at hx; subst hx
      cases q with
      | zero => exact hpq rfl
      | succ q =>
        have hy2 : T[q]? = some y := by simpa using hy
        have hw' : y.wr = true := by
          rcases hwr with h | h
          · rw [hw0] at h; cases h
          · exact h
        have hne : j ≠ q := by
          intro hq; subst hq
          rw [hj] at hy2; cases hy2; rw [hw] at hw'; cases hw'
        exact hT.disj j q e y hne hj hy2 (.inr hw') k (hv.blk w (hT.ok j e hj) k hk) hk'
    | succ p =>
      have hx2 : T[p]? = some x := by simpa using hx
      cases q with
      | zero =>
        simp at hy; subst hy
        have hw' : x.wr = true := by
          rcases hwr with h | h
          · exact h
          · rw [hw0] at h; cases h
        have hne : p ≠ j := by
          intro hq; subst hq
          rw [hj] at hx2; cases hx2; rw [hw] at hw'; cases hw'
        exact hT.disj p j x e hne hx2 hj (.inl hw') k hk (hv.blk w (hT.ok j e hj) k hk')
      | succ q => exact hT.disj p q x y (by omega) hx2 (by simpa using hy) hwr k hk hk'
theorem cont_see {K : Act → World → Prop} {n : Nat} {w0 : World} {L : List (Tmp × Value)} {T : List Ent} (j : Nat) (e0 : Ent) {e : Ent} (hj : T[j]? = some e) (hw : e.wr = false) (hv : Vw e e0) (hw0 : e0.wr = false) (h : Cont dfs K n w0 L (e0 :: T)) : Cont dfs K n w0 L T :=
  fun a w ha hf hT => h a w ha hf (hT.see hj hw hv hw0)
/-- An entry of the call's own is only read from here on; it stays the call's own. -/
theorem Tab.weakenO {w0 w : World} {T : List Ent} (hT : Tab w0 w T) {i : Nat} {e e0 : Ent} (hi : T[i]? = some e) (ho : e.own = true) (hok : e0.ok w) (hb : ∀ k, e0.blk k → e.blk k) (hw : e0.wr = false) : Tab w0 w (T.set i e0) := by
  refine ⟨hT.os, hT.tape, hT.output, hT.size, ?_, ?_, ?_, ?_⟩
  · intro j x hx
    rcases getElem?_set_cases _ _ _ _ _ hx with ⟨_, rfl⟩ | ⟨_, hx⟩
    · exact hok
    · exact hT.ok j x hx
  · intro k hk hno
    refine hT.frame k hk (fun j x hx hxw hb' => ?_)
    by_cases hj : j = i
    · subst hj
      rw [hi] at hx; cases hx
      have := hT.own j e hi ho k hb'; omega
    · exact hno j x (by rw [List.getElem?_set_ne (Ne.symm hj)]; exact hx) hxw hb'
  · intro j x hx hxo k hk
    rcases getElem?_set_cases _ _ _ _ _ hx with ⟨_, rfl⟩ | ⟨_, hx⟩
    · exact hT.own i e hi ho k (hb k hk)
    · exact hT.own j x hx hxo k hk
  · intro j l x y hjl hx hy hxy k hk hk'
    rcases getElem?_set_cases _ _ _ _ _ hx with ⟨hji, rfl⟩ | ⟨hj, hx2⟩
    · rcases getElem?_set_cases _ _ _ _ _ hy with ⟨hli, rfl⟩ | ⟨hl, hy⟩
      · omega
      · rw [hw] at hxy
        exact hT.disj i l e y (Ne.symm hl) hi hy (.inr (hxy.resolve_left (by simp))) k (hb k hk) hk'
    · rcases getElem?_set_cases _ _ _ _ _ hy with ⟨hli, rfl⟩ | ⟨hl, hy⟩
      · rw [hw] at hxy
        exact hT.disj j i x e hj hx2 hi (.inl (hxy.resolve_right (by simp))) k hk (hb k hk')
      · exact hT.disj j l x y hjl hx2 hy hxy k hk hk'
/-- One entry of the call's own that is only read takes another one's blocks. -/
theorem Tab.grow {w0 w : World} {T : List Ent} (hT : Tab w0 w T) {i j : Nat} {e0 e1 e2 : Ent} (hi : T[i]? = some e0) (hoi : e0.own = true) (hwi : e0.wr = false) (hj : T[j]? = some e1) (hw1 : e1.wr = false) (ho1 : e1.own = true) (hw2 : e2.wr = false) (hok : e2.ok w)
    (hb : ∀ k, e2.blk k → e1.blk k ∨ e0.blk k) : Tab w0 w (T.set j e2) := by
  refine ⟨hT.os, hT.tape, hT.output, hT.size, ?_, ?_, ?_, ?_⟩
  · intro q x hx
    rcases getElem?_set_cases _ _ _ _ _ hx with ⟨_, rfl⟩ | ⟨_, hx⟩
    · exact hok
    · exact hT.ok q x hx
  · intro k hk hno
    refine hT.frame k hk (fun q x hx hxw hb' => ?_)
    by_cases hq : q = j
    · subst hq
      rw [hj] at hx; cases hx; rw [hw1] at hxw; cases hxw
    · exact hno q x (by rw [List.getElem?_set_ne (Ne.symm hq)]; exact hx) hxw hb'
  · intro q x hx hxo k hk
    rcases getElem?_set_cases _ _ _ _ _ hx with ⟨_, rfl⟩ | ⟨_, hx⟩
    · rcases hb k hk with h | h
      · exact hT.own j e1 hj ho1 k h
      · exact hT.own i e0 hi hoi k h
    · exact hT.own q x hx hxo k hk
  · have key : ∀ (l : Nat) (y : Ent) (k : Nat), T[l]? = some y → y.wr = true → e2.blk k → ¬ y.blk k := by
      intro l y k hy hyw hk hk'
      rcases hb k hk with h | h
      · refine hT.disj j l e1 y (fun he => ?_) hj hy (.inr hyw) k h hk'
        subst he; rw [hj] at hy; cases hy; rw [hw1] at hyw; cases hyw
      · refine hT.disj i l e0 y (fun he => ?_) hi hy (.inr hyw) k h hk'
        subst he; rw [hi] at hy; cases hy; rw [hwi] at hyw; cases hyw
    intro p q x y hpq hx hy hxy k hk hk'
    rcases getElem?_set_cases _ _ _ _ _ hx with ⟨hp, hxe⟩ | ⟨hp, hx2⟩
    · rcases getElem?_set_cases _ _ _ _ _ hy with ⟨hq, hye⟩ | ⟨hq, hy2⟩
      · omega
      · rw [hxe] at hk hxy
        exact key q y k hy2 (hxy.resolve_left (by rw [hw2]; simp)) hk hk'
    · rcases getElem?_set_cases _ _ _ _ _ hy with ⟨hq, hye⟩ | ⟨hq, hy2⟩
      · rw [hye] at hk' hxy
        exact key p x k hx2 (hxy.resolve_right (by rw [hw2]; simp)) hk' hk
      · exact hT.disj p q x y hpq hx2 hy2 hxy k hk hk'
theorem cont_nilbun {K : Act → World → Prop} {n : Nat} {w0 : World} {L : List (Tmp × Value)} {T : List Ent} (G : Nat → GenEnt) (h : Cont dfs K n w0 L (.gen (bunO 0 G) :: T)) : Cont dfs K n w0 L T :=
  fun a w ha hf hT => h a w ha hf (hT.fresh (.gen (bunO 0 G)) (fun i hi => absurd hi (Nat.not_lt_zero i)) (fun k hk => by obtain ⟨i, hi, _⟩ := hk; exact absurd hi (Nat.not_lt_zero i)))
/-- An entry of the call's own goes into a bundle. -/
theorem cont_bun {K : Act → World → Prop} {n : Nat} {w0 : World} {L : List (Tmp × Value)} {T : List Ent} (i j m : Nat) (G G' : Nat → GenEnt) (g : GenEnt) {e : Ent} (hi : T[i]? = some e) (ho : e.own = true) (hv : Vw e (.gen g)) (hj : T[j]? = some (.gen (bunO m G))) (hij : i ≠ j)
    (hG : ∀ k, k < m → G' k = G k) (hg : G' m = g) (h : Cont dfs K n w0 L ((T.set j (.gen (bunO (m + 1) G'))).eraseIdx i)) : Cont dfs K n w0 L T := by
  intro a w ha hf hT
  have hok := hT.ok i e hi
  have h1 : Tab w0 w (T.set i (.gen { g with wr := false, own := true })) := hT.weakenO hi ho (hv.ok w hok) (fun k hk => hv.blk w hok k hk) rfl
  have hil : i < T.length := (List.getElem?_eq_some_iff.1 hi).1
  have hi2 : (T.set i (.gen { g with wr := false, own := true }))[i]? = some (.gen { g with wr := false, own := true }) := by rw [List.getElem?_set_self hil]
  have hj2 : (T.set i (.gen { g with wr := false, own := true }))[j]? = some (.gen (bunO m G)) := by rw [List.getElem?_set_ne hij]; exact hj
  have h2 := h1.grow (e2 := .gen (bunO (m + 1) G')) hi2 rfl rfl hj2 rfl rfl rfl (by
    intro q hq
    rcases Nat.lt_or_ge q m with hlt | hge
    · rw [hG q hlt]; exact h1.ok j _ hj2 q hlt
    · rw [show q = m by omega, hg]; exact hv.ok w hok) (by
    rintro k ⟨q, hq, hk⟩
    rcases Nat.lt_or_ge q m with hlt | hge
    · rw [hG q hlt] at hk; exact .inl ⟨q, hlt, hk⟩
    · rw [show q = m by omega, hg] at hk; exact .inr hk)
  have h3 := h2.erase i (by
    intro x hx hxw
    rw [List.getElem?_set_ne (Ne.symm hij), hi2] at hx; cases hx; rfl)
  rw [List.set_comm _ _ hij, List.eraseIdx_set_eq] at h3
  exact h a w ha hf h3
theorem Vw.bunSub {n : Nat} {G : Nat → GenEnt} : Vw (.gen (bunO n G)) (.gen (subE n G)) := ⟨fun _ h => h, fun _ _ _ h => h, fun h => h, rfl⟩
theorem Vw.subSub {n : Nat} {G : Nat → GenEnt} : Vw (.gen (subE n G)) (.gen (subE n G)) := ⟨fun _ h => h, fun _ _ _ h => h, fun h => h, rfl⟩
theorem Vw.subAt {n : Nat} {G : Nat → GenEnt} (i : Nat) (hi : i < n) (hw : (G i).wr = false) (ho : (G i).own = false) : Vw (.gen (subE n G)) (.gen (G i)) := ⟨fun _ h => h i hi, fun _ _ _ hk => ⟨i, hi, hk⟩, fun h => (by rw [show (Ent.gen (G i)).wr = (G i).wr from rfl, hw] at h; cases h), ho⟩
theorem Vw.subAtRo {n : Nat} {G : Nat → GenEnt} {b : Nat} {cs : List Value} {t : TypeId} (i : Nat) (hi : i < n) (hG : G i = roE b cs t) : Vw (.gen (subE n G)) (.ro b cs t) := ⟨fun w h => by have := h i hi; rw [hG] at this; exact this, fun _ _ _ hk => ⟨i, hi, by rw [hG]; exact hk⟩, fun h => (by cases h), rfl⟩
theorem Vw.cellsRo {b : Nat} {cs : List Value} {t : TypeId} {o : Bool} : Vw (.cells b cs t o) (.gen (roE b cs t)) := ⟨fun _ h => h, fun _ _ _ h => h, fun h => (by cases h), rfl⟩
theorem dget_app {α : Type} [Inhabited α] {l : List α} {a : α} {i : Nat} (h : i < l.length) : dget (l ++ [a]) i = dget l i := by
  unfold dget; rw [List.getD_eq_getElem?_getD, List.getD_eq_getElem?_getD, List.getElem?_append_left h]
theorem dget_end {α : Type} [Inhabited α] {l : List α} {a : α} {n : Nat} (h : l.length = n) : dget (l ++ [a]) n = a := by
  subst h; unfold dget; rw [List.getD_eq_getElem?_getD, List.getElem?_append_right (Nat.le_refl _)]; simp
end Go.Proofs.Ytlfahohbkgdabaa

