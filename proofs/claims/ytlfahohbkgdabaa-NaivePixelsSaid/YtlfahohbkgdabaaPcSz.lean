/- The symbolic executor, third part: operations that are run by a law of their own; rows that the call owns; rows that are only read. Generic in the program. -/
import Derived.Test.YtlfahohbkgdabaaPcSy
set_option linter.unusedVariables false
set_option linter.unusedSimpArgs false
namespace Go.Proofs.Ytlfahohbkgdabaa
open Go Go.RowKit
variable {dfs : List Deferred}

def valS (s : Sem Value) : Sem Next := s.bind fun r => .pure (.value r)
def unS (s : Sem Unit) : Sem Next := s.bind fun _ => .pure .skip

section
variable {P : Program} {Q : Exit → Act → World → Prop} {n : Nat} {w0 : World} {L : List (Nat × Value)} {T : List Ent}

/-- A wanted operation, its place known: what is run. -/
def opS (ops : Array Oper) (n i : Nat) (L : List (Nat × Value)) : Option (Option Tmp × Sem Next) :=
  match ops[i]? with
  | none => none
  | some o =>
    match wantB ops o L with
    | some true =>
      bif knows L o then
        match o.dst with
        | none => some (none, execOp (evL L) o)
        | some d => bif Nat.blt d n then some (some d, execOp (evL L) o) else none
      else none
    | _ => none

theorem opS_core {ops : Array Oper} {i : Nat} {dst : Option Tmp} {S : Sem Next} (H : opS ops n i L = some (dst, S)) {a : Act} (hf : FrOk n a.tmps L) :
    ∃ o, ops[i]? = some o ∧ o.dst = dst ∧ (∀ d, dst = some d → d < n) ∧ Region.wanted o (yielded ops a.tmps) = true ∧ execOp a.eval o = S := by
  unfold opS at H
  split at H
  · cases H
  · rename_i o ho
    split at H
    · rename_i hw
      cases hkn : knows L o with
      | false => simp [hkn] at H
      | true =>
        simp only [hkn, cond_true] at H
        refine ⟨o, ho, ?_⟩
        cases hd : o.dst with
        | none =>
          simp only [hd, Option.some.injEq, Prod.mk.injEq] at H
          obtain ⟨rfl, rfl⟩ := H
          exact ⟨rfl, (fun d h => by cases h), wantB_sound hf hw, execOp_evL hf hkn⟩
        | some d =>
          simp only [hd] at H
          cases hb : Nat.blt d n with
          | false => simp [hb] at H
          | true =>
            simp only [hb, cond_true, Option.some.injEq, Prod.mk.injEq] at H
            obtain ⟨rfl, rfl⟩ := H
            exact ⟨rfl, (fun d' h => by cases h; simpa using hb), wantB_sound hf hw, execOp_evL hf hkn⟩
    · cases H

theorem valS_run {s : Sem Value} {w w' : World} {v : Value} (h : s.run P w = .ok v w') : (valS s).run P w = .ok (.value v) w' := by
  have e : valS s = (do let r ← s; pure (.value r)) := rfl
  rw [e]
  simp [Sem.run_bind, h]
theorem unS_run {s : Sem Unit} {w w' : World} {u : Unit} (h : s.run P w = .ok u w') : (unS s).run P w = .ok .skip w' := by
  have e : unS s = (do let _ ← s; pure .skip) := rfl
  rw [e]
  simp [Sem.run_bind, h]

theorem frok_putD {dst : Option Tmp} {a : Act} {v : Value} (hf : FrOk n a.tmps L) (hd : ∀ d, dst = some d → d < n) : FrOk n (a.put dst v).tmps (putD dst v L) := by
  cases dst with
  | none => exact hf
  | some d => exact hf.put (hd d rfl) v

/-- An operation that gives a value and turns nothing, by a law of its own. -/
theorem sem_step {ops : Array Oper} {i : Nat} {K : Act → World → Prop} (d : Tmp) (s : Sem Value) (v : Value) (H : opS ops n i L = some (some d, valS s)) (hrun : ∀ w, Tab w0 w T → s.run P w = .ok v w) (hk : Cont dfs K n w0 ((d, v) :: L) T) : Cont dfs (wpOp P ops Q i K) n w0 L T := by
  intro a w ha hf hT
  obtain ⟨o, ho, hdst, hd, hw, he⟩ := opS_core H hf
  unfold wpOp
  simp only [ho, hw, if_true]
  refine .inl ?_
  unfold Oper.wp
  rw [he, valS_run (hrun w hT)]
  show K (a.put o.dst v) w
  rw [hdst]
  exact hk _ _ (by rw [put_defers]; exact ha) (frok_putD hf hd) hT
/-- An operation that gives a value and turns memory, by a law of its own. -/
theorem sem_stepW {ops : Array Oper} {i : Nat} {K : Act → World → Prop} (d : Tmp) (s : Sem Value) {α : Type} (v : α → Value) (T' : α → List Ent) (G : α → Prop) (H : opS ops n i L = some (some d, valS s))
    (hrun : ∀ w, Tab w0 w T → ∃ x w', s.run P w = .ok (v x) w' ∧ G x ∧ Tab w0 w' (T' x)) (hk : ∀ x, G x → Cont dfs K n w0 ((d, v x) :: L) (T' x)) : Cont dfs (wpOp P ops Q i K) n w0 L T := by
  intro a w ha hf hT
  obtain ⟨o, ho, hdst, hd, hw, he⟩ := opS_core H hf
  obtain ⟨x, w', hr, hg, hT'⟩ := hrun w hT
  unfold wpOp
  simp only [ho, hw, if_true]
  refine .inl ?_
  unfold Oper.wp
  rw [he, valS_run hr]
  show K (a.put o.dst (v x)) w'
  rw [hdst]
  exact hk x hg _ _ (by rw [put_defers]; exact ha) (frok_putD hf hd) hT'
/-- The same of an operation without a value, or whose value goes nowhere. -/
theorem sem_stepU {ops : Array Oper} {i : Nat} {K : Act → World → Prop} (s : Sem Unit) {α : Type} (T' : α → List Ent) (G : α → Prop) (H : opS ops n i L = some (none, unS s))
    (hrun : ∀ w, Tab w0 w T → ∃ x w', s.run P w = .ok () w' ∧ G x ∧ Tab w0 w' (T' x)) (hk : ∀ x, G x → Cont dfs K n w0 L (T' x)) : Cont dfs (wpOp P ops Q i K) n w0 L T := by
  intro a w ha hf hT
  obtain ⟨o, ho, hdst, hd, hw, he⟩ := opS_core H hf
  obtain ⟨x, w', hr, hg, hT'⟩ := hrun w hT
  unfold wpOp
  simp only [ho, hw, if_true]
  refine .inl ?_
  unfold Oper.wp
  rw [he, unS_run hr]
  show K (a.put o.dst undef) w'
  rw [hdst]
  exact hk x hg _ _ (by rw [put_defers]; exact ha) hf hT'
/-- In a region that draws its order: an operation that gives a value in every world of which the table's kept part is known may come first. -/
theorem sem_take {ops : Array Oper} {m fuel : Nat} {l : List Nat} {T0 : List Ent} (s : Nat) (ds : List Nat) (i fuel' : Nat) (d : Tmp) (e : Sem Value) (v : Value) (hns : Region.noSelect ops = true) (hpo : PanicOk Q)
    (hS : dropT ds (T.drop s) = T0) (hfu : fuel = fuel' + 1) (hfr : (Region.free .any ops (marked m l) i && (Region.ready .any ops (marked m l)).contains i) = true)
    (H : opS ops n i L = some (some d, valS e)) (hrun : ∀ w, Known w T0 → e.run P w = .ok v w)
    (hk : Cont dfs (AH P ops Q (fun w => Known w T0) m fuel' (i :: l)) n w0 ((d, v) :: L) T) : Cont dfs (AH P ops Q (fun w => Known w T0) m fuel l) n w0 L T := by
  subst hfu
  intro a w ha hf hT
  obtain ⟨o, ho, hdst, hd, hw, he⟩ := opS_core H hf
  have hkn : Known w T0 := by rw [← hS]; exact known_dropT ds _ (known_drop s hT.ok)
  simp only [Bool.and_eq_true] at hfr
  refine wpAnyH_take (i := i) (oi := o) (v := v) ho hns hfr.1 hfr.2 (fun c a' w' hq => hpo c a' _ _ w' hq) (.inl ⟨hw, fun w' hw' => by rw [he]; exact valS_run (hrun w' hw')⟩) hkn ?_
  have := hk (a.put o.dst v) w (by rw [put_defers]; exact ha) (by rw [hdst]; exact frok_putD hf hd) hT
  exact this

def ownT : List Ent → Bool
  | [] => true
  | e :: r => (!e.wr || e.own) && ownT r
theorem Tab.post {w : World} (hT : Tab w0 w T) (h : ownT T = true) : Below w0.heap.size w0 w := by
  refine hT.toBelow (fun i e he hw => ?_)
  have : ∀ (T : List Ent), ownT T = true → ∀ (i : Nat) (e : Ent), T[i]? = some e → e.wr = true → e.own = true := by
    intro T
    induction T with
    | nil => intro _ i e he; simp at he
    | cons x r ih =>
      intro h i e he hw
      simp only [ownT, Bool.and_eq_true] at h
      cases i with
      | zero =>
        simp at he; subst he
        have := h.1
        simp [hw] at this; exact this
      | succ i => exact ih h.2 i e (by simpa using he) hw
  exact this T h i e he hw

/-! ### Laws of single operations -/
theorem run_indexAt {t e sz : TypeId} {g o len cap : Nat} {k : IntKind} {x : Int} (off : Nat) (hu : P.underlying t = some (.slice e)) (hi : (P.info? e).map (·.size) = some sz) (h0 : 0 ≤ x) (h1 : x < (len : Int)) (hoff : off = o + x.toNat * sz) (w : World) :
    (Instr.indexAt t (.slice (some ⟨g, o, none⟩) len cap) (.int k x)).run P w = .ok (.pointer (some ⟨g, off, none⟩)) w := by
  subst hoff
  obtain ⟨i, hi1, hi2⟩ := Option.map_eq_some_iff.1 hi
  have ha : (⟨g, o, none⟩ : Addr).add (x.toNat * sz) = ⟨g, o + x.toNat * sz, none⟩ := by unfold Addr.add; split <;> simp_all
  simp only [Instr.indexAt, asIntOf]
  simp [Sem.run_bind, run_underlying hu, hu, h0, h1, sizeOf, typeInfo, hi1, hi2, ha]

theorem Tab.erase {w : World} (hT : Tab w0 w T) (i : Nat) (h : ∀ e, T[i]? = some e → e.wr = true → e.own = true) : Tab w0 w (T.eraseIdx i) := by
  have look : ∀ j e, (T.eraseIdx i)[j]? = some e → ∃ j', T[j']? = some e ∧ j' ≠ i ∧ (j < i → j' = j) ∧ (i ≤ j → j' = j + 1) := by
    intro j e he
    rw [List.getElem?_eraseIdx] at he
    split at he
    · rename_i hj; exact ⟨j, he, by omega, fun _ => rfl, fun h => by omega⟩
    · rename_i hj; exact ⟨j + 1, he, by omega, fun h => by omega, fun _ => rfl⟩
  refine ⟨hT.os, hT.tape, hT.output, hT.size, ?_, ?_, ?_, ?_⟩
  · intro j e he
    obtain ⟨j', hj, _⟩ := look j e he
    exact hT.ok j' e hj
  · intro k hk hno
    refine hT.frame k hk (fun j e he hw hb => ?_)
    by_cases hji : j = i
    · subst hji
      have := hT.own j e he (h e he hw) k hb
      omega
    · rcases Nat.lt_or_ge j i with hlt | hge
      · exact hno j e (by rw [List.getElem?_eraseIdx, if_pos hlt]; exact he) hw hb
      · exact hno (j - 1) e (by rw [List.getElem?_eraseIdx, if_neg (by omega)]; rw [show j - 1 + 1 = j by omega]; exact he) hw hb
  · intro j e he
    obtain ⟨j', hj, _⟩ := look j e he
    exact hT.own j' e hj
  · intro a b e e' hab he he'
    obtain ⟨a', ha, _, ha1, ha2⟩ := look a e he
    obtain ⟨b', hb, _, hb1, hb2⟩ := look b e' he'
    refine hT.disj a' b' e e' (fun hc => ?_) ha hb
    subst hc
    rcases Nat.lt_or_ge a i with h1 | h1 <;> rcases Nat.lt_or_ge b i with h2 | h2
    · have := ha1 h1; have := hb1 h2; omega
    · have := ha1 h1; have := hb2 h2; omega
    · have := ha2 h1; have := hb1 h2; omega
    · have := ha2 h1; have := hb2 h2; omega
def mayGo (T : List Ent) (i : Nat) : Bool :=
  match T[i]? with
  | some e => !e.wr || e.own
  | none => false
theorem cont_forget {K : Act → World → Prop} (i : Nat) (h : mayGo T i = true) (hk : Cont dfs K n w0 L (T.eraseIdx i)) : Cont dfs K n w0 L T := by
  intro a w ha hf hT
  refine hk a w ha hf (hT.erase i (fun e he hw => ?_))
  simp [mayGo, he, hw] at h
  exact h

theorem wrapI {e : Int} (h0 : -9223372036854775808 ≤ e) (h1 : e ≤ 9223372036854775807) : Value.int .i64 (IntKind.i64.wrap e) = .int .i64 e := by rw [IntWalk.i64_in e ⟨h0, h1⟩]
theorem wrapU32 {e : Int} (h0 : 0 ≤ e) (h1 : e ≤ 4294967295) : Value.int .u32 (IntKind.u32.wrap e) = .int .u32 e := by rw [IntWalk.u32_in e ⟨h0, h1⟩]
/-- Go's max and min, as the model has them. -/
def mx (x y : Int) : Int := if y > x then y else x
def mn (x y : Int) : Int := if y < x then y else x
theorem mx_eq (x y : Int) : mx x y = max x y := by unfold mx; omega
theorem mn_eq (x y : Int) : mn x y = min x y := by unfold mn; omega
theorem ret_bool {a b : Bool} (h : a = b) : Ending.returned (.bool a) = .returned (.bool b) := by rw [h]
theorem ret_int {k : IntKind} {a b : Int} (h : a = b) : Ending.returned (.int k a) = .returned (.int k b) := by rw [h]

end
end Go.Proofs.Ytlfahohbkgdabaa

