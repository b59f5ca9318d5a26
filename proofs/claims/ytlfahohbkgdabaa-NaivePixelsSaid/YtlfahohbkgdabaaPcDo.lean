/- Rows of structs of the call's own. -/
import Derived.Test.YtlfahohbkgdabaaPcDd
import Derived.Test.YtlfahohbkgdabaaPcRr
set_option linter.unusedVariables false
set_option linter.unusedSimpArgs false
namespace Go.Proofs.Ytlfahohbkgdabaa
open Go Go.RowKit
variable {dfs : List Deferred}
section
variable {α : Type} {cel : α → List Value} {z : Nat}
theorem dvals_append : ∀ a b : List α, dvals cel a ++ dvals cel b = dvals cel (a ++ b) := by
  intro a b
  induction a with
  | nil => rfl
  | cons x a ih => rw [dvals, List.append_assoc, ih]; rfl
theorem dvals_one (h1 : ∀ a, ∀ u ∈ cel a, u.oneCell' = true) : ∀ l : List α, ∀ u ∈ dvals cel l, u.oneCell' = true := by
  intro l
  induction l with
  | nil => intro u hu; cases hu
  | cons x l ih =>
    intro u hu
    rcases List.mem_append.1 hu with h | h
    · exact h1 x u h
    · exact ih u h
theorem Row.factsD {w : World} {A : Option Addr} {g n cap : Nat} {e : TypeId} {l : List α} (hz : ∀ a, (cel a).length = z) (h0 : 0 < z) (h : Row w A g n cap e z (dvals cel l)) : (0 < n → A = some ⟨g, 0, none⟩) ∧ l.length = n ∧ n ≤ cap ∧ cap ≤ maxLen := by
  refine ⟨h.at_, (h.rd.factsD hz h0).2, h.capLe, ?_⟩
  rcases h.own.2 with ⟨h1, _⟩ | ⟨g', cap', cur, hv, _, _, _, hm, _⟩
  · cases h1; unfold maxLen; omega
  · cases hv; exact hm
theorem cont_rowEqD {K : Act → World → Prop} {n' : Nat} {w0 : World} {L : List (Nat × Value)} {T : List Ent} (i : Nat) {A : Option Addr} {g n cap : Nat} {e : TypeId} (xs ys : List α) {own : Bool} (hi : T[i]? = some (.gen (rowE A g n cap e z (dvals cel xs) own))) (hxy : xs = ys)
    (h : Cont dfs K n' w0 L (T.set i (.gen (rowE A g n cap e z (dvals cel ys) own)))) : Cont dfs K n' w0 L T := by
  subst hxy
  have : T.set i (.gen (rowE A g n cap e z (dvals cel xs) own)) = T := by
    obtain ⟨hlt, he⟩ := List.getElem?_eq_some_iff.1 hi
    rw [← he]
    exact List.set_getElem_self hlt
  rwa [this] at h
theorem dvals_part (hz : ∀ a, (cel a).length = z) {l : List α} {J m : Nat} (h : J + m ≤ l.length) : ∀ j v, (dvals cel ((l.drop J).take m))[j]? = some v → (dvals cel l)[J * z + j]? = some v := by
  intro j v hj
  have e : l = l.take J ++ ((l.drop J).take m ++ (l.drop J).drop m) := by rw [List.take_append_drop, List.take_append_drop]
  have e2 : dvals cel l = dvals cel (l.take J) ++ (dvals cel ((l.drop J).take m) ++ dvals cel ((l.drop J).drop m)) := by
    rw [dvals_append, dvals_append, ← e]
  have e3 : (dvals cel (l.take J)).length = J * z := by rw [dvals_length hz, List.length_take]; congr 1; omega
  rw [e2, List.getElem?_append_right (by omega), e3, show J * z + j - J * z = j by omega, List.getElem?_append_left (List.getElem?_eq_some_iff.1 hj).1]
  exact hj
theorem Rd.headD {w : World} {g o n : Nat} {l : List α} {A : Option Addr} (hz : ∀ a, (cel a).length = z) (h0 : 0 < z) (h : Rd w A g o n z (dvals cel l)) {m : Nat} (hm : m ≤ n) : Rd w A g o m z (dvals cel (l.take m)) := by
  have hl := (h.factsD hz h0).2
  refine ⟨by rw [dvals_length hz, List.length_take]; congr 1; omega, fun h9 => h.at_ (by omega), fun j v hj => ?_⟩
  have := dvals_part hz (l := l) (J := 0) (m := m) (by omega) j v (by simpa using hj)
  rw [Nat.zero_mul, Nat.zero_add] at this
  exact h.cell _ v this
end
end Go.Proofs.Ytlfahohbkgdabaa

