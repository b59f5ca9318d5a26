/- The keys of a kind, in a row. -/
import Derived.Test.YtekgdfaggagfmaaPeRo
import Derived.Test.YtekgdfaggagfmaaPeRs
set_option linter.unusedVariables false
namespace Go.Proofs.Ytekgdfaggagfmaa
open Go Go.RowKit
theorem sorted_unique : ∀ {a b : List Int}, a.Pairwise (· ≤ ·) → b.Pairwise (· ≤ ·) → a.Perm b → a = b := by
  intro a
  induction a with
  | nil => intro b _ _ h; exact (List.nil_perm.1 h).symm ▸ rfl
  | cons x a ih =>
    intro b ha hb h
    cases b with
    | nil => exact absurd h.length_eq (by simp)
    | cons y b =>
      have h1 : x ∈ y :: b := h.mem_iff.1 (List.mem_cons_self ..)
      have h2 : y ∈ x :: a := h.mem_iff.2 (List.mem_cons_self ..)
      have hxy : x = y := by
        rw [List.pairwise_cons] at ha hb
        rcases List.mem_cons.1 h1 with e | e
        · exact e
        · rcases List.mem_cons.1 h2 with e2 | e2
          · exact e2.symm
          · have := hb.1 x e; have := ha.1 y e2; omega
      subst hxy
      rw [ih (List.pairwise_cons.1 ha).2 (List.pairwise_cons.1 hb).2 ((List.perm_cons x).1 h)]
theorem sortL_perm {a b : List Int} (h : a.Perm b) : sortL a = sortL b :=
  sorted_unique (sortL_sorted a) (sortL_sorted b) (((List.mergeSort_perm a _).trans h).trans (List.mergeSort_perm b _).symm)
/-- What is of a kind, in its row. -/
def ofL (l : IL) (k : Int) : List Int := sortL (keysK l k)
theorem ofL_len (l : IL) (k : Int) : (ofL l k).length ≤ l.length := by unfold ofL; rw [sortL_length]; exact keysK_len l k
end Go.Proofs.Ytekgdfaggagfmaa

