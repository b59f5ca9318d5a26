/- Which lists are regions, by the document's words: step by step. -/
import Derived.Test.YtlfahohbkgdabaaPaRe
set_option linter.unusedVariables false
set_option linter.unusedSimpArgs false
namespace Go.Proofs.Ytlfahohbkgdabaa
open Go Go.RowKit

def sameY (p r : Rect) : Prop := p.y0 = r.y0 ∧ p.y1 = r.y1
instance (p r : Rect) : Decidable (sameY p r) := inferInstanceAs (Decidable (_ ∧ _))
def fromOf (l : List Rect) : Nat → Nat
  | 0 => 0
  | i + 1 => if i = 0 then 0 else if sameY (rget l (i - 1)) (rget l i) then fromOf l i else i
def part (l : List Rect) (a b : Nat) : List Rect := (l.drop a).take (b - a)
structure EndOf (l : List Rect) (i e : Nat) : Prop where
  lt : i < e
  le : e ≤ l.length
  same : ∀ j, i ≤ j → j < e → sameY (rget l j) (rget l i)
  stop : e < l.length → ¬ sameY (rget l e) (rget l i)
theorem EndOf.unique {l : List Rect} {i e e' : Nat} (h : EndOf l i e) (h' : EndOf l i e') : e = e' := by
  rcases Nat.lt_trichotomy e e' with a | a | a
  · exact absurd (h'.same e (Nat.le_of_lt h.lt) a) (h.stop (by have := h'.le; omega))
  · exact a
  · exact absurd (h.same e' (Nat.le_of_lt h'.lt) a) (h'.stop (by have := h.le; omega))
theorem bandR_mem {y y' : Int} {sp : Spans} {r : Rect} (h : r ∈ bandR y y' sp) : r.y0 = y ∧ r.y1 = y' ∧ ∃ s ∈ sp, r = spR y y' s := by
  unfold bandR at h
  rw [List.mem_reverse, List.mem_map] at h
  obtain ⟨s, hs, rfl⟩ := h
  exact ⟨rfl, rfl, s, hs, rfl⟩
theorem rget_take {l : List Rect} {i j : Nat} (h : j < i) : rget (l.take i) j = rget l j := by
  unfold rget
  rw [List.getD_eq_getElem?_getD, List.getD_eq_getElem?_getD, List.getElem?_take, if_pos h]
theorem rget_app_left {a b : List Rect} {j : Nat} (h : j < a.length) : rget (a ++ b) j = rget a j := by rw [rget_append, if_pos h]
theorem rget_app_right {a b : List Rect} {j : Nat} (h : a.length ≤ j) : rget (a ++ b) j = rget b (j - a.length) := by rw [rget_append, if_neg (by omega)]

/-! ### The words hold: it is a region -/
structure Pref (l : List Rect) (i : Nat) (t : Bands) (y y' : Int) (sp : Spans) : Prop where
  ok : BandsOk t
  runs : RunsOk sp
  ne : sp ≠ []
  lt : y < y'
  eq : l.take i = flatR t ++ bandR y y' sp
  frm : fromOf l i = (flatR t).length
  sep : ∀ c u, t = c :: u → c.2.1 ≤ y ∧ (c.2.1 = y → ∀ e, EndOf l (flatR t).length e → eqF span1 (bandR c.1 c.2.1 c.2.2) (part l (flatR t).length e) = false)
theorem Pref.len {l : List Rect} {i : Nat} {t : Bands} {y y' : Int} {sp : Spans} (h : Pref l i t y y' sp) (hi : i ≤ l.length) : i = (flatR t).length + sp.length ∧ 0 < sp.length := by
  have := congrArg List.length h.eq
  rw [List.length_take, List.length_append, bandR_length] at this
  have : 0 < sp.length := by cases e : sp with
    | nil => exact absurd e h.ne
    | cons _ _ => simp
  omega
theorem Pref.inb {l : List Rect} {i : Nat} {t : Bands} {y y' : Int} {sp : Spans} (h : Pref l i t y y' sp) (hi : i ≤ l.length) {j : Nat} (h1 : (flatR t).length ≤ j) (h2 : j < i) : (rget l j).y0 = y ∧ (rget l j).y1 = y' := by
  have hl := h.len hi
  rw [← rget_take h2, h.eq, rget_app_right h1]
  have := bandR_mem (rget_mem (l := bandR y y' sp) (i := j - (flatR t).length) (by rw [bandR_length]; omega))
  exact ⟨this.1, this.2.1⟩
/-! ### A region: the words hold -/
theorem flatR_append (u t : Bands) : flatR (u ++ t) = flatR t ++ flatR u := by
  induction u with
  | nil => simp [flatR]
  | cons c u ih => rw [List.cons_append, flatR, ih, flatR, List.append_assoc]
structure Place (bs : Bands) (i : Nat) (u : Bands) (b : Run Spans) (t : Bands) (k : Nat) : Prop where
  eq : bs = u ++ b :: t
  i_ : i = (flatR t).length + k
  k_ : k < b.2.2.length
theorem Place.get {bs : Bands} {i : Nat} {u : Bands} {b : Run Spans} {t : Bands} {k : Nat} (h : Place bs i u b t k) : rget (flatR bs) i = rget (bandR b.1 b.2.1 b.2.2) k := by
  rw [h.eq, flatR_append, flatR, List.append_assoc, rget_app_right (by have := h.i_; omega), rget_app_left (by rw [bandR_length]; have := h.i_; have := h.k_; omega)]
  congr 1
  have := h.i_; omega
theorem Place.y {bs : Bands} {i : Nat} {u : Bands} {b : Run Spans} {t : Bands} {k : Nat} (h : Place bs i u b t k) : (rget (flatR bs) i).y0 = b.1 ∧ (rget (flatR bs) i).y1 = b.2.1 := by
  rw [h.get]
  have := bandR_mem (rget_mem (l := bandR b.1 b.2.1 b.2.2) (i := k) (by rw [bandR_length]; exact h.k_))
  exact ⟨this.1, this.2.1⟩
end Go.Proofs.Ytlfahohbkgdabaa

