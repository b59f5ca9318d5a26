/- Rows of rectangles: four cells an element; read, written, appended to, cut, cleared. Generic in the program. -/
import Derived.Test.YtlfahohbkgdabaaPcAp
import Derived.Test.YtlfahohbkgdabaaPcRh
import Derived.Lib.SliceRun
set_option linter.unusedVariables false
set_option linter.unusedSimpArgs false
namespace Go.Proofs.Ytlfahohbkgdabaa
open Go Go.RowKit
variable {dfs : List Deferred}

def rcells (r : Rect) : List Value := [.int .i64 r.x0, .int .i64 r.y0, .int .i64 r.x1, .int .i64 r.y1]
def rvals : List Rect → List Value
  | [] => []
  | r :: l => rcells r ++ rvals l
theorem rvals_length : ∀ l : List Rect, (rvals l).length = l.length * 4 := by
  intro l
  induction l with
  | nil => rfl
  | cons r l ih => simp only [rvals, List.length_append, ih, List.length_cons, rcells, List.length_nil]; omega
theorem rvals_append : ∀ a b : List Rect, rvals a ++ rvals b = rvals (a ++ b) := by
  intro a b
  induction a with
  | nil => rfl
  | cons r l ih => simp only [rvals, List.cons_append, List.append_assoc, ih]
theorem rvals_one (l : List Rect) : ∀ u ∈ rvals l, u.oneCell' = true := by
  induction l with
  | nil => intro u hu; cases hu
  | cons r l ih =>
    intro u hu
    rcases List.mem_append.1 hu with h | h
    · simp only [rcells, List.mem_cons, List.not_mem_nil, or_false] at h
      rcases h with rfl | rfl | rfl | rfl <;> rfl
    · exact ih u h
theorem rget_zero (r : Rect) (l : List Rect) : rget (r :: l) 0 = r := rfl
theorem rget_succ (r : Rect) (l : List Rect) (i : Nat) : rget (r :: l) (i + 1) = rget l i := by simp [rget]
theorem rvals_get : ∀ {l : List Rect} {i k : Nat} {v : Value}, i < l.length → (rcells (rget l i))[k]? = some v → (rvals l)[i * 4 + k]? = some v := by
  intro l
  induction l with
  | nil => intro i k v h; simp at h
  | cons r l ih =>
    intro i k v h hk
    cases i with
    | zero =>
      rw [rget_zero] at hk
      rw [Nat.zero_mul, Nat.zero_add, rvals, List.getElem?_append_left (List.getElem?_eq_some_iff.1 hk).1]
      exact hk
    | succ i =>
      rw [rget_succ] at hk
      have := ih (by simpa using h) hk
      rw [show (i + 1) * 4 + k = (i * 4 + k) + 4 by omega]
      exact this
theorem rvals_set : ∀ {l : List Rect} {i k : Nat} {v : Value} {r' : Rect}, i < l.length → k < 4 → (rcells (rget l i)).set k v = rcells r' → (rvals l).set (i * 4 + k) v = rvals (l.set i r') := by
  intro l
  induction l with
  | nil => intro i k v r' h; simp at h
  | cons r l ih =>
    intro i k v r' h hk e
    cases i with
    | zero =>
      rw [rget_zero] at e
      rw [Nat.zero_mul, Nat.zero_add, rvals, List.set_append_left _ _ (by simpa [rcells] using hk), e]
      rfl
    | succ i =>
      rw [rget_succ] at e
      have := ih (by simpa using h) hk e
      rw [show (i + 1) * 4 + k = (i * 4 + k) + 4 by omega]
      show rcells r ++ (rvals l).set (i * 4 + k) v = _
      rw [this]; rfl
section
variable {P : Program}
theorem Rd.cellF {w : World} {A : Option Addr} {g o n : Nat} {l : List Rect} (h : Rd w A g o n 4 (rvals l)) (i k : Nat) (v : Value) (hi : i < l.length) (hk : (rcells (rget l i))[k]? = some v) : w.cell? ⟨g, o + i * 4 + k, none⟩ = some v := by
  have := h.cell (i * 4 + k) v (rvals_get hi hk)
  rwa [← Nat.add_assoc] at this
theorem Rd.cellF0 {w : World} {A : Option Addr} {g n : Nat} {l : List Rect} (h : Rd w A g 0 n 4 (rvals l)) (i k : Nat) (v : Value) (hi : i < l.length) (hk : (rcells (rget l i))[k]? = some v) : w.cell? ⟨g, i * 4 + k, none⟩ = some v :=
  h.cell0 _ _ (rvals_get hi hk)
theorem Rd.rect {w : World} {A : Option Addr} {g o n : Nat} {l : List Rect} (h : Rd w A g o n 4 (rvals l)) {i : Nat} (hi : i < l.length) : ∀ j v, (rcells (rget l i))[j]? = some v → w.cell? ⟨g, (o + i * 4) + j, none⟩ = some v :=
  fun j v hj => h.cellF i j v hi hj
theorem Row.factsR {w : World} {A : Option Addr} {g n cap : Nat} {e : TypeId} {l : List Rect} (h : Row w A g n cap e 4 (rvals l)) : (0 < n → A = some ⟨g, 0, none⟩) ∧ l.length = n ∧ n ≤ cap ∧ cap ≤ maxLen := by
  refine ⟨h.at_, ?_, h.capLe, ?_⟩
  · have := h.own.1; rw [rvals_length] at this; omega
  · rcases h.own.2 with ⟨h1, _⟩ | ⟨g', cap', cur, hv, _, _, _, hm, _⟩
    · cases h1; unfold maxLen; omega
    · cases hv; exact hm
theorem Rd.factsR {w : World} {A : Option Addr} {g o n : Nat} {l : List Rect} (h : Rd w A g o n 4 (rvals l)) : (0 < n → A = some ⟨g, o, none⟩) ∧ l.length = n := ⟨h.at_, by have := h.len; rw [rvals_length] at this; omega⟩
theorem cont_rowEqR {K : Act → World → Prop} {n' : Nat} {w0 : World} {L : List (Nat × Value)} {T : List Ent} (i : Nat) {A : Option Addr} {g n cap : Nat} {e : TypeId} (xs ys : List Rect) {own : Bool} (hi : T[i]? = some (.gen (rowE A g n cap e 4 (rvals xs) own))) (hxy : xs = ys)
    (h : Cont dfs K n' w0 L (T.set i (.gen (rowE A g n cap e 4 (rvals ys) own)))) : Cont dfs K n' w0 L T := by
  subst hxy
  have : T.set i (.gen (rowE A g n cap e 4 (rvals xs) own)) = T := by
    obtain ⟨hlt, he⟩ := List.getElem?_eq_some_iff.1 hi
    rw [← he]
    exact List.set_getElem_self hlt
  rwa [this] at h
theorem Row.there {w : World} {A : Option Addr} {g n cap : Nat} {e : TypeId} {sz : Nat} {vals : List Value} (h : Row w A g n cap e sz vals) {j : Nat} (hj : j < n * sz) : (w.cell? ⟨g, j, none⟩).isSome = true := by
  have hl := h.own.1
  have := h.cell j (vals[j]'(by omega)) (List.getElem?_eq_getElem (by omega))
  rw [this]; rfl
/-- One number of an element, written. -/
theorem store_fieldR {w0 w : World} {T : List Ent} (hT : Tab w0 w T) {t e : TypeId} {A : Option Addr} {i g n cap J k p : Nat} {l : List Rect} {own : Bool} {v : Int} (r' : Rect) (hi : T[i]? = some (.gen (rowE A g n cap e 4 (rvals l) own))) (hsz : (P.info? t).map (·.size) = some 1) (hJ : J < l.length) (hk : k < 4) (hp : p = J * 4 + k) (he : (rcells (rget l J)).set k (.int .i64 v) = rcells r') :
    ∃ (x : Unit) (w' : World), (Instr.storeAt t (.pointer (some ⟨g, p, none⟩)) (.int .i64 v)).run P w = .ok () w' ∧ True ∧ Tab w0 w' (T.set i (.gen (rowE A g n cap e 4 (rvals (l.set J r')) own))) := by
  subst hp
  have hrow : Row w A g n cap e 4 (rvals l) := hT.ok i _ hi
  have hlen : l.length = n := hrow.factsR.2.1
  have hn : 0 < n := by omega
  have hc := hrow.there (j := J * 4 + k) (by omega)
  obtain ⟨u, hu⟩ := Option.isSome_iff_exists.1 hc
  refine ⟨(), _, run_store1 hsz rfl hu (hrow.free hn _), trivial, ?_⟩
  have := hT.rowSet hi hn (J * 4 + k) (.int .i64 v)
  rw [rvals_set hJ hk he] at this
  exact this
/-! ### Cut to a length -/
/-! ### Parts, read -/
/-! ### clear -/
end
end Go.Proofs.Ytlfahohbkgdabaa

