/- What the walks of the document's regions use. -/
import Derived.Test.YtlfahohbkgdabaaPcRt
import Derived.Test.YtlfahohbkgdabaaPcIb
set_option linter.unusedVariables false
set_option linter.unusedSimpArgs false
namespace Go.Proofs.Ytlfahohbkgdabaa
open Go Go.RowKit

/-! ### A number put into a list that rises -/
def anyGt (l : List Int) (y : Int) : Bool := l.any fun x => decide (y < x)
def insP (xs : List Int) (y : Int) (i : Nat) : List Int := if anyGt (xs.take i) y then (xs.take i).filter (· < y) ++ y :: (xs.take i).filter (y < ·) else xs.take i
theorem take_succ_getD {l : List Int} {i : Nat} (h : i < l.length) : l.take (i + 1) = l.take i ++ [l.getD i 0] := by
  rw [List.take_add_one, List.getElem?_eq_getElem h]
  simp [List.getD_eq_getElem?_getD, List.getElem?_eq_getElem h]
theorem mem_take_getD {l : List Int} {i : Nat} {x : Int} (h : x ∈ l.take i) : ∃ j, j < i ∧ j < l.length ∧ l.getD j 0 = x := by
  obtain ⟨j, hj, e⟩ := List.mem_iff_getElem.1 h
  rw [List.length_take] at hj
  refine ⟨j, by omega, by omega, ?_⟩
  rw [List.getElem_take] at e
  rw [List.getD_eq_getElem?_getD, List.getElem?_eq_getElem (by omega)]; exact e
theorem anyGt_zero (xs : List Int) (y : Int) : anyGt (xs.take 0) y = false := by simp [anyGt]
theorem insP_zero (xs : List Int) (y : Int) : insP xs y 0 = [] := by simp [insP, anyGt]
theorem anyGt_succ {xs : List Int} {y : Int} {i : Nat} (h : i < xs.length) : anyGt (xs.take (i + 1)) y = (anyGt (xs.take i) y || decide (y < xs.getD i 0)) := by
  rw [take_succ_getD h]; simp [anyGt]
theorem anyGt_no {xs : List Int} {y : Int} {i : Nat} (ha : anyGt (xs.take i) y = false) (hne : ∀ j, j < i → xs.getD j 0 ≠ y) : ∀ x ∈ xs.take i, x < y := by
  intro x hx
  unfold anyGt at ha
  rw [List.any_eq_false] at ha
  have h1 := ha x hx
  obtain ⟨j, h2, h3, rfl⟩ := mem_take_getD hx
  have := hne j h2
  simp only [decide_eq_true_eq] at h1
  omega
theorem insP_gt {xs : List Int} {y : Int} {i : Nat} (h : i < xs.length) (ha : anyGt (xs.take i) y = false) (hy : y < xs.getD i 0) (hne : ∀ j, j < i → xs.getD j 0 ≠ y) : (insP xs y i ++ [y]) ++ [xs.getD i 0] = insP xs y (i + 1) := by
  have hlt := anyGt_no ha hne
  have h1 : insP xs y i = xs.take i := by unfold insP; rw [ha]; rfl
  have h2 : anyGt (xs.take (i + 1)) y = true := by rw [anyGt_succ h, ha, decide_eq_true hy]; rfl
  rw [h1]
  unfold insP
  rw [h2, if_pos rfl, take_succ_getD h, List.filter_append, List.filter_append]
  have e1 : (xs.take i).filter (fun x => decide (x < y)) = xs.take i := List.filter_eq_self.2 (fun x hx => by simpa using hlt x hx)
  have e2 : (xs.take i).filter (fun x => decide (y < x)) = [] := List.filter_eq_nil_iff.2 (fun x hx => by have := hlt x hx; simp; omega)
  rw [e1, e2]
  have e3 : [xs.getD i 0].filter (fun x => decide (x < y)) = [] := by rw [List.filter_cons, decide_eq_false (by omega)]; rfl
  have e4 : [xs.getD i 0].filter (fun x => decide (y < x)) = [xs.getD i 0] := by rw [List.filter_cons, decide_eq_true hy]; rfl
  rw [e3, e4]; simp
theorem insP_on {xs : List Int} {y : Int} {i : Nat} (hr : Rise xs) (h : i < xs.length) (ha : anyGt (xs.take i) y = true) : insP xs y i ++ [xs.getD i 0] = insP xs y (i + 1) ∧ anyGt (xs.take (i + 1)) y = true := by
  have h2 : anyGt (xs.take (i + 1)) y = true := by rw [anyGt_succ h, ha]; rfl
  refine ⟨?_, h2⟩
  have hgt : y < xs.getD i 0 := by
    unfold anyGt at ha
    rw [List.any_eq_true] at ha
    obtain ⟨x, hx, hd⟩ := ha
    obtain ⟨j, h3, h4, rfl⟩ := mem_take_getD hx
    have := hr.lt h3 h
    simp only [decide_eq_true_eq] at hd
    omega
  unfold insP
  rw [ha, h2, if_pos rfl, if_pos rfl, take_succ_getD h, List.filter_append, List.filter_append]
  have e3 : [xs.getD i 0].filter (fun x => decide (x < y)) = [] := by rw [List.filter_cons, decide_eq_false (by omega)]; rfl
  have e4 : [xs.getD i 0].filter (fun x => decide (y < x)) = [xs.getD i 0] := by rw [List.filter_cons, decide_eq_true hgt]; rfl
  rw [e3, e4]; simp
theorem insP_low {xs : List Int} {y : Int} {i : Nat} (h : i < xs.length) (ha : anyGt (xs.take i) y = false) (hy : ¬ y < xs.getD i 0) : insP xs y i ++ [xs.getD i 0] = insP xs y (i + 1) ∧ anyGt (xs.take (i + 1)) y = false := by
  have h2 : anyGt (xs.take (i + 1)) y = false := by rw [anyGt_succ h, ha, decide_eq_false hy]; rfl
  refine ⟨?_, h2⟩
  unfold insP
  rw [ha, h2, if_neg (by simp), if_neg (by simp), take_succ_getD h]
theorem notin {xs : List Int} {y : Int} {i : Nat} (hi : xs.length ≤ i) (hne : ∀ j, j < i → xs.getD j 0 ≠ y) : y ∉ xs := by
  intro hm
  obtain ⟨j, h1, h2⟩ := mem_getD hm
  exact hne j (by omega) h2
theorem insP_end {xs : List Int} {y : Int} {i : Nat} (hi : xs.length ≤ i) (ha : anyGt (xs.take i) y = true) (hne : ∀ j, j < i → xs.getD j 0 ≠ y) : insP xs y i = addL' xs y := by
  unfold insP addL'
  rw [ha, if_pos rfl, if_neg (notin hi hne), List.take_of_length_le hi]
theorem insP_last {xs : List Int} {y : Int} {i : Nat} (hi : xs.length ≤ i) (ha : anyGt (xs.take i) y = false) (hne : ∀ j, j < i → xs.getD j 0 ≠ y) : insP xs y i ++ [y] = addL' xs y := by
  have hlt := anyGt_no ha hne
  rw [List.take_of_length_le hi] at hlt ha
  unfold insP addL'
  rw [List.take_of_length_le hi, ha, if_neg (by simp), if_neg (notin hi hne)]
  have e1 : xs.filter (fun x => decide (x < y)) = xs := List.filter_eq_self.2 (fun x hx => by simpa using hlt x hx)
  have e2 : xs.filter (fun x => decide (y < x)) = [] := List.filter_eq_nil_iff.2 (fun x hx => by have := hlt x hx; simp; omega)
  rw [e1, e2]
/-! ### A row that may have moved -/
theorem Tab.swapIn {w0 w : World} {T : List Ent} {e old : Ent} {i : Nat} (hT : Tab w0 w (e :: T)) (hi : T[i]? = some old) (hg : old.own = true) : Tab w0 w (T.set i e) := by
  have hlt : i < T.length := (List.getElem?_eq_some_iff.1 hi).1
  have look : ∀ (j : Nat) (x : Ent), (T.set i e)[j]? = some x → ∃ q : Nat, (e :: T)[q]? = some x ∧ q = if j = i then 0 else j + 1 := by
    intro j x hx
    rcases getElem?_set_cases _ _ _ _ _ hx with ⟨h1, rfl⟩ | ⟨h1, h2⟩
    · exact ⟨0, rfl, by rw [if_pos h1]⟩
    · exact ⟨j + 1, by simpa using h2, by rw [if_neg h1]⟩
  refine ⟨hT.os, hT.tape, hT.output, hT.size, ?_, ?_, ?_, ?_⟩
  · intro j x hx
    obtain ⟨q, h, _⟩ := look j x hx
    exact hT.ok q x h
  · intro k hk hno
    refine hT.frame k hk (fun q x hx hw hb => ?_)
    cases q with
    | zero =>
      simp at hx; subst hx
      exact hno i e (by simp [hlt]) hw hb
    | succ q =>
      simp at hx
      by_cases hq : q = i
      · subst hq
        rw [hi] at hx; cases hx
        have := hT.own (q + 1) old (by simpa using hi) hg k hb
        omega
      · exact hno q x (by rw [List.getElem?_set_ne (Ne.symm hq)]; exact hx) hw hb
  · intro j x hx
    obtain ⟨q, h, _⟩ := look j x hx
    exact hT.own q x h
  · intro a b x y hab hx hy
    obtain ⟨q, h1, e1⟩ := look a x hx
    obtain ⟨r, h2, e2⟩ := look b y hy
    refine hT.disj q r x y ?_ h1 h2
    rw [e1, e2]
    split <;> split <;> omega
theorem Tab.moved {w0 w w' : World} {T : List Ent} (hT : Tab w0 w T) {i : Nat} {A A' : Option Addr} {g n cap g' k' cp' e sz : Nat} {vals vals' : List Value} (hi : T[i]? = some (.gen (rowE A g n cap e sz vals true)))
    (h : (A' = A ∧ g' = g ∧ k' = n ∧ cp' = cap ∧ vals' = vals ∧ Below w.heap.size w w') ∨ Tab w w' [.gen (rowE A' g' k' cp' e sz vals' true)]) : Tab w0 w' (T.set i (.gen (rowE A' g' k' cp' e sz vals' true))) := by
  rcases h with ⟨rfl, rfl, rfl, rfl, rfl, hb⟩ | h
  · have : T.set i (.gen (rowE A' g' k' cp' e sz vals' true)) = T := by
      obtain ⟨hlt, he⟩ := List.getElem?_eq_some_iff.1 hi
      rw [← he]
      exact List.set_getElem_self hlt
    rw [this]; exact hT.below hb
  · exact (hT.news (N := [_]) h rfl).swapIn hi rfl
/-! ### The document's ways -/
def docK (how : Int) (a b : Bool) : Bool := if how = 0 then a || b else if how = 1 then a && b else if how = 2 then a && !b else a != b
theorem docK_none (how : Int) : docK how false false = false := by unfold docK; split; rfl; split; rfl; split <;> rfl
theorem rget_append {a b : List Rect} {i : Nat} : rget (a ++ b) i = if i < a.length then rget a i else rget b (i - a.length) := by
  unfold rget
  rw [List.getD_eq_getElem?_getD]
  split
  · rename_i h; rw [List.getElem?_append_left h, List.getD_eq_getElem?_getD]
  · rename_i h; rw [List.getElem?_append_right (by omega), List.getD_eq_getElem?_getD]
def gx (l : List Rect) (i : Nat) : List Int := (l.take i).foldl addXs []
def gy (l : List Rect) (i : Nat) : List Int := (l.take i).foldl addYs []
theorem gx_zero (l : List Rect) : gx l 0 = [] := rfl
theorem gy_zero (l : List Rect) : gy l 0 = [] := rfl
theorem gx_skip {l : List Rect} {i : Nat} (h : i < l.length) (he : emptyR (rget l i) = true) : gx l i = gx l (i + 1) := by
  unfold gx; rw [take_succ_rget h, List.foldl_append, List.foldl_cons, List.foldl_nil, addXs, he]; rfl
theorem gy_skip {l : List Rect} {i : Nat} (h : i < l.length) (he : emptyR (rget l i) = true) : gy l i = gy l (i + 1) := by
  unfold gy; rw [take_succ_rget h, List.foldl_append, List.foldl_cons, List.foldl_nil, addYs, he]; rfl
theorem gx_put {l : List Rect} {i : Nat} (h : i < l.length) (he : emptyR (rget l i) = false) : addL' (addL' (gx l i) (rget l i).x0) (rget l i).x1 = gx l (i + 1) := by
  unfold gx; rw [take_succ_rget h, List.foldl_append, List.foldl_cons, List.foldl_nil]; conv => rhs; rw [addXs, he]
  rfl
theorem gy_put {l : List Rect} {i : Nat} (h : i < l.length) (he : emptyR (rget l i) = false) : addL' (addL' (gy l i) (rget l i).y0) (rget l i).y1 = gy l (i + 1) := by
  unfold gy; rw [take_succ_rget h, List.foldl_append, List.foldl_cons, List.foldl_nil]; conv => rhs; rw [addYs, he]
  rfl
theorem gx_rise (l : List Rect) (i : Nat) : Rise (gx l i) := (xsD_ok (l.take i) [] rise_nil).1
theorem gy_rise (l : List Rect) (i : Nat) : Rise (gy l i) := (ysD_ok (l.take i) [] rise_nil).1
theorem gx_length (l : List Rect) (i : Nat) : (gx l i).length ≤ 2 * i := by
  have := (xsD_ok (l.take i) [] rise_nil).2.2.2
  rw [List.length_take] at this
  simp only [List.length_nil] at this
  unfold gx; omega
theorem gy_length (l : List Rect) (i : Nat) : (gy l i).length ≤ 2 * i := by
  have := (ysD_ok (l.take i) [] rise_nil).2.2.2
  rw [List.length_take] at this
  simp only [List.length_nil] at this
  unfold gy; omega
def ownD (how : Int) (a b : List Rect) (XS : List Int) (y y' : Int) : List Rect := ownL (fun x => keepF (docK how) a b x y) y y' XS (XS.length - 1)
theorem ownD_length (how : Int) (a b : List Rect) (XS : List Int) (y y' : Int) : (ownD how a b XS y y').length ≤ XS.length := by
  have := ownL_length (fun x => keepF (docK how) a b x y) y y' XS (XS.length - 1)
  unfold ownD; omega
theorem regD_of (how : Int) (a b : List Rect) (XS YS : List Int) (hX : XS = gx (a ++ b) (a ++ b).length) (hY : YS = gy (a ++ b) (a ++ b).length) : (mgG touchL (ownD how a b XS) YS (YS.length - 1)).1 ++ (mgG touchL (ownD how a b XS) YS (YS.length - 1)).2 = regM (docK how) a b := by
  rw [← regD_eq (docK_none how) a b]
  have e1 : gx (a ++ b) (a ++ b).length = xsD (a ++ b) := by unfold gx xsD; rw [List.take_length]
  have e2 : gy (a ++ b) (a ++ b).length = ysD (a ++ b) := by unfold gy ysD; rw [List.take_length]
  subst hX hY
  rw [e1, e2]; rfl
theorem touchL_true {l o : List Rect} {y : Int} (h0 : 0 < l.length) (h1 : (rget l 0).y1 = y) (h2 : eqF span1 l o = true) : touchL l o y = true := by
  unfold touchL; rw [decide_eq_true h0, decide_eq_true h1, h2]; rfl
theorem touchL_no0 {l o : List Rect} {y : Int} (h0 : ¬ 0 < l.length) : touchL l o y = false := by
  unfold touchL; rw [decide_eq_false h0]; rfl
theorem touchL_no1 {l o : List Rect} {y : Int} (h1 : (rget l 0).y1 ≠ y) : touchL l o y = false := by
  unfold touchL; rw [decide_eq_false h1]; simp
theorem touchL_no2 {l o : List Rect} {y : Int} (h2 : eqF span1 l o = false) : touchL l o y = false := by
  unfold touchL; rw [h2]; simp
/-! ### Small rectangles -/
def smallR (r : Rect) : Rect := ⟨aroundI r.x0 24 - 4, aroundI r.y0 24 - 4, aroundI r.x0 24 - 4 + aroundI r.x1 13, aroundI r.y0 24 - 4 + aroundI r.y1 13⟩
def smallL (l : List Rect) (most : Nat) : List Rect := (l.take most).map smallR
theorem smallL_put {l : List Rect} {i : Nat} (h : i < l.length) : smallL l i ++ [smallR (rget l i)] = smallL l (i + 1) := by
  unfold smallL; rw [take_succ_rget h]; simp
theorem smallL_length (l : List Rect) (m : Nat) : (smallL l m).length ≤ m := by simp [smallL]; omega
theorem smallL_end {l : List Rect} {i m : Nat} (h : l.length ≤ i ∨ m ≤ i) (hi : i ≤ m) (hl : i ≤ l.length) : smallL l i = smallL l m := by
  unfold smallL
  rcases h with h | h
  · rw [List.take_of_length_le h, List.take_of_length_le (by omega)]
  · rw [show i = m by omega]
end Go.Proofs.Ytlfahohbkgdabaa

