/- What the walks of the regions' functions use: steps of their lists; entries of the table picked anew. -/
import Derived.Test.YtlfahohbkgdabaaPcRr
set_option linter.unusedVariables false
set_option linter.unusedSimpArgs false
namespace Go.Proofs.Ytlfahohbkgdabaa
open Go Go.RowKit
variable {dfs : List Deferred}

/-! ### Steps of lists -/
theorem take_succ_rget {l : List Rect} {i : Nat} (h : i < l.length) : l.take (i + 1) = l.take i ++ [rget l i] := by
  rw [List.take_add_one, List.getElem?_eq_getElem h]
  simp [rget, List.getD_eq_getElem?_getD, List.getElem?_eq_getElem h]
theorem rget_mem {l : List Rect} {i : Nat} (h : i < l.length) : rget l i ∈ l := by
  unfold rget
  rw [List.getD_eq_getElem?_getD, List.getElem?_eq_getElem h]; simp
theorem ownL_skip {f : Int → Bool} {y y' : Int} {xs : List Int} {i : Nat} (h : f (xs.getD i 0) = false) : ownL f y y' xs i = ownL f y y' xs (i + 1) := by
  rw [ownL, h]; rfl
theorem ownL_put {f : Int → Bool} {y y' : Int} {xs : List Int} {i J : Nat} (h : f (xs.getD i 0) = true) (hJ : J + 1 = (ownL f y y' xs i).length) (he : (rget (ownL f y y' xs i) J).x1 = xs.getD i 0) :
    (ownL f y y' xs i).set J { rget (ownL f y y' xs i) J with x1 := xs.getD (i + 1) 0 } = ownL f y y' xs (i + 1) := by
  rw [ownL, h, if_pos rfl, putX, show (ownL f y y' xs i).length - 1 = J by omega, if_pos ⟨by omega, he⟩]
theorem ownL_new {f : Int → Bool} {y y' : Int} {xs : List Int} {i : Nat} (h : f (xs.getD i 0) = true) (hn : ∀ J, J + 1 = (ownL f y y' xs i).length → (rget (ownL f y y' xs i) J).x1 ≠ xs.getD i 0) :
    ownL f y y' xs i ++ [⟨xs.getD i 0, y, xs.getD (i + 1) 0, y'⟩] = ownL f y y' xs (i + 1) := by
  rw [ownL, h, if_pos rfl, putX, if_neg (fun hc => hn _ (by omega) hc.2)]
/-- A merge's state behind i cells: what is done, the last band. -/
def mgG (al : List Rect → List Rect → Int → Bool) (own : Int → Int → List Rect) (ys : List Int) (i : Nat) : List Rect × List Rect := mgSt al (fun i => own (ys.getD i 0) (ys.getD (i + 1) 0)) ys i
theorem mgG_on {al : List Rect → List Rect → Int → Bool} {own : Int → Int → List Rect} {ys : List Int} {i : Nat} (h : al (mgG al own ys i).2 (own (ys.getD i 0) (ys.getD (i + 1) 0)) (ys.getD i 0) = true) :
    (mgG al own ys i).1 = (mgG al own ys (i + 1)).1 ∧ setY1 (ys.getD (i + 1) 0) (mgG al own ys i).2 = (mgG al own ys (i + 1)).2 := by
  have e : mgG al own ys (i + 1) = ((mgG al own ys i).1, setY1 (ys.getD (i + 1) 0) (mgG al own ys i).2) := by
    conv => lhs; unfold mgG; rw [mgSt]
    exact if_pos h
  rw [e]; exact ⟨rfl, rfl⟩
theorem mgG_off {al : List Rect → List Rect → Int → Bool} {own : Int → Int → List Rect} {ys : List Int} {i : Nat} (h : al (mgG al own ys i).2 (own (ys.getD i 0) (ys.getD (i + 1) 0)) (ys.getD i 0) = false) :
    (mgG al own ys i).1 ++ (mgG al own ys i).2 = (mgG al own ys (i + 1)).1 ∧ own (ys.getD i 0) (ys.getD (i + 1) 0) = (mgG al own ys (i + 1)).2 := by
  have e : mgG al own ys (i + 1) = ((mgG al own ys i).1 ++ (mgG al own ys i).2, own (ys.getD i 0) (ys.getD (i + 1) 0)) := by
    conv => lhs; unfold mgG; rw [mgSt]
    exact if_neg (by rw [show (mgSt al (fun i => own (ys.getD i 0) (ys.getD (i + 1) 0)) ys i).2 = (mgG al own ys i).2 from rfl, h]; simp)
  rw [e]; exact ⟨rfl, rfl⟩
theorem mgG_bound {al : List Rect → List Rect → Int → Bool} {own : Int → Int → List Rect} {ys : List Int} {m i : Nat} (h : ∀ a b, (own a b).length ≤ m) (hm : m ≤ 524288) (hi : i ≤ 524288) : (mgG al own ys i).1.length + (mgG al own ys i).2.length ≤ 274877906944 ∧ (mgG al own ys i).2.length ≤ m := by
  have := mgSt_length (al := al) (own := fun i => own (ys.getD i 0) (ys.getD (i + 1) 0)) (ys := ys) (m := m) (fun i => h _ _) i
  have h2 : i * m ≤ 524288 * 524288 := Nat.mul_le_mul hi hm
  unfold mgG; omega
theorem setY1_step {l : List Rect} {v : Int} {j : Nat} (h : j < l.length) : (setY1 v (l.take j) ++ l.drop j).set j { rget (setY1 v (l.take j) ++ l.drop j) j with y1 := v } = setY1 v (l.take (j + 1)) ++ l.drop (j + 1) := by
  have hl : (setY1 v (l.take j)).length = j := by simp [setY1]; omega
  have hd : l.drop j = rget l j :: l.drop (j + 1) := by
    rw [List.drop_eq_getElem_cons h]
    simp [rget, List.getD_eq_getElem?_getD, List.getElem?_eq_getElem h]
  have hg : rget (setY1 v (l.take j) ++ l.drop j) j = rget l j := by
    unfold rget
    rw [List.getD_eq_getElem?_getD, List.getElem?_append_right (by omega), hl, Nat.sub_self, hd, List.getD_eq_getElem?_getD]
    simp [rget, List.getD_eq_getElem?_getD]
  rw [hg, List.set_append_right _ _ (by omega), hl, Nat.sub_self, hd, take_succ_rget h]
  simp [setY1]
theorem setY1_zero {l : List Rect} {v : Int} : l = setY1 v (l.take 0) ++ l.drop 0 := by simp [setY1]
theorem setY1_done {l : List Rect} {v : Int} {j : Nat} (h : l.length ≤ j) : setY1 v (l.take j) ++ l.drop j = setY1 v l := by rw [List.take_of_length_le h, List.drop_of_length_le h, List.append_nil]
/-! ### Lists compared, searched -/
theorem eqF_len {f : Rect → Rect → Bool} : ∀ {a b : List Rect}, a.length ≠ b.length → eqF f a b = false := by
  intro a
  induction a with
  | nil => intro b h; cases b with
    | nil => exact absurd rfl h
    | cons _ _ => rfl
  | cons x a ih => intro b h; cases b with
    | nil => rfl
    | cons y b => rw [eqF, ih (by simpa using h), Bool.and_false]
theorem eqF_all {f : Rect → Rect → Bool} : ∀ {a b : List Rect}, a.length = b.length → (∀ j, j < a.length → f (rget a j) (rget b j) = true) → eqF f a b = true := by
  intro a
  induction a with
  | nil => intro b h _; cases b with
    | nil => rfl
    | cons _ _ => simp at h
  | cons x a ih => intro b h hj; cases b with
    | nil => simp at h
    | cons y b =>
      rw [eqF, ih (by simpa using h) (fun j hj' => by have := hj (j + 1) (by simpa using hj'); rwa [rget_succ, rget_succ] at this)]
      have := hj 0 (by simp)
      rw [rget_zero, rget_zero] at this
      rw [this]; rfl
theorem eqF_no {f : Rect → Rect → Bool} : ∀ {a b : List Rect} {j : Nat}, j < a.length → j < b.length → f (rget a j) (rget b j) = false → eqF f a b = false := by
  intro a
  induction a with
  | nil => intro b j h; simp at h
  | cons x a ih => intro b j h hb hf; cases b with
    | nil => simp at hb
    | cons y b =>
      cases j with
      | zero => rw [rget_zero, rget_zero] at hf; rw [eqF, hf]; rfl
      | succ j =>
        rw [rget_succ, rget_succ] at hf
        rw [eqF, ih (by simpa using h) (by simpa using hb) hf, Bool.and_false]
theorem rget_eq {l : List Rect} {i : Nat} (h : i < l.length) : l[i] = rget l i := by
  simp [rget, List.getD_eq_getElem?_getD, List.getElem?_eq_getElem h]
/-! ### Rectangles taken out of a list -/
/-! ### The program's regions -/
def orB (a b : Bool) : Bool := a || b
def canR (l : List Rect) : List Rect := regM orB l []
theorem hasL_nil (x y : Int) : hasL [] x y = false := rfl
theorem canR_isReg (l : List Rect) : IsReg (canR l) (hasL l) := (regM_isReg (kf := orB) rfl l []).congr (fun x y => by simp [keepF, orB, hasL_nil])
end Go.Proofs.Ytlfahohbkgdabaa

