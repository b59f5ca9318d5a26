/- What the walks of the regions' functions use: steps of their lists; entries of the table picked anew. -/
import Derived.Test.YtlfahohbkgdabaaRr
set_option linter.unusedVariables false
set_option linter.unusedSimpArgs false
namespace Go.Proofs.Ytlfahohbkgdabaa
open Go Go.RowKit
variable {dfs : List Deferred}

/-- A function that has a body: a call of it enters it. -/
def Enters (P : Program) (f : FuncId) : Prop := ∀ args, semPure P (callFunc f args) = some (.enter f args)
theorem call_pureF {P : Program} {Q : Exit → Act → World → Prop} {n : Nat} {w0 : World} {L : List (Nat × Value)} {T : List Ent} {ops : Array Oper} {i : Nat} {K : Act → World → Prop} {d : Tmp} {f : FuncId} {args : Array Value} (v : Value) (H : opS ops n i L = some (some d, callFunc f args)) (hE : Enters P f)
    (hc : ∀ w, Tab w0 w T → Calls P f args w fun e w' => e = .returned v ∧ Below w.heap.size w w') (hk : Cont dfs K n w0 ((d, v) :: L) T) : Cont dfs (wpOp P ops Q i K) n w0 L T := by
  intro a w ha hf hT
  obtain ⟨o, ho, hdst, hd, hw, he⟩ := opS_core H hf
  unfold wpOp
  simp only [ho, hw, if_true]
  refine .inl ?_
  unfold Oper.wp
  rw [he, semPure_sound P _ _ (hE args) w]
  refine (hc w hT).mono ?_
  rintro e w' ⟨rfl, hb⟩
  show K (a.put o.dst v) w'
  rw [hdst]
  exact hk _ _ (by rw [put_defers]; exact ha) (frok_putD hf hd) (hT.below hb)
theorem run_eqNil {P : Program} {t e : TypeId} {x y : Operand} {A : Option Addr} {n c : Nat} (ht : P.underlying t = some (.slice e)) (w : World) : (bopS .eql t x y (.slice A n c) (.slice none 0 0)).run P w = .ok (.bool A.isNone) w := by
  have h := Lib.run_eql_slice_nil (P := P) w t e A n c 0 0 ht
  unfold bopS
  rw [Sem.run_bind]
  have g : (eqGuard .eql t x y (.slice A n c) (.slice none 0 0)).run P w = .ok () w := by
    simp [eqGuard]
  rw [g]
  exact h

/-! ### Steps of lists -/
theorem take_succ_rget {l : List Rect} {i : Nat} (h : i < l.length) : l.take (i + 1) = l.take i ++ [rget l i] := by
  rw [List.take_add_one, List.getElem?_eq_getElem h]
  simp [rget, List.getD_eq_getElem?_getD, List.getElem?_eq_getElem h]
theorem rget_mem {l : List Rect} {i : Nat} (h : i < l.length) : rget l i ∈ l := by
  unfold rget
  rw [List.getD_eq_getElem?_getD, List.getElem?_eq_getElem h]; simp
theorem acrossB_true {y : Int} {r : Rect} (h : r.y0 ≤ y ∧ y < r.y1 ∧ r.x0 < r.x1) : acrossB y r = true := by
  simp only [acrossB, Bool.and_eq_true, decide_eq_true_eq]; omega
theorem acrossB_false {y : Int} {r : Rect} (h : ¬ (r.y0 ≤ y ∧ y < r.y1 ∧ r.x0 < r.x1)) : acrossB y r = false := by
  cases e : acrossB y r with
  | false => rfl
  | true => simp only [acrossB, Bool.and_eq_true, decide_eq_true_eq] at e; omega
theorem across_put {l : List Rect} {i : Nat} {y : Int} (h : i < l.length) (hb : (rget l i).y0 ≤ y ∧ y < (rget l i).y1 ∧ (rget l i).x0 < (rget l i).x1) : acrossL (l.take i) y ++ [rget l i] = acrossL (l.take (i + 1)) y := by
  rw [take_succ_rget h, acrossL, acrossL, List.filter_append, List.filter_cons, acrossB_true hb]; rfl
theorem across_skip {l : List Rect} {i : Nat} {y : Int} (h : i < l.length) (hb : ¬ ((rget l i).y0 ≤ y ∧ y < (rget l i).y1 ∧ (rget l i).x0 < (rget l i).x1)) : acrossL (l.take i) y = acrossL (l.take (i + 1)) y := by
  rw [take_succ_rget h, acrossL, acrossL, List.filter_append, List.filter_cons, acrossB_false hb]; simp
def evG (p q : Rect → Int) (l : List Rect) : List Int := l.flatMap fun r => [p r, q r]
theorem evG_put {p q : Rect → Int} {l : List Rect} {i : Nat} (base : List Int) (h : i < l.length) : (base ++ evG p q (l.take i)) ++ [p (rget l i), q (rget l i)] = base ++ evG p q (l.take (i + 1)) := by
  rw [take_succ_rget h]; simp [evG, List.append_assoc]
theorem evG_zero {p q : Rect → Int} {l : List Rect} (base : List Int) : base = base ++ evG p q (l.take 0) := by simp [evG]
theorem ownL_skip {f : Int → Bool} {y y' : Int} {xs : List Int} {i : Nat} (h : f (xs.getD i 0) = false) : ownL f y y' xs i = ownL f y y' xs (i + 1) := by
  rw [ownL, h]; rfl
theorem ownL_put {f : Int → Bool} {y y' : Int} {xs : List Int} {i J : Nat} (h : f (xs.getD i 0) = true) (hJ : J + 1 = (ownL f y y' xs i).length) (he : (rget (ownL f y y' xs i) J).x1 = xs.getD i 0) :
    (ownL f y y' xs i).set J { rget (ownL f y y' xs i) J with x1 := xs.getD (i + 1) 0 } = ownL f y y' xs (i + 1) := by
  rw [ownL, h, if_pos rfl, putX, show (ownL f y y' xs i).length - 1 = J by omega, if_pos ⟨by omega, he⟩]
theorem ownL_new {f : Int → Bool} {y y' : Int} {xs : List Int} {i : Nat} (h : f (xs.getD i 0) = true) (hn : ∀ J, J + 1 = (ownL f y y' xs i).length → (rget (ownL f y y' xs i) J).x1 ≠ xs.getD i 0) :
    ownL f y y' xs i ++ [⟨xs.getD i 0, y, xs.getD (i + 1) 0, y'⟩] = ownL f y y' xs (i + 1) := by
  rw [ownL, h, if_pos rfl, putX, if_neg (fun hc => hn _ (by omega) hc.2)]
/-- A merge's state behind i cells: what is done, the last band. -/
def mgG (al : List Rect → List Rect → Int → Bool) (own : Int → Int → List Rect) (ys : List Int) (i : Nat) : List Rect × List Rect := mgSt al (fun i => own (ys.getD i 0) (ys.getD (i + 1) 0)) ys i
theorem mgG_zero {al : List Rect → List Rect → Int → Bool} {own : Int → Int → List Rect} {ys : List Int} : mgG al own ys 0 = ([], []) := rfl
theorem mgG_on {al : List Rect → List Rect → Int → Bool} {own : Int → Int → List Rect} {ys : List Int} {i : Nat} (h : al (mgG al own ys i).2 (own (ys.getD i 0) (ys.getD (i + 1) 0)) (ys.getD i 0) = true) :
    (mgG al own ys i).1 = (mgG al own ys (i + 1)).1 ∧ setY1 (ys.getD (i + 1) 0) (mgG al own ys i).2 = (mgG al own ys (i + 1)).2 := by
  have e : mgG al own ys (i + 1) = ((mgG al own ys i).1, setY1 (ys.getD (i + 1) 0) (mgG al own ys i).2) := by
    conv => lhs; unfold mgG; rw [mgSt]
    exact if_pos h
  rw [e]; exact ⟨rfl, rfl⟩
theorem mgG_off {al : List Rect → List Rect → Int → Bool} {own : Int → Int → List Rect} {ys : List Int} {i : Nat} (h : al (mgG al own ys i).2 (own (ys.getD i 0) (ys.getD (i + 1) 0)) (ys.getD i 0) = false) :
    (mgG al own ys i).1 ++ (mgG al own ys i).2 = (mgG al own ys (i + 1)).1 ∧ own (ys.getD i 0) (ys.getD (i + 1) 0) = (mgG al own ys (i + 1)).2 := by
  have e : mgG al own ys (i + 1) = ((mgG al own ys i).1 ++ (mgG al own ys i).2, own (ys.getD i 0) (ys.getD (i + 1) 0)) := by
    conv => lhs; unfold mgG; rw [mgSt]
    exact if_neg (by rw [show (mgSt al (fun i => own (ys.getD i 0) (ys.getD (i + 1) 0)) ys i).2 = (mgG al own ys i).2 from rfl, h]; simp)
  rw [e]; exact ⟨rfl, rfl⟩
theorem mgG_bound {al : List Rect → List Rect → Int → Bool} {own : Int → Int → List Rect} {ys : List Int} {m i : Nat} (h : ∀ a b, (own a b).length ≤ m) (hm : m ≤ 524288) (hi : i ≤ 524288) : (mgG al own ys i).1.length + (mgG al own ys i).2.length ≤ 274877906944 ∧ (mgG al own ys i).2.length ≤ m := by
  have := mgSt_length (al := al) (own := fun i => own (ys.getD i 0) (ys.getD (i + 1) 0)) (ys := ys) (m := m) (fun i => h _ _) i
  have h2 : i * m ≤ 524288 * 524288 := Nat.mul_le_mul hi hm
  unfold mgG; omega
theorem setY1_step {l : List Rect} {v : Int} {j : Nat} (h : j < l.length) : (setY1 v (l.take j) ++ l.drop j).set j { rget (setY1 v (l.take j) ++ l.drop j) j with y1 := v } = setY1 v (l.take (j + 1)) ++ l.drop (j + 1) := by
  have hl : (setY1 v (l.take j)).length = j := by simp [setY1]; omega
  have hd : l.drop j = rget l j :: l.drop (j + 1) := by
    rw [List.drop_eq_getElem_cons h]
    simp [rget, List.getD_eq_getElem?_getD, List.getElem?_eq_getElem h]
  have hg : rget (setY1 v (l.take j) ++ l.drop j) j = rget l j := by
    unfold rget
    rw [List.getD_eq_getElem?_getD, List.getElem?_append_right (by omega), hl, Nat.sub_self, hd, List.getD_eq_getElem?_getD]
    simp [rget, List.getD_eq_getElem?_getD]
  rw [hg, List.set_append_right _ _ (by omega), hl, Nat.sub_self, hd, take_succ_rget h]
  simp [setY1]
theorem setY1_zero {l : List Rect} {v : Int} : l = setY1 v (l.take 0) ++ l.drop 0 := by simp [setY1]
theorem setY1_done {l : List Rect} {v : Int} {j : Nat} (h : l.length ≤ j) : setY1 v (l.take j) ++ l.drop j = setY1 v l := by rw [List.take_of_length_le h, List.drop_of_length_le h, List.append_nil]
theorem setY1_length (v : Int) (l : List Rect) : (setY1 v l).length = l.length := by simp [setY1]
/-! ### Lists compared, searched -/
theorem eqF_len {f : Rect → Rect → Bool} : ∀ {a b : List Rect}, a.length ≠ b.length → eqF f a b = false := by
  intro a
  induction a with
  | nil => intro b h; cases b with
    | nil => exact absurd rfl h
    | cons _ _ => rfl
  | cons x a ih => intro b h; cases b with
    | nil => rfl
    | cons y b => rw [eqF, ih (by simpa using h), Bool.and_false]
theorem eqF_all {f : Rect → Rect → Bool} : ∀ {a b : List Rect}, a.length = b.length → (∀ j, j < a.length → f (rget a j) (rget b j) = true) → eqF f a b = true := by
  intro a
  induction a with
  | nil => intro b h _; cases b with
    | nil => rfl
    | cons _ _ => simp at h
  | cons x a ih => intro b h hj; cases b with
    | nil => simp at h
    | cons y b =>
      rw [eqF, ih (by simpa using h) (fun j hj' => by have := hj (j + 1) (by simpa using hj'); rwa [rget_succ, rget_succ] at this)]
      have := hj 0 (by simp)
      rw [rget_zero, rget_zero] at this
      rw [this]; rfl
theorem eqF_no {f : Rect → Rect → Bool} : ∀ {a b : List Rect} {j : Nat}, j < a.length → j < b.length → f (rget a j) (rget b j) = false → eqF f a b = false := by
  intro a
  induction a with
  | nil => intro b j h; simp at h
  | cons x a ih => intro b j h hb hf; cases b with
    | nil => simp at hb
    | cons y b =>
      cases j with
      | zero => rw [rget_zero, rget_zero] at hf; rw [eqF, hf]; rfl
      | succ j =>
        rw [rget_succ, rget_succ] at hf
        rw [eqF, ih (by simpa using h) (by simpa using hb) hf, Bool.and_false]
theorem list_eq_rget {a b : List Rect} (hl : a.length = b.length) (h : ∀ j, j < a.length → rget a j = rget b j) : a = b := by
  apply List.ext_getElem? 
  intro j
  by_cases hj : j < a.length
  · have := h j hj
    unfold rget at this
    rw [List.getD_eq_getElem?_getD, List.getD_eq_getElem?_getD, List.getElem?_eq_getElem hj, List.getElem?_eq_getElem (by omega)] at this
    rw [List.getElem?_eq_getElem hj, List.getElem?_eq_getElem (by omega)]
    simpa using this
  · rw [List.getElem?_eq_none (by omega), List.getElem?_eq_none (by omega)]
theorem eqInts_rect {r s : Rect} : eqInts [r.x0, r.y0, r.x1, r.y1] [s.x0, s.y0, s.x1, s.y1] = decide (r = s) := by
  rw [eqInts4, Bool.eq_iff_iff]
  simp only [Bool.and_eq_true, decide_eq_true_eq]
  constructor
  · rintro ⟨⟨⟨h1, h2⟩, h3⟩, h4⟩; cases r; cases s; simp_all
  · rintro rfl; exact ⟨⟨⟨rfl, rfl⟩, rfl⟩, rfl⟩
def idxR (p : Rect → Bool) (l : List Rect) : Int := if l.any p then (l.findIdx p : Nat) else -1
theorem rget_eq {l : List Rect} {i : Nat} (h : i < l.length) : l[i] = rget l i := by
  simp [rget, List.getD_eq_getElem?_getD, List.getElem?_eq_getElem h]
theorem idxR_none {p : Rect → Bool} {l : List Rect} (h : ∀ j, j < l.length → p (rget l j) = false) : idxR p l = -1 := by
  unfold idxR
  rw [if_neg]
  rw [List.any_eq_true]
  rintro ⟨x, hx, hp⟩
  obtain ⟨i, hi, e⟩ := List.mem_iff_getElem.1 hx
  have := h i hi
  rw [← rget_eq hi, e, hp] at this
  cases this
theorem idxR_some {p : Rect → Bool} {l : List Rect} {i : Nat} (hi : i < l.length) (h : ∀ j, j < i → p (rget l j) = false) (hp : p (rget l i) = true) : idxR p l = i := by
  unfold idxR
  rw [if_pos (List.any_eq_true.2 ⟨rget l i, rget_mem hi, hp⟩)]
  congr 1
  rw [List.findIdx_eq hi]
  exact ⟨by rw [rget_eq hi]; exact hp, fun j hj => by rw [rget_eq (by omega), h j hj]⟩
theorem idxR_ge (p : Rect → Bool) (l : List Rect) : decide (idxR p l ≥ 0) = l.any p := by
  unfold idxR
  cases h : l.any p with
  | true => simp only [if_true]; exact decide_eq_true (by omega)
  | false => simp only [Bool.false_eq_true, if_false]; rfl
/-! ### Rectangles taken out of a list -/
def keptL (p : Rect → Bool) (l : List Rect) : List Rect := l.filter fun r => !p r
theorem keptL_length (p : Rect → Bool) (l : List Rect) : (keptL p l).length ≤ l.length := List.length_filter_le _ _
theorem keptL_none {p : Rect → Bool} {l : List Rect} (h : idxR p l = -1) : l = keptL p l := by
  unfold keptL
  symm
  rw [List.filter_eq_self]
  intro r hr
  unfold idxR at h
  cases ha : l.any p with
  | true => rw [ha, if_pos rfl] at h; omega
  | false => rw [List.any_eq_false] at ha; simpa using ha r hr
theorem keptL_start {p : Rect → Bool} {l : List Rect} {i : Nat} (h : idxR p l = i) : i < l.length ∧ l = keptL p (l.take (i + 1)) ++ l.drop (keptL p (l.take (i + 1))).length ∧ (keptL p (l.take (i + 1))).length = i := by
  unfold idxR at h
  cases ha : l.any p with
  | false => rw [ha] at h; simp at h
  | true =>
    rw [ha, if_pos rfl] at h
    have hi : l.findIdx p = i := by omega
    have hlt : i < l.length := by
      rw [← hi]
      exact List.findIdx_lt_length_of_exists (by rw [List.any_eq_true] at ha; exact ha)
    obtain ⟨h1, h2⟩ := (List.findIdx_eq hlt).1 hi
    have hk : keptL p (l.take (i + 1)) = l.take i := by
      rw [take_succ_rget hlt, keptL, List.filter_append, List.filter_cons]
      rw [← rget_eq hlt, h1]
      simp only [Bool.not_true, Bool.false_eq_true, if_false, List.filter_nil, List.append_nil]
      rw [List.filter_eq_self]
      intro r hr
      obtain ⟨j, hj, e⟩ := List.mem_iff_getElem.1 hr
      have hj2 : j < i := by rw [List.length_take] at hj; omega
      rw [List.getElem_take] at e
      rw [← e, h2 j hj2]; rfl
    refine ⟨hlt, ?_, ?_⟩
    · rw [hk, List.length_take, Nat.min_eq_left (by omega), List.take_append_drop]
    · rw [hk, List.length_take]; omega
theorem kept_get {K l : List Rect} {j : Nat} (h : K.length ≤ j) : rget (K ++ l.drop K.length) j = rget l j := by
  unfold rget
  rw [List.getD_eq_getElem?_getD, List.getElem?_append_right h, List.getElem?_drop, show K.length + (j - K.length) = j by omega, ← List.getD_eq_getElem?_getD]
theorem kept_set {K l : List Rect} {i : Nat} (v : Rect) (hi : K.length = i) (h : i < l.length) : (K ++ l.drop K.length).set i v = (K ++ [v]) ++ l.drop (K ++ [v]).length := by
  subst hi
  rw [List.set_append_right _ _ (Nat.le_refl _), Nat.sub_self, List.drop_eq_getElem_cons h]
  show K ++ (v :: l.drop (K.length + 1)) = _
  rw [List.length_append, List.append_assoc]; rfl
theorem keptL_put {p : Rect → Bool} {l : List Rect} {j : Nat} (h : j < l.length) (hp : p (rget l j) = false) : keptL p (l.take j) ++ [rget l j] = keptL p (l.take (j + 1)) := by
  rw [take_succ_rget h, keptL, keptL, List.filter_append, List.filter_cons, hp]; rfl
theorem keptL_skip {p : Rect → Bool} {l : List Rect} {j : Nat} (h : j < l.length) (hp : p (rget l j) = true) : keptL p (l.take j) = keptL p (l.take (j + 1)) := by
  rw [take_succ_rget h, keptL, keptL, List.filter_append, List.filter_cons, hp]; simp
theorem take_clear {K D R X : List Rect} {i : Nat} (h : K.length = i) : ((K ++ D).take i ++ R ++ X).take i = K := by
  rw [List.take_left' h, List.append_assoc, List.take_left' h]
/-! ### The program's regions -/
def orB (a b : Bool) : Bool := a || b
def andB (a b : Bool) : Bool := a && b
def lessB (a b : Bool) : Bool := a && !b
def xorB (a b : Bool) : Bool := a != b
def fstB (a _b : Bool) : Bool := a
def canR (l : List Rect) : List Rect := regM orB l []
theorem hasL_nil (x y : Int) : hasL [] x y = false := rfl
theorem canR_isReg (l : List Rect) : IsReg (canR l) (hasL l) := (regM_isReg (kf := orB) rfl l []).congr (fun x y => by simp [keepF, orB, hasL_nil])
theorem hasL_kept (l : List Rect) (x y : Int) : hasL (keptL emptyR l) x y = hasL l x y := by
  rw [Bool.eq_iff_iff, hasL_true, hasL_true]
  constructor
  · rintro ⟨r, hm, h⟩; exact ⟨r, (List.mem_filter.1 hm).1, h⟩
  · rintro ⟨r, hm, h⟩
    refine ⟨r, List.mem_filter.2 ⟨hm, ?_⟩, h⟩
    rw [show emptyR r = false from emptyB_false.2 ⟨by omega, by omega⟩]; rfl
theorem of_eq (l : List Rect) : regM fstB (keptL emptyR l) [] = canR l :=
  ((regM_isReg (kf := fstB) rfl _ _).congr (fun x y => by simp only [keepF, fstB]; exact hasL_kept l x y)).unique (canR_isReg l)
theorem regM_length {kf : Bool → Bool → Bool} {a b : List Rect} (h : a.length + b.length ≤ 262144) : (regM kf a b).length ≤ 274877906944 := by
  have := ysP_length a b
  have h2 := mgSt_length (al := fun a b _ => alikeL a b) (own := fun i => bandP kf a b ((ysP a b).getD i 0) ((ysP a b).getD (i + 1) 0)) (ys := ysP a b) (m := 2 * (a.length + b.length)) (fun i => bandP_length kf a b _ _) ((ysP a b).length - 1)
  have h3 : ((ysP a b).length - 1) * (2 * (a.length + b.length)) ≤ 524288 * 524288 := Nat.mul_le_mul (by omega) (by omega)
  unfold regM mgL
  rw [List.length_append]
  omega
end Go.Proofs.Ytlfahohbkgdabaa
