/- Rows of rectangles: four cells an element; read, written, appended to, cut, cleared. Generic in the program. -/
import Derived.Test.YtommojgfkkoghaaAp
import Derived.Test.YtommojgfkkoghaaRh
import Derived.Lib.SliceRun
set_option linter.unusedVariables false
set_option linter.unusedSimpArgs false
namespace Go.Proofs.Ytommojgfkkoghaa
open Go Go.RowKit
variable {dfs : List Deferred}

def rcells (r : Rect) : List Value := [.int .i64 r.x0, .int .i64 r.y0, .int .i64 r.x1, .int .i64 r.y1]
def rvals : List Rect → List Value
  | [] => []
  | r :: l => rcells r ++ rvals l
theorem rvals_length : ∀ l : List Rect, (rvals l).length = l.length * 4 := by
  intro l
  induction l with
  | nil => rfl
  | cons r l ih => simp only [rvals, List.length_append, ih, List.length_cons, rcells, List.length_nil]; omega
theorem rvals_append : ∀ a b : List Rect, rvals a ++ rvals b = rvals (a ++ b) := by
  intro a b
  induction a with
  | nil => rfl
  | cons r l ih => simp only [rvals, List.cons_append, List.append_assoc, ih]
theorem rvals_one (l : List Rect) : ∀ u ∈ rvals l, u.oneCell' = true := by
  induction l with
  | nil => intro u hu; cases hu
  | cons r l ih =>
    intro u hu
    rcases List.mem_append.1 hu with h | h
    · simp only [rcells, List.mem_cons, List.not_mem_nil, or_false] at h
      rcases h with rfl | rfl | rfl | rfl <;> rfl
    · exact ih u h
theorem rvals_nil {l : List Rect} : rvals l = [] ↔ l = [] := by
  cases l with
  | nil => simp [rvals]
  | cons r l => simp [rvals, rcells]
theorem rget_zero (r : Rect) (l : List Rect) : rget (r :: l) 0 = r := rfl
theorem rget_succ (r : Rect) (l : List Rect) (i : Nat) : rget (r :: l) (i + 1) = rget l i := by simp [rget]
theorem rvals_get : ∀ {l : List Rect} {i k : Nat} {v : Value}, i < l.length → (rcells (rget l i))[k]? = some v → (rvals l)[i * 4 + k]? = some v := by
  intro l
  induction l with
  | nil => intro i k v h; simp at h
  | cons r l ih =>
    intro i k v h hk
    cases i with
    | zero =>
      rw [rget_zero] at hk
      rw [Nat.zero_mul, Nat.zero_add, rvals, List.getElem?_append_left (List.getElem?_eq_some_iff.1 hk).1]
      exact hk
    | succ i =>
      rw [rget_succ] at hk
      have := ih (by simpa using h) hk
      rw [show (i + 1) * 4 + k = (i * 4 + k) + 4 by omega]
      exact this
theorem rvals_set : ∀ {l : List Rect} {i k : Nat} {v : Value} {r' : Rect}, i < l.length → k < 4 → (rcells (rget l i)).set k v = rcells r' → (rvals l).set (i * 4 + k) v = rvals (l.set i r') := by
  intro l
  induction l with
  | nil => intro i k v r' h; simp at h
  | cons r l ih =>
    intro i k v r' h hk e
    cases i with
    | zero =>
      rw [rget_zero] at e
      rw [Nat.zero_mul, Nat.zero_add, rvals, List.set_append_left _ _ (by simpa [rcells] using hk), e]
      rfl
    | succ i =>
      rw [rget_succ] at e
      have := ih (by simpa using h) hk e
      rw [show (i + 1) * 4 + k = (i * 4 + k) + 4 by omega]
      show rcells r ++ (rvals l).set (i * 4 + k) v = _
      rw [this]; rfl
/-- Cells written one behind the other. -/
def setV (vals : List Value) (J : Nat) : List Value → List Value
  | [] => vals
  | v :: r => setV (vals.set J v) (J + 1) r
theorem setV_rect {l : List Rect} {i : Nat} (r : Rect) (h : i < l.length) : setV (rvals l) (i * 4) (rcells r) = rvals (l.set i r) := by
  simp only [rcells, setV]
  have e0 := rvals_set (k := 0) (v := .int .i64 r.x0) (r' := { rget l i with x0 := r.x0 }) h (by omega) rfl
  rw [Nat.add_zero] at e0
  rw [e0]
  have g : ∀ (l : List Rect) (q : Rect), i < l.length → rget (l.set i q) i = q := fun l q h => by simp [rget, List.getD_eq_getElem?_getD, h]
  rw [rvals_set (k := 1) (v := .int .i64 r.y0) (r' := { rget l i with x0 := r.x0, y0 := r.y0 }) (by simpa using h) (by omega) (by rw [g _ _ h]; rfl)]
  rw [show i * 4 + 1 + 1 = i * 4 + 2 from rfl, rvals_set (k := 2) (v := .int .i64 r.x1) (r' := { rget l i with x0 := r.x0, y0 := r.y0, x1 := r.x1 }) (by simpa using h) (by omega) (by rw [g _ _ (by simpa using h)]; rfl)]
  rw [show i * 4 + 2 + 1 = i * 4 + 3 from rfl, rvals_set (k := 3) (v := .int .i64 r.y1) (r' := r) (by simpa using h) (by omega) (by rw [g _ _ (by simpa using h)]; rfl)]
  simp
theorem setV_append (vs : List Value) : ∀ (a c b : List Value) , vs.length = b.length → setV (a ++ b ++ c) a.length vs = a ++ vs ++ c := by
  induction vs with
  | nil => intro a c b h; cases b with
    | nil => simp [setV]
    | cons _ _ => simp at h
  | cons v vs ih =>
    intro a c b h
    cases b with
    | nil => simp at h
    | cons x b =>
      have := ih (a ++ [v]) c b (by simpa using h)
      rw [setV]
      rw [List.length_append, List.length_singleton] at this
      have e : (a ++ x :: b ++ c).set a.length v = a ++ [v] ++ b ++ c := by
        simp [List.set_append]
      rw [e, this]
      simp

section
variable {P : Program}
theorem Rd.cellF {w : World} {A : Option Addr} {g o n : Nat} {l : List Rect} (h : Rd w A g o n 4 (rvals l)) (i k : Nat) (v : Value) (hi : i < l.length) (hk : (rcells (rget l i))[k]? = some v) : w.cell? ⟨g, o + i * 4 + k, none⟩ = some v := by
  have := h.cell (i * 4 + k) v (rvals_get hi hk)
  rwa [← Nat.add_assoc] at this
theorem Rd.cellF0 {w : World} {A : Option Addr} {g n : Nat} {l : List Rect} (h : Rd w A g 0 n 4 (rvals l)) (i k : Nat) (v : Value) (hi : i < l.length) (hk : (rcells (rget l i))[k]? = some v) : w.cell? ⟨g, i * 4 + k, none⟩ = some v :=
  h.cell0 _ _ (rvals_get hi hk)
theorem Rd.rect {w : World} {A : Option Addr} {g o n : Nat} {l : List Rect} (h : Rd w A g o n 4 (rvals l)) {i : Nat} (hi : i < l.length) : ∀ j v, (rcells (rget l i))[j]? = some v → w.cell? ⟨g, (o + i * 4) + j, none⟩ = some v :=
  fun j v hj => h.cellF i j v hi hj
theorem Rd.rect0 {w : World} {A : Option Addr} {g n : Nat} {l : List Rect} (h : Rd w A g 0 n 4 (rvals l)) {i : Nat} (hi : i < l.length) : ∀ j v, (rcells (rget l i))[j]? = some v → w.cell? ⟨g, i * 4 + j, none⟩ = some v :=
  fun j v hj => h.cellF0 i j v hi hj
theorem Row.factsR {w : World} {A : Option Addr} {g n cap : Nat} {e : TypeId} {l : List Rect} (h : Row w A g n cap e 4 (rvals l)) : (0 < n → A = some ⟨g, 0, none⟩) ∧ l.length = n ∧ n ≤ cap ∧ cap ≤ maxLen := by
  refine ⟨h.at_, ?_, h.capLe, ?_⟩
  · have := h.own.1; rw [rvals_length] at this; omega
  · rcases h.own.2 with ⟨h1, _⟩ | ⟨g', cap', cur, hv, _, _, _, hm, _⟩
    · cases h1; unfold maxLen; omega
    · cases hv; exact hm
theorem Rd.factsR {w : World} {A : Option Addr} {g o n : Nat} {l : List Rect} (h : Rd w A g o n 4 (rvals l)) : (0 < n → A = some ⟨g, o, none⟩) ∧ l.length = n := ⟨h.at_, by have := h.len; rw [rvals_length] at this; omega⟩
theorem cont_rowEqR {K : Act → World → Prop} {n' : Nat} {w0 : World} {L : List (Nat × Value)} {T : List Ent} (i : Nat) {A : Option Addr} {g n cap : Nat} {e : TypeId} (xs ys : List Rect) {own : Bool} (hi : T[i]? = some (.gen (rowE A g n cap e 4 (rvals xs) own))) (hxy : xs = ys)
    (h : Cont dfs K n' w0 L (T.set i (.gen (rowE A g n cap e 4 (rvals ys) own)))) : Cont dfs K n' w0 L T := by
  subst hxy
  have : T.set i (.gen (rowE A g n cap e 4 (rvals xs) own)) = T := by
    obtain ⟨hlt, he⟩ := List.getElem?_eq_some_iff.1 hi
    rw [← he]
    exact List.set_getElem_self hlt
  rwa [this] at h
/-- Cells of a row, written. -/
theorem Tab.rowSets {w0 : World} {i g n cap e sz : Nat} {A : Option Addr} {own : Bool} (hn : 0 < n) : ∀ (vs : List Value) (J : Nat) (vals : List Value) (w : World) (T : List Ent), Tab w0 w T → T[i]? = some (.gen (rowE A g n cap e sz vals own)) →
    Tab w0 (w.setCells g J vs) (T.set i (.gen (rowE A g n cap e sz (setV vals J vs) own))) := by
  intro vs
  induction vs with
  | nil =>
    intro J vals w T hT hi
    have : T.set i (.gen (rowE A g n cap e sz vals own)) = T := by
      obtain ⟨hlt, he⟩ := List.getElem?_eq_some_iff.1 hi
      rw [← he]
      exact List.set_getElem_self hlt
    simp only [setV, World.setCells]
    rw [this]; exact hT
  | cons v vs ih =>
    intro J vals w T hT hi
    have h1 := hT.rowSet hi hn J v
    have hlt : i < T.length := (List.getElem?_eq_some_iff.1 hi).1
    have h2 := ih (J + 1) (vals.set J v) _ _ h1 (by simp [hlt])
    rw [List.set_set] at h2
    exact h2
theorem Row.there {w : World} {A : Option Addr} {g n cap : Nat} {e : TypeId} {sz : Nat} {vals : List Value} (h : Row w A g n cap e sz vals) {j : Nat} (hj : j < n * sz) : (w.cell? ⟨g, j, none⟩).isSome = true := by
  have hl := h.own.1
  have := h.cell j (vals[j]'(by omega)) (List.getElem?_eq_getElem (by omega))
  rw [this]; rfl
theorem run_storeAt_cells {t : TypeId} {v : Value} {vs : List Value} {g J : Nat} (hv : v.cells = vs.toArray) (hsz : (P.info? t).map (·.size) = some vs.length) (h1 : ∀ u ∈ vs, u.oneCell' = true) (w : World) (hc : ∀ j, j < vs.length → (w.cell? ⟨g, J + j, none⟩).isSome = true) (hf : ∀ j, j < vs.length → w.frozen? ⟨g, J + j, none⟩ = false) :
    (Instr.storeAt t (.pointer (some ⟨g, J, none⟩)) v).run P w = .ok () (w.setCells g J vs) := by
  obtain ⟨i, hi1, hi2⟩ := Option.map_eq_some_iff.1 hsz
  have e : Instr.storeAt t (.pointer (some ⟨g, J, none⟩)) v = storeVar t ⟨g, J, none⟩ v := rfl
  have hst := run_storeCells_cells (P := P) g J vs 0 w (by simpa using hc) (by simpa using hf) h1
  rw [Nat.add_zero] at hst
  rw [e, storeVar]
  simp [Sem.run_bind, sizeOf, typeInfo, hi1, hi2, hv, hst]
/-- One number of an element, written. -/
theorem store_fieldR {w0 w : World} {T : List Ent} (hT : Tab w0 w T) {t e : TypeId} {A : Option Addr} {i g n cap J k p : Nat} {l : List Rect} {own : Bool} {v : Int} (r' : Rect) (hi : T[i]? = some (.gen (rowE A g n cap e 4 (rvals l) own))) (hsz : (P.info? t).map (·.size) = some 1) (hJ : J < l.length) (hk : k < 4) (hp : p = J * 4 + k) (he : (rcells (rget l J)).set k (.int .i64 v) = rcells r') :
    ∃ (x : Unit) (w' : World), (Instr.storeAt t (.pointer (some ⟨g, p, none⟩)) (.int .i64 v)).run P w = .ok () w' ∧ True ∧ Tab w0 w' (T.set i (.gen (rowE A g n cap e 4 (rvals (l.set J r')) own))) := by
  subst hp
  have hrow : Row w A g n cap e 4 (rvals l) := hT.ok i _ hi
  have hlen : l.length = n := hrow.factsR.2.1
  have hn : 0 < n := by omega
  have hc := hrow.there (j := J * 4 + k) (by omega)
  obtain ⟨u, hu⟩ := Option.isSome_iff_exists.1 hc
  refine ⟨(), _, run_store1 hsz rfl hu (hrow.free hn _), trivial, ?_⟩
  have := hT.rowSet hi hn (J * 4 + k) (.int .i64 v)
  rw [rvals_set hJ hk he] at this
  exact this
/-- An element, written. -/
theorem store_rectR {w0 w : World} {T : List Ent} (hT : Tab w0 w T) {t e : TypeId} {A : Option Addr} {i g n cap J : Nat} {l : List Rect} {own : Bool} (r : Rect) (hi : T[i]? = some (.gen (rowE A g n cap e 4 (rvals l) own))) (hsz : (P.info? t).map (·.size) = some 4) (hJ : J < l.length) :
    ∃ (x : Unit) (w' : World), (Instr.storeAt t (.pointer (some ⟨g, J * 4, none⟩)) (.agg #[.int .i64 r.x0, .int .i64 r.y0, .int .i64 r.x1, .int .i64 r.y1])).run P w = .ok () w' ∧ True ∧ Tab w0 w' (T.set i (.gen (rowE A g n cap e 4 (rvals (l.set J r)) own))) := by
  have hrow : Row w A g n cap e 4 (rvals l) := hT.ok i _ hi
  have hlen : l.length = n := hrow.factsR.2.1
  have hn : 0 < n := by omega
  refine ⟨(), _, run_storeAt_cells (vs := rcells r) rfl hsz (fun u hu => rvals_one [r] u (by simpa [rvals] using hu)) w (fun j hj => hrow.there (by simp [rcells] at hj; omega)) (fun j hj => hrow.free hn _), trivial, ?_⟩
  have := Tab.rowSets hn (rcells r) (J * 4) (rvals l) w T hT hi
  rw [setV_rect r hJ] at this
  exact this

/-! ### Cut to a length -/
theorem Row.shrink {w : World} {A : Option Addr} {g n cap : Nat} {e : TypeId} {sz : Nat} {vals : List Value} (h : Row w A g n cap e sz vals) {k : Nat} (hk : k ≤ n) : Row w A g k cap e sz (vals.take (k * sz)) := by
  have hl := h.own.1
  have hkn : k * sz ≤ n * sz := Nat.mul_le_mul_right _ hk
  refine ⟨⟨by rw [List.length_take]; omega, ?_⟩, fun h0 => h.at_ (by omega), h.spot⟩
  rcases h.own.2 with ⟨h1, h2⟩ | ⟨g', cap', cur, hv, hg, hh, hle, hcm, hcs, htk⟩
  · cases h1
    exact .inl ⟨by rw [show k = 0 by omega], by omega⟩
  · cases hv
    exact .inr ⟨g', cap, cur, rfl, hg, hh, by omega, hcm, hcs, by rw [← htk, List.take_take, Nat.min_eq_left hkn]⟩
theorem Tab.shrink {w0 w : World} {T : List Ent} (hT : Tab w0 w T) {i : Nat} {A : Option Addr} {g n cap e sz : Nat} {vals vals' : List Value} {own : Bool} (h : T[i]? = some (.gen (rowE A g n cap e sz vals own))) {k : Nat} (hk : k ≤ n) (hv : vals.take (k * sz) = vals') :
    Tab w0 w (T.set i (.gen (rowE A g k cap e sz vals' own))) := by
  subst hv
  have hrow : Row w A g n cap e sz vals := hT.ok i _ h
  exact hT.replace (e := .gen (rowE A g n cap e sz vals own)) (e' := .gen (rowE A g k cap e sz _ own)) h rfl rfl id (fun k hk => .inl hk) (fun k _ hk _ => hk) rfl rfl rfl (Nat.le_refl _) (fun _ _ _ => rfl) (hrow.shrink hk)
theorem cont_shrink {K : Act → World → Prop} {n' : Nat} {w0 : World} {L : List (Nat × Value)} {T : List Ent} (i : Nat) {A : Option Addr} {g n cap e sz : Nat} {vals : List Value} {own : Bool} (k : Nat) (vals' : List Value) (h : T[i]? = some (.gen (rowE A g n cap e sz vals own))) (hk : k ≤ n) (hv : vals.take (k * sz) = vals')
    (hc : Cont dfs K n' w0 L (T.set i (.gen (rowE A g k cap e sz vals' own)))) : Cont dfs K n' w0 L T :=
  fun a w ha hf hT => hc a w ha hf (hT.shrink h hk hv)
theorem rvals_take {l : List Rect} {k : Nat} : (rvals l).take (k * 4) = rvals (l.take k) := by
  induction l generalizing k with
  | nil => simp [rvals]
  | cons r l ih =>
    cases k with
    | zero => simp [rvals]
    | succ k =>
      rw [show (k + 1) * 4 = k * 4 + 4 by omega]
      show rcells r ++ (rvals l).take (k * 4) = _
      rw [ih]; rfl
theorem ivals_take {q : IntKind} {l : List Int} {k : Nat} : (ivals q l).take (k * 1) = ivals q (l.take k) := by simp [ivals, List.map_take]

/-! ### Parts, read -/
theorem rvals_part {l : List Rect} {J m : Nat} (h : J + m ≤ l.length) : ∀ j v, (rvals ((l.drop J).take m))[j]? = some v → (rvals l)[J * 4 + j]? = some v := by
  intro j v hj
  have hl := (List.getElem?_eq_some_iff.1 hj).1
  rw [rvals_length, List.length_take, List.length_drop] at hl
  have e : rvals l = rvals (l.take J) ++ (rvals ((l.drop J).take m) ++ rvals ((l.drop J).drop m)) := by
    rw [rvals_append, List.take_append_drop, rvals_append, List.take_append_drop]
  have el : (rvals (l.take J)).length = J * 4 := by rw [rvals_length, List.length_take]; omega
  rw [e, List.getElem?_append_right (by omega), el, show J * 4 + j - J * 4 = j by omega, List.getElem?_append_left (by rw [rvals_length, List.length_take, List.length_drop]; omega)]
  exact hj
theorem Rd.subR {w : World} {g o n cap : Nat} {l : List Rect} {A : Option Addr} (h : Rd w A g o n 4 (rvals l)) {J m : Nat} (hJ : J + m ≤ n) (hc : n ≤ cap) : Rd w (sliceA g o J cap 4) g (o + J * 4) m 4 (rvals ((l.drop J).take m)) := by
  have hl := h.factsR.2
  refine ⟨by rw [rvals_length, List.length_take, List.length_drop]; congr 1; omega, fun hm => sliceA_pos (by omega), fun j v hj => ?_⟩
  rw [show o + J * 4 + j = o + (J * 4 + j) by omega]
  exact h.cell _ v (rvals_part (by omega) j v hj)
theorem Row.subR {w : World} {g n cap : Nat} {e : TypeId} {l : List Rect} {A : Option Addr} (h : Row w A g n cap e 4 (rvals l)) {J m : Nat} (hJ : J + m ≤ n) : Rd w (sliceA g 0 J cap 4) g (0 + J * 4) m 4 (rvals ((l.drop J).take m)) :=
  Rd.subR h.rd hJ h.capLe
theorem Vw.rdSubR {A : Option Addr} {g o n cap : Nat} {l : List Rect} {J m : Nat} (hc : n ≤ cap) (hJ : J + m ≤ n) : Vw (.gen (rdE A g o n 4 (rvals l))) (.gen (rdE (sliceA g o J cap 4) g (o + J * 4) m 4 (rvals ((l.drop J).take m)))) :=
  ⟨fun _ h => Rd.subR h hJ hc, fun w h k' hk => by
    obtain ⟨h1, h2⟩ := hk
    exact ⟨h1, fun hx => h2 (by
      have hn := rvals_nil.1 hx
      subst hn; simp [rvals])⟩, id, rfl⟩
theorem Vw.rowSubR {A : Option Addr} {g n cap : Nat} {e : TypeId} {l : List Rect} {o' : Bool} {J m : Nat} (hJ : J + m ≤ n) : Vw (.gen (rowE A g n cap e 4 (rvals l) o')) (.gen (rdE (sliceA g 0 J cap 4) g (0 + J * 4) m 4 (rvals ((l.drop J).take m)))) :=
  ⟨fun _ h => Row.subR h hJ, fun w h k' hk => by
    have hr : Row w A g n cap e 4 (rvals l) := h
    obtain ⟨h1, h2⟩ := hk
    refine ⟨h1, fun hA => h2 ?_⟩
    obtain ⟨f1, f2, f3, f4⟩ := hr.factsR
    have h0 : n = 0 := by
      rcases Nat.eq_zero_or_pos n with h | h
      · exact h
      · have := f1 h; rw [hA] at this; cases this
    have hm : m = 0 := by omega
    subst hm; simp [rvals], fun _ => rfl, rfl⟩
theorem run_sliceLo {t e : TypeId} {g o n cap sz : Nat} {kl : IntKind} {l : Int} (ln : Nat) (hu : P.underlying t = some (.slice e)) (hi : (P.info? e).map (·.size) = some sz) (h0 : 0 ≤ l) (h1 : l ≤ (n : Int)) (h2 : n ≤ cap) (hl : l.toNat = ln) (w : World) :
    (Instr.sliceAt t (.slice (some ⟨g, o, none⟩) n cap) (some (.int kl l)) none none).run P w = .ok (.slice (sliceA g o ln cap sz) (n - ln) (cap - ln)) w := by
  subst hl
  obtain ⟨i, hi1, hi2⟩ := Option.map_eq_some_iff.1 hi
  have ha : (⟨g, o, none⟩ : Addr).add (l.toNat * sz) = ⟨g, o + l.toNat * sz, none⟩ := by unfold Addr.add; split <;> simp_all
  simp only [Instr.sliceAt, Instr.slice, Instr.sliceBounds, Instr.sliceBound, asIntOf]
  simp [Sem.run_bind, run_underlying hu, h0, h1, show (n : Int) ≤ cap by omega, sizeOf, typeInfo, hi1, hi2, ha, sliceA]
theorem run_sliceHi {t e : TypeId} {g o n cap sz : Nat} {kh : IntKind} {h : Int} (hn : Nat) (hu : P.underlying t = some (.slice e)) (hi : (P.info? e).map (·.size) = some sz) (h0 : 0 ≤ h) (h2 : h ≤ (cap : Int)) (hh : h.toNat = hn) (w : World) :
    (Instr.sliceAt t (.slice (some ⟨g, o, none⟩) n cap) none (some (.int kh h)) none).run P w = .ok (.slice (some ⟨g, o, none⟩) hn cap) w := by
  subst hh
  obtain ⟨i, hi1, hi2⟩ := Option.map_eq_some_iff.1 hi
  have ha : (⟨g, o, none⟩ : Addr).add 0 = ⟨g, o, none⟩ := by unfold Addr.add; split <;> simp_all
  simp only [Instr.sliceAt, Instr.slice, Instr.sliceBounds, Instr.sliceBound, asIntOf]
  simp [Sem.run_bind, run_underlying hu, h0, h2, sizeOf, typeInfo, hi1, hi2, ha]
/-! ### clear -/
theorem rvals_rep (m : Nat) : rvals (List.replicate m ⟨0, 0, 0, 0⟩) = List.replicate (m * 4) (.int .i64 0) := by
  induction m with
  | zero => rfl
  | succ m ih =>
    rw [List.replicate_succ, rvals, ih, show (m + 1) * 4 = m * 4 + 4 by omega]
    rfl
theorem clear_rowR {w0 w : World} {T : List Ent} (hT : Tab w0 w T) {t ty e : TypeId} {i g n cap J m c : Nat} {a : Addr} {A : Option Addr} {l : List Rect} {own : Bool} (hi : T[i]? = some (.gen (rowE A g n cap e 4 (rvals l) own)))
    (ht : P.underlying t = some (.slice e)) (hz : (P.info? e).map (fun i => i.zero) = some (some (.agg #[.int .i64 0, .int .i64 0, .int .i64 0, .int .i64 0]))) (hA : 0 < m → a = ⟨g, J * 4, none⟩) (hJ : J + m ≤ n) {l' : List Rect} (hl' : l.take J ++ List.replicate m ⟨0, 0, 0, 0⟩ ++ l.drop (J + m) = l') :
    ∃ (x : Unit) (w' : World), (∃ v, (Builtin.clear_ #[t] ty #[.slice (some a) m c]).run P w = .ok v w') ∧ True ∧ Tab w0 w' (T.set i (.gen (rowE A g n cap e 4 (rvals l') own))) := by
  subst hl'
  have hrow : Row w A g n cap e 4 (rvals l) := hT.ok i _ hi
  have hlen : l.length = n := hrow.factsR.2.1
  obtain ⟨inf, hinf, hz⟩ := Option.map_eq_some_iff.1 hz
  have hzv : (zeroValue e).run P w = .ok (.agg #[.int .i64 0, .int .i64 0, .int .i64 0, .int .i64 0]) w := by
    simp [zeroValue, typeInfo, Sem.run_bind, hinf, hz]
  have hzc : (Builtin.zeroCells (Value.agg #[.int .i64 0, .int .i64 0, .int .i64 0, .int .i64 0]).cells m).toList = List.replicate (m * 4) (.int .i64 0) := by
    show (Builtin.zeroCells #[.int .i64 0, .int .i64 0, .int .i64 0, .int .i64 0] m).toList = _
    apply List.ext_getElem?
    intro j
    simp only [Builtin.zeroCells, Array.toList_map, Array.toList_range, List.getElem?_map, List.getElem?_replicate]
    by_cases hj : j < m * 4
    · rw [if_pos hj, List.getElem?_range (by simpa using hj)]
      simp only [Option.map_some, Option.some.injEq]
      have : j % 4 < 4 := Nat.mod_lt _ (by omega)
      show #[Value.int .i64 0, .int .i64 0, .int .i64 0, .int .i64 0][j % 4]! = _
      generalize j % 4 = q at this
      match q, this with
      | 0, _ => rfl
      | 1, _ => rfl
      | 2, _ => rfl
      | 3, _ => rfl
    · rw [if_neg hj, List.getElem?_eq_none (by simpa using hj)]; rfl
  by_cases hm : m = 0
  · subst hm
    refine ⟨(), w, ⟨.tuple #[], ?_⟩, trivial, ?_⟩
    · rw [Nat.zero_mul, List.replicate_zero] at hzc
      simp [Builtin.clear_, run_underlying ht, hzv, Sem.run_bind]
    · rw [List.replicate_zero, List.append_nil, Nat.add_zero, List.take_append_drop]
      have : T.set i (.gen (rowE A g n cap e 4 (rvals l) own)) = T := by
        obtain ⟨hlt, he⟩ := List.getElem?_eq_some_iff.1 hi
        rw [← he]
        exact List.set_getElem_self hlt
      rw [this]; exact hT
  · have hn : 0 < n := by omega
    have ha := hA (by omega)
    subst ha
    have hst := run_storeCells_cells (P := P) g (J * 4) (List.replicate (m * 4) (.int .i64 0)) 0 w (fun j hj => by rw [Nat.add_zero]; exact hrow.there (by rw [List.length_replicate] at hj; omega)) (fun j hj => hrow.free hn _) (fun v hv => by rw [List.eq_of_mem_replicate hv]; rfl)
    rw [Nat.add_zero] at hst
    refine ⟨(), w.setCells g (J * 4) (List.replicate (m * 4) (.int .i64 0)), ⟨.tuple #[], ?_⟩, trivial, ?_⟩
    · obtain ⟨m', rfl⟩ : ∃ m', m = m' + 1 := ⟨m - 1, by omega⟩
      simp [Builtin.clear_, run_underlying ht, hzv, Sem.run_bind, hzc, hst]
    · have h := Tab.rowSets hn (List.replicate (m * 4) (.int .i64 0)) (J * 4) (rvals l) w T hT hi
      have e : rvals l = rvals (l.take J) ++ rvals ((l.drop J).take m) ++ rvals (l.drop (J + m)) := by
        rw [rvals_append, rvals_append, ← List.drop_drop, List.append_assoc, List.take_append_drop, List.take_append_drop]
      have hlJ : (rvals (l.take J)).length = J * 4 := by rw [rvals_length, List.length_take]; omega
      have e2 : setV (rvals l) (J * 4) (List.replicate (m * 4) (.int .i64 0)) = rvals (l.take J ++ List.replicate m ⟨0, 0, 0, 0⟩ ++ l.drop (J + m)) := by
        conv => lhs; rw [e, ← hlJ]
        rw [setV_append _ _ _ _ (by rw [List.length_replicate, rvals_length, List.length_take, List.length_drop]; omega), ← rvals_rep, rvals_append, rvals_append]
      rw [e2] at h
      exact h
theorem Tab.nilR {w0 w : World} {T : List Ent} (hT : Tab w0 w T) (e : TypeId) (sz : Nat) : Tab w0 w (.gen (rowE none 0 0 0 e sz [] true) :: T) :=
  hT.fresh _ (show Row w none 0 0 0 e sz [] from ⟨⟨by simp, .inl ⟨rfl, rfl⟩⟩, fun h => by omega, fun a ha => by cases ha⟩) (fun k hk => hk.2 rfl)
end
end Go.Proofs.Ytommojgfkkoghaa
