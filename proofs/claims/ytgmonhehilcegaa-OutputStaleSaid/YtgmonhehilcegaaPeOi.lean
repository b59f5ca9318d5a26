/- Rows that are painted in place, point by point. -/
import Derived.Test.YtgmonhehilcegaaPeDd
import Derived.Test.YtgmonhehilcegaaPeOu
import Derived.Test.YtgmonhehilcegaaPeIc
set_option linter.unusedVariables false
set_option linter.unusedSimpArgs false
namespace Go.Proofs.Ytgmonhehilcegaa
open Go Go.RowKit

/-! ### Rows of Bools -/
section
variable {dfs : List Deferred}
def bvals (xs : List Bool) : List Value := xs.map Value.bool
theorem bvals_get {xs : List Bool} {j : Nat} (h : j < xs.length) : (bvals xs)[j]? = some (.bool (xs.getD j false)) := by
  simp [bvals, List.getElem?_eq_getElem h]
theorem bvals_length {xs : List Bool} : (bvals xs).length = xs.length := by simp [bvals]
theorem bvals_set {xs : List Bool} {j : Nat} {v : Bool} : (bvals xs).set j (.bool v) = bvals (xs.set j v) := by simp [bvals]
theorem Row.factsB {w : World} {A : Option Addr} {g n cap : Nat} {e : TypeId} {xs : List Bool} (h : Row w A g n cap e 1 (bvals xs)) : (0 < n → A = some ⟨g, 0, none⟩) ∧ xs.length = n ∧ n ≤ cap ∧ cap ≤ maxLen := by
  refine ⟨h.at_, ?_, h.capLe, ?_⟩
  · have := h.own.1; rw [bvals_length] at this; omega
  · rcases h.own.2 with ⟨h1, _⟩ | ⟨g', cap', cur, hv, _, _, _, hm, _⟩
    · cases h1; unfold maxLen; omega
    · cases hv; exact hm
theorem store_rowB {P : Program} {w0 w : World} {T : List Ent} (hT : Tab w0 w T) {t e : TypeId} {A : Option Addr} {i g n cap J : Nat} {xs : List Bool} {own : Bool} {v : Bool} (hi : T[i]? = some (.gen (rowE A g n cap e 1 (bvals xs) own))) (hsz : (P.info? t).map (·.size) = some 1) (hJ : J < xs.length) :
    ∃ (x : Unit) (w' : World), (Instr.storeAt t (.pointer (some ⟨g, J, none⟩)) (.bool v)).run P w = .ok () w' ∧ True ∧ Tab w0 w' (T.set i (.gen (rowE A g n cap e 1 (bvals (xs.set J v)) own))) := by
  have hrow : Row w A g n cap e 1 (bvals xs) := hT.ok i _ hi
  have hlen : xs.length = n := by have := hrow.own.1; rw [bvals_length] at this; omega
  have hn : 0 < n := by omega
  refine ⟨(), _, run_store1 hsz rfl (hrow.cell J _ (bvals_get hJ)) (hrow.free hn J), trivial, ?_⟩
  have := hT.rowSet hi hn J (.bool v)
  rw [bvals_set] at this
  exact this
theorem make_rowB {P : Program} {w0 w : World} {T : List Ent} (hT : Tab w0 w T) {t e : TypeId} {kl kc : IntKind} {bytes : Nat} (n : Nat) (ht : P.underlying t = some (.slice e)) (hi : (P.info? e).map (fun i => (i.zero, i.size, i.bytes)) = some (some (.bool false), 1, bytes)) (hb : bytes * n ≤ 281474976710656) (hn : n ≤ 9223372036854775807) :
    ∃ (x : Nat) (w' : World), (Instr.makeSlice t (.int kl (n : Int)) (.int kc (n : Int))).run P w = .ok (.slice (some ⟨x, 0, none⟩) n n) w' ∧ True ∧ Tab w0 w' (.gen (rowE (some ⟨x, 0, none⟩) x n n e 1 (bvals (List.replicate n false)) true) :: T) := by
  obtain ⟨i, hi1, hi2⟩ := Option.map_eq_some_iff.1 hi
  simp only [Prod.mk.injEq] at hi2
  obtain ⟨hz, hs, hby⟩ := hi2
  obtain ⟨w', hr, hown, hg⟩ := run_make_full (P := P) w 0 t e i (.bool false) 1 ht hi1 hz hs kl kc n (by rw [hby]; exact hb) (by unfold maxLen; omega) (Nat.zero_le _)
  have hvals : (madeCells (Value.bool false).cells (n * 1)).toList = bvals (List.replicate n false) := by
    have : (Value.bool false).cells = #[.bool false] := rfl
    rw [this, Nat.mul_one, toList_madeCells_one]
    simp [bvals]
  rw [hvals] at hown
  refine ⟨w.heap.size, w', hr, trivial, ?_⟩
  have hbel : Below w.heap.size w w' := ⟨hg.os, hg.tape, hg.output, hg.size, fun k hk => hg.block k hk (by simp)⟩
  exact hT.addRow hbel ⟨hown, fun _ => rfl, fun a ha => by simpa using ha.symm⟩ (fun _ => Nat.le_refl _)

/-! ### A number written into a row -/
end
/-! ### What is stale covers what was damaged -/
def Cov (W : Int) (B : List Bool) (X : List Rect) : Prop := ∀ j : Nat, B.getD j false = true → hasL X ((j : Int) % W) ((j : Int) / W) = true
theorem Cov.mono {W : Int} {B : List Bool} {X Y : List Rect} (h : Cov W B X) (hXY : ∀ x y, hasL X x y = true → hasL Y x y = true) : Cov W B Y := fun j hj => hXY _ _ (h j hj)
theorem Cov.put {W : Int} {B : List Bool} {X : List Rect} (h : Cov W B X) {k : Nat} (hk : hasL X ((k : Int) % W) ((k : Int) / W) = true) : Cov W (B.set k true) X := fun j hj => by
  by_cases e : k = j
  · subst e; exact hk
  · exact h j (by simpa [List.getD_eq_getElem?_getD, List.getElem?_set, e] using hj)
theorem Cov.not {W : Int} {B : List Bool} {X : List Rect} (h : Cov W B X) {k : Nat} (h1 : B.getD k false = true) (h2 : hasL X ((k : Int) % W) ((k : Int) / W) = false) : False := by
  have := h k h1; rw [h2] at this; cases this
theorem Cov.box {W H : Int} {n : Nat} {B : List Bool} (hW : 1 ≤ W) (hn : (n : Int) = W * H) (hl : B.length = n) : Cov W B (canR [(⟨0, 0, W, H⟩ : Rect)]) := fun j hj => by
  have hjn : j < n := by
    rcases Nat.lt_or_ge j n with h | h
    · exact h
    · rw [List.getD_eq_getElem?_getD, List.getElem?_eq_none (by omega)] at hj; cases hj
  rw [hasL_can]
  simpa [hasL] using in_box hW hn hjn
/-- The front's damage goes to the back, point by point. -/
structure FlI (W : Int) (X : List Rect) (k : Nat) (B F : List Bool) : Prop where
  b : ∀ j, j < k → B.getD j false = true → hasL X ((j : Int) % W) ((j : Int) / W) = true
  f : Cov W F X
  z : ∀ j, j < k → F.getD j false = false
theorem FlI.nil {W : Int} {X : List Rect} {B F : List Bool} (h : Cov W F X) : FlI W X 0 B F := ⟨fun j hj => by omega, h, fun j hj => by omega⟩
theorem FlI.step {W : Int} {X : List Rect} {k : Nat} {B F : List Bool} (h : FlI W X k B F) : FlI W X (k + 1) (B.set k (F.getD k false)) (F.set k false) := by
  refine ⟨fun j hj hb => ?_, fun j hj => ?_, fun j hj => ?_⟩
  · by_cases e : k = j
    · subst e
      refine h.f k ?_
      by_cases hl : k < B.length
      · simpa [List.getD_eq_getElem?_getD, List.getElem?_set, hl] using hb
      · rw [List.getD_eq_getElem?_getD, List.getElem?_eq_none (by rw [List.length_set]; omega)] at hb; cases hb
    · exact h.b j (by omega) (by simpa [List.getD_eq_getElem?_getD, List.getElem?_set, e] using hb)
  · by_cases e : k = j
    · subst e
      by_cases hl : k < F.length
      · simp [List.getD_eq_getElem?_getD, List.getElem?_set, hl] at hj
      · rw [List.getD_eq_getElem?_getD, List.getElem?_eq_none (by rw [List.length_set]; omega)] at hj; cases hj
    · exact h.f j (by simpa [List.getD_eq_getElem?_getD, List.getElem?_set, e] using hj)
  · by_cases e : k = j
    · subst e
      by_cases hl : k < F.length
      · simp [List.getD_eq_getElem?_getD, List.getElem?_set, hl]
      · rw [List.getD_eq_getElem?_getD, List.getElem?_eq_none (by rw [List.length_set]; omega)]; rfl
    · have := h.z j (by omega)
      simpa [List.getD_eq_getElem?_getD, List.getElem?_set, e] using this
theorem FlI.back {W : Int} {X : List Rect} {n : Nat} {B F : List Bool} (h : FlI W X n B F) (hl : B.length = n) : Cov W B X := fun j hj => by
  refine h.b j ?_ hj
  rcases Nat.lt_or_ge j n with h | h
  · exact h
  · rw [List.getD_eq_getElem?_getD, List.getElem?_eq_none (by omega)] at hj; cases hj
theorem FlI.front {W : Int} {X Y : List Rect} {n : Nat} {B F : List Bool} (h : FlI W X n B F) (hl : F.length = n) : Cov W F Y := fun j hj => by
  rcases Nat.lt_or_ge j n with h2 | h2
  · rw [h.z j h2] at hj; cases hj
  · rw [List.getD_eq_getElem?_getD, List.getElem?_eq_none (by omega)] at hj; cases hj
/-- What a damage leaves covers what was stale, and what is damaged. -/
theorem keep_has {l : List Rect} (h : ∀ r ∈ l, emptyR r = false) {x y : Int} (hx : hasL l x y = true) : hasL (keepL hullP l 64) x y = true := by
  have h1 := keep_covers h (n := 64) (by omega)
  have h2 := hasL_less l (keepL hullP l 64) x y
  rw [h1, hx] at h2
  cases h3 : hasL (keepL hullP l 64) x y with
  | true => rfl
  | false => rw [h3] at h2; simp [hasL] at h2
theorem damage_old (X l : List Rect) (b : Rect) {x y : Int} (hx : hasL X x y = true) : hasL (keepL hullP (regM orB X (regM andB (canR l) (canR [b]))) 64) x y = true :=
  keep_has (regM_ne rfl _ _) (by rw [hasL_or, hx]; rfl)
theorem damage_new (X l : List Rect) {b : Rect} {x y : Int} (hx : hasL l x y = true) (hb : hasB b.x0 b.y0 b.x1 b.y1 x y = true) : hasL (keepL hullP (regM orB X (regM andB (canR l) (canR [b]))) 64) x y = true :=
  keep_has (regM_ne rfl _ _) (by rw [hasL_or, hasL_and, hasL_can, hasL_can, hx]; simp [hasL, hb])
end Go.Proofs.Ytgmonhehilcegaa

