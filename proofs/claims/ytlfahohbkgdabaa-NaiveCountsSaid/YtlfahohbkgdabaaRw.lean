/- The rows of an image, one by one. -/
import Derived.Test.YtlfahohbkgdabaaRy
import Derived.Test.YtlfahohbkgdabaaIc
set_option linter.unusedVariables false
namespace Go.Proofs.Ytlfahohbkgdabaa
open Go Go.RowKit
def rowL (Wn : Nat) (px : List Int) (y : Int) : List Int := (px.drop (Int.toNat y * Wn)).take Wn
theorem row_lo {W : Int} {Wn : Nat} (hW : (Wn : Int) = W) (k : Nat) : Int.toNat (((k : Nat) : Int) * W + 0) = k * Wn := by
  subst hW
  rw [Int.add_zero, ← Int.natCast_mul, Int.toNat_natCast]
theorem row_n {W : Int} {Wn : Nat} (hW : (Wn : Int) = W) (k : Nat) : Int.toNat (((k : Nat) : Int) * W + W) - Int.toNat (((k : Nat) : Int) * W + 0) = Wn := by
  rw [row_lo hW]
  subst hW
  rw [← Int.natCast_mul, ← Int.natCast_add, Int.toNat_natCast]; omega
theorem rowL_part {W : Int} {Wn : Nat} {px : List Int} (hW : (Wn : Int) = W) (k : Nat) : (px.drop (Int.toNat (((k : Nat) : Int) * W + 0))).take (Int.toNat (((k : Nat) : Int) * W + W) - Int.toNat (((k : Nat) : Int) * W + 0)) = rowL Wn px ((k : Nat) : Int) := by
  rw [row_n hW, row_lo hW]; rfl
theorem row_max {W H : Int} {Wn k : Nat} {n : Nat} (hW : (Wn : Int) = W) (hn : (n : Int) = W * H) (h1 : 1 ≤ W) (hk : ((k : Nat) : Int) < H) : (k + 1) * Wn ≤ n := by
  subst hW
  have h2 : (((k + 1) * Wn : Nat) : Int) ≤ H * (Wn : Int) := by
    rw [Int.natCast_mul]
    exact Int.mul_le_mul_of_nonneg_right (by omega) (by omega)
  rw [Int.mul_comm H] at h2
  omega
theorem row_bd {W H : Int} {k n : Nat} (hn : (n : Int) = W * H) (h1 : 1 ≤ W) (hk : ((k : Nat) : Int) < H) : 0 ≤ ((k : Nat) : Int) * W ∧ ((k : Nat) : Int) * W + W ≤ (n : Int) := by
  have h2 : (((k : Nat) : Int) + 1) * W ≤ H * W := Int.mul_le_mul_of_nonneg_right (by omega) (by omega)
  rw [Int.add_mul, Int.one_mul, Int.mul_comm H] at h2
  exact ⟨Int.mul_nonneg (by omega) (by omega), by omega⟩
/-- What has come of the rows: from the top, without a gap. -/
def RowsP (h : Nat) (p : List (Int × Nat × Nat)) : Prop := p.map (·.1) = (List.range p.length).map (fun k => ((k : Nat) : Int)) ∧ p.length ≤ h
theorem RowsP.nil (h : Nat) : RowsP h [] := ⟨rfl, Nat.zero_le _⟩
theorem RowsP.step {h : Nat} {p : List (Int × Nat × Nat)} (hp : RowsP h p) {g c : Nat} (hl : p.length < h) : RowsP h (p ++ [(((p.length : Nat) : Int), g, c)]) := by
  refine ⟨?_, by rw [List.length_append, List.length_singleton]; omega⟩
  rw [List.map_append, hp.1, List.length_append, List.length_singleton, List.range_succ, List.map_append]; rfl
/-- The row that comes next. -/
theorem RowsP.last {h : Nat} {p : List (Int × Nat × Nat)} {x : Int × Nat × Nat} (hp : RowsP h (p ++ [x])) : x.1 = ((p.length : Nat) : Int) ∧ p.length < h := by
  obtain ⟨h1, h2⟩ := hp
  rw [List.length_append, List.length_singleton] at h1 h2
  rw [List.map_append, List.range_succ, List.map_append] at h1
  have := (List.append_inj h1 (by simp)).2
  exact ⟨by simpa using this, by omega⟩
theorem rowL_len {W H : Int} {n Wn k : Nat} {px : List Int} (hW : (Wn : Int) = W) (hn : (n : Int) = W * H) (h1 : 1 ≤ W) (hl : px.length = n) (hk : ((k : Nat) : Int) < H) : (rowL Wn px ((k : Nat) : Int)).length = Wn := by
  have := row_max hW hn h1 hk
  have e : (k + 1) * Wn = k * Wn + Wn := by rw [Nat.add_mul, Nat.one_mul]
  unfold rowL
  rw [List.length_take, List.length_drop, Int.toNat_natCast]
  omega
theorem rowL_get {W H : Int} {n Wn k j : Nat} {px : List Int} (hW : (Wn : Int) = W) (hn : (n : Int) = W * H) (h1 : 1 ≤ W) (hl : px.length = n) (hk : ((k : Nat) : Int) < H) (hj : j < Wn) : (rowL Wn px ((k : Nat) : Int)).getD j 0 = px.getD (Int.toNat (((k : Nat) : Int) * W + ((j : Nat) : Int))) 0 := by
  have := row_max hW hn h1 hk
  have e : (k + 1) * Wn = k * Wn + Wn := by rw [Nat.add_mul, Nat.one_mul]
  have e2 : Int.toNat (((k : Nat) : Int) * W + ((j : Nat) : Int)) = k * Wn + j := by
    subst hW
    rw [← Int.natCast_mul, ← Int.natCast_add, Int.toNat_natCast]
  unfold rowL
  rw [e2, List.getD_eq_getElem?_getD, List.getElem?_take, if_pos hj, List.getElem?_drop, Int.toNat_natCast, ← List.getD_eq_getElem?_getD]
theorem keepAt {l m : List Int} {j : Nat} {v : Int} (h : ∀ i, j ≤ i → l.getD i 0 = m.getD i 0) : ∀ i, j + 1 ≤ i → (l.set j v).getD i 0 = m.getD i 0 := fun i hi => by
  rw [← h i (by omega), List.getD_eq_getElem?_getD, List.getElem?_set_ne (by omega), ← List.getD_eq_getElem?_getD]
end Go.Proofs.Ytlfahohbkgdabaa
