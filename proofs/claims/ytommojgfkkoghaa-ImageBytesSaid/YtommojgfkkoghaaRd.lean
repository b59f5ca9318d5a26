/- Plain words of Read: the bytes of points. -/
import Derived.Test.YtommojgfkkoghaaIc
import Derived.Test.YtommojgfkkoghaaSt
set_option linter.unusedVariables false
set_option linter.unusedSimpArgs false
namespace Go.Proofs.Ytommojgfkkoghaa
open Go Go.RowKit

def parts4 (c : Int) : List Int := [pa c, pr c, pg c, pb c]
/-- The bytes of the points of one row, from x0 on, k of them. -/
def rdK (W : Int) (px : List Int) (y x0 : Int) (k : Nat) : List Int := (List.range k).flatMap fun (j : Nat) => parts4 (px.getD (Int.toNat (y * W + x0) + j) 0)
def rdRow (W : Int) (px : List Int) (y x0 x1 : Int) : List Int := rdK W px y x0 (Int.toNat (x1 - x0))
/-- The bytes of the rows from b on, k of them. -/
def rdP (W : Int) (px : List Int) (a b c : Int) (k : Nat) : List Int := (List.range k).flatMap fun (j : Nat) => rdRow W px (b + (j : Int)) a c
def readL (W : Int) (px : List Int) (a b c d : Int) : List Int := rdP W px a b c (Int.toNat (d - b))
theorem rdK_zero (W : Int) (px : List Int) (y x0 : Int) : rdK W px y x0 0 = [] := rfl
theorem rdK_succ (W : Int) (px : List Int) (y x0 : Int) (k : Nat) : rdK W px y x0 (k + 1) = rdK W px y x0 k ++ parts4 (px.getD (Int.toNat (y * W + x0) + k) 0) := by
  unfold rdK
  rw [List.range_succ, List.flatMap_append]
  simp
theorem rdP_succ (W : Int) (px : List Int) (a b c : Int) (k : Nat) : rdP W px a b c (k + 1) = rdP W px a b c k ++ rdRow W px (b + (k : Int)) a c := by
  unfold rdP
  rw [List.range_succ, List.flatMap_append]
  simp
theorem rdK_length (W : Int) (px : List Int) (y x0 : Int) : ∀ k : Nat, (rdK W px y x0 k).length = 4 * k := by
  intro k
  induction k with
  | zero => rfl
  | succ k ih => rw [rdK_succ, List.length_append, ih]; rfl
theorem rdP_length (W : Int) (px : List Int) (a b c : Int) : ∀ k : Nat, (rdP W px a b c k).length = k * (4 * Int.toNat (c - a)) := by
  intro k
  induction k with
  | zero => simp [rdP]
  | succ k ih => rw [rdP_succ, List.length_append, ih, rdRow, rdK_length, Nat.add_mul, Nat.one_mul]
theorem parts_rng {c : Int} (h0 : 0 ≤ c) (h1 : c < 4294967296) : (0 ≤ pa c ∧ pa c ≤ 255) ∧ (0 ≤ pr c ∧ pr c ≤ 255) ∧ (0 ≤ pg c ∧ pg c ≤ 255) ∧ (0 ≤ pb c ∧ pb c ≤ 255) := by
  unfold pa pr pg pb; omega
theorem flatMap_bytes {l : List Int} : ∀ x ∈ l, True := fun _ _ => trivial
theorem rdK_byte {W : Int} {px : List Int} (h : ∀ c ∈ px, InC c) (y x0 : Int) (k : Nat) : ∀ x ∈ rdK W px y x0 k, 0 ≤ x ∧ x ≤ 255 := by
  intro x hx
  obtain ⟨j, _, hj⟩ := List.mem_flatMap.1 hx
  have hc : InC (px.getD (Int.toNat (y * W + x0) + j) 0) := by
    rw [List.getD_eq_getElem?_getD]
    cases hp : px[Int.toNat (y * W + x0) + j]? with
    | none => exact ⟨by simp, by simp⟩
    | some v => exact h v (List.mem_of_getElem? hp)
  obtain ⟨h1, h2⟩ := hc
  simp only [parts4, List.mem_cons, List.not_mem_nil, or_false] at hj
  unfold pa pr pg pb at hj
  omega
theorem readL_byte {W : Int} {px : List Int} (h : ∀ c ∈ px, InC c) (a b c d : Int) : ∀ x ∈ readL W px a b c d, 0 ≤ x ∧ x ≤ 255 := by
  intro x hx
  obtain ⟨j, _, hj⟩ := List.mem_flatMap.1 hx
  exact rdK_byte h _ _ _ x hj
def insB (W H a b c d : Int) : Bool := !emptyB a b c d && coversB 0 0 W H a b c d
theorem insB_true {W H a b c d : Int} (h : insB W H a b c d = true) : a < c ∧ b < d ∧ 0 ≤ a ∧ 0 ≤ b ∧ c ≤ W ∧ d ≤ H := by
  unfold insB coversB at h
  rw [Bool.and_eq_true, Bool.not_eq_true'] at h
  obtain ⟨h1, h2⟩ := h
  have he := emptyB_false.1 h1
  rw [h1] at h2
  simp only [Bool.false_or, Bool.and_eq_true, decide_eq_true_eq] at h2
  omega
theorem cut_ins {a b c d W H : Int} {R : Rect} (hR : R = cutR a b c d 0 0 W H) (hW : 1 ≤ W) (hH : 1 ≤ H) : (insB W H R.x0 R.y0 R.x1 R.y1 = true ∧ R.x0 < R.x1 ∧ R.y0 < R.y1 ∧ 0 ≤ R.x0 ∧ R.x1 ≤ W ∧ 0 ≤ R.y0 ∧ R.y1 ≤ H) ∨ (insB W H R.x0 R.y0 R.x1 R.y1 = false ∧ R.x0 = 0 ∧ R.y0 = 0 ∧ R.x1 = 0 ∧ R.y1 = 0) := by
  obtain ⟨h1, h2, h3, h4, h5, h6⟩ := cut_in a b c d hW hH
  rw [← hR] at h1 h2 h3 h4 h5 h6
  rcases cutR_cases a b c d 0 0 W H with ⟨e1, e2, e3, e4⟩ | ⟨e1, e2⟩
  · right
    rw [← hR] at e1 e2 e3 e4
    refine ⟨?_, e1, e2, e3, e4⟩
    unfold insB
    rw [show emptyB R.x0 R.y0 R.x1 R.y1 = true from emptyB_true.2 (by omega)]; rfl
  · left
    rw [← hR] at e1 e2
    refine ⟨?_, e1, e2, h1, h3, h4, h6⟩
    unfold insB coversB
    rw [show emptyB R.x0 R.y0 R.x1 R.y1 = false from emptyB_false.2 ⟨e1, e2⟩]
    simp; omega
theorem ins_row {W H a c y : Int} (h0 : 0 ≤ a) (h1 : a < c) (h2 : c ≤ W) (hy : 0 ≤ y) (hy1 : y < H) : insB W H a y c (y + 1) = true := by
  unfold insB coversB
  rw [show emptyB a y c (y + 1) = false from emptyB_false.2 ⟨h1, by omega⟩]
  simp; omega
theorem readL_one (W : Int) (px : List Int) (a y c : Int) : readL W px a y c (y + 1) = rdRow W px y a c := by
  unfold readL rdP
  rw [show Int.toNat (y + 1 - y) = 1 by omega]
  simp
theorem rdP_bound {W H : Int} {px : List Int} {a b c : Int} {k : Nat} (hk : k ≤ 256) (hc : c - a ≤ 256) : (rdP W px a b c k).length ≤ 262144 := by
  rw [rdP_length]
  exact Nat.mul_le_mul hk (show 4 * Int.toNat (c - a) ≤ 1024 by omega)
theorem readL_bound {W : Int} {px : List Int} {a y c : Int} (hc : c - a ≤ 256) : (readL W px a y c (y + 1)).length ≤ 1024 := by
  rw [readL_one, rdRow, rdK_length]; omega
end Go.Proofs.Ytommojgfkkoghaa
