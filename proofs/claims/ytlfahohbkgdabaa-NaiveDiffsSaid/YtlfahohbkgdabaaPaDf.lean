/- Where two images are not the same: runs of points, the document's points. -/
import Derived.Test.YtlfahohbkgdabaaPaDz
import Derived.Test.YtlfahohbkgdabaaPaRw
set_option linter.unusedVariables false
set_option linter.unusedSimpArgs false
namespace Go.Proofs.Ytlfahohbkgdabaa
open Go Go.RowKit
def ptL (W : Int) (k : Nat) : List (Int × Int) := (List.range k).map fun i => (((i : Nat) : Int) % W, ((i : Nat) : Int) / W)
theorem ptL_succ (W : Int) (k : Nat) : ptL W (k + 1) = ptL W k ++ [(((k : Nat) : Int) % W, ((k : Nat) : Int) / W)] := by
  unfold ptL; rw [List.range_succ, List.map_append]; rfl
theorem pt_row {W : Int} {Wn k j : Nat} (hW : (Wn : Int) = W) (hj : j < Wn) : (((k * Wn + j : Nat)) : Int) % W = ((j : Nat) : Int) ∧ (((k * Wn + j : Nat)) : Int) / W = ((k : Nat) : Int) := by
  subst hW
  have h0 : (Wn : Int) ≠ 0 := by omega
  have e : (((k * Wn + j : Nat)) : Int) = ((j : Nat) : Int) + ((k : Nat) : Int) * (Wn : Int) := by rw [Int.natCast_add, Int.natCast_mul]; omega
  rw [e]
  exact ⟨by rw [Int.add_mul_emod_self_right]; exact Int.emod_eq_of_lt (by omega) (by omega), by rw [Int.add_mul_ediv_right _ _ h0, Int.ediv_eq_zero_of_lt (by omega) (by omega)]; omega⟩
theorem ptL_step {W : Int} {Wn k j : Nat} (hW : (Wn : Int) = W) (hj : j < Wn) : ptL W (k * Wn + j) ++ [(((j : Nat) : Int), ((k : Nat) : Int))] = ptL W (k * Wn + (j + 1)) := by
  rw [← Nat.add_assoc, ptL_succ, (pt_row hW hj).1, (pt_row hW hj).2]
theorem ptL_row {W : Int} {Wn k : Nat} : ptL W (k * Wn + Wn) = ptL W ((k + 1) * Wn) := by rw [Nat.add_mul, Nat.one_mul]
theorem ptL_mem {W H : Int} {n : Nat} (hW : 1 ≤ W) (hn : (n : Int) = W * H) (x y : Int) : (x, y) ∈ ptL W n ↔ hasB 0 0 W H x y = true := by
  unfold ptL
  rw [List.mem_map]
  constructor
  · rintro ⟨i, hi, e⟩
    obtain ⟨rfl, rfl⟩ := Prod.mk.inj e
    exact in_box hW hn (List.mem_range.1 hi)
  · intro h
    obtain ⟨a0, a1, b0, b1⟩ := hasB_true.1 h
    have h5 : 0 ≤ y * W := Int.mul_nonneg b0 (by omega)
    have h6 : (y + 1) * W ≤ H * W := Int.mul_le_mul_of_nonneg_right (by omega) (by omega)
    have h7 : (y + 1) * W = y * W + W := by rw [Int.add_mul]; omega
    have h8 : H * W = (n : Int) := by rw [hn, Int.mul_comm]
    exact ⟨(y * W + x).toNat, List.mem_range.2 (by omega), (pt_eq (p := (x, y)) (k := (y * W + x).toNat) a0 a1 b0 rfl).symm⟩
def difB (W H : Int) (px px' : List Int) (x y : Int) : Bool := decide (atC W H px x y ≠ atC W H px' x y)
def dfL (W : Int) (px px' : List Int) (i : Nat) : List Rect := (List.range i).flatMap fun k => if px.getD k 0 != px'.getD k 0 then [(⟨((k : Nat) : Int) % W, ((k : Nat) : Int) / W, ((k : Nat) : Int) % W + 1, ((k : Nat) : Int) / W + 1⟩ : Rect)] else []
theorem dfL_yes {W : Int} {px px' : List Int} {i : Nat} (h : px.getD i 0 ≠ px'.getD i 0) : dfL W px px' i ++ [(⟨((i : Nat) : Int) % W, ((i : Nat) : Int) / W, ((i : Nat) : Int) % W + 1, ((i : Nat) : Int) / W + 1⟩ : Rect)] = dfL W px px' (i + 1) := by
  have h' : (px.getD i 0 != px'.getD i 0) = true := bne_iff_ne.2 h
  unfold dfL; rw [List.range_succ, List.flatMap_append, List.flatMap_cons, List.flatMap_nil, h', if_pos rfl, List.append_nil]
theorem dfL_no {W : Int} {px px' : List Int} {i : Nat} (h : px.getD i 0 = px'.getD i 0) : dfL W px px' i = dfL W px px' (i + 1) := by
  have h' : (px.getD i 0 != px'.getD i 0) = false := by rw [h]; exact bne_self_eq_false _
  unfold dfL; rw [List.range_succ, List.flatMap_append, List.flatMap_cons, List.flatMap_nil, h', if_neg (by simp), List.append_nil, List.append_nil]
theorem dfL_plc {W H : Int} {n i : Nat} {px px' : List Int} (hW : 1 ≤ W) (hn : (n : Int) = W * H) (hi : i ≤ n) : dfL W px px' i = plcL W 0 0 1 (difB W H px px') i := by
  induction i with
  | zero => rfl
  | succ i ih =>
    have hB : difB W H px px' (((i : Nat) : Int) % W) (((i : Nat) : Int) / W) = decide (px.getD i 0 ≠ px'.getD i 0) := by
      unfold difB; rw [atC_at px hW hn (by omega), atC_at px' hW hn (by omega)]
    by_cases h : px.getD i 0 = px'.getD i 0
    · rw [← dfL_no h, ih (by omega), plcL_no (by rw [hB]; simpa using h)]
    · rw [← dfL_yes h, ih (by omega), ← plcL_yes (by rw [hB]; simpa using h)]
      simp
theorem dfL_len {W H : Int} {n i : Nat} {px px' : List Int} (hW : 1 ≤ W) (hn : (n : Int) = W * H) (hi : i ≤ n) : (dfL W px px' i).length ≤ i := by
  rw [dfL_plc hW hn hi]; exact plcL_len _ _ _ _ _ _
theorem diff_same {W H : Int} {n : Nat} {px px' : List Int} {os : List Rect} (hW : 1 ≤ W) (hn : (n : Int) = W * H) (ho : SolI (difB W H px px') os (ptL W n)) : canR os = canR (dfL W px px' n) :=
  reg_ext (canR_isReg _) (canR_isReg _) fun x y => by
    rw [ho.has, dfL_plc hW hn (Nat.le_refl _), hasL_plc (by omega) hW hn]
    simp only [Int.sub_zero, Int.ediv_one]
    congr 1
    rw [Bool.eq_iff_iff, decide_eq_true_eq]
    exact ptL_mem hW hn x y
theorem row_atC {W H : Int} {n Wn k j : Nat} {px : List Int} (hW : (Wn : Int) = W) (hok : ImgOk W H n px) (hk : ((k : Nat) : Int) < H) (hj : j < Wn) : (rowL Wn px ((k : Nat) : Int)).getD j 0 = atC W H px ((j : Nat) : Int) ((k : Nat) : Int) := by
  rw [rowL_get hW hok.num hok.w1 hok.len hk hj]
  unfold atC
  rw [if_pos (hasB_true.2 ⟨by omega, by omega, by omega, hk⟩)]
theorem fillP_may {W : Int} {px : List Int} (h : AllMay px) (a b c d : Int) {col : Int} (hc : mayB col = true ∧ InC col) : AllMay (fillP W px a b c d col) := fun x hx => by
  unfold fillP at hx
  obtain ⟨i, hi, rfl⟩ := List.mem_mapIdx.1 hx
  split
  · exact hc
  · exact h _ (List.getElem_mem hi)
theorem dfL_self (W : Int) (px : List Int) (n : Nat) : dfL W px px n = [] := by
  induction n with
  | zero => rfl
  | succ n ih => rw [← dfL_no rfl, ih]
theorem dfL_self_len (W : Int) (px : List Int) (n : Nat) : (canR (dfL W px px n)).length = 0 := by
  rw [dfL_self, show canR [] = [] from by first | rfl | decide +kernel | simp [canR]]; rfl
end Go.Proofs.Ytlfahohbkgdabaa

