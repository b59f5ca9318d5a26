/- What is drawn on an image, point by point. -/
import Derived.Test.YtlfahohbkgdabaaPaPs
import Derived.Test.YtlfahohbkgdabaaPaRf
import Derived.LaidEqlPtr
set_option linter.unusedVariables false
set_option linter.unusedSimpArgs false
namespace Go.Proofs.Ytlfahohbkgdabaa
open Go Go.RowKit

/-! ### Colors that may be -/
/-! ### Points drawn one by one -/
theorem pt_eq {W : Int} {p : Int × Int} {k : Nat} (h1 : 0 ≤ p.1) (h2 : p.1 < W) (h3 : 0 ≤ p.2) (e : (p.2 * W + p.1).toNat = k) : p = (((k : Nat) : Int) % W, ((k : Nat) : Int) / W) := by
  have h4 : 0 ≤ p.2 * W := Int.mul_nonneg h3 (by omega)
  have h5 : ((k : Nat) : Int) = p.1 + p.2 * W := by omega
  refine Prod.ext ?_ ?_
  · simp only; rw [h5, Int.add_mul_emod_self_right, Int.emod_eq_of_lt h1 h2]
  · simp only; rw [h5, Int.add_mul_ediv_right _ _ (by omega), Int.ediv_eq_zero_of_lt h1 h2]; omega
/-! ### A region drawn -/
/-! ### Two pointers -/
end Go.Proofs.Ytlfahohbkgdabaa

