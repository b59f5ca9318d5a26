/- Laws of what is drawn: nothing, all, by parts. -/
import Derived.Test.YtlfahohbkgdabaaPaDw
import Derived.Test.YtlfahohbkgdabaaPaOu
set_option linter.unusedVariables false
set_option linter.unusedSimpArgs false
namespace Go.Proofs.Ytlfahohbkgdabaa
open Go Go.RowKit

theorem ImgOk.get {W H : Int} {n : Nat} {px : List Int} (hok : ImgOk W H n px) {k : Nat} (hk : k < n) : InC (px.getD k 0) := by
  rw [List.getD_eq_getElem?_getD, List.getElem?_eq_getElem (by rw [hok.len]; exact hk)]
  exact hok.rng _ (List.getElem_mem _)
/-! ### Where a drawn layer's points lie -/
/-! ### A solid cover -/
/-! ### By parts -/
end Go.Proofs.Ytlfahohbkgdabaa

