/- From a law's arguments to plain words: slices of rectangles. -/
import Derived.Test.YtlfahohbkgdabaaPaRow
import Derived.Test.YtlfahohbkgdabaaPaRr
import Derived.Deep.Slices
set_option linter.unusedVariables false
set_option linter.unusedSimpArgs false
namespace Go.Proofs.Ytlfahohbkgdabaa
open Go Go.ChangeShapes Go.WideShapes Go.ChangeAt Go.RowKit Go.Deep

structure R64 (r : Rect) : Prop where
  x0 : -9223372036854775808 ≤ r.x0 ∧ r.x0 ≤ 9223372036854775807
  y0 : -9223372036854775808 ≤ r.y0 ∧ r.y0 ≤ 9223372036854775807
  x1 : -9223372036854775808 ≤ r.x1 ∧ r.x1 ≤ 9223372036854775807
  y1 : -9223372036854775808 ≤ r.y1 ∧ r.y1 ≤ 9223372036854775807
end Go.Proofs.Ytlfahohbkgdabaa

