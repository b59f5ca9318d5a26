/- From a law's arguments to plain words: slices of rectangles. -/
import Derived.Test.YtekgdfaggagfmaaPeRow
import Derived.Test.YtekgdfaggagfmaaPeRr
import Derived.Deep.Slices
set_option linter.unusedVariables false
set_option linter.unusedSimpArgs false
namespace Go.Proofs.Ytekgdfaggagfmaa
open Go Go.ChangeShapes Go.WideShapes Go.ChangeAt Go.RowKit Go.Deep

end Go.Proofs.Ytekgdfaggagfmaa

