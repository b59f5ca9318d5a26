/- Plain words of paint: parts of colors, colors over colors, rectangles that are moved and scaled, layers. -/
import Derived.Test.YtlfahohbkgdabaaPaIc
set_option linter.unusedVariables false
set_option linter.unusedSimpArgs false
namespace Go.Proofs.Ytlfahohbkgdabaa
open Go Go.RowKit

/-! ### Rectangles that may be, are scaled and moved -/
/-! ### Layers that may be -/
end Go.Proofs.Ytlfahohbkgdabaa

