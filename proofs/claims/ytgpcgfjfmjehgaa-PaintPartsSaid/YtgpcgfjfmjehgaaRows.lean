/-
  No cell of these rows narrows 'for every input' (looked for: loops, veiled, ifaces, maps, wideKeys, modest, calm, conditions, laid).
  DERIVED. THE GIVEN ROWS OF THIS SEAT. 7 by the template 'for every input the law returns true; each argument reads behind the call as it read before'; 0 by the template 'total and deterministic' (their statements: YtgpcgfjfmjehgaaTotals.lean).
  GIVEN WITH THE SEED: the statements are not yours to turn. If you find one false, say at which input.
  Laid BY PROGRAM, IN A SANDBOX (cutbox-rows.mjs): the forced cells as the released guide's own fill.sh prints them over the translation c0ec0fb3a81ad714… (all of the seat's roots in one cut). By AI agents, Wed Nov 11 2026. No macro, syntax, notation, axiom, sorry.
-/
import Derived.Test.YtgpcgfjfmjehgaaChecked
import GoSem.Claim
import GoSem.ClaimJoined
import GoSem.ClaimMapViews
import Derived.JoinedTies
import Derived.KernelRfl
namespace Go.Proofs.Ytgpcgfjfmjehgaa
/- THE CELL 'sum', in the pinned program and in every row, IS THE sha256 OF THE DUMP (.gsa) THAT YtgpcgfjfmjehgaaProg.lean LOADS. Nothing in Lean hashes anything: it is a label: what it is worth is what the hold of that sum in a sandbox is worth. -/
noncomputable def Try.pinned : Pinned := { name := "ytgpcgfjfmjehgaa", sum := "c0ec0fb3a81ad7146aab661a12c932f2d773eee8c1e937081e730d54c31a8e40", checked := Try.checked }
namespace Rows
def none {H : Type} : Left H := { results := [], args := [] }

/-- 'rondellaw05.PaintMay': WHATEVER THE INPUT: true; the input reads as it did. -/
def paintMaySpec : ChangeSpec := { name := "paintMay", fn := fun _ => fun
  | [d] => { results := [.lit (.bool true)], args := [d] }
  | _ => none }
def paintMayRow : OpenClaim := { program := "ytgpcgfjfmjehgaa", sum := "c0ec0fb3a81ad7146aab661a12c932f2d773eee8c1e937081e730d54c31a8e40", func := "rondel/rondellaw05.PaintMay", spec := "paintMay", unfollowed := true, recurses := true, apart := false }
def PaintMaySaid : Prop := paintMayRow.holds Try.pinned (OpenSpec.ofChange paintMaySpec)

/-- ITS FALSE NEIGHBOUR: 'it returns false'. Refute it at one input. -/
def paintMayWrong : ChangeSpec := { name := "paintMay", fn := fun _ => fun
  | [d] => { results := [.lit (.bool false)], args := [d] }
  | _ => none }
def PaintMayWrongFalsely : Prop := paintMayRow.holds Try.pinned (OpenSpec.ofChange paintMayWrong)

/-- 'rondellaw05.PaintPixels': WHATEVER THE INPUT: true; the input reads as it did. -/
def paintPixelsSpec : ChangeSpec := { name := "paintPixels", fn := fun _ => fun
  | [d1, d2] => { results := [.lit (.bool true)], args := [d1, d2] }
  | _ => none }
def paintPixelsRow : OpenClaim := { program := "ytgpcgfjfmjehgaa", sum := "c0ec0fb3a81ad7146aab661a12c932f2d773eee8c1e937081e730d54c31a8e40", func := "rondel/rondellaw05.PaintPixels", spec := "paintPixels", unfollowed := true, recurses := true, apart := false }
def PaintPixelsSaid : Prop := paintPixelsRow.holds Try.pinned (OpenSpec.ofChange paintPixelsSpec)

/-- ITS FALSE NEIGHBOUR: 'it returns false'. Refute it at one input. -/
def paintPixelsWrong : ChangeSpec := { name := "paintPixels", fn := fun _ => fun
  | [d1, d2] => { results := [.lit (.bool false)], args := [d1, d2] }
  | _ => none }
def PaintPixelsWrongFalsely : Prop := paintPixelsRow.holds Try.pinned (OpenSpec.ofChange paintPixelsWrong)

/-- 'rondellaw05.PaintColors': WHATEVER THE INPUT: true; the input reads as it did. -/
def paintColorsSpec : ChangeSpec := { name := "paintColors", fn := fun _ => fun
  | [d1, d2, d3] => { results := [.lit (.bool true)], args := [d1, d2, d3] }
  | _ => none }
def paintColorsRow : OpenClaim := { program := "ytgpcgfjfmjehgaa", sum := "c0ec0fb3a81ad7146aab661a12c932f2d773eee8c1e937081e730d54c31a8e40", func := "rondel/rondellaw05.PaintColors", spec := "paintColors", unfollowed := true, recurses := true, apart := false }
def PaintColorsSaid : Prop := paintColorsRow.holds Try.pinned (OpenSpec.ofChange paintColorsSpec)

/-- ITS FALSE NEIGHBOUR: 'it returns false'. Refute it at one input. -/
def paintColorsWrong : ChangeSpec := { name := "paintColors", fn := fun _ => fun
  | [d1, d2, d3] => { results := [.lit (.bool false)], args := [d1, d2, d3] }
  | _ => none }
def PaintColorsWrongFalsely : Prop := paintColorsRow.holds Try.pinned (OpenSpec.ofChange paintColorsWrong)

/-- 'rondellaw05.PaintScales': WHATEVER THE INPUT: true; the input reads as it did. -/
def paintScalesSpec : ChangeSpec := { name := "paintScales", fn := fun _ => fun
  | [d1, d2] => { results := [.lit (.bool true)], args := [d1, d2] }
  | _ => none }
def paintScalesRow : OpenClaim := { program := "ytgpcgfjfmjehgaa", sum := "c0ec0fb3a81ad7146aab661a12c932f2d773eee8c1e937081e730d54c31a8e40", func := "rondel/rondellaw05.PaintScales", spec := "paintScales", unfollowed := true, recurses := true, apart := false }
def PaintScalesSaid : Prop := paintScalesRow.holds Try.pinned (OpenSpec.ofChange paintScalesSpec)

/-- ITS FALSE NEIGHBOUR: 'it returns false'. Refute it at one input. -/
def paintScalesWrong : ChangeSpec := { name := "paintScales", fn := fun _ => fun
  | [d1, d2] => { results := [.lit (.bool false)], args := [d1, d2] }
  | _ => none }
def PaintScalesWrongFalsely : Prop := paintScalesRow.holds Try.pinned (OpenSpec.ofChange paintScalesWrong)

/-- 'rondellaw05.PaintNone': WHATEVER THE INPUT: true; the input reads as it did. -/
def paintNoneSpec : ChangeSpec := { name := "paintNone", fn := fun _ => fun
  | [d1, d2, d3, d4] => { results := [.lit (.bool true)], args := [d1, d2, d3, d4] }
  | _ => none }
def paintNoneRow : OpenClaim := { program := "ytgpcgfjfmjehgaa", sum := "c0ec0fb3a81ad7146aab661a12c932f2d773eee8c1e937081e730d54c31a8e40", func := "rondel/rondellaw05.PaintNone", spec := "paintNone", unfollowed := true, recurses := true, apart := false }
def PaintNoneSaid : Prop := paintNoneRow.holds Try.pinned (OpenSpec.ofChange paintNoneSpec)

/-- ITS FALSE NEIGHBOUR: 'it returns false'. Refute it at one input. -/
def paintNoneWrong : ChangeSpec := { name := "paintNone", fn := fun _ => fun
  | [d1, d2, d3, d4] => { results := [.lit (.bool false)], args := [d1, d2, d3, d4] }
  | _ => none }
def PaintNoneWrongFalsely : Prop := paintNoneRow.holds Try.pinned (OpenSpec.ofChange paintNoneWrong)

/-- 'rondellaw05.PaintParts': WHATEVER THE INPUT: true; the input reads as it did. -/
def paintPartsSpec : ChangeSpec := { name := "paintParts", fn := fun _ => fun
  | [d1, d2, d3, d4, d5, d6] => { results := [.lit (.bool true)], args := [d1, d2, d3, d4, d5, d6] }
  | _ => none }
def paintPartsRow : OpenClaim := { program := "ytgpcgfjfmjehgaa", sum := "c0ec0fb3a81ad7146aab661a12c932f2d773eee8c1e937081e730d54c31a8e40", func := "rondel/rondellaw05.PaintParts", spec := "paintParts", unfollowed := true, recurses := true, apart := false }
def PaintPartsSaid : Prop := paintPartsRow.holds Try.pinned (OpenSpec.ofChange paintPartsSpec)

/-- ITS FALSE NEIGHBOUR: 'it returns false'. Refute it at one input. -/
def paintPartsWrong : ChangeSpec := { name := "paintParts", fn := fun _ => fun
  | [d1, d2, d3, d4, d5, d6] => { results := [.lit (.bool false)], args := [d1, d2, d3, d4, d5, d6] }
  | _ => none }
def PaintPartsWrongFalsely : Prop := paintPartsRow.holds Try.pinned (OpenSpec.ofChange paintPartsWrong)

/-- 'rondellaw05.PaintHidden': WHATEVER THE INPUT: true; the input reads as it did. -/
def paintHiddenSpec : ChangeSpec := { name := "paintHidden", fn := fun _ => fun
  | [d1, d2, d3, d4, d5] => { results := [.lit (.bool true)], args := [d1, d2, d3, d4, d5] }
  | _ => none }
def paintHiddenRow : OpenClaim := { program := "ytgpcgfjfmjehgaa", sum := "c0ec0fb3a81ad7146aab661a12c932f2d773eee8c1e937081e730d54c31a8e40", func := "rondel/rondellaw05.PaintHidden", spec := "paintHidden", unfollowed := true, recurses := true, apart := false }
def PaintHiddenSaid : Prop := paintHiddenRow.holds Try.pinned (OpenSpec.ofChange paintHiddenSpec)

/-- ITS FALSE NEIGHBOUR: 'it returns false'. Refute it at one input. -/
def paintHiddenWrong : ChangeSpec := { name := "paintHidden", fn := fun _ => fun
  | [d1, d2, d3, d4, d5] => { results := [.lit (.bool false)], args := [d1, d2, d3, d4, d5] }
  | _ => none }
def PaintHiddenWrongFalsely : Prop := paintHiddenRow.holds Try.pinned (OpenSpec.ofChange paintHiddenWrong)

/- THE SECOND FORM. 'bulk': how many values and letters a reading holds, each counted each time it is reached (what is shared counts as often as it is met; a slice's spare places count too). A statement '..UptoSaid' is the law's where the arguments, and the package variables that the reading takes, are together of bulk at most 1048576: NARROWER than '..Said'. Prove '..Said' where nothing that the law and all that it calls make is longer than what came in: it says more and counts as full. Else prove '..UptoSaid'. A law counts once. -/
mutual
def uptoBulk {H : Type} : DataW H → Nat
  | .lit (.string bytes) => bytes.length + 1
  | .lit _ => 1
  | .nil => 1
  | .ptr d => uptoBulk d + 1
  | .slice elems spare => uptoBulkAll elems + uptoBulkAll spare + 1
  | .agg parts => uptoBulkAll parts + 1
  | .iface _ d => uptoBulk d + 1
  | .map entries => uptoBulkEntries entries + 1
  | .held _ => 1
def uptoBulkAll {H : Type} : List (DataW H) → Nat
  | [] => 0
  | d :: r => uptoBulk d + uptoBulkAll r
def uptoBulkEntries {H : Type} : List (Lit × DataW H) → Nat
  | [] => 0
  | x :: r => uptoBulkEntry x + uptoBulkEntries r
def uptoBulkEntry {H : Type} : Lit × DataW H → Nat
  | (.string bytes, d) => bytes.length + uptoBulk d + 1
  | (_, d) => uptoBulk d + 1
 end
def uptoSmall : (H : Type) → List (DataW H) → Bool := fun _ ds => decide (uptoBulkAll ds ≤ 1048576)
def OpenSpec.upto (s : _root_.Go.ChangeSpec) : _root_.Go.OpenSpec := { _root_.Go.OpenSpec.ofChange s with cond := some uptoSmall }

/-- 'rondellaw05.PaintMay', WHERE WHAT IT READS IS OF BULK AT MOST 1048576: true; the input reads as it did. -/
def paintMayUptoRow : OpenClaim := { program := "ytgpcgfjfmjehgaa", sum := "c0ec0fb3a81ad7146aab661a12c932f2d773eee8c1e937081e730d54c31a8e40", func := "rondel/rondellaw05.PaintMay", spec := "paintMay", unfollowed := true, recurses := true, apart := false, narrowed := true }
def PaintMayUptoSaid : Prop := paintMayUptoRow.holds Try.pinned (OpenSpec.upto paintMaySpec)

/-- 'rondellaw05.PaintPixels', WHERE WHAT IT READS IS OF BULK AT MOST 1048576: true; the input reads as it did. -/
def paintPixelsUptoRow : OpenClaim := { program := "ytgpcgfjfmjehgaa", sum := "c0ec0fb3a81ad7146aab661a12c932f2d773eee8c1e937081e730d54c31a8e40", func := "rondel/rondellaw05.PaintPixels", spec := "paintPixels", unfollowed := true, recurses := true, apart := false, narrowed := true }
def PaintPixelsUptoSaid : Prop := paintPixelsUptoRow.holds Try.pinned (OpenSpec.upto paintPixelsSpec)

/-- 'rondellaw05.PaintColors', WHERE WHAT IT READS IS OF BULK AT MOST 1048576: true; the input reads as it did. -/
def paintColorsUptoRow : OpenClaim := { program := "ytgpcgfjfmjehgaa", sum := "c0ec0fb3a81ad7146aab661a12c932f2d773eee8c1e937081e730d54c31a8e40", func := "rondel/rondellaw05.PaintColors", spec := "paintColors", unfollowed := true, recurses := true, apart := false, narrowed := true }
def PaintColorsUptoSaid : Prop := paintColorsUptoRow.holds Try.pinned (OpenSpec.upto paintColorsSpec)

/-- 'rondellaw05.PaintScales', WHERE WHAT IT READS IS OF BULK AT MOST 1048576: true; the input reads as it did. -/
def paintScalesUptoRow : OpenClaim := { program := "ytgpcgfjfmjehgaa", sum := "c0ec0fb3a81ad7146aab661a12c932f2d773eee8c1e937081e730d54c31a8e40", func := "rondel/rondellaw05.PaintScales", spec := "paintScales", unfollowed := true, recurses := true, apart := false, narrowed := true }
def PaintScalesUptoSaid : Prop := paintScalesUptoRow.holds Try.pinned (OpenSpec.upto paintScalesSpec)

/-- 'rondellaw05.PaintNone', WHERE WHAT IT READS IS OF BULK AT MOST 1048576: true; the input reads as it did. -/
def paintNoneUptoRow : OpenClaim := { program := "ytgpcgfjfmjehgaa", sum := "c0ec0fb3a81ad7146aab661a12c932f2d773eee8c1e937081e730d54c31a8e40", func := "rondel/rondellaw05.PaintNone", spec := "paintNone", unfollowed := true, recurses := true, apart := false, narrowed := true }
def PaintNoneUptoSaid : Prop := paintNoneUptoRow.holds Try.pinned (OpenSpec.upto paintNoneSpec)

/-- 'rondellaw05.PaintParts', WHERE WHAT IT READS IS OF BULK AT MOST 1048576: true; the input reads as it did. -/
def paintPartsUptoRow : OpenClaim := { program := "ytgpcgfjfmjehgaa", sum := "c0ec0fb3a81ad7146aab661a12c932f2d773eee8c1e937081e730d54c31a8e40", func := "rondel/rondellaw05.PaintParts", spec := "paintParts", unfollowed := true, recurses := true, apart := false, narrowed := true }
def PaintPartsUptoSaid : Prop := paintPartsUptoRow.holds Try.pinned (OpenSpec.upto paintPartsSpec)

/-- 'rondellaw05.PaintHidden', WHERE WHAT IT READS IS OF BULK AT MOST 1048576: true; the input reads as it did. -/
def paintHiddenUptoRow : OpenClaim := { program := "ytgpcgfjfmjehgaa", sum := "c0ec0fb3a81ad7146aab661a12c932f2d773eee8c1e937081e730d54c31a8e40", func := "rondel/rondellaw05.PaintHidden", spec := "paintHidden", unfollowed := true, recurses := true, apart := false, narrowed := true }
def PaintHiddenUptoSaid : Prop := paintHiddenUptoRow.holds Try.pinned (OpenSpec.upto paintHiddenSpec)

end Rows
end Go.Proofs.Ytgpcgfjfmjehgaa
