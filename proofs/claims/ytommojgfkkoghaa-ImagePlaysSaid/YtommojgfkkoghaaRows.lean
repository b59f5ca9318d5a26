/-
  No cell of these rows narrows 'for every input' (looked for: loops, veiled, ifaces, maps, wideKeys, modest, calm, conditions, laid).
  DERIVED. THE GIVEN ROWS OF THIS SEAT. 9 by the template 'for every input the law returns true; each argument reads behind the call as it read before'; 0 by the template 'total and deterministic' (their statements: YtommojgfkkoghaaTotals.lean).
  GIVEN WITH THE SEED: the statements are not yours to turn. If you find one false, say at which input.
  Laid BY PROGRAM, IN A SANDBOX (cutbox-rows.mjs): the forced cells as the released guide's own fill.sh prints them over the translation 15024fe262150876… (all of the seat's roots in one cut). By AI agents, Wed Nov 11 2026. No macro, syntax, notation, axiom, sorry.
-/
import Derived.Test.YtommojgfkkoghaaChecked
import GoSem.Claim
import GoSem.ClaimJoined
import GoSem.ClaimMapViews
import Derived.JoinedTies
import Derived.KernelRfl
namespace Go.Proofs.Ytommojgfkkoghaa
/- THE CELL 'sum', in the pinned program and in every row, IS THE sha256 OF THE DUMP (.gsa) THAT YtommojgfkkoghaaProg.lean LOADS. Nothing in Lean hashes anything: it is a label: what it is worth is what the hold of that sum in a sandbox is worth. -/
noncomputable def Try.pinned : Pinned := { name := "ytommojgfkkoghaa", sum := "15024fe2621508762931687cda9d5c79809ad696d39f10920a27bb615c0ed179", checked := Try.checked }
namespace Rows
def none {H : Type} : Left H := { results := [], args := [] }

/-- 'rondellaw04.ImageNew': WHATEVER THE INPUT: true; the input reads as it did. -/
def imageNewSpec : ChangeSpec := { name := "imageNew", fn := fun _ => fun
  | [d1, d2] => { results := [.lit (.bool true)], args := [d1, d2] }
  | _ => none }
def imageNewRow : OpenClaim := { program := "ytommojgfkkoghaa", sum := "15024fe2621508762931687cda9d5c79809ad696d39f10920a27bb615c0ed179", func := "rondel/rondellaw04.ImageNew", spec := "imageNew", apart := false }
def ImageNewSaid : Prop := imageNewRow.holds Try.pinned (OpenSpec.ofChange imageNewSpec)

/-- ITS FALSE NEIGHBOUR: 'it returns false'. Refute it at one input. -/
def imageNewWrong : ChangeSpec := { name := "imageNew", fn := fun _ => fun
  | [d1, d2] => { results := [.lit (.bool false)], args := [d1, d2] }
  | _ => none }
def ImageNewWrongFalsely : Prop := imageNewRow.holds Try.pinned (OpenSpec.ofChange imageNewWrong)

/-- 'rondellaw04.ImageParts': WHATEVER THE INPUT: true; the input reads as it did. -/
def imagePartsSpec : ChangeSpec := { name := "imageParts", fn := fun _ => fun
  | [d1, d2, d3, d4] => { results := [.lit (.bool true)], args := [d1, d2, d3, d4] }
  | _ => none }
def imagePartsRow : OpenClaim := { program := "ytommojgfkkoghaa", sum := "15024fe2621508762931687cda9d5c79809ad696d39f10920a27bb615c0ed179", func := "rondel/rondellaw04.ImageParts", spec := "imageParts", apart := false }
def ImagePartsSaid : Prop := imagePartsRow.holds Try.pinned (OpenSpec.ofChange imagePartsSpec)

/-- ITS FALSE NEIGHBOUR: 'it returns false'. Refute it at one input. -/
def imagePartsWrong : ChangeSpec := { name := "imageParts", fn := fun _ => fun
  | [d1, d2, d3, d4] => { results := [.lit (.bool false)], args := [d1, d2, d3, d4] }
  | _ => none }
def ImagePartsWrongFalsely : Prop := imagePartsRow.holds Try.pinned (OpenSpec.ofChange imagePartsWrong)

/-- 'rondellaw04.ImageRows': WHATEVER THE INPUT: true; the input reads as it did. -/
def imageRowsSpec : ChangeSpec := { name := "imageRows", fn := fun _ => fun
  | [d1, d2, d3] => { results := [.lit (.bool true)], args := [d1, d2, d3] }
  | _ => none }
def imageRowsRow : OpenClaim := { program := "ytommojgfkkoghaa", sum := "15024fe2621508762931687cda9d5c79809ad696d39f10920a27bb615c0ed179", func := "rondel/rondellaw04.ImageRows", spec := "imageRows", unfollowed := true, recurses := true, apart := false }
def ImageRowsSaid : Prop := imageRowsRow.holds Try.pinned (OpenSpec.ofChange imageRowsSpec)

/-- ITS FALSE NEIGHBOUR: 'it returns false'. Refute it at one input. -/
def imageRowsWrong : ChangeSpec := { name := "imageRows", fn := fun _ => fun
  | [d1, d2, d3] => { results := [.lit (.bool false)], args := [d1, d2, d3] }
  | _ => none }
def ImageRowsWrongFalsely : Prop := imageRowsRow.holds Try.pinned (OpenSpec.ofChange imageRowsWrong)

/-- 'rondellaw04.ImageCopies': WHATEVER THE INPUT: true; the input reads as it did. -/
def imageCopiesSpec : ChangeSpec := { name := "imageCopies", fn := fun _ => fun
  | [d1, d2, d3, d4, d5, d6, d7, d8] => { results := [.lit (.bool true)], args := [d1, d2, d3, d4, d5, d6, d7, d8] }
  | _ => none }
def imageCopiesRow : OpenClaim := { program := "ytommojgfkkoghaa", sum := "15024fe2621508762931687cda9d5c79809ad696d39f10920a27bb615c0ed179", func := "rondel/rondellaw04.ImageCopies", spec := "imageCopies", unfollowed := true, recurses := true, apart := false }
def ImageCopiesSaid : Prop := imageCopiesRow.holds Try.pinned (OpenSpec.ofChange imageCopiesSpec)

/-- ITS FALSE NEIGHBOUR: 'it returns false'. Refute it at one input. -/
def imageCopiesWrong : ChangeSpec := { name := "imageCopies", fn := fun _ => fun
  | [d1, d2, d3, d4, d5, d6, d7, d8] => { results := [.lit (.bool false)], args := [d1, d2, d3, d4, d5, d6, d7, d8] }
  | _ => none }
def ImageCopiesWrongFalsely : Prop := imageCopiesRow.holds Try.pinned (OpenSpec.ofChange imageCopiesWrong)

/-- 'rondellaw04.ImageFills': WHATEVER THE INPUT: true; the input reads as it did. -/
def imageFillsSpec : ChangeSpec := { name := "imageFills", fn := fun _ => fun
  | [d1, d2, d3] => { results := [.lit (.bool true)], args := [d1, d2, d3] }
  | _ => none }
def imageFillsRow : OpenClaim := { program := "ytommojgfkkoghaa", sum := "15024fe2621508762931687cda9d5c79809ad696d39f10920a27bb615c0ed179", func := "rondel/rondellaw04.ImageFills", spec := "imageFills", unfollowed := true, recurses := true, apart := false }
def ImageFillsSaid : Prop := imageFillsRow.holds Try.pinned (OpenSpec.ofChange imageFillsSpec)

/-- ITS FALSE NEIGHBOUR: 'it returns false'. Refute it at one input. -/
def imageFillsWrong : ChangeSpec := { name := "imageFills", fn := fun _ => fun
  | [d1, d2, d3] => { results := [.lit (.bool false)], args := [d1, d2, d3] }
  | _ => none }
def ImageFillsWrongFalsely : Prop := imageFillsRow.holds Try.pinned (OpenSpec.ofChange imageFillsWrong)

/-- 'rondellaw04.ImageClones': WHATEVER THE INPUT: true; the input reads as it did. -/
def imageClonesSpec : ChangeSpec := { name := "imageClones", fn := fun _ => fun
  | [d1, d2, d3, d4, d5] => { results := [.lit (.bool true)], args := [d1, d2, d3, d4, d5] }
  | _ => none }
def imageClonesRow : OpenClaim := { program := "ytommojgfkkoghaa", sum := "15024fe2621508762931687cda9d5c79809ad696d39f10920a27bb615c0ed179", func := "rondel/rondellaw04.ImageClones", spec := "imageClones", apart := false }
def ImageClonesSaid : Prop := imageClonesRow.holds Try.pinned (OpenSpec.ofChange imageClonesSpec)

/-- ITS FALSE NEIGHBOUR: 'it returns false'. Refute it at one input. -/
def imageClonesWrong : ChangeSpec := { name := "imageClones", fn := fun _ => fun
  | [d1, d2, d3, d4, d5] => { results := [.lit (.bool false)], args := [d1, d2, d3, d4, d5] }
  | _ => none }
def ImageClonesWrongFalsely : Prop := imageClonesRow.holds Try.pinned (OpenSpec.ofChange imageClonesWrong)

/-- 'rondellaw04.ImageRefuses': WHATEVER THE INPUT: true; the input reads as it did. -/
def imageRefusesSpec : ChangeSpec := { name := "imageRefuses", fn := fun _ => fun
  | [d1, d2, d3, d4, d5, d6] => { results := [.lit (.bool true)], args := [d1, d2, d3, d4, d5, d6] }
  | _ => none }
def imageRefusesRow : OpenClaim := { program := "ytommojgfkkoghaa", sum := "15024fe2621508762931687cda9d5c79809ad696d39f10920a27bb615c0ed179", func := "rondel/rondellaw04.ImageRefuses", spec := "imageRefuses", unfollowed := true, recurses := true, apart := false }
def ImageRefusesSaid : Prop := imageRefusesRow.holds Try.pinned (OpenSpec.ofChange imageRefusesSpec)

/-- ITS FALSE NEIGHBOUR: 'it returns false'. Refute it at one input. -/
def imageRefusesWrong : ChangeSpec := { name := "imageRefuses", fn := fun _ => fun
  | [d1, d2, d3, d4, d5, d6] => { results := [.lit (.bool false)], args := [d1, d2, d3, d4, d5, d6] }
  | _ => none }
def ImageRefusesWrongFalsely : Prop := imageRefusesRow.holds Try.pinned (OpenSpec.ofChange imageRefusesWrong)

/-- 'rondellaw04.ImagePlays': WHATEVER THE INPUT: true; the input reads as it did. -/
def imagePlaysSpec : ChangeSpec := { name := "imagePlays", fn := fun _ => fun
  | [d1, d2, d3, d4, d5] => { results := [.lit (.bool true)], args := [d1, d2, d3, d4, d5] }
  | _ => none }
def imagePlaysRow : OpenClaim := { program := "ytommojgfkkoghaa", sum := "15024fe2621508762931687cda9d5c79809ad696d39f10920a27bb615c0ed179", func := "rondel/rondellaw04.ImagePlays", spec := "imagePlays", unfollowed := true, recurses := true, apart := false }
def ImagePlaysSaid : Prop := imagePlaysRow.holds Try.pinned (OpenSpec.ofChange imagePlaysSpec)

/-- ITS FALSE NEIGHBOUR: 'it returns false'. Refute it at one input. -/
def imagePlaysWrong : ChangeSpec := { name := "imagePlays", fn := fun _ => fun
  | [d1, d2, d3, d4, d5] => { results := [.lit (.bool false)], args := [d1, d2, d3, d4, d5] }
  | _ => none }
def ImagePlaysWrongFalsely : Prop := imagePlaysRow.holds Try.pinned (OpenSpec.ofChange imagePlaysWrong)

/-- 'rondellaw04.ImageBytes': WHATEVER THE INPUT: true; the input reads as it did. -/
def imageBytesSpec : ChangeSpec := { name := "imageBytes", fn := fun _ => fun
  | [d1, d2, d3, d4] => { results := [.lit (.bool true)], args := [d1, d2, d3, d4] }
  | _ => none }
def imageBytesRow : OpenClaim := { program := "ytommojgfkkoghaa", sum := "15024fe2621508762931687cda9d5c79809ad696d39f10920a27bb615c0ed179", func := "rondel/rondellaw04.ImageBytes", spec := "imageBytes", unfollowed := true, recurses := true, apart := false }
def ImageBytesSaid : Prop := imageBytesRow.holds Try.pinned (OpenSpec.ofChange imageBytesSpec)

/-- ITS FALSE NEIGHBOUR: 'it returns false'. Refute it at one input. -/
def imageBytesWrong : ChangeSpec := { name := "imageBytes", fn := fun _ => fun
  | [d1, d2, d3, d4] => { results := [.lit (.bool false)], args := [d1, d2, d3, d4] }
  | _ => none }
def ImageBytesWrongFalsely : Prop := imageBytesRow.holds Try.pinned (OpenSpec.ofChange imageBytesWrong)

/- THE SECOND FORM. 'bulk': how many values and letters a reading holds, each counted each time it is reached (what is shared counts as often as it is met; a slice's spare places count too). A statement '..UptoSaid' is the law's where the arguments, and the package variables that the reading takes, are together of bulk at most 1048576: NARROWER than '..Said'. Prove '..Said' where nothing that the law and all that it calls make is longer than what came in: it says more and counts as full. Else prove '..UptoSaid'. A law counts once. -/
mutual
def uptoBulk {H : Type} : DataW H → Nat
  | .lit (.string bytes) => bytes.length + 1
  | .lit _ => 1
  | .nil => 1
  | .ptr d => uptoBulk d + 1
  | .slice elems spare => uptoBulkAll elems + uptoBulkAll spare + 1
  | .agg parts => uptoBulkAll parts + 1
  | .iface _ d => uptoBulk d + 1
  | .map entries => uptoBulkEntries entries + 1
  | .held _ => 1
def uptoBulkAll {H : Type} : List (DataW H) → Nat
  | [] => 0
  | d :: r => uptoBulk d + uptoBulkAll r
def uptoBulkEntries {H : Type} : List (Lit × DataW H) → Nat
  | [] => 0
  | x :: r => uptoBulkEntry x + uptoBulkEntries r
def uptoBulkEntry {H : Type} : Lit × DataW H → Nat
  | (.string bytes, d) => bytes.length + uptoBulk d + 1
  | (_, d) => uptoBulk d + 1
 end
def uptoSmall : (H : Type) → List (DataW H) → Bool := fun _ ds => decide (uptoBulkAll ds ≤ 1048576)
def OpenSpec.upto (s : _root_.Go.ChangeSpec) : _root_.Go.OpenSpec := { _root_.Go.OpenSpec.ofChange s with cond := some uptoSmall }

/-- 'rondellaw04.ImageNew', WHERE WHAT IT READS IS OF BULK AT MOST 1048576: true; the input reads as it did. -/
def imageNewUptoRow : OpenClaim := { program := "ytommojgfkkoghaa", sum := "15024fe2621508762931687cda9d5c79809ad696d39f10920a27bb615c0ed179", func := "rondel/rondellaw04.ImageNew", spec := "imageNew", apart := false, narrowed := true }
def ImageNewUptoSaid : Prop := imageNewUptoRow.holds Try.pinned (OpenSpec.upto imageNewSpec)

/-- 'rondellaw04.ImageParts', WHERE WHAT IT READS IS OF BULK AT MOST 1048576: true; the input reads as it did. -/
def imagePartsUptoRow : OpenClaim := { program := "ytommojgfkkoghaa", sum := "15024fe2621508762931687cda9d5c79809ad696d39f10920a27bb615c0ed179", func := "rondel/rondellaw04.ImageParts", spec := "imageParts", apart := false, narrowed := true }
def ImagePartsUptoSaid : Prop := imagePartsUptoRow.holds Try.pinned (OpenSpec.upto imagePartsSpec)

/-- 'rondellaw04.ImageRows', WHERE WHAT IT READS IS OF BULK AT MOST 1048576: true; the input reads as it did. -/
def imageRowsUptoRow : OpenClaim := { program := "ytommojgfkkoghaa", sum := "15024fe2621508762931687cda9d5c79809ad696d39f10920a27bb615c0ed179", func := "rondel/rondellaw04.ImageRows", spec := "imageRows", unfollowed := true, recurses := true, apart := false, narrowed := true }
def ImageRowsUptoSaid : Prop := imageRowsUptoRow.holds Try.pinned (OpenSpec.upto imageRowsSpec)

/-- 'rondellaw04.ImageCopies', WHERE WHAT IT READS IS OF BULK AT MOST 1048576: true; the input reads as it did. -/
def imageCopiesUptoRow : OpenClaim := { program := "ytommojgfkkoghaa", sum := "15024fe2621508762931687cda9d5c79809ad696d39f10920a27bb615c0ed179", func := "rondel/rondellaw04.ImageCopies", spec := "imageCopies", unfollowed := true, recurses := true, apart := false, narrowed := true }
def ImageCopiesUptoSaid : Prop := imageCopiesUptoRow.holds Try.pinned (OpenSpec.upto imageCopiesSpec)

/-- 'rondellaw04.ImageFills', WHERE WHAT IT READS IS OF BULK AT MOST 1048576: true; the input reads as it did. -/
def imageFillsUptoRow : OpenClaim := { program := "ytommojgfkkoghaa", sum := "15024fe2621508762931687cda9d5c79809ad696d39f10920a27bb615c0ed179", func := "rondel/rondellaw04.ImageFills", spec := "imageFills", unfollowed := true, recurses := true, apart := false, narrowed := true }
def ImageFillsUptoSaid : Prop := imageFillsUptoRow.holds Try.pinned (OpenSpec.upto imageFillsSpec)

/-- 'rondellaw04.ImageClones', WHERE WHAT IT READS IS OF BULK AT MOST 1048576: true; the input reads as it did. -/
def imageClonesUptoRow : OpenClaim := { program := "ytommojgfkkoghaa", sum := "15024fe2621508762931687cda9d5c79809ad696d39f10920a27bb615c0ed179", func := "rondel/rondellaw04.ImageClones", spec := "imageClones", apart := false, narrowed := true }
def ImageClonesUptoSaid : Prop := imageClonesUptoRow.holds Try.pinned (OpenSpec.upto imageClonesSpec)

/-- 'rondellaw04.ImageRefuses', WHERE WHAT IT READS IS OF BULK AT MOST 1048576: true; the input reads as it did. -/
def imageRefusesUptoRow : OpenClaim := { program := "ytommojgfkkoghaa", sum := "15024fe2621508762931687cda9d5c79809ad696d39f10920a27bb615c0ed179", func := "rondel/rondellaw04.ImageRefuses", spec := "imageRefuses", unfollowed := true, recurses := true, apart := false, narrowed := true }
def ImageRefusesUptoSaid : Prop := imageRefusesUptoRow.holds Try.pinned (OpenSpec.upto imageRefusesSpec)

/-- 'rondellaw04.ImagePlays', WHERE WHAT IT READS IS OF BULK AT MOST 1048576: true; the input reads as it did. -/
def imagePlaysUptoRow : OpenClaim := { program := "ytommojgfkkoghaa", sum := "15024fe2621508762931687cda9d5c79809ad696d39f10920a27bb615c0ed179", func := "rondel/rondellaw04.ImagePlays", spec := "imagePlays", unfollowed := true, recurses := true, apart := false, narrowed := true }
def ImagePlaysUptoSaid : Prop := imagePlaysUptoRow.holds Try.pinned (OpenSpec.upto imagePlaysSpec)

/-- 'rondellaw04.ImageBytes', WHERE WHAT IT READS IS OF BULK AT MOST 1048576: true; the input reads as it did. -/
def imageBytesUptoRow : OpenClaim := { program := "ytommojgfkkoghaa", sum := "15024fe2621508762931687cda9d5c79809ad696d39f10920a27bb615c0ed179", func := "rondel/rondellaw04.ImageBytes", spec := "imageBytes", unfollowed := true, recurses := true, apart := false, narrowed := true }
def ImageBytesUptoSaid : Prop := imageBytesUptoRow.holds Try.pinned (OpenSpec.upto imageBytesSpec)

end Rows
end Go.Proofs.Ytommojgfkkoghaa
