/-
  No cell of these rows narrows 'for every input' (looked for: loops, veiled, ifaces, maps, wideKeys, modest, calm, conditions, laid).
  DERIVED. THE GIVEN ROWS OF THIS SEAT. 9 by the template 'for every input the law returns true; each argument reads behind the call as it read before'; 0 by the template 'total and deterministic' (their statements: YtimpjdfflffcfaaTotals.lean).
  GIVEN WITH THE SEED: the statements are not yours to turn. If you find one false, say at which input.
  Laid BY PROGRAM, IN A SANDBOX (cutbox-rows.mjs): the forced cells as the released guide's own fill.sh prints them over the translation 67927e0f56ce40d1… (all of the seat's roots in one cut). By AI agents, Wed Nov 11 2026. No macro, syntax, notation, axiom, sorry.
-/
import Derived.Test.YtimpjdfflffcfaaChecked
import GoSem.Claim
import GoSem.ClaimJoined
import GoSem.ClaimMapViews
import Derived.JoinedTies
import Derived.KernelRfl
namespace Go.Proofs.Ytimpjdfflffcfaa
/- THE CELL 'sum', in the pinned program and in every row, IS THE sha256 OF THE DUMP (.gsa) THAT YtimpjdfflffcfaaProg.lean LOADS. Nothing in Lean hashes anything: it is a label: what it is worth is what the hold of that sum in a sandbox is worth. -/
noncomputable def Try.pinned : Pinned := { name := "ytimpjdfflffcfaa", sum := "67927e0f56ce40d138eeb5d6de65efcfdb2653217152969c56a9e3ca2aca6270", checked := Try.checked }
namespace Rows
def none {H : Type} : Left H := { results := [], args := [] }

/-- 'rondellaw02.RegionRow': WHATEVER THE INPUT: true; the input reads as it did. -/
def regionRowSpec : ChangeSpec := { name := "regionRow", fn := fun _ => fun
  | [d] => { results := [.lit (.bool true)], args := [d] }
  | _ => none }
def regionRowRow : OpenClaim := { program := "ytimpjdfflffcfaa", sum := "67927e0f56ce40d138eeb5d6de65efcfdb2653217152969c56a9e3ca2aca6270", func := "rondel/rondellaw02.RegionRow", spec := "regionRow", unfollowed := true, recurses := true, apart := false }
def RegionRowSaid : Prop := regionRowRow.holds Try.pinned (OpenSpec.ofChange regionRowSpec)

/-- ITS FALSE NEIGHBOUR: 'it returns false'. Refute it at one input. -/
def regionRowWrong : ChangeSpec := { name := "regionRow", fn := fun _ => fun
  | [d] => { results := [.lit (.bool false)], args := [d] }
  | _ => none }
def RegionRowWrongFalsely : Prop := regionRowRow.holds Try.pinned (OpenSpec.ofChange regionRowWrong)

/-- 'rondellaw02.RegionMay': WHATEVER THE INPUT: true; the input reads as it did. -/
def regionMaySpec : ChangeSpec := { name := "regionMay", fn := fun _ => fun
  | [d1, d2, d3] => { results := [.lit (.bool true)], args := [d1, d2, d3] }
  | _ => none }
def regionMayRow : OpenClaim := { program := "ytimpjdfflffcfaa", sum := "67927e0f56ce40d138eeb5d6de65efcfdb2653217152969c56a9e3ca2aca6270", func := "rondel/rondellaw02.RegionMay", spec := "regionMay", unfollowed := true, recurses := true, apart := false }
def RegionMaySaid : Prop := regionMayRow.holds Try.pinned (OpenSpec.ofChange regionMaySpec)

/-- ITS FALSE NEIGHBOUR: 'it returns false'. Refute it at one input. -/
def regionMayWrong : ChangeSpec := { name := "regionMay", fn := fun _ => fun
  | [d1, d2, d3] => { results := [.lit (.bool false)], args := [d1, d2, d3] }
  | _ => none }
def RegionMayWrongFalsely : Prop := regionMayRow.holds Try.pinned (OpenSpec.ofChange regionMayWrong)

/-- 'rondellaw02.RegionSets': WHATEVER THE INPUT: true; the input reads as it did. -/
def regionSetsSpec : ChangeSpec := { name := "regionSets", fn := fun _ => fun
  | [d1, d2, d3, d4] => { results := [.lit (.bool true)], args := [d1, d2, d3, d4] }
  | _ => none }
def regionSetsRow : OpenClaim := { program := "ytimpjdfflffcfaa", sum := "67927e0f56ce40d138eeb5d6de65efcfdb2653217152969c56a9e3ca2aca6270", func := "rondel/rondellaw02.RegionSets", spec := "regionSets", unfollowed := true, recurses := true, apart := false }
def RegionSetsSaid : Prop := regionSetsRow.holds Try.pinned (OpenSpec.ofChange regionSetsSpec)

/-- ITS FALSE NEIGHBOUR: 'it returns false'. Refute it at one input. -/
def regionSetsWrong : ChangeSpec := { name := "regionSets", fn := fun _ => fun
  | [d1, d2, d3, d4] => { results := [.lit (.bool false)], args := [d1, d2, d3, d4] }
  | _ => none }
def RegionSetsWrongFalsely : Prop := regionSetsRow.holds Try.pinned (OpenSpec.ofChange regionSetsWrong)

/-- 'rondellaw02.RegionOf': WHATEVER THE INPUT: true; the input reads as it did. -/
def regionOfSpec : ChangeSpec := { name := "regionOf", fn := fun _ => fun
  | [d1, d2, d3] => { results := [.lit (.bool true)], args := [d1, d2, d3] }
  | _ => none }
def regionOfRow : OpenClaim := { program := "ytimpjdfflffcfaa", sum := "67927e0f56ce40d138eeb5d6de65efcfdb2653217152969c56a9e3ca2aca6270", func := "rondel/rondellaw02.RegionOf", spec := "regionOf", unfollowed := true, recurses := true, apart := false }
def RegionOfSaid : Prop := regionOfRow.holds Try.pinned (OpenSpec.ofChange regionOfSpec)

/-- ITS FALSE NEIGHBOUR: 'it returns false'. Refute it at one input. -/
def regionOfWrong : ChangeSpec := { name := "regionOf", fn := fun _ => fun
  | [d1, d2, d3] => { results := [.lit (.bool false)], args := [d1, d2, d3] }
  | _ => none }
def RegionOfWrongFalsely : Prop := regionOfRow.holds Try.pinned (OpenSpec.ofChange regionOfWrong)

/-- 'rondellaw02.RegionThree': WHATEVER THE INPUT: true; the input reads as it did. -/
def regionThreeSpec : ChangeSpec := { name := "regionThree", fn := fun _ => fun
  | [d1, d2, d3] => { results := [.lit (.bool true)], args := [d1, d2, d3] }
  | _ => none }
def regionThreeRow : OpenClaim := { program := "ytimpjdfflffcfaa", sum := "67927e0f56ce40d138eeb5d6de65efcfdb2653217152969c56a9e3ca2aca6270", func := "rondel/rondellaw02.RegionThree", spec := "regionThree", unfollowed := true, recurses := true, apart := false }
def RegionThreeSaid : Prop := regionThreeRow.holds Try.pinned (OpenSpec.ofChange regionThreeSpec)

/-- ITS FALSE NEIGHBOUR: 'it returns false'. Refute it at one input. -/
def regionThreeWrong : ChangeSpec := { name := "regionThree", fn := fun _ => fun
  | [d1, d2, d3] => { results := [.lit (.bool false)], args := [d1, d2, d3] }
  | _ => none }
def RegionThreeWrongFalsely : Prop := regionThreeRow.holds Try.pinned (OpenSpec.ofChange regionThreeWrong)

/-- 'rondellaw02.RegionParts': WHATEVER THE INPUT: true; the input reads as it did. -/
def regionPartsSpec : ChangeSpec := { name := "regionParts", fn := fun _ => fun
  | [d1, d2] => { results := [.lit (.bool true)], args := [d1, d2] }
  | _ => none }
def regionPartsRow : OpenClaim := { program := "ytimpjdfflffcfaa", sum := "67927e0f56ce40d138eeb5d6de65efcfdb2653217152969c56a9e3ca2aca6270", func := "rondel/rondellaw02.RegionParts", spec := "regionParts", unfollowed := true, recurses := true, apart := false }
def RegionPartsSaid : Prop := regionPartsRow.holds Try.pinned (OpenSpec.ofChange regionPartsSpec)

/-- ITS FALSE NEIGHBOUR: 'it returns false'. Refute it at one input. -/
def regionPartsWrong : ChangeSpec := { name := "regionParts", fn := fun _ => fun
  | [d1, d2] => { results := [.lit (.bool false)], args := [d1, d2] }
  | _ => none }
def RegionPartsWrongFalsely : Prop := regionPartsRow.holds Try.pinned (OpenSpec.ofChange regionPartsWrong)

/-- 'rondellaw02.RegionLaws': WHATEVER THE INPUT: true; the input reads as it did. -/
def regionLawsSpec : ChangeSpec := { name := "regionLaws", fn := fun _ => fun
  | [d1, d2] => { results := [.lit (.bool true)], args := [d1, d2] }
  | _ => none }
def regionLawsRow : OpenClaim := { program := "ytimpjdfflffcfaa", sum := "67927e0f56ce40d138eeb5d6de65efcfdb2653217152969c56a9e3ca2aca6270", func := "rondel/rondellaw02.RegionLaws", spec := "regionLaws", unfollowed := true, recurses := true, apart := false }
def RegionLawsSaid : Prop := regionLawsRow.holds Try.pinned (OpenSpec.ofChange regionLawsSpec)

/-- ITS FALSE NEIGHBOUR: 'it returns false'. Refute it at one input. -/
def regionLawsWrong : ChangeSpec := { name := "regionLaws", fn := fun _ => fun
  | [d1, d2] => { results := [.lit (.bool false)], args := [d1, d2] }
  | _ => none }
def RegionLawsWrongFalsely : Prop := regionLawsRow.holds Try.pinned (OpenSpec.ofChange regionLawsWrong)

/-- 'rondellaw02.RegionHulls': WHATEVER THE INPUT: true; the input reads as it did. -/
def regionHullsSpec : ChangeSpec := { name := "regionHulls", fn := fun _ => fun
  | [d] => { results := [.lit (.bool true)], args := [d] }
  | _ => none }
def regionHullsRow : OpenClaim := { program := "ytimpjdfflffcfaa", sum := "67927e0f56ce40d138eeb5d6de65efcfdb2653217152969c56a9e3ca2aca6270", func := "rondel/rondellaw02.RegionHulls", spec := "regionHulls", unfollowed := true, recurses := true, apart := false }
def RegionHullsSaid : Prop := regionHullsRow.holds Try.pinned (OpenSpec.ofChange regionHullsSpec)

/-- ITS FALSE NEIGHBOUR: 'it returns false'. Refute it at one input. -/
def regionHullsWrong : ChangeSpec := { name := "regionHulls", fn := fun _ => fun
  | [d] => { results := [.lit (.bool false)], args := [d] }
  | _ => none }
def RegionHullsWrongFalsely : Prop := regionHullsRow.holds Try.pinned (OpenSpec.ofChange regionHullsWrong)

/-- 'rondellaw02.RegionMoves': WHATEVER THE INPUT: true; the input reads as it did. -/
def regionMovesSpec : ChangeSpec := { name := "regionMoves", fn := fun _ => fun
  | [d1, d2, d3, d4] => { results := [.lit (.bool true)], args := [d1, d2, d3, d4] }
  | _ => none }
def regionMovesRow : OpenClaim := { program := "ytimpjdfflffcfaa", sum := "67927e0f56ce40d138eeb5d6de65efcfdb2653217152969c56a9e3ca2aca6270", func := "rondel/rondellaw02.RegionMoves", spec := "regionMoves", unfollowed := true, recurses := true, apart := false }
def RegionMovesSaid : Prop := regionMovesRow.holds Try.pinned (OpenSpec.ofChange regionMovesSpec)

/-- ITS FALSE NEIGHBOUR: 'it returns false'. Refute it at one input. -/
def regionMovesWrong : ChangeSpec := { name := "regionMoves", fn := fun _ => fun
  | [d1, d2, d3, d4] => { results := [.lit (.bool false)], args := [d1, d2, d3, d4] }
  | _ => none }
def RegionMovesWrongFalsely : Prop := regionMovesRow.holds Try.pinned (OpenSpec.ofChange regionMovesWrong)

/- THE SECOND FORM. 'bulk': how many values and letters a reading holds, each counted each time it is reached (what is shared counts as often as it is met; a slice's spare places count too). A statement '..UptoSaid' is the law's where the arguments, and the package variables that the reading takes, are together of bulk at most 1048576: NARROWER than '..Said'. Prove '..Said' where nothing that the law and all that it calls make is longer than what came in: it says more and counts as full. Else prove '..UptoSaid'. A law counts once. -/
mutual
def uptoBulk {H : Type} : DataW H → Nat
  | .lit (.string bytes) => bytes.length + 1
  | .lit _ => 1
  | .nil => 1
  | .ptr d => uptoBulk d + 1
  | .slice elems spare => uptoBulkAll elems + uptoBulkAll spare + 1
  | .agg parts => uptoBulkAll parts + 1
  | .iface _ d => uptoBulk d + 1
  | .map entries => uptoBulkEntries entries + 1
  | .held _ => 1
def uptoBulkAll {H : Type} : List (DataW H) → Nat
  | [] => 0
  | d :: r => uptoBulk d + uptoBulkAll r
def uptoBulkEntries {H : Type} : List (Lit × DataW H) → Nat
  | [] => 0
  | x :: r => uptoBulkEntry x + uptoBulkEntries r
def uptoBulkEntry {H : Type} : Lit × DataW H → Nat
  | (.string bytes, d) => bytes.length + uptoBulk d + 1
  | (_, d) => uptoBulk d + 1
 end
def uptoSmall : (H : Type) → List (DataW H) → Bool := fun _ ds => decide (uptoBulkAll ds ≤ 1048576)
def OpenSpec.upto (s : _root_.Go.ChangeSpec) : _root_.Go.OpenSpec := { _root_.Go.OpenSpec.ofChange s with cond := some uptoSmall }

/-- 'rondellaw02.RegionRow', WHERE WHAT IT READS IS OF BULK AT MOST 1048576: true; the input reads as it did. -/
def regionRowUptoRow : OpenClaim := { program := "ytimpjdfflffcfaa", sum := "67927e0f56ce40d138eeb5d6de65efcfdb2653217152969c56a9e3ca2aca6270", func := "rondel/rondellaw02.RegionRow", spec := "regionRow", unfollowed := true, recurses := true, apart := false, narrowed := true }
def RegionRowUptoSaid : Prop := regionRowUptoRow.holds Try.pinned (OpenSpec.upto regionRowSpec)

/-- 'rondellaw02.RegionMay', WHERE WHAT IT READS IS OF BULK AT MOST 1048576: true; the input reads as it did. -/
def regionMayUptoRow : OpenClaim := { program := "ytimpjdfflffcfaa", sum := "67927e0f56ce40d138eeb5d6de65efcfdb2653217152969c56a9e3ca2aca6270", func := "rondel/rondellaw02.RegionMay", spec := "regionMay", unfollowed := true, recurses := true, apart := false, narrowed := true }
def RegionMayUptoSaid : Prop := regionMayUptoRow.holds Try.pinned (OpenSpec.upto regionMaySpec)

/-- 'rondellaw02.RegionSets', WHERE WHAT IT READS IS OF BULK AT MOST 1048576: true; the input reads as it did. -/
def regionSetsUptoRow : OpenClaim := { program := "ytimpjdfflffcfaa", sum := "67927e0f56ce40d138eeb5d6de65efcfdb2653217152969c56a9e3ca2aca6270", func := "rondel/rondellaw02.RegionSets", spec := "regionSets", unfollowed := true, recurses := true, apart := false, narrowed := true }
def RegionSetsUptoSaid : Prop := regionSetsUptoRow.holds Try.pinned (OpenSpec.upto regionSetsSpec)

/-- 'rondellaw02.RegionOf', WHERE WHAT IT READS IS OF BULK AT MOST 1048576: true; the input reads as it did. -/
def regionOfUptoRow : OpenClaim := { program := "ytimpjdfflffcfaa", sum := "67927e0f56ce40d138eeb5d6de65efcfdb2653217152969c56a9e3ca2aca6270", func := "rondel/rondellaw02.RegionOf", spec := "regionOf", unfollowed := true, recurses := true, apart := false, narrowed := true }
def RegionOfUptoSaid : Prop := regionOfUptoRow.holds Try.pinned (OpenSpec.upto regionOfSpec)

/-- 'rondellaw02.RegionThree', WHERE WHAT IT READS IS OF BULK AT MOST 1048576: true; the input reads as it did. -/
def regionThreeUptoRow : OpenClaim := { program := "ytimpjdfflffcfaa", sum := "67927e0f56ce40d138eeb5d6de65efcfdb2653217152969c56a9e3ca2aca6270", func := "rondel/rondellaw02.RegionThree", spec := "regionThree", unfollowed := true, recurses := true, apart := false, narrowed := true }
def RegionThreeUptoSaid : Prop := regionThreeUptoRow.holds Try.pinned (OpenSpec.upto regionThreeSpec)

/-- 'rondellaw02.RegionParts', WHERE WHAT IT READS IS OF BULK AT MOST 1048576: true; the input reads as it did. -/
def regionPartsUptoRow : OpenClaim := { program := "ytimpjdfflffcfaa", sum := "67927e0f56ce40d138eeb5d6de65efcfdb2653217152969c56a9e3ca2aca6270", func := "rondel/rondellaw02.RegionParts", spec := "regionParts", unfollowed := true, recurses := true, apart := false, narrowed := true }
def RegionPartsUptoSaid : Prop := regionPartsUptoRow.holds Try.pinned (OpenSpec.upto regionPartsSpec)

/-- 'rondellaw02.RegionLaws', WHERE WHAT IT READS IS OF BULK AT MOST 1048576: true; the input reads as it did. -/
def regionLawsUptoRow : OpenClaim := { program := "ytimpjdfflffcfaa", sum := "67927e0f56ce40d138eeb5d6de65efcfdb2653217152969c56a9e3ca2aca6270", func := "rondel/rondellaw02.RegionLaws", spec := "regionLaws", unfollowed := true, recurses := true, apart := false, narrowed := true }
def RegionLawsUptoSaid : Prop := regionLawsUptoRow.holds Try.pinned (OpenSpec.upto regionLawsSpec)

/-- 'rondellaw02.RegionHulls', WHERE WHAT IT READS IS OF BULK AT MOST 1048576: true; the input reads as it did. -/
def regionHullsUptoRow : OpenClaim := { program := "ytimpjdfflffcfaa", sum := "67927e0f56ce40d138eeb5d6de65efcfdb2653217152969c56a9e3ca2aca6270", func := "rondel/rondellaw02.RegionHulls", spec := "regionHulls", unfollowed := true, recurses := true, apart := false, narrowed := true }
def RegionHullsUptoSaid : Prop := regionHullsUptoRow.holds Try.pinned (OpenSpec.upto regionHullsSpec)

/-- 'rondellaw02.RegionMoves', WHERE WHAT IT READS IS OF BULK AT MOST 1048576: true; the input reads as it did. -/
def regionMovesUptoRow : OpenClaim := { program := "ytimpjdfflffcfaa", sum := "67927e0f56ce40d138eeb5d6de65efcfdb2653217152969c56a9e3ca2aca6270", func := "rondel/rondellaw02.RegionMoves", spec := "regionMoves", unfollowed := true, recurses := true, apart := false, narrowed := true }
def RegionMovesUptoSaid : Prop := regionMovesUptoRow.holds Try.pinned (OpenSpec.upto regionMovesSpec)

end Rows
end Go.Proofs.Ytimpjdfflffcfaa
