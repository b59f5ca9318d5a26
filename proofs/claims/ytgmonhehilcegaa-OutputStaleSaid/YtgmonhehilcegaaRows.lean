/-
  No cell of these rows narrows 'for every input' (looked for: loops, veiled, ifaces, maps, wideKeys, modest, calm, conditions, laid).
  DERIVED. THE GIVEN ROWS OF THIS SEAT. 9 by the template 'for every input the law returns true; each argument reads behind the call as it read before'; 0 by the template 'total and deterministic' (their statements: YtgmonhehilcegaaTotals.lean).
  GIVEN WITH THE SEED: the statements are not yours to turn. If you find one false, say at which input.
  Laid BY PROGRAM, IN A SANDBOX (cutbox-rows.mjs): the forced cells as the released guide's own fill.sh prints them over the translation fbfc2c4b38ec5690… (all of the seat's roots in one cut). By AI agents, Wed Nov 11 2026. No macro, syntax, notation, axiom, sorry.
-/
import Derived.Test.YtgmonhehilcegaaChecked
import GoSem.Claim
import GoSem.ClaimJoined
import GoSem.ClaimMapViews
import Derived.JoinedTies
import Derived.KernelRfl
namespace Go.Proofs.Ytgmonhehilcegaa
/- THE CELL 'sum', in the pinned program and in every row, IS THE sha256 OF THE DUMP (.gsa) THAT YtgmonhehilcegaaProg.lean LOADS. Nothing in Lean hashes anything: it is a label: what it is worth is what the hold of that sum in a sandbox is worth. -/
noncomputable def Try.pinned : Pinned := { name := "ytgmonhehilcegaa", sum := "fbfc2c4b38ec5690af2603aeec9851e3a31ef9434489a68da4dfe3d95789729b", checked := Try.checked }
namespace Rows
def none {H : Type} : Left H := { results := [], args := [] }

/-- 'rondellaw18.OutputNew': WHATEVER THE INPUT: true; the input reads as it did. -/
def outputNewSpec : ChangeSpec := { name := "outputNew", fn := fun _ => fun
  | [d1, d2] => { results := [.lit (.bool true)], args := [d1, d2] }
  | _ => none }
def outputNewRow : OpenClaim := { program := "ytgmonhehilcegaa", sum := "fbfc2c4b38ec5690af2603aeec9851e3a31ef9434489a68da4dfe3d95789729b", func := "rondel/rondellaw18.OutputNew", spec := "outputNew", unfollowed := true, recurses := true, apart := false }
def OutputNewSaid : Prop := outputNewRow.holds Try.pinned (OpenSpec.ofChange outputNewSpec)

/-- ITS FALSE NEIGHBOUR: 'it returns false'. Refute it at one input. -/
def outputNewWrong : ChangeSpec := { name := "outputNew", fn := fun _ => fun
  | [d1, d2] => { results := [.lit (.bool false)], args := [d1, d2] }
  | _ => none }
def OutputNewWrongFalsely : Prop := outputNewRow.holds Try.pinned (OpenSpec.ofChange outputNewWrong)

/-- 'rondellaw12.PoolNumbers': WHATEVER THE INPUT: true; the input reads as it did. -/
def poolNumbersSpec : ChangeSpec := { name := "poolNumbers", fn := fun _ => fun
  | [d] => { results := [.lit (.bool true)], args := [d] }
  | _ => none }
def poolNumbersRow : OpenClaim := { program := "ytgmonhehilcegaa", sum := "fbfc2c4b38ec5690af2603aeec9851e3a31ef9434489a68da4dfe3d95789729b", func := "rondel/rondellaw12.PoolNumbers", spec := "poolNumbers", unfollowed := true, recurses := true, apart := false }
def PoolNumbersSaid : Prop := poolNumbersRow.holds Try.pinned (OpenSpec.ofChange poolNumbersSpec)

/-- ITS FALSE NEIGHBOUR: 'it returns false'. Refute it at one input. -/
def poolNumbersWrong : ChangeSpec := { name := "poolNumbers", fn := fun _ => fun
  | [d] => { results := [.lit (.bool false)], args := [d] }
  | _ => none }
def PoolNumbersWrongFalsely : Prop := poolNumbersRow.holds Try.pinned (OpenSpec.ofChange poolNumbersWrong)

/-- 'rondellaw12.PoolHeld': WHATEVER THE INPUT: true; the input reads as it did. -/
def poolHeldSpec : ChangeSpec := { name := "poolHeld", fn := fun _ => fun
  | [d1, d2, d3] => { results := [.lit (.bool true)], args := [d1, d2, d3] }
  | _ => none }
def poolHeldRow : OpenClaim := { program := "ytgmonhehilcegaa", sum := "fbfc2c4b38ec5690af2603aeec9851e3a31ef9434489a68da4dfe3d95789729b", func := "rondel/rondellaw12.PoolHeld", spec := "poolHeld", unfollowed := true, recurses := true, apart := false }
def PoolHeldSaid : Prop := poolHeldRow.holds Try.pinned (OpenSpec.ofChange poolHeldSpec)

/-- ITS FALSE NEIGHBOUR: 'it returns false'. Refute it at one input. -/
def poolHeldWrong : ChangeSpec := { name := "poolHeld", fn := fun _ => fun
  | [d1, d2, d3] => { results := [.lit (.bool false)], args := [d1, d2, d3] }
  | _ => none }
def PoolHeldWrongFalsely : Prop := poolHeldRow.holds Try.pinned (OpenSpec.ofChange poolHeldWrong)

/-- 'rondellaw12.PoolNames': WHATEVER THE INPUT: true; the input reads as it did. -/
def poolNamesSpec : ChangeSpec := { name := "poolNames", fn := fun _ => fun
  | [d1, d2] => { results := [.lit (.bool true)], args := [d1, d2] }
  | _ => none }
def poolNamesRow : OpenClaim := { program := "ytgmonhehilcegaa", sum := "fbfc2c4b38ec5690af2603aeec9851e3a31ef9434489a68da4dfe3d95789729b", func := "rondel/rondellaw12.PoolNames", spec := "poolNames", unfollowed := true, recurses := true, apart := false }
def PoolNamesSaid : Prop := poolNamesRow.holds Try.pinned (OpenSpec.ofChange poolNamesSpec)

/-- ITS FALSE NEIGHBOUR: 'it returns false'. Refute it at one input. -/
def poolNamesWrong : ChangeSpec := { name := "poolNames", fn := fun _ => fun
  | [d1, d2] => { results := [.lit (.bool false)], args := [d1, d2] }
  | _ => none }
def PoolNamesWrongFalsely : Prop := poolNamesRow.holds Try.pinned (OpenSpec.ofChange poolNamesWrong)

/-- 'rondellaw18.OutputStale': WHATEVER THE INPUT: true; the input reads as it did. -/
def outputStaleSpec : ChangeSpec := { name := "outputStale", fn := fun _ => fun
  | [d1, d2, d3] => { results := [.lit (.bool true)], args := [d1, d2, d3] }
  | _ => none }
def outputStaleRow : OpenClaim := { program := "ytgmonhehilcegaa", sum := "fbfc2c4b38ec5690af2603aeec9851e3a31ef9434489a68da4dfe3d95789729b", func := "rondel/rondellaw18.OutputStale", spec := "outputStale", unfollowed := true, recurses := true, apart := false }
def OutputStaleSaid : Prop := outputStaleRow.holds Try.pinned (OpenSpec.ofChange outputStaleSpec)

/-- ITS FALSE NEIGHBOUR: 'it returns false'. Refute it at one input. -/
def outputStaleWrong : ChangeSpec := { name := "outputStale", fn := fun _ => fun
  | [d1, d2, d3] => { results := [.lit (.bool false)], args := [d1, d2, d3] }
  | _ => none }
def OutputStaleWrongFalsely : Prop := outputStaleRow.holds Try.pinned (OpenSpec.ofChange outputStaleWrong)

/-- 'rondellaw12.PoolPlays': WHATEVER THE INPUT: true; the input reads as it did. -/
def poolPlaysSpec : ChangeSpec := { name := "poolPlays", fn := fun _ => fun
  | [d] => { results := [.lit (.bool true)], args := [d] }
  | _ => none }
def poolPlaysRow : OpenClaim := { program := "ytgmonhehilcegaa", sum := "fbfc2c4b38ec5690af2603aeec9851e3a31ef9434489a68da4dfe3d95789729b", func := "rondel/rondellaw12.PoolPlays", spec := "poolPlays", unfollowed := true, recurses := true, apart := false }
def PoolPlaysSaid : Prop := poolPlaysRow.holds Try.pinned (OpenSpec.ofChange poolPlaysSpec)

/-- ITS FALSE NEIGHBOUR: 'it returns false'. Refute it at one input. -/
def poolPlaysWrong : ChangeSpec := { name := "poolPlays", fn := fun _ => fun
  | [d] => { results := [.lit (.bool false)], args := [d] }
  | _ => none }
def PoolPlaysWrongFalsely : Prop := poolPlaysRow.holds Try.pinned (OpenSpec.ofChange poolPlaysWrong)

/-- 'rondellaw18.OutputPlays': WHATEVER THE INPUT: true; the input reads as it did. -/
def outputPlaysSpec : ChangeSpec := { name := "outputPlays", fn := fun _ => fun
  | [d1, d2, d3] => { results := [.lit (.bool true)], args := [d1, d2, d3] }
  | _ => none }
def outputPlaysRow : OpenClaim := { program := "ytgmonhehilcegaa", sum := "fbfc2c4b38ec5690af2603aeec9851e3a31ef9434489a68da4dfe3d95789729b", func := "rondel/rondellaw18.OutputPlays", spec := "outputPlays", unfollowed := true, recurses := true, apart := false }
def OutputPlaysSaid : Prop := outputPlaysRow.holds Try.pinned (OpenSpec.ofChange outputPlaysSpec)

/-- ITS FALSE NEIGHBOUR: 'it returns false'. Refute it at one input. -/
def outputPlaysWrong : ChangeSpec := { name := "outputPlays", fn := fun _ => fun
  | [d1, d2, d3] => { results := [.lit (.bool false)], args := [d1, d2, d3] }
  | _ => none }
def OutputPlaysWrongFalsely : Prop := outputPlaysRow.holds Try.pinned (OpenSpec.ofChange outputPlaysWrong)

/-- 'rondellaw18.OutputAges': WHATEVER THE INPUT: true; the input reads as it did. -/
def outputAgesSpec : ChangeSpec := { name := "outputAges", fn := fun _ => fun
  | [d1, d2] => { results := [.lit (.bool true)], args := [d1, d2] }
  | _ => none }
def outputAgesRow : OpenClaim := { program := "ytgmonhehilcegaa", sum := "fbfc2c4b38ec5690af2603aeec9851e3a31ef9434489a68da4dfe3d95789729b", func := "rondel/rondellaw18.OutputAges", spec := "outputAges", unfollowed := true, recurses := true, apart := false }
def OutputAgesSaid : Prop := outputAgesRow.holds Try.pinned (OpenSpec.ofChange outputAgesSpec)

/-- ITS FALSE NEIGHBOUR: 'it returns false'. Refute it at one input. -/
def outputAgesWrong : ChangeSpec := { name := "outputAges", fn := fun _ => fun
  | [d1, d2] => { results := [.lit (.bool false)], args := [d1, d2] }
  | _ => none }
def OutputAgesWrongFalsely : Prop := outputAgesRow.holds Try.pinned (OpenSpec.ofChange outputAgesWrong)

/-- 'rondellaw18.OutputImages': WHATEVER THE INPUT: true; the input reads as it did. -/
def outputImagesSpec : ChangeSpec := { name := "outputImages", fn := fun _ => fun
  | [d1, d2, d3] => { results := [.lit (.bool true)], args := [d1, d2, d3] }
  | _ => none }
def outputImagesRow : OpenClaim := { program := "ytgmonhehilcegaa", sum := "fbfc2c4b38ec5690af2603aeec9851e3a31ef9434489a68da4dfe3d95789729b", func := "rondel/rondellaw18.OutputImages", spec := "outputImages", unfollowed := true, recurses := true, apart := false }
def OutputImagesSaid : Prop := outputImagesRow.holds Try.pinned (OpenSpec.ofChange outputImagesSpec)

/-- ITS FALSE NEIGHBOUR: 'it returns false'. Refute it at one input. -/
def outputImagesWrong : ChangeSpec := { name := "outputImages", fn := fun _ => fun
  | [d1, d2, d3] => { results := [.lit (.bool false)], args := [d1, d2, d3] }
  | _ => none }
def OutputImagesWrongFalsely : Prop := outputImagesRow.holds Try.pinned (OpenSpec.ofChange outputImagesWrong)

/- THE SECOND FORM. 'bulk': how many values and letters a reading holds, each counted each time it is reached (what is shared counts as often as it is met; a slice's spare places count too). A statement '..UptoSaid' is the law's where the arguments, and the package variables that the reading takes, are together of bulk at most 1048576: NARROWER than '..Said'. Prove '..Said' where nothing that the law and all that it calls make is longer than what came in: it says more and counts as full. Else prove '..UptoSaid'. A law counts once. -/
mutual
def uptoBulk {H : Type} : DataW H → Nat
  | .lit (.string bytes) => bytes.length + 1
  | .lit _ => 1
  | .nil => 1
  | .ptr d => uptoBulk d + 1
  | .slice elems spare => uptoBulkAll elems + uptoBulkAll spare + 1
  | .agg parts => uptoBulkAll parts + 1
  | .iface _ d => uptoBulk d + 1
  | .map entries => uptoBulkEntries entries + 1
  | .held _ => 1
def uptoBulkAll {H : Type} : List (DataW H) → Nat
  | [] => 0
  | d :: r => uptoBulk d + uptoBulkAll r
def uptoBulkEntries {H : Type} : List (Lit × DataW H) → Nat
  | [] => 0
  | x :: r => uptoBulkEntry x + uptoBulkEntries r
def uptoBulkEntry {H : Type} : Lit × DataW H → Nat
  | (.string bytes, d) => bytes.length + uptoBulk d + 1
  | (_, d) => uptoBulk d + 1
 end
def uptoSmall : (H : Type) → List (DataW H) → Bool := fun _ ds => decide (uptoBulkAll ds ≤ 1048576)
def OpenSpec.upto (s : _root_.Go.ChangeSpec) : _root_.Go.OpenSpec := { _root_.Go.OpenSpec.ofChange s with cond := some uptoSmall }

/-- 'rondellaw18.OutputNew', WHERE WHAT IT READS IS OF BULK AT MOST 1048576: true; the input reads as it did. -/
def outputNewUptoRow : OpenClaim := { program := "ytgmonhehilcegaa", sum := "fbfc2c4b38ec5690af2603aeec9851e3a31ef9434489a68da4dfe3d95789729b", func := "rondel/rondellaw18.OutputNew", spec := "outputNew", unfollowed := true, recurses := true, apart := false, narrowed := true }
def OutputNewUptoSaid : Prop := outputNewUptoRow.holds Try.pinned (OpenSpec.upto outputNewSpec)

/-- 'rondellaw12.PoolNumbers', WHERE WHAT IT READS IS OF BULK AT MOST 1048576: true; the input reads as it did. -/
def poolNumbersUptoRow : OpenClaim := { program := "ytgmonhehilcegaa", sum := "fbfc2c4b38ec5690af2603aeec9851e3a31ef9434489a68da4dfe3d95789729b", func := "rondel/rondellaw12.PoolNumbers", spec := "poolNumbers", unfollowed := true, recurses := true, apart := false, narrowed := true }
def PoolNumbersUptoSaid : Prop := poolNumbersUptoRow.holds Try.pinned (OpenSpec.upto poolNumbersSpec)

/-- 'rondellaw12.PoolHeld', WHERE WHAT IT READS IS OF BULK AT MOST 1048576: true; the input reads as it did. -/
def poolHeldUptoRow : OpenClaim := { program := "ytgmonhehilcegaa", sum := "fbfc2c4b38ec5690af2603aeec9851e3a31ef9434489a68da4dfe3d95789729b", func := "rondel/rondellaw12.PoolHeld", spec := "poolHeld", unfollowed := true, recurses := true, apart := false, narrowed := true }
def PoolHeldUptoSaid : Prop := poolHeldUptoRow.holds Try.pinned (OpenSpec.upto poolHeldSpec)

/-- 'rondellaw12.PoolNames', WHERE WHAT IT READS IS OF BULK AT MOST 1048576: true; the input reads as it did. -/
def poolNamesUptoRow : OpenClaim := { program := "ytgmonhehilcegaa", sum := "fbfc2c4b38ec5690af2603aeec9851e3a31ef9434489a68da4dfe3d95789729b", func := "rondel/rondellaw12.PoolNames", spec := "poolNames", unfollowed := true, recurses := true, apart := false, narrowed := true }
def PoolNamesUptoSaid : Prop := poolNamesUptoRow.holds Try.pinned (OpenSpec.upto poolNamesSpec)

/-- 'rondellaw18.OutputStale', WHERE WHAT IT READS IS OF BULK AT MOST 1048576: true; the input reads as it did. -/
def outputStaleUptoRow : OpenClaim := { program := "ytgmonhehilcegaa", sum := "fbfc2c4b38ec5690af2603aeec9851e3a31ef9434489a68da4dfe3d95789729b", func := "rondel/rondellaw18.OutputStale", spec := "outputStale", unfollowed := true, recurses := true, apart := false, narrowed := true }
def OutputStaleUptoSaid : Prop := outputStaleUptoRow.holds Try.pinned (OpenSpec.upto outputStaleSpec)

/-- 'rondellaw12.PoolPlays', WHERE WHAT IT READS IS OF BULK AT MOST 1048576: true; the input reads as it did. -/
def poolPlaysUptoRow : OpenClaim := { program := "ytgmonhehilcegaa", sum := "fbfc2c4b38ec5690af2603aeec9851e3a31ef9434489a68da4dfe3d95789729b", func := "rondel/rondellaw12.PoolPlays", spec := "poolPlays", unfollowed := true, recurses := true, apart := false, narrowed := true }
def PoolPlaysUptoSaid : Prop := poolPlaysUptoRow.holds Try.pinned (OpenSpec.upto poolPlaysSpec)

/-- 'rondellaw18.OutputPlays', WHERE WHAT IT READS IS OF BULK AT MOST 1048576: true; the input reads as it did. -/
def outputPlaysUptoRow : OpenClaim := { program := "ytgmonhehilcegaa", sum := "fbfc2c4b38ec5690af2603aeec9851e3a31ef9434489a68da4dfe3d95789729b", func := "rondel/rondellaw18.OutputPlays", spec := "outputPlays", unfollowed := true, recurses := true, apart := false, narrowed := true }
def OutputPlaysUptoSaid : Prop := outputPlaysUptoRow.holds Try.pinned (OpenSpec.upto outputPlaysSpec)

/-- 'rondellaw18.OutputAges', WHERE WHAT IT READS IS OF BULK AT MOST 1048576: true; the input reads as it did. -/
def outputAgesUptoRow : OpenClaim := { program := "ytgmonhehilcegaa", sum := "fbfc2c4b38ec5690af2603aeec9851e3a31ef9434489a68da4dfe3d95789729b", func := "rondel/rondellaw18.OutputAges", spec := "outputAges", unfollowed := true, recurses := true, apart := false, narrowed := true }
def OutputAgesUptoSaid : Prop := outputAgesUptoRow.holds Try.pinned (OpenSpec.upto outputAgesSpec)

/-- 'rondellaw18.OutputImages', WHERE WHAT IT READS IS OF BULK AT MOST 1048576: true; the input reads as it did. -/
def outputImagesUptoRow : OpenClaim := { program := "ytgmonhehilcegaa", sum := "fbfc2c4b38ec5690af2603aeec9851e3a31ef9434489a68da4dfe3d95789729b", func := "rondel/rondellaw18.OutputImages", spec := "outputImages", unfollowed := true, recurses := true, apart := false, narrowed := true }
def OutputImagesUptoSaid : Prop := outputImagesUptoRow.holds Try.pinned (OpenSpec.upto outputImagesSpec)

end Rows
end Go.Proofs.Ytgmonhehilcegaa
