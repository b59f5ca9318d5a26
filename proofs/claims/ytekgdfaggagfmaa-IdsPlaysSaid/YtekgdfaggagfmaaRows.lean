/-
  No cell of these rows narrows 'for every input' (looked for: loops, veiled, ifaces, maps, wideKeys, modest, calm, conditions, laid).
  DERIVED. THE GIVEN ROWS OF THIS SEAT. 5 by the template 'for every input the law returns true; each argument reads behind the call as it read before'; 0 by the template 'total and deterministic' (their statements: YtekgdfaggagfmaaTotals.lean).
  GIVEN WITH THE SEED: the statements are not yours to turn. If you find one false, say at which input.
  Laid BY PROGRAM, IN A SANDBOX (cutbox-rows.mjs): the forced cells as the released guide's own fill.sh prints them over the translation b18e9285f212bd6c… (all of the seat's roots in one cut). By AI agents, Wed Nov 11 2026. No macro, syntax, notation, axiom, sorry.
-/
import Derived.Test.YtekgdfaggagfmaaChecked
import GoSem.Claim
import GoSem.ClaimJoined
import GoSem.ClaimMapViews
import Derived.JoinedTies
import Derived.KernelRfl
namespace Go.Proofs.Ytekgdfaggagfmaa
/- THE CELL 'sum', in the pinned program and in every row, IS THE sha256 OF THE DUMP (.gsa) THAT YtekgdfaggagfmaaProg.lean LOADS. Nothing in Lean hashes anything: it is a label: what it is worth is what the hold of that sum in a sandbox is worth. -/
noncomputable def Try.pinned : Pinned := { name := "ytekgdfaggagfmaa", sum := "b18e9285f212bd6c6fb0cbfde03b25e830938d928764a6757dc782b56c952808", checked := Try.checked }
namespace Rows
def none {H : Type} : Left H := { results := [], args := [] }

/-- 'rondellaw11.IdsQuota': WHATEVER THE INPUT: true; the input reads as it did. -/
def idsQuotaSpec : ChangeSpec := { name := "idsQuota", fn := fun _ => fun
  | [d1, d2] => { results := [.lit (.bool true)], args := [d1, d2] }
  | _ => none }
def idsQuotaRow : OpenClaim := { program := "ytekgdfaggagfmaa", sum := "b18e9285f212bd6c6fb0cbfde03b25e830938d928764a6757dc782b56c952808", func := "rondel/rondellaw11.IdsQuota", spec := "idsQuota", apart := false }
def IdsQuotaSaid : Prop := idsQuotaRow.holds Try.pinned (OpenSpec.ofChange idsQuotaSpec)

/-- ITS FALSE NEIGHBOUR: 'it returns false'. Refute it at one input. -/
def idsQuotaWrong : ChangeSpec := { name := "idsQuota", fn := fun _ => fun
  | [d1, d2] => { results := [.lit (.bool false)], args := [d1, d2] }
  | _ => none }
def IdsQuotaWrongFalsely : Prop := idsQuotaRow.holds Try.pinned (OpenSpec.ofChange idsQuotaWrong)

/-- 'rondellaw11.IdsBack': WHATEVER THE INPUT: true; the input reads as it did. -/
def idsBackSpec : ChangeSpec := { name := "idsBack", fn := fun _ => fun
  | [d1, d2, d3] => { results := [.lit (.bool true)], args := [d1, d2, d3] }
  | _ => none }
def idsBackRow : OpenClaim := { program := "ytekgdfaggagfmaa", sum := "b18e9285f212bd6c6fb0cbfde03b25e830938d928764a6757dc782b56c952808", func := "rondel/rondellaw11.IdsBack", spec := "idsBack", apart := false }
def IdsBackSaid : Prop := idsBackRow.holds Try.pinned (OpenSpec.ofChange idsBackSpec)

/-- ITS FALSE NEIGHBOUR: 'it returns false'. Refute it at one input. -/
def idsBackWrong : ChangeSpec := { name := "idsBack", fn := fun _ => fun
  | [d1, d2, d3] => { results := [.lit (.bool false)], args := [d1, d2, d3] }
  | _ => none }
def IdsBackWrongFalsely : Prop := idsBackRow.holds Try.pinned (OpenSpec.ofChange idsBackWrong)

/-- 'rondellaw11.IdsApart': WHATEVER THE INPUT: true; the input reads as it did. -/
def idsApartSpec : ChangeSpec := { name := "idsApart", fn := fun _ => fun
  | [d] => { results := [.lit (.bool true)], args := [d] }
  | _ => none }
def idsApartRow : OpenClaim := { program := "ytekgdfaggagfmaa", sum := "b18e9285f212bd6c6fb0cbfde03b25e830938d928764a6757dc782b56c952808", func := "rondel/rondellaw11.IdsApart", spec := "idsApart", apart := false }
def IdsApartSaid : Prop := idsApartRow.holds Try.pinned (OpenSpec.ofChange idsApartSpec)

/-- ITS FALSE NEIGHBOUR: 'it returns false'. Refute it at one input. -/
def idsApartWrong : ChangeSpec := { name := "idsApart", fn := fun _ => fun
  | [d] => { results := [.lit (.bool false)], args := [d] }
  | _ => none }
def IdsApartWrongFalsely : Prop := idsApartRow.holds Try.pinned (OpenSpec.ofChange idsApartWrong)

/-- 'rondellaw11.IdsKinds': WHATEVER THE INPUT: true; the input reads as it did. -/
def idsKindsSpec : ChangeSpec := { name := "idsKinds", fn := fun _ => fun
  | [d] => { results := [.lit (.bool true)], args := [d] }
  | _ => none }
def idsKindsRow : OpenClaim := { program := "ytekgdfaggagfmaa", sum := "b18e9285f212bd6c6fb0cbfde03b25e830938d928764a6757dc782b56c952808", func := "rondel/rondellaw11.IdsKinds", spec := "idsKinds", recurses := true, apart := false }
def IdsKindsSaid : Prop := idsKindsRow.holds Try.pinned (OpenSpec.ofChange idsKindsSpec)

/-- ITS FALSE NEIGHBOUR: 'it returns false'. Refute it at one input. -/
def idsKindsWrong : ChangeSpec := { name := "idsKinds", fn := fun _ => fun
  | [d] => { results := [.lit (.bool false)], args := [d] }
  | _ => none }
def IdsKindsWrongFalsely : Prop := idsKindsRow.holds Try.pinned (OpenSpec.ofChange idsKindsWrong)

/-- 'rondellaw11.IdsPlays': WHATEVER THE INPUT: true; the input reads as it did. -/
def idsPlaysSpec : ChangeSpec := { name := "idsPlays", fn := fun _ => fun
  | [d1, d2] => { results := [.lit (.bool true)], args := [d1, d2] }
  | _ => none }
def idsPlaysRow : OpenClaim := { program := "ytekgdfaggagfmaa", sum := "b18e9285f212bd6c6fb0cbfde03b25e830938d928764a6757dc782b56c952808", func := "rondel/rondellaw11.IdsPlays", spec := "idsPlays", recurses := true, apart := false }
def IdsPlaysSaid : Prop := idsPlaysRow.holds Try.pinned (OpenSpec.ofChange idsPlaysSpec)

/-- ITS FALSE NEIGHBOUR: 'it returns false'. Refute it at one input. -/
def idsPlaysWrong : ChangeSpec := { name := "idsPlays", fn := fun _ => fun
  | [d1, d2] => { results := [.lit (.bool false)], args := [d1, d2] }
  | _ => none }
def IdsPlaysWrongFalsely : Prop := idsPlaysRow.holds Try.pinned (OpenSpec.ofChange idsPlaysWrong)

/- THE SECOND FORM. 'bulk': how many values and letters a reading holds, each counted each time it is reached (what is shared counts as often as it is met; a slice's spare places count too). A statement '..UptoSaid' is the law's where the arguments, and the package variables that the reading takes, are together of bulk at most 1048576: NARROWER than '..Said'. Prove '..Said' where nothing that the law and all that it calls make is longer than what came in: it says more and counts as full. Else prove '..UptoSaid'. A law counts once. -/
mutual
def uptoBulk {H : Type} : DataW H → Nat
  | .lit (.string bytes) => bytes.length + 1
  | .lit _ => 1
  | .nil => 1
  | .ptr d => uptoBulk d + 1
  | .slice elems spare => uptoBulkAll elems + uptoBulkAll spare + 1
  | .agg parts => uptoBulkAll parts + 1
  | .iface _ d => uptoBulk d + 1
  | .map entries => uptoBulkEntries entries + 1
  | .held _ => 1
def uptoBulkAll {H : Type} : List (DataW H) → Nat
  | [] => 0
  | d :: r => uptoBulk d + uptoBulkAll r
def uptoBulkEntries {H : Type} : List (Lit × DataW H) → Nat
  | [] => 0
  | x :: r => uptoBulkEntry x + uptoBulkEntries r
def uptoBulkEntry {H : Type} : Lit × DataW H → Nat
  | (.string bytes, d) => bytes.length + uptoBulk d + 1
  | (_, d) => uptoBulk d + 1
 end
def uptoSmall : (H : Type) → List (DataW H) → Bool := fun _ ds => decide (uptoBulkAll ds ≤ 1048576)
def OpenSpec.upto (s : _root_.Go.ChangeSpec) : _root_.Go.OpenSpec := { _root_.Go.OpenSpec.ofChange s with cond := some uptoSmall }

/-- 'rondellaw11.IdsQuota', WHERE WHAT IT READS IS OF BULK AT MOST 1048576: true; the input reads as it did. -/
def idsQuotaUptoRow : OpenClaim := { program := "ytekgdfaggagfmaa", sum := "b18e9285f212bd6c6fb0cbfde03b25e830938d928764a6757dc782b56c952808", func := "rondel/rondellaw11.IdsQuota", spec := "idsQuota", apart := false, narrowed := true }
def IdsQuotaUptoSaid : Prop := idsQuotaUptoRow.holds Try.pinned (OpenSpec.upto idsQuotaSpec)

/-- 'rondellaw11.IdsBack', WHERE WHAT IT READS IS OF BULK AT MOST 1048576: true; the input reads as it did. -/
def idsBackUptoRow : OpenClaim := { program := "ytekgdfaggagfmaa", sum := "b18e9285f212bd6c6fb0cbfde03b25e830938d928764a6757dc782b56c952808", func := "rondel/rondellaw11.IdsBack", spec := "idsBack", apart := false, narrowed := true }
def IdsBackUptoSaid : Prop := idsBackUptoRow.holds Try.pinned (OpenSpec.upto idsBackSpec)

/-- 'rondellaw11.IdsApart', WHERE WHAT IT READS IS OF BULK AT MOST 1048576: true; the input reads as it did. -/
def idsApartUptoRow : OpenClaim := { program := "ytekgdfaggagfmaa", sum := "b18e9285f212bd6c6fb0cbfde03b25e830938d928764a6757dc782b56c952808", func := "rondel/rondellaw11.IdsApart", spec := "idsApart", apart := false, narrowed := true }
def IdsApartUptoSaid : Prop := idsApartUptoRow.holds Try.pinned (OpenSpec.upto idsApartSpec)

/-- 'rondellaw11.IdsKinds', WHERE WHAT IT READS IS OF BULK AT MOST 1048576: true; the input reads as it did. -/
def idsKindsUptoRow : OpenClaim := { program := "ytekgdfaggagfmaa", sum := "b18e9285f212bd6c6fb0cbfde03b25e830938d928764a6757dc782b56c952808", func := "rondel/rondellaw11.IdsKinds", spec := "idsKinds", recurses := true, apart := false, narrowed := true }
def IdsKindsUptoSaid : Prop := idsKindsUptoRow.holds Try.pinned (OpenSpec.upto idsKindsSpec)

/-- 'rondellaw11.IdsPlays', WHERE WHAT IT READS IS OF BULK AT MOST 1048576: true; the input reads as it did. -/
def idsPlaysUptoRow : OpenClaim := { program := "ytekgdfaggagfmaa", sum := "b18e9285f212bd6c6fb0cbfde03b25e830938d928764a6757dc782b56c952808", func := "rondel/rondellaw11.IdsPlays", spec := "idsPlays", recurses := true, apart := false, narrowed := true }
def IdsPlaysUptoSaid : Prop := idsPlaysUptoRow.holds Try.pinned (OpenSpec.upto idsPlaysSpec)

end Rows
end Go.Proofs.Ytekgdfaggagfmaa
