/-
  No cell of these rows narrows 'for every input' (looked for: loops, veiled, ifaces, maps, wideKeys, modest, calm, conditions, laid).
  DERIVED. THE GIVEN ROWS OF THIS SEAT. 5 by the template 'for every input the law returns true; each argument reads behind the call as it read before'; 0 by the template 'total and deterministic' (their statements: YtlfahohbkgdabaaGreatTotals.lean).
  GIVEN WITH THE SEED: the statements are not yours to turn. If you find one false, say at which input.
  Laid BY PROGRAM, IN A SANDBOX (cutbox-rows.mjs): the forced cells as the released guide's own fill.sh prints them over the translation 5aa95464ee83957e… (all of the seat's roots in one cut). By AI agents, Wed Nov 11 2026. No macro, syntax, notation, axiom, sorry.
-/
import Derived.Test.YtlfahohbkgdabaaGreatChecked
import GoSem.Claim
import GoSem.ClaimJoined
import GoSem.ClaimMapViews
import Derived.JoinedTies
import Derived.KernelRfl
namespace Go.Proofs.YtlfahohbkgdabaaGreat
/- THE CELL 'sum', in the pinned program and in every row, IS THE sha256 OF THE DUMP (.gsa) THAT YtlfahohbkgdabaaGreatProg.lean LOADS. Nothing in Lean hashes anything: it is a label: what it is worth is what the hold of that sum in a sandbox is worth. -/
noncomputable def Tryz.pinned : Pinned := { name := "ytlfahohbkgdabaagreat", sum := "5aa95464ee83957e316d5250dadf3539b612beb013fca2f641d978d7ffccdad1", checked := Tryz.checked }
namespace Rows
def none {H : Type} : Left H := { results := [], args := [] }

/-- 'rondellaw17.PlanJobs': WHATEVER THE INPUT: true; the input reads as it did. -/
def planJobsSpec : ChangeSpec := { name := "planJobs", fn := fun _ => fun
  | [d1, d2, d3, d4] => { results := [.lit (.bool true)], args := [d1, d2, d3, d4] }
  | _ => none }
def planJobsRow : OpenClaim := { program := "ytlfahohbkgdabaagreat", sum := "5aa95464ee83957e316d5250dadf3539b612beb013fca2f641d978d7ffccdad1", func := "rondel/rondellaw17.PlanJobs", spec := "planJobs", unfollowed := true, recurses := true, apart := false }
def PlanJobsSaid : Prop := planJobsRow.holds Tryz.pinned (OpenSpec.ofChange planJobsSpec)

/-- ITS FALSE NEIGHBOUR: 'it returns false'. Refute it at one input. -/
def planJobsWrong : ChangeSpec := { name := "planJobs", fn := fun _ => fun
  | [d1, d2, d3, d4] => { results := [.lit (.bool false)], args := [d1, d2, d3, d4] }
  | _ => none }
def PlanJobsWrongFalsely : Prop := planJobsRow.holds Tryz.pinned (OpenSpec.ofChange planJobsWrong)

/-- 'rondellaw17.PlanSeen': WHATEVER THE INPUT: true; the input reads as it did. -/
def planSeenSpec : ChangeSpec := { name := "planSeen", fn := fun _ => fun
  | [d1, d2, d3] => { results := [.lit (.bool true)], args := [d1, d2, d3] }
  | _ => none }
def planSeenRow : OpenClaim := { program := "ytlfahohbkgdabaagreat", sum := "5aa95464ee83957e316d5250dadf3539b612beb013fca2f641d978d7ffccdad1", func := "rondel/rondellaw17.PlanSeen", spec := "planSeen", unfollowed := true, recurses := true, apart := false }
def PlanSeenSaid : Prop := planSeenRow.holds Tryz.pinned (OpenSpec.ofChange planSeenSpec)

/-- ITS FALSE NEIGHBOUR: 'it returns false'. Refute it at one input. -/
def planSeenWrong : ChangeSpec := { name := "planSeen", fn := fun _ => fun
  | [d1, d2, d3] => { results := [.lit (.bool false)], args := [d1, d2, d3] }
  | _ => none }
def PlanSeenWrongFalsely : Prop := planSeenRow.holds Tryz.pinned (OpenSpec.ofChange planSeenWrong)

/-- 'rondellaw17.PlanPaints': WHATEVER THE INPUT: true; the input reads as it did. -/
def planPaintsSpec : ChangeSpec := { name := "planPaints", fn := fun _ => fun
  | [d1, d2, d3, d4, d5, d6] => { results := [.lit (.bool true)], args := [d1, d2, d3, d4, d5, d6] }
  | _ => none }
def planPaintsRow : OpenClaim := { program := "ytlfahohbkgdabaagreat", sum := "5aa95464ee83957e316d5250dadf3539b612beb013fca2f641d978d7ffccdad1", func := "rondel/rondellaw17.PlanPaints", spec := "planPaints", unfollowed := true, recurses := true, apart := false }
def PlanPaintsSaid : Prop := planPaintsRow.holds Tryz.pinned (OpenSpec.ofChange planPaintsSpec)

/-- ITS FALSE NEIGHBOUR: 'it returns false'. Refute it at one input. -/
def planPaintsWrong : ChangeSpec := { name := "planPaints", fn := fun _ => fun
  | [d1, d2, d3, d4, d5, d6] => { results := [.lit (.bool false)], args := [d1, d2, d3, d4, d5, d6] }
  | _ => none }
def PlanPaintsWrongFalsely : Prop := planPaintsRow.holds Tryz.pinned (OpenSpec.ofChange planPaintsWrong)

/-- 'rondellaw17.PlanDoes': WHATEVER THE INPUT: true; the input reads as it did. -/
def planDoesSpec : ChangeSpec := { name := "planDoes", fn := fun _ => fun
  | [d1, d2, d3, d4, d5] => { results := [.lit (.bool true)], args := [d1, d2, d3, d4, d5] }
  | _ => none }
def planDoesRow : OpenClaim := { program := "ytlfahohbkgdabaagreat", sum := "5aa95464ee83957e316d5250dadf3539b612beb013fca2f641d978d7ffccdad1", func := "rondel/rondellaw17.PlanDoes", spec := "planDoes", unfollowed := true, recurses := true, apart := false }
def PlanDoesSaid : Prop := planDoesRow.holds Tryz.pinned (OpenSpec.ofChange planDoesSpec)

/-- ITS FALSE NEIGHBOUR: 'it returns false'. Refute it at one input. -/
def planDoesWrong : ChangeSpec := { name := "planDoes", fn := fun _ => fun
  | [d1, d2, d3, d4, d5] => { results := [.lit (.bool false)], args := [d1, d2, d3, d4, d5] }
  | _ => none }
def PlanDoesWrongFalsely : Prop := planDoesRow.holds Tryz.pinned (OpenSpec.ofChange planDoesWrong)

/-- 'rondellaw17.PlanAll': WHATEVER THE INPUT: true; the input reads as it did. -/
def planAllSpec : ChangeSpec := { name := "planAll", fn := fun _ => fun
  | [d1, d2, d3, d4, d5] => { results := [.lit (.bool true)], args := [d1, d2, d3, d4, d5] }
  | _ => none }
def planAllRow : OpenClaim := { program := "ytlfahohbkgdabaagreat", sum := "5aa95464ee83957e316d5250dadf3539b612beb013fca2f641d978d7ffccdad1", func := "rondel/rondellaw17.PlanAll", spec := "planAll", unfollowed := true, recurses := true, apart := false }
def PlanAllSaid : Prop := planAllRow.holds Tryz.pinned (OpenSpec.ofChange planAllSpec)

/-- ITS FALSE NEIGHBOUR: 'it returns false'. Refute it at one input. -/
def planAllWrong : ChangeSpec := { name := "planAll", fn := fun _ => fun
  | [d1, d2, d3, d4, d5] => { results := [.lit (.bool false)], args := [d1, d2, d3, d4, d5] }
  | _ => none }
def PlanAllWrongFalsely : Prop := planAllRow.holds Tryz.pinned (OpenSpec.ofChange planAllWrong)

/- THE SECOND FORM. 'bulk': how many values and letters a reading holds, each counted each time it is reached (what is shared counts as often as it is met; a slice's spare places count too). A statement '..UptoSaid' is the law's where the arguments, and the package variables that the reading takes, are together of bulk at most 1048576: NARROWER than '..Said'. Prove '..Said' where nothing that the law and all that it calls make is longer than what came in: it says more and counts as full. Else prove '..UptoSaid'. A law counts once. -/
mutual
def uptoBulk {H : Type} : DataW H → Nat
  | .lit (.string bytes) => bytes.length + 1
  | .lit _ => 1
  | .nil => 1
  | .ptr d => uptoBulk d + 1
  | .slice elems spare => uptoBulkAll elems + uptoBulkAll spare + 1
  | .agg parts => uptoBulkAll parts + 1
  | .iface _ d => uptoBulk d + 1
  | .map entries => uptoBulkEntries entries + 1
  | .held _ => 1
def uptoBulkAll {H : Type} : List (DataW H) → Nat
  | [] => 0
  | d :: r => uptoBulk d + uptoBulkAll r
def uptoBulkEntries {H : Type} : List (Lit × DataW H) → Nat
  | [] => 0
  | x :: r => uptoBulkEntry x + uptoBulkEntries r
def uptoBulkEntry {H : Type} : Lit × DataW H → Nat
  | (.string bytes, d) => bytes.length + uptoBulk d + 1
  | (_, d) => uptoBulk d + 1
 end
def uptoSmall : (H : Type) → List (DataW H) → Bool := fun _ ds => decide (uptoBulkAll ds ≤ 1048576)
def OpenSpec.upto (s : _root_.Go.ChangeSpec) : _root_.Go.OpenSpec := { _root_.Go.OpenSpec.ofChange s with cond := some uptoSmall }

/-- 'rondellaw17.PlanJobs', WHERE WHAT IT READS IS OF BULK AT MOST 1048576: true; the input reads as it did. -/
def planJobsUptoRow : OpenClaim := { program := "ytlfahohbkgdabaagreat", sum := "5aa95464ee83957e316d5250dadf3539b612beb013fca2f641d978d7ffccdad1", func := "rondel/rondellaw17.PlanJobs", spec := "planJobs", unfollowed := true, recurses := true, apart := false, narrowed := true }
def PlanJobsUptoSaid : Prop := planJobsUptoRow.holds Tryz.pinned (OpenSpec.upto planJobsSpec)

/-- 'rondellaw17.PlanSeen', WHERE WHAT IT READS IS OF BULK AT MOST 1048576: true; the input reads as it did. -/
def planSeenUptoRow : OpenClaim := { program := "ytlfahohbkgdabaagreat", sum := "5aa95464ee83957e316d5250dadf3539b612beb013fca2f641d978d7ffccdad1", func := "rondel/rondellaw17.PlanSeen", spec := "planSeen", unfollowed := true, recurses := true, apart := false, narrowed := true }
def PlanSeenUptoSaid : Prop := planSeenUptoRow.holds Tryz.pinned (OpenSpec.upto planSeenSpec)

/-- 'rondellaw17.PlanPaints', WHERE WHAT IT READS IS OF BULK AT MOST 1048576: true; the input reads as it did. -/
def planPaintsUptoRow : OpenClaim := { program := "ytlfahohbkgdabaagreat", sum := "5aa95464ee83957e316d5250dadf3539b612beb013fca2f641d978d7ffccdad1", func := "rondel/rondellaw17.PlanPaints", spec := "planPaints", unfollowed := true, recurses := true, apart := false, narrowed := true }
def PlanPaintsUptoSaid : Prop := planPaintsUptoRow.holds Tryz.pinned (OpenSpec.upto planPaintsSpec)

/-- 'rondellaw17.PlanDoes', WHERE WHAT IT READS IS OF BULK AT MOST 1048576: true; the input reads as it did. -/
def planDoesUptoRow : OpenClaim := { program := "ytlfahohbkgdabaagreat", sum := "5aa95464ee83957e316d5250dadf3539b612beb013fca2f641d978d7ffccdad1", func := "rondel/rondellaw17.PlanDoes", spec := "planDoes", unfollowed := true, recurses := true, apart := false, narrowed := true }
def PlanDoesUptoSaid : Prop := planDoesUptoRow.holds Tryz.pinned (OpenSpec.upto planDoesSpec)

/-- 'rondellaw17.PlanAll', WHERE WHAT IT READS IS OF BULK AT MOST 1048576: true; the input reads as it did. -/
def planAllUptoRow : OpenClaim := { program := "ytlfahohbkgdabaagreat", sum := "5aa95464ee83957e316d5250dadf3539b612beb013fca2f641d978d7ffccdad1", func := "rondel/rondellaw17.PlanAll", spec := "planAll", unfollowed := true, recurses := true, apart := false, narrowed := true }
def PlanAllUptoSaid : Prop := planAllUptoRow.holds Tryz.pinned (OpenSpec.upto planAllSpec)

end Rows
end Go.Proofs.YtlfahohbkgdabaaGreat
