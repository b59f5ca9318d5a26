/- A batch of steps that leaves the table as it is: the short way to say it. -/
import Derived.Test.YtlfahohbkgdabaaPcSy
namespace Go.Proofs.Ytlfahohbkgdabaa
open Go Go.RowKit
variable {dfs : List Deferred}
set_option maxRecDepth 100000
theorem bS {P : Program} {ops : Array Oper} {n i k : Nat} {w0 : World} {Q : Exit → Act → World → Prop} {L : List (Nat × Value)} {T : List Ent} (hs : List Nat) (i' k' : Nat) (L' : List (Nat × Value)) (hk : Cont dfs (PL P ops Q i' k') n w0 L' T) (hi : i' = i + hs.length := by rfl) (hkk : k = hs.length + k' := by rfl)
    (h1 : (runB P ops n i hs [] L T).isSome = true := by kernel_rfl)
    (h2 : (runB P ops n i hs [] L T).map (outB (L'.map Prod.fst)) = (runB P ops n i hs [] L T).map (wishB (L'.map Prod.snd) T) := by kernel_rfl) : Cont dfs (PL P ops Q i k) n w0 L T :=
  batch0 hs i' k' L' T hi hkk h1 h2 hk
end Go.Proofs.Ytlfahohbkgdabaa

