/- A range over a function: the walk of a function that holds such a loop (a mark among its deferred calls behind it), of the loop's rounds, and of the iterator. Generic in the program. -/
import Derived.Test.YtekgdfaggagfmaaPeVw
import Derived.RangeFuncSeq
set_option linter.unusedVariables false
set_option linter.unusedSimpArgs false
namespace Go.Proofs.Ytekgdfaggagfmaa
open Go Go.RowKit

/-! ### Operations, taken over from the plain walk -/
/-- A fence that lets everything in. -/
structure Open (F : Fence) : Prop where
  fn : ∀ f, F.fn f
  depth : F.depth = none
  alive : F.alive = false
theorem open_round (l : Nat) : Open (Fence.wide.inRound l) := ⟨fun _ => trivial, rfl, rfl⟩
section
variable {P : Program}
/-! ### Ways of walking code -/
structure Mode (P : Program) where
  F : Fence
  hF : Open F
def Mode.wp (M : Mode P) (c : Code) (Q : Exit → Act → World → Prop) (a : Act) (w : World) : Prop := ¬ LetsOut Q → c.wpIn M.F 0 P Q a w
def Mode.round (P : Program) (l : Nat) : Mode P := ⟨Fence.wide.inRound l, open_round l⟩
variable {dfs : List Deferred} {M : Mode P} {Q : Exit → Act → World → Prop} {n : Nat} {w0 : World} {L : List (Nat × Value)} {T : List Ent}

/-! ### Entries for the loop's book-keeping -/
def objE (b : Nat) (o : Obj) : Ent := .gen { blk := (· = b), wr := true, own := true, ok := fun w => w.heap[b]? = some o, stable := fun w w' h hk => (h b rfl).trans hk, inb := fun w k hk hb => by cases hb; exact (Array.getElem?_eq_some_iff.1 hk).1 }
theorem Tab.putObj {w : World} (hT : Tab w0 w T) {i b : Nat} {o : Obj} (h : T[i]? = some (objE b o)) (o' : Obj) : Tab w0 (w.putObj b o') (T.set i (objE b o')) := by
  have hk : w.heap[b]? = some o := hT.ok i _ h
  refine hT.replace (e := objE b o) (e' := objE b o') h rfl rfl id (fun k hk => .inl hk) (fun k _ hk _ => hk) rfl rfl rfl (by simp) (fun k _ hk => World.putObj_heap_other (fun e => hk e)) ?_
  exact World.putObj_heap_same (Array.getElem?_eq_some_iff.1 hk).1
theorem Tab.allocObj {w : World} (hT : Tab w0 w T) (o : Obj) : Tab w0 (w.alloc o) (objE w.heap.size o :: T) := by
  refine hT.push (e := objE w.heap.size o) rfl rfl rfl (by simp) (fun k hk => Below.heap_alloc w _ k hk) (World.alloc_heap_new w o) (fun k hk => by have : k = w.heap.size := hk; omega)

/-! ### The end of a function that holds such a loop -/
/-- The same without a way to panic. -/
def NP (Q : Exit → Act → World → Prop) : Exit → Act → World → Prop
  | .panic _, _, _ => False
  | e, a, w => Q e a w
theorem NP.le {Q : Exit → Act → World → Prop} (e : Exit) (a : Act) (w : World) (h : NP Q e a w) : Q e a w := by cases e <;> first | exact h.elim | exact h
/-! ### Iterators -/
/-! ### The statement -/
end
end Go.Proofs.Ytekgdfaggagfmaa

