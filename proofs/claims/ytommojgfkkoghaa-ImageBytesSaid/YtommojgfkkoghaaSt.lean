/- The symbolic executor: strings that are made of bytes. Generic in the program. -/
import Derived.Test.YtommojgfkkoghaaAp
import Derived.Laws.BytesString
set_option linter.unusedVariables false
set_option linter.unusedSimpArgs false
namespace Go.Proofs.Ytommojgfkkoghaa
open Go Go.RowKit

def bsA (xs : List Int) : ByteArray := xs.foldl (fun r n => r.push (UInt8.ofNat n.toNat)) ByteArray.empty
theorem fold_push (xs : List Int) : ∀ (r : ByteArray), (xs.foldl (fun r n => r.push (UInt8.ofNat n.toNat)) r).data = r.data ++ (xs.map fun n => UInt8.ofNat n.toNat).toArray := by
  induction xs with
  | nil => intro r; simp
  | cons x xs ih =>
    intro r
    rw [List.foldl_cons, ih]
    simp [ByteArray.push]
theorem bsA_data (xs : List Int) : (bsA xs).data = (xs.map fun n => UInt8.ofNat n.toNat).toArray := by
  unfold bsA
  rw [fold_push]
  have h0 : ByteArray.empty.data = #[] := rfl
  rw [h0, Array.empty_append]
theorem bsA_size (xs : List Int) : (bsA xs).size = xs.length := by
  show (bsA xs).data.size = _
  rw [bsA_data]
  simp
theorem bsA_append (xs ys : List Int) : bsA xs ++ bsA ys = bsA (xs ++ ys) := by
  apply ByteArray.ext
  rw [ByteArray.data_append, bsA_data, bsA_data, bsA_data]
  simp
theorem Rd.nil {w : World} {k : IntKind} : Rd w none 0 0 0 1 (ivals k []) := ⟨rfl, fun h => by omega, fun j v hj => by simp [ivals] at hj⟩
section
variable {P : Program}
theorem run_bts {w : World} {A : Option Addr} {g o n cap : Nat} {xs : List Int} (h : Rd w A g o n 1 (ivals .u8 xs)) {t e u : TypeId} (ht : P.underlying t = some (.slice e)) (he : P.underlying e = some (.int .u8)) (hu : P.underlying u = some .string) :
    (Go.convert t u (.slice A n cap)).run P w = .ok (.string (bsA xs)) w := by
  have hl : xs.length = n := h.flen
  have hc : (Go.convert t u (.slice A n cap)).run P w = (Conv.bytesToString (.slice A n cap)).run P w := by
    cases A <;> simp [Go.convert, Sem.run_bind, run_underlying ht, run_underlying he, run_underlying hu]
  rw [hc]
  by_cases hn : n = 0
  · subst hn
    have : xs = [] := List.length_eq_zero_iff.1 hl
    subst this
    cases A with
    | none => rfl
    | some a =>
      refine run_bytesToString w a 0 cap [] ?_
      simp [loadCells, loadCellsFrom]
  · have hA := h.at_ (by omega)
    subst hA
    refine run_bytesToString w ⟨g, o, none⟩ n cap xs ?_
    have := run_loadCells_list (P := P) w ⟨g, o, none⟩ (ivals .u8 xs) (fun j v hj => by rw [addr_add]; exact h.cell j v hj)
    rw [ivals_length, hl] at this
    exact this
theorem run_addS {t : TypeId} {x y : Operand} {a b : ByteArray} (h : ((a.size + b.size : Nat) : Int) ≤ 9223372036854775807) (w : World) : (bopS .add t x y (.string a) (.string b)).run P w = .ok (.string (a ++ b)) w := by
  have : ¬ ((a.size + b.size : Nat) : Int) > IntKind.i64.max := by
    have e : IntKind.i64.max = 9223372036854775807 := by decide
    rw [e]; omega
  simp only [bopS, eqGuard, binOp, Op.stringOp, Sem.run_bind, Result.andThen_ok, this, if_false]
  rfl
theorem run_eqlS {t : TypeId} {x y : Operand} {a b : ByteArray} (w : World) : (bopS .eql t x y (.string a) (.string b)).run P w = .ok (.bool (a.toList == b.toList)) w := by
  simp [bopS, eqGuard, binOp, Op.stringOp, Sem.run_bind]
theorem run_neqS {t : TypeId} {x y : Operand} {a b : ByteArray} (w : World) : (bopS .neq t x y (.string a) (.string b)).run P w = .ok (.bool (!(a.toList == b.toList))) w := by
  simp [bopS, eqGuard, binOp, Op.stringOp, Sem.run_bind]
theorem run_lenS {t ty : TypeId} {ts : Array TypeId} {a : ByteArray} (hts : ts[0]? = some t) (ht : P.underlying t = some .string) (w : World) : (Builtin.len_ ts ty #[.string a]).run P w = .ok (.int .i64 (a.size : Int)) w := by
  simp [Builtin.len_, hts, Sem.run_bind, run_underlying ht, goInt]
theorem run_addB {t : TypeId} {x y : Operand} {xs ys : List Int} (h : xs.length + ys.length ≤ 9223372036854775807) (w : World) : (bopS .add t x y (.string (bsA xs)) (.string (bsA ys))).run P w = .ok (.string (bsA (xs ++ ys))) w := by
  rw [run_addS (by rw [bsA_size, bsA_size]; omega), bsA_append]
def bsEq (xs ys : List Int) : Bool := (bsA xs).toList == (bsA ys).toList
theorem bsEq_self (xs : List Int) : bsEq xs xs = true := by unfold bsEq; exact beq_self_eq_true _
theorem run_eqlB {t : TypeId} {x y : Operand} {xs ys : List Int} (w : World) : (bopS .eql t x y (.string (bsA xs)) (.string (bsA ys))).run P w = .ok (.bool (bsEq xs ys)) w := run_eqlS w
theorem run_neqB {t : TypeId} {x y : Operand} {xs ys : List Int} (w : World) : (bopS .neq t x y (.string (bsA xs)) (.string (bsA ys))).run P w = .ok (.bool (!bsEq xs ys)) w := run_neqS w
theorem run_lenB {t ty : TypeId} {ts : Array TypeId} {xs : List Int} (hts : ts[0]? = some t) (ht : P.underlying t = some .string) (w : World) : (Builtin.len_ ts ty #[.string (bsA xs)]).run P w = .ok (.int .i64 (xs.length : Int)) w := by
  rw [run_lenS hts ht, bsA_size]
end
end Go.Proofs.Ytommojgfkkoghaa
