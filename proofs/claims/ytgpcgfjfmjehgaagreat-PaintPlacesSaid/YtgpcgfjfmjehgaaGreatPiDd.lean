/- Lists of structs that hold slices: how they are read, how a law's argument of that kind opens. -/
import Derived.Test.YtgpcgfjfmjehgaaGreatPiRowR
set_option linter.unusedVariables false
set_option linter.unusedSimpArgs false
namespace Go.Proofs.YtgpcgfjfmjehgaaGreat
open Go Go.ChangeShapes Go.WideShapes Go.ChangeAt Go.RowKit Go.Deep
variable {dfs : List Deferred}
/-! ### The cells of a list of structs -/
section
end
/-! ### What lies behind the slices of each -/
theorem Vw.rdHeadA {A : Option Addr} {g o n : Nat} {l : List Rect} {m : Nat} (hm : m ≤ n) : Vw (.gen (rdE A g o n 4 (rvals l))) (.gen (rdE A g o m 4 (rvals (l.take m)))) :=
  ⟨fun w h => by
    have h : Rd w A g o n 4 (rvals l) := h
    have hl := h.factsR.2
    exact ⟨by rw [rvals_length, List.length_take]; congr 1; omega, fun hp => h.at_ (by omega), fun j v hj => h.cell j v (by
      have := rvals_part (l := l) (J := 0) (m := m) (by omega) j v (by rw [List.drop_zero]; exact hj)
      rwa [Nat.zero_mul, Nat.zero_add] at this)⟩, fun w h k' hk => by
    obtain ⟨h1, h2⟩ := hk
    exact ⟨h1, fun hx => h2 (by
      have hn := rvals_nil.1 hx
      subst hn; simp [rvals])⟩, id, rfl⟩
theorem run_sliceHiA {P : Program} {t e : TypeId} {A : Option Addr} {n cap sz : Nat} {kh : IntKind} {h : Int} (hn : Nat) (hu : P.underlying t = some (.slice e)) (hi : (P.info? e).map (·.size) = some sz) (h0 : 0 ≤ h) (h2 : h ≤ (cap : Int)) (hh : h.toNat = hn) (w : World) :
    (Instr.sliceAt t (.slice A n cap) none (some (.int kh h)) none).run P w = .ok (.slice A hn cap) w := by
  subst hh
  obtain ⟨i, hi1, hi2⟩ := Option.map_eq_some_iff.1 hi
  cases A with
  | none =>
    simp only [Instr.sliceAt, Instr.slice, Instr.sliceBounds, Instr.sliceBound, asIntOf]
    simp [Sem.run_bind, run_underlying hu, h0, h2, sizeOf, typeInfo, hi1, hi2]
  | some a =>
    have ha : a.add 0 = a := by cases a; unfold Addr.add; split <;> simp_all
    simp only [Instr.sliceAt, Instr.slice, Instr.sliceBounds, Instr.sliceBound, asIntOf]
    simp [Sem.run_bind, run_underlying hu, h0, h2, sizeOf, typeInfo, hi1, hi2, ha]
end Go.Proofs.YtgpcgfjfmjehgaaGreat

