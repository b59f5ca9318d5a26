/- From a law's arguments to plain words: slices of rectangles. -/
import Derived.Test.YtlfahohbkgdabaaPcRow
import Derived.Test.YtlfahohbkgdabaaPcRr
import Derived.Deep.Slices
set_option linter.unusedVariables false
set_option linter.unusedSimpArgs false
namespace Go.Proofs.Ytlfahohbkgdabaa
open Go Go.ChangeShapes Go.WideShapes Go.ChangeAt Go.RowKit Go.Deep

structure R64 (r : Rect) : Prop where
  x0 : -9223372036854775808 ≤ r.x0 ∧ r.x0 ≤ 9223372036854775807
  y0 : -9223372036854775808 ≤ r.y0 ∧ r.y0 ≤ 9223372036854775807
  x1 : -9223372036854775808 ≤ r.x1 ∧ r.x1 ≤ 9223372036854775807
  y1 : -9223372036854775808 ≤ r.y1 ∧ r.y1 ≤ 9223372036854775807
theorem open_rectC {H : Type} {enc : TypeId × Value → H} {P : Program} {W : World} {t ti : TypeId} {f0 f1 f2 f3 : Field} {cs : List Value} {n : Nat} {x : DataW H × List MemPlace} (hs : P.underlying t = some (.struct #[f0, f1, f2, f3])) (h0 : f0.type = ti) (h1 : f1.type = ti) (h2 : f2.type = ti) (h3 : f3.type = ti)
    (o0 : f0.offset = 0) (o1 : f1.offset = 1) (o2 : f2.offset = 2) (o3 : f3.offset = 3) (hi : P.underlying ti = some (.int .i64)) (hci : P.cellsOf ti = 1) (hl : cs.length = 4) (h : DataW.trod enc P W 0 (fun _ => true) true n t cs = some x) : ∃ r : Rect, cs = rcells r ∧ R64 r := by
  match cs, hl with
  | [c0, c1, c2, c3], _ =>
    obtain ⟨n0, y0, g0⟩ := trod_sub hs h (i := 0) (f := f0) rfl h0 (cs' := [c0]) (by rw [o0, h0, hci]; rfl)
    obtain ⟨n1, y1, g1⟩ := trod_sub hs h (i := 1) (f := f1) rfl h1 (cs' := [c1]) (by rw [o1, h1, hci]; rfl)
    obtain ⟨n2, y2, g2⟩ := trod_sub hs h (i := 2) (f := f2) rfl h2 (cs' := [c2]) (by rw [o2, h2, hci]; rfl)
    obtain ⟨n3, y3, g3⟩ := trod_sub hs h (i := 3) (f := f3) rfl h3 (cs' := [c3]) (by rw [o3, h3, hci]; rfl)
    obtain ⟨a0, rfl, w0⟩ := open_intC hi g0
    obtain ⟨a1, rfl, w1⟩ := open_intC hi g1
    obtain ⟨a2, rfl, w2⟩ := open_intC hi g2
    obtain ⟨a3, rfl, w3⟩ := open_intC hi g3
    exact ⟨⟨a0, a1, a2, a3⟩, rfl, ⟨wf64 w0, wf64 w1, wf64 w2, wf64 w3⟩⟩
theorem rget_map {F : Nat → Rect} {n i : Nat} (h : i < n) : rget ((List.range n).map F) i = F i := by
  simp [rget, List.getD_eq_getElem?_getD, h]
/-- A slice of rectangles that came in. -/
theorem open_rectsC {H : Type} {enc : TypeId × Value → H} {P : Program} {W : World} {ts t ti : TypeId} {f0 f1 f2 f3 : Field} {c : Value} {n : Nat} {x : DataW H × List MemPlace} (ht : P.underlying ts = some (.slice t)) (hs : P.underlying t = some (.struct #[f0, f1, f2, f3])) (h0 : f0.type = ti) (h1 : f1.type = ti) (h2 : f2.type = ti) (h3 : f3.type = ti)
    (o0 : f0.offset = 0) (o1 : f1.offset = 1) (o2 : f2.offset = 2) (o3 : f3.offset = 3) (hi : P.underlying ti = some (.int .i64)) (hci : P.cellsOf ti = 1) (hct : P.cellsOf t = 4) (h : DataW.trod enc P W 0 (fun _ => true) true n ts [c] = some x) :
    ∃ (A : Option Addr) (g o n cap : Nat) (xs : List Rect), c = .slice A n cap ∧ Rd W A g o n 4 (rvals xs) ∧ xs.length = n ∧ n ≤ cap ∧ cap ≤ maxLen ∧ (∀ r ∈ xs, R64 r) := by
  rcases open_slice ht h with ⟨e, _⟩ | ⟨a, len, cap, m, k, D, Pl, e, _, hle, hm, hmm, _, hx⟩
  · simp only [List.cons.injEq, and_true] at e
    exact ⟨none, 0, 0, 0, 0, [], e, ⟨rfl, fun h => by omega, fun j v hj => by simp [rvals] at hj⟩, rfl, Nat.le_refl _, by unfold maxLen; omega, fun x hx => by cases hx⟩
  · simp only [List.cons.injEq, and_true] at e
    simp only [if_true] at hmm
    have each : ∀ i, i < len → ∃ r : Rect, (∀ j v, (rcells r)[j]? = some v → W.cell? ((a.add (i * 4)).add j) = some v) ∧ R64 r := by
      intro i hil
      obtain ⟨cs', g1, g2⟩ := hx i (by omega)
      rw [hct] at g1
      obtain ⟨_, hlen, hcell⟩ := World.cells?_some g1
      obtain ⟨r, rfl, hr⟩ := open_rectC hs h0 h1 h2 h3 o0 o1 o2 o3 hi hci (by simpa using hlen) g2
      refine ⟨r, fun j v hj => ?_, hr⟩
      have hjl := (List.getElem?_eq_some_iff.1 hj).1
      have := hcell j (by simpa [rcells] using hjl)
      rw [this]
      simpa using hj
    have hF : ∃ F : Nat → Rect, ∀ i, i < len → (∀ j v, (rcells (F i))[j]? = some v → W.cell? ((a.add (i * 4)).add j) = some v) ∧ R64 (F i) :=
      ⟨fun i => if h : i < len then Classical.choose (each i h) else ⟨0, 0, 0, 0⟩, fun i h => by simp only [dif_pos h]; exact Classical.choose_spec (each i h)⟩
    obtain ⟨F, hF⟩ := hF
    have hsp : 0 < len → a.spot = none := fun hp => by
      have := (hF 0 hp).1 0 _ rfl
      have z : (a.add (0 * 4)).add 0 = a := by simp [Addr.add]
      rw [z] at this
      exact spot_of_cell this
    refine ⟨some a, a.block, a.off, len, cap, (List.range len).map F, e, ⟨by rw [rvals_length]; simp, fun hp => ?_, fun j v hj => ?_⟩, by simp, hle, hm, fun r hr => ?_⟩
    · have := hsp hp
      cases a with
      | mk b o s => simp only at this; subst this; rfl
    · have hjl := (List.getElem?_eq_some_iff.1 hj).1
      rw [rvals_length, List.length_map, List.length_range] at hjl
      have hq : j / 4 < len := by omega
      have hk := List.getElem?_eq_getElem (l := rcells (F (j / 4))) (i := j % 4) (by simp [rcells]; omega)
      have h2 := rvals_get (l := (List.range len).map F) (i := j / 4) (k := j % 4) (by simpa using hq) (by rw [rget_map hq]; exact hk)
      rw [show j / 4 * 4 + j % 4 = j by omega, hj] at h2
      have h3 := (hF _ hq).1 (j % 4) v (by rw [hk]; exact h2.symm)
      have hs2 := hsp (by omega)
      rw [addr_split hs2, addr_split rfl] at h3
      simp only at h3
      rw [show a.off + j / 4 * 4 + j % 4 = a.off + j by omega] at h3
      exact h3
    · obtain ⟨i, hi, rfl⟩ := List.mem_map.1 hr
      exact (hF i (List.mem_range.1 hi)).2
end Go.Proofs.Ytlfahohbkgdabaa

