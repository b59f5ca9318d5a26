/- slices.Sort and slices.Compact of whole numbers, as they turn a row of the table. Over the library's contracts, laid at this program. -/
import Derived.Test.YtlfahohbkgdabaaSh
import Derived.Test.YtlfahohbkgdabaaRr
set_option linter.unusedVariables false
set_option linter.unusedSimpArgs false
namespace Go.Proofs.Ytlfahohbkgdabaa
open Go Go.RowKit Go.Sort

theorem heap_putRow {enc : Int → Value} {w : World} {g : Nat} {ys : Array Int} {k : Nat} (h : k ≠ g) : (putRow enc w g 0 ys).heap[k]? = w.heap[k]? := by
  simp only [putRow, mapBlock, Array.getElem?_modify, if_neg (Ne.symm h)]
theorem heap_putRow_same {enc : Int → Value} {w : World} {g : Nat} {ys : Array Int} {cur : Array Value} {e : TypeId} {fr : Nat × Nat} (h : w.heap[g]? = some (.cells cur e fr)) : (putRow enc w g 0 ys).heap[g]? = some (.cells (putCells enc 0 ys cur) e fr) := by
  simp only [putRow, mapBlock, Array.getElem?_modify, if_true, h, Option.map_some, onCells]
/-- A row's numbers, written over. -/
theorem Tab.putRow {w0 w : World} {T : List Ent} (hT : Tab w0 w T) {i g n cap e q : Nat} {xs ys : List Int} {own : Bool} (os : Array Obj) (h : T[i]? = some (.gen (rowE (some ⟨g, 0, none⟩) g n cap e 1 (ivals .i64 xs) own))) (hy : ys.length = n) :
    Tab w0 (grow (Go.Sort.putRow (Value.int .i64) (Sort.ahead w q) g 0 ys.toArray) os) (T.set i (.gen (rowE (some ⟨g, 0, none⟩) g n cap e 1 (ivals .i64 ys) own))) := by
  have hrow : Row w (some ⟨g, 0, none⟩) g n cap e 1 (ivals .i64 xs) := hT.ok i _ h
  rcases hrow.own.2 with ⟨h1, _⟩ | ⟨g', cap', cur, hv, _, hh, hle, hcm, hcs, htk⟩
  · cases h1
  cases hv
  have hlt : g < w.heap.size := (Array.getElem?_eq_some_iff.1 hh).1
  refine hT.replace (e := .gen (rowE (some ⟨g, 0, none⟩) g n cap e 1 (ivals .i64 xs) own)) (e' := .gen (rowE (some ⟨g, 0, none⟩) g n cap e 1 (ivals .i64 ys) own)) h rfl rfl id (fun k hk => .inl hk) (fun k _ hk _ => hk) rfl rfl rfl (by simp) (fun k hk hne => ?_) ?_
  · rw [heap_grow_old _ _ (by simpa using hk), heap_putRow (fun hk' => hne ⟨hk', by simp⟩)]; rfl
  · refine ⟨⟨by rw [ivals_length]; omega, .inr ⟨g, cap, _, rfl, Nat.zero_le _, (heap_grow_old _ _ (by simpa using hlt)).trans (heap_putRow_same (w := Sort.ahead w q) hh), hle, hcm, by simpa [putCells] using hcs, ?_⟩⟩, fun _ => rfl, fun a ha => by cases ha; rfl⟩
    apply List.ext_getElem?
    intro j
    rw [List.getElem?_take]
    by_cases hj : j < n * 1
    · have hjn : j < n := by omega
      have hjc : j < cur.size := by omega
      rw [if_pos hj]
      simp only [putCells, Array.getElem?_toList, Array.getElem?_mapIdx, Array.getElem?_eq_getElem hjc, Option.map_some]
      rw [if_pos (by simp; omega), Nat.sub_zero, arr_get]
      exact (ivals_get (by omega)).symm
    · rw [if_neg hj]
      exact (List.getElem?_eq_none (by rw [ivals_length]; omega)).symm
theorem Row.holds {w : World} {g n cap : Nat} {e : TypeId} {xs : List Int} (h : Row w (some ⟨g, 0, none⟩) g n cap e 1 (ivals .i64 xs)) : Holds (Value.int .i64) w g 0 xs.toArray := by
  intro j hj
  have hjl : j < xs.length := by simpa using hj
  have hn : 0 < n := by have := h.facts; omega
  rw [Nat.zero_add, arr_get]
  exact ⟨h.cell j _ (ivals_get hjl), h.free hn j⟩
theorem sortRow (A : Option Addr) (g n cap : Nat) (xs : List Int) (w : World) (hT : Tab w w [.gen (rowE A g n cap 3 1 (ivals .i64 xs) false)]) (hbig : n ≤ 1000000000) :
    Calls Try.prog 116 #[.slice A n cap] w fun e w' => e = .returned (.tuple #[]) ∧ Tab w w' [.gen (rowE A g n cap 3 1 (ivals .i64 (sortL xs)) false)] := by
  have hrow : Row w A g n cap 3 1 (ivals .i64 xs) := hT.ok 0 _ rfl
  obtain ⟨f1, f2, f3, f4⟩ := hrow.facts
  by_cases hn : n = 0
  · subst hn
    refine (Try.slices_Sort_int_none A cap w).mono ?_
    rintro e w' ⟨he, rfl⟩
    have : xs = [] := List.length_eq_zero_iff.1 f2
    subst this
    rw [show sortL [] = [] by simp [sortL]]
    exact ⟨he, hT⟩
  · have hA := f1 (by omega)
    subst hA
    have hb : g < w.heap.size := (rowE (some ⟨g, 0, none⟩) g n cap 3 1 (ivals .i64 xs) false).inb w g hrow ⟨rfl, by simp⟩
    have hs := Try.slices_Sort_int g 0 cap xs w hrow.holds hb (by omega)
    rw [f2] at hs
    refine hs.mono ?_
    rintro e w' ⟨he, q, os, rfl⟩
    refine ⟨he, ?_⟩
    have := hT.putRow (i := 0) (q := q) (ys := sortL xs) os rfl (by rw [sortL_length]; exact f2)
    exact this
theorem compactRow (A : Option Addr) (g n cap : Nat) (xs : List Int) (w : World) (hT : Tab w w [.gen (rowE A g n cap 3 1 (ivals .i64 xs) false)]) :
    Calls Try.prog 117 #[.slice A n cap] w fun e w' => e = .returned (.slice A (Lib.compact xs).length cap) ∧ Tab w w' [.gen (rowE A g (Lib.compact xs).length cap 3 1 (ivals .i64 (Lib.compact xs)) false)] := by
  have hrow : Row w A g n cap 3 1 (ivals .i64 xs) := hT.ok 0 _ rfl
  obtain ⟨f1, f2, f3, f4⟩ := hrow.facts
  have hcl := compact_length xs
  by_cases hn : n = 0
  · subst hn
    refine (Try.slices_Compact_int_empty A cap w).mono ?_
    rintro e w' ⟨he, rfl⟩
    have : xs = [] := List.length_eq_zero_iff.1 f2
    subst this
    exact ⟨he, hT⟩
  · have hA := f1 (by omega)
    subst hA
    have hb : g < w.heap.size := (rowE (some ⟨g, 0, none⟩) g n cap 3 1 (ivals .i64 xs) false).inb w g hrow ⟨rfl, by simp⟩
    have hs := Try.slices_Compact_int g 0 cap xs w hrow.holds (by unfold maxLen at f4; omega) (by omega)
    rw [f2] at hs
    refine hs.mono ?_
    rintro e w' ⟨he, q, rfl⟩
    refine ⟨he, ?_⟩
    have h1 := hT.putRow (i := 0) (q := q) (ys := Lib.compact xs ++ List.replicate (n - (Lib.compact xs).length) 0) #[] rfl (by rw [List.length_append, List.length_replicate]; omega)
    rw [grow_empty] at h1
    have h2 := h1.shrink (i := 0) rfl (k := (Lib.compact xs).length) (by omega) (vals' := ivals .i64 (Lib.compact xs)) (by rw [ivals_take, List.take_left'] ; rfl)
    exact h2
end Go.Proofs.Ytlfahohbkgdabaa
