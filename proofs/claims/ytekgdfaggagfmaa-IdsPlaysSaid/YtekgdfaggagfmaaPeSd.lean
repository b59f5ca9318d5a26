/- The symbolic executor, fourth part: slices. A row that the call owns and writes; a row that is only read. Generic in the program. -/
import Derived.Test.YtekgdfaggagfmaaPeSz
import Derived.Laws.OwnMore
import Derived.Laws.IdiomCopy
set_option linter.unusedVariables false
set_option linter.unusedSimpArgs false
namespace Go.Proofs.Ytekgdfaggagfmaa
open Go Go.RowKit
variable {dfs : List Deferred}

/-! ### Rows that are read -/
/-- The slice A of n elements of sz cells reads as these values; where it has elements it lies at block g from o on. -/
structure Rd (w : World) (A : Option Addr) (g o n sz : Nat) (vals : List Value) : Prop where
  len : vals.length = n * sz
  at_ : 0 < n → A = some ⟨g, o, none⟩
  cell : ∀ j v, vals[j]? = some v → w.cell? ⟨g, o + j, none⟩ = some v

theorem Rd.lt {w : World} {A : Option Addr} {g o n sz : Nat} {vals : List Value} (h : Rd w A g o n sz vals) (hv : vals ≠ []) : g < w.heap.size := by
  cases vals with
  | nil => exact absurd rfl hv
  | cons v r => exact block_lt_of_cell (h.cell 0 v (by simp))

theorem Rd.stable {w w' : World} {A : Option Addr} {g o n sz : Nat} {vals : List Value} (h : Rd w A g o n sz vals) (hb : vals ≠ [] → w'.heap[g]? = w.heap[g]?) : Rd w' A g o n sz vals :=
  ⟨h.len, h.at_, fun j v hj => by
    have hne : vals ≠ [] := fun e => by subst e; simp at hj
    rw [World.cell?_of_block (w := w) (hb hne)]; exact h.cell j v hj⟩

def rdE (A : Option Addr) (g o n sz : Nat) (vals : List Value) : GenEnt :=
  { blk := fun k => k = g ∧ vals ≠ [], wr := false, own := false, ok := fun w => Rd w A g o n sz vals,
    stable := fun w w' hb h => h.stable (fun hne => hb g ⟨rfl, hne⟩),
    inb := fun w b h hb => by rw [hb.1]; exact h.lt hb.2 }

/-! ### Rows that are written -/
structure Row (w : World) (A : Option Addr) (g n cap : Nat) (e : TypeId) (sz : Nat) (vals : List Value) : Prop where
  own : w.ownsRow 0 e sz (.slice A n cap) n vals
  at_ : 0 < n → A = some ⟨g, 0, none⟩
  spot : ∀ a, A = some a → a = ⟨g, 0, none⟩

def rowE (A : Option Addr) (g n cap : Nat) (e : TypeId) (sz : Nat) (vals : List Value) (own : Bool) : GenEnt :=
  { blk := fun k => k = g ∧ A ≠ none, wr := true, own := own, ok := fun w => Row w A g n cap e sz vals,
    stable := fun w w' hb h => by
      refine ⟨?_, h.at_, h.spot⟩
      obtain ⟨h1, h2⟩ := h.own
      refine ⟨h1, ?_⟩
      rcases h2 with h2 | ⟨g', cap', cur, hv, hg, hh, r⟩
      · exact .inl h2
      · refine .inr ⟨g', cap', cur, hv, hg, ?_, r⟩
        simp only [Value.slice.injEq] at hv
        obtain ⟨rfl, _, rfl⟩ := hv
        have := h.spot _ rfl
        simp only [Addr.mk.injEq, and_true] at this
        subst this
        rw [hb _ ⟨rfl, by simp⟩]; exact hh
    inb := fun w b h hb => by
      obtain ⟨rfl, hne⟩ := hb
      obtain ⟨h1, h2⟩ := h.own
      rcases h2 with ⟨h2, _⟩ | ⟨g', cap', cur, hv, hg, hh, r⟩
      · simp only [Value.slice.injEq] at h2; exact absurd h2.1 hne
      · simp only [Value.slice.injEq] at hv
        obtain ⟨rfl, _, rfl⟩ := hv
        have := h.spot _ rfl
        simp only [Addr.mk.injEq, and_true] at this
        subst this
        exact (Array.getElem?_eq_some_iff.1 hh).1 }

theorem Row.rd {w : World} {A : Option Addr} {g n cap : Nat} {e : TypeId} {sz : Nat} {vals : List Value} (h : Row w A g n cap e sz vals) : Rd w A g 0 n sz vals := by
  refine ⟨h.own.1, h.at_, fun j v hj => ?_⟩
  have hj' : j < n * sz := by rw [← h.own.1]; exact (List.getElem?_eq_some_iff.1 hj).1
  have hn : 0 < n := Nat.pos_of_ne_zero (fun h0 => by subst h0; simp at hj')
  have hA := h.at_ hn
  have ho := h.own
  rw [hA] at ho
  rw [Nat.zero_add, ho.cellAt j hj', hj]
theorem Row.cell {w : World} {A : Option Addr} {g n cap : Nat} {e : TypeId} {sz : Nat} {vals : List Value} (h : Row w A g n cap e sz vals) (j : Nat) (v : Value) (hj : vals[j]? = some v) : w.cell? ⟨g, j, none⟩ = some v := by
  have := h.rd.cell j v hj
  rwa [Nat.zero_add] at this
theorem Row.free {w : World} {A : Option Addr} {g n cap : Nat} {e : TypeId} {sz : Nat} {vals : List Value} (h : Row w A g n cap e sz vals) (hn : 0 < n) (j : Nat) : w.frozen? ⟨g, j, none⟩ = false := by
  have ho := h.own
  rw [h.at_ hn] at ho
  exact ho.frozenAt j
theorem Row.capLe {w : World} {A : Option Addr} {g n cap : Nat} {e : TypeId} {sz : Nat} {vals : List Value} (h : Row w A g n cap e sz vals) : n ≤ cap := by
  rcases h.own.2 with ⟨h1, h2⟩ | ⟨g', cap', cur, hv, _, _, hle, _⟩
  · simp only [Value.slice.injEq] at h1; omega
  · simp only [Value.slice.injEq] at hv; omega
theorem Row.nil (w : World) (g : Nat) (e : TypeId) (sz : Nat) : Row w none g 0 0 e sz [] := ⟨World.ownsRow_nil w 0 e sz, fun h => by omega, fun a h => by cases h⟩
theorem Row.mono {w w' : World} {A : Option Addr} {g n cap : Nat} {e : TypeId} {sz : Nat} {vals : List Value} (h : Row w A g n cap e sz vals) (hb : Below w.heap.size w w') : Row w' A g n cap e sz vals :=
  (rowE A g n cap e sz vals true).stable w w' (fun b hbk => hb.block b ((rowE A g n cap e sz vals true).inb w b h hbk)) h

/-! ### Loads and stores at a place that is computed -/
def aggB (P : Program) (t : TypeId) : Option Bool := (P.underlying t).map fun
  | .struct _ => true
  | .array _ _ => true
  | _ => false
section
variable {P : Program}
theorem isAgg_run {t : TypeId} {b : Bool} (h : aggB P t = some b) (w : World) : (isAgg t).run P w = .ok b w := by
  unfold aggB at h
  cases hu : P.underlying t with
  | none => rw [hu] at h; simp at h
  | some d =>
    rw [hu] at h
    simp only [Option.map_some, Option.some.injEq] at h
    simp only [isAgg]
    rw [Sem.run_bind, run_underlying hu]
    simp only [Result.andThen_ok]
    cases d <;> simp_all
theorem run_load1 {t : TypeId} {p : Addr} {v : Value} (ha : aggB P t = some false) {w : World} (hc : w.cell? p = some v) : (Instr.loadAt t (.pointer (some p))).run P w = .ok v w := by
  have e : Instr.loadAt t (.pointer (some p)) = loadVar t p := rfl
  rw [e, loadVar, Sem.run_bind, isAgg_run ha w]
  simp [load, Sem.run, hc]
theorem run_loadN {t : TypeId} {g o m : Nat} {cs : List Value} (ha : aggB P t = some true) (hsz : (P.info? t).map (·.size) = some m) (hm : cs.length = m) {w : World} (hc : ∀ j v, cs[j]? = some v → w.cell? ⟨g, o + j, none⟩ = some v) :
    (Instr.loadAt t (.pointer (some ⟨g, o, none⟩))).run P w = .ok (.agg cs.toArray) w := by
  subst hm
  obtain ⟨i, hi1, hi2⟩ := Option.map_eq_some_iff.1 hsz
  have e : Instr.loadAt t (.pointer (some ⟨g, o, none⟩)) = loadVar t ⟨g, o, none⟩ := rfl
  have hadd : ∀ j, (⟨g, o, none⟩ : Addr).add j = ⟨g, o + j, none⟩ := fun j => by unfold Addr.add; split <;> simp_all
  have hl := run_loadCells_list (P := P) (w := w) ⟨g, o, none⟩ cs (fun j v hj => by rw [hadd]; exact hc j v hj)
  rw [e, loadVar, Sem.run_bind, isAgg_run ha w]
  simp [Sem.run_bind, sizeOf, typeInfo, hi1, hi2, hl]
end

/-- Lists of numbers. -/
def ivals (k : IntKind) (xs : List Int) : List Value := xs.map (Value.int k)
theorem ivals_get {k : IntKind} {xs : List Int} {j : Nat} (h : j < xs.length) : (ivals k xs)[j]? = some (.int k (xs.getD j 0)) := by
  simp [ivals, List.getElem?_eq_getElem h]
theorem ivals_length {k : IntKind} {xs : List Int} : (ivals k xs).length = xs.length := by simp [ivals]
/-! ### Reslicing -/
def sliceA (g o l cap sz : Nat) : Option Addr := if cap = l then some ⟨g, o, none⟩ else some ⟨g, o + l * sz, none⟩
theorem sliceA_pos {g o l cap sz : Nat} (h : l < cap) : sliceA g o l cap sz = some ⟨g, o + l * sz, none⟩ := by unfold sliceA; rw [if_neg (by omega)]
/-! ### Loops of a known number of rounds -/
/-! ### Numbers -/
theorem ne_of_bne {x y : Int} (h : (x != y) = true) : x ≠ y := by simpa using h
theorem eq_of_bne_false {x y : Int} (h : (x != y) = false) : x = y := by simpa using h
theorem ne_of_beqf {x y : Int} (h : (x == y) = false) : x ≠ y := by simpa using h
theorem eq_of_beqt {x y : Int} (h : (x == y) = true) : x = y := by simpa using h

/-! ### Operations by a law of their own -/
/-! ### make -/
/-! ### A number written into a row -/
/-- A row's list, said otherwise. -/
theorem cont_rowEq {K : Act → World → Prop} {n' : Nat} {w0 : World} {L : List (Nat × Value)} {T : List Ent} (i : Nat) {A : Option Addr} {g n cap : Nat} {e : TypeId} {k : IntKind} (xs ys : List Int) {own : Bool} (hi : T[i]? = some (.gen (rowE A g n cap e 1 (ivals k xs) own))) (hxy : xs = ys)
    (h : Cont dfs K n' w0 L (T.set i (.gen (rowE A g n cap e 1 (ivals k ys) own)))) : Cont dfs K n' w0 L T := by
  subst hxy
  have : T.set i (.gen (rowE A g n cap e 1 (ivals k xs) own)) = T := by
    obtain ⟨hlt, he⟩ := List.getElem?_eq_some_iff.1 hi
    rw [← he]
    exact List.set_getElem_self hlt
  rwa [this] at h

end Go.Proofs.Ytekgdfaggagfmaa

