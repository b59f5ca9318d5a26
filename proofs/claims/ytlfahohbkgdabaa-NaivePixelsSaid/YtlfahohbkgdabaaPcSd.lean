/- The symbolic executor, fourth part: slices. A row that the call owns and writes; a row that is only read. Generic in the program. -/
import Derived.Test.YtlfahohbkgdabaaPcSz
import Derived.Laws.OwnMore
import Derived.Laws.IdiomCopy
set_option linter.unusedVariables false
set_option linter.unusedSimpArgs false
namespace Go.Proofs.Ytlfahohbkgdabaa
open Go Go.RowKit
variable {dfs : List Deferred}

/-! ### Rows that are read -/
/-- The slice A of n elements of sz cells reads as these values; where it has elements it lies at block g from o on. -/
structure Rd (w : World) (A : Option Addr) (g o n sz : Nat) (vals : List Value) : Prop where
  len : vals.length = n * sz
  at_ : 0 < n → A = some ⟨g, o, none⟩
  cell : ∀ j v, vals[j]? = some v → w.cell? ⟨g, o + j, none⟩ = some v

theorem Rd.cell0 {w : World} {A : Option Addr} {g n sz : Nat} {vals : List Value} (h : Rd w A g 0 n sz vals) (j : Nat) (v : Value) (hj : vals[j]? = some v) : w.cell? ⟨g, j, none⟩ = some v := by
  have := h.cell j v hj
  rwa [Nat.zero_add] at this
theorem Rd.lt {w : World} {A : Option Addr} {g o n sz : Nat} {vals : List Value} (h : Rd w A g o n sz vals) (hv : vals ≠ []) : g < w.heap.size := by
  cases vals with
  | nil => exact absurd rfl hv
  | cons v r => exact block_lt_of_cell (h.cell 0 v (by simp))

theorem Rd.stable {w w' : World} {A : Option Addr} {g o n sz : Nat} {vals : List Value} (h : Rd w A g o n sz vals) (hb : vals ≠ [] → w'.heap[g]? = w.heap[g]?) : Rd w' A g o n sz vals :=
  ⟨h.len, h.at_, fun j v hj => by
    have hne : vals ≠ [] := fun e => by subst e; simp at hj
    rw [World.cell?_of_block (w := w) (hb hne)]; exact h.cell j v hj⟩

def rdE (A : Option Addr) (g o n sz : Nat) (vals : List Value) : GenEnt :=
  { blk := fun k => k = g ∧ vals ≠ [], wr := false, own := false, ok := fun w => Rd w A g o n sz vals,
    stable := fun w w' hb h => h.stable (fun hne => hb g ⟨rfl, hne⟩),
    inb := fun w b h hb => by rw [hb.1]; exact h.lt hb.2 }

/-! ### Rows that are written -/
structure Row (w : World) (A : Option Addr) (g n cap : Nat) (e : TypeId) (sz : Nat) (vals : List Value) : Prop where
  own : w.ownsRow 0 e sz (.slice A n cap) n vals
  at_ : 0 < n → A = some ⟨g, 0, none⟩
  spot : ∀ a, A = some a → a = ⟨g, 0, none⟩

def rowE (A : Option Addr) (g n cap : Nat) (e : TypeId) (sz : Nat) (vals : List Value) (own : Bool) : GenEnt :=
  { blk := fun k => k = g ∧ A ≠ none, wr := true, own := own, ok := fun w => Row w A g n cap e sz vals,
    stable := fun w w' hb h => by
      refine ⟨?_, h.at_, h.spot⟩
      obtain ⟨h1, h2⟩ := h.own
      refine ⟨h1, ?_⟩
      rcases h2 with h2 | ⟨g', cap', cur, hv, hg, hh, r⟩
      · exact .inl h2
      · refine .inr ⟨g', cap', cur, hv, hg, ?_, r⟩
        simp only [Value.slice.injEq] at hv
        obtain ⟨rfl, _, rfl⟩ := hv
        have := h.spot _ rfl
        simp only [Addr.mk.injEq, and_true] at this
        subst this
        rw [hb _ ⟨rfl, by simp⟩]; exact hh
    inb := fun w b h hb => by
      obtain ⟨rfl, hne⟩ := hb
      obtain ⟨h1, h2⟩ := h.own
      rcases h2 with ⟨h2, _⟩ | ⟨g', cap', cur, hv, hg, hh, r⟩
      · simp only [Value.slice.injEq] at h2; exact absurd h2.1 hne
      · simp only [Value.slice.injEq] at hv
        obtain ⟨rfl, _, rfl⟩ := hv
        have := h.spot _ rfl
        simp only [Addr.mk.injEq, and_true] at this
        subst this
        exact (Array.getElem?_eq_some_iff.1 hh).1 }

theorem Row.rd {w : World} {A : Option Addr} {g n cap : Nat} {e : TypeId} {sz : Nat} {vals : List Value} (h : Row w A g n cap e sz vals) : Rd w A g 0 n sz vals := by
  refine ⟨h.own.1, h.at_, fun j v hj => ?_⟩
  have hj' : j < n * sz := by rw [← h.own.1]; exact (List.getElem?_eq_some_iff.1 hj).1
  have hn : 0 < n := Nat.pos_of_ne_zero (fun h0 => by subst h0; simp at hj')
  have hA := h.at_ hn
  have ho := h.own
  rw [hA] at ho
  rw [Nat.zero_add, ho.cellAt j hj', hj]
theorem Row.cell {w : World} {A : Option Addr} {g n cap : Nat} {e : TypeId} {sz : Nat} {vals : List Value} (h : Row w A g n cap e sz vals) (j : Nat) (v : Value) (hj : vals[j]? = some v) : w.cell? ⟨g, j, none⟩ = some v := by
  have := h.rd.cell j v hj
  rwa [Nat.zero_add] at this
theorem Row.free {w : World} {A : Option Addr} {g n cap : Nat} {e : TypeId} {sz : Nat} {vals : List Value} (h : Row w A g n cap e sz vals) (hn : 0 < n) (j : Nat) : w.frozen? ⟨g, j, none⟩ = false := by
  have ho := h.own
  rw [h.at_ hn] at ho
  exact ho.frozenAt j
theorem Row.capLe {w : World} {A : Option Addr} {g n cap : Nat} {e : TypeId} {sz : Nat} {vals : List Value} (h : Row w A g n cap e sz vals) : n ≤ cap := by
  rcases h.own.2 with ⟨h1, h2⟩ | ⟨g', cap', cur, hv, _, _, hle, _⟩
  · simp only [Value.slice.injEq] at h1; omega
  · simp only [Value.slice.injEq] at hv; omega
theorem Row.nil (w : World) (g : Nat) (e : TypeId) (sz : Nat) : Row w none g 0 0 e sz [] := ⟨World.ownsRow_nil w 0 e sz, fun h => by omega, fun a h => by cases h⟩
theorem Row.mono {w w' : World} {A : Option Addr} {g n cap : Nat} {e : TypeId} {sz : Nat} {vals : List Value} (h : Row w A g n cap e sz vals) (hb : Below w.heap.size w w') : Row w' A g n cap e sz vals :=
  (rowE A g n cap e sz vals true).stable w w' (fun b hbk => hb.block b ((rowE A g n cap e sz vals true).inb w b h hbk)) h

/-- A fresh row that a call gives back is an entry of its own. -/
theorem Tab.addRow {w0 w w' : World} {T : List Ent} (hT : Tab w0 w T) (hb : Below w.heap.size w w') {A : Option Addr} {g n cap : Nat} {e : TypeId} {sz : Nat} {vals : List Value} (h : Row w' A g n cap e sz vals) (hg : A ≠ none → w.heap.size ≤ g) :
    Tab w0 w' (.gen (rowE A g n cap e sz vals true) :: T) :=
  hT.push (e := .gen (rowE A g n cap e sz vals true)) hb.os hb.tape hb.output hb.size (fun k hk => hb.block k hk) h (fun k hk => by rw [hk.1]; exact hg hk.2)

/-! ### Loads and stores at a place that is computed -/
def aggB (P : Program) (t : TypeId) : Option Bool := (P.underlying t).map fun
  | .struct _ => true
  | .array _ _ => true
  | _ => false
section
variable {P : Program}
theorem isAgg_run {t : TypeId} {b : Bool} (h : aggB P t = some b) (w : World) : (isAgg t).run P w = .ok b w := by
  unfold aggB at h
  cases hu : P.underlying t with
  | none => rw [hu] at h; simp at h
  | some d =>
    rw [hu] at h
    simp only [Option.map_some, Option.some.injEq] at h
    simp only [isAgg]
    rw [Sem.run_bind, run_underlying hu]
    simp only [Result.andThen_ok]
    cases d <;> simp_all
theorem run_load1 {t : TypeId} {p : Addr} {v : Value} (ha : aggB P t = some false) {w : World} (hc : w.cell? p = some v) : (Instr.loadAt t (.pointer (some p))).run P w = .ok v w := by
  have e : Instr.loadAt t (.pointer (some p)) = loadVar t p := rfl
  rw [e, loadVar, Sem.run_bind, isAgg_run ha w]
  simp [load, Sem.run, hc]
theorem run_loadN {t : TypeId} {g o m : Nat} {cs : List Value} (ha : aggB P t = some true) (hsz : (P.info? t).map (·.size) = some m) (hm : cs.length = m) {w : World} (hc : ∀ j v, cs[j]? = some v → w.cell? ⟨g, o + j, none⟩ = some v) :
    (Instr.loadAt t (.pointer (some ⟨g, o, none⟩))).run P w = .ok (.agg cs.toArray) w := by
  subst hm
  obtain ⟨i, hi1, hi2⟩ := Option.map_eq_some_iff.1 hsz
  have e : Instr.loadAt t (.pointer (some ⟨g, o, none⟩)) = loadVar t ⟨g, o, none⟩ := rfl
  have hadd : ∀ j, (⟨g, o, none⟩ : Addr).add j = ⟨g, o + j, none⟩ := fun j => by unfold Addr.add; split <;> simp_all
  have hl := run_loadCells_list (P := P) (w := w) ⟨g, o, none⟩ cs (fun j v hj => by rw [hadd]; exact hc j v hj)
  rw [e, loadVar, Sem.run_bind, isAgg_run ha w]
  simp [Sem.run_bind, sizeOf, typeInfo, hi1, hi2, hl]
theorem run_store1 {t : TypeId} {p : Addr} {u v : Value} (hsz : (P.info? t).map (·.size) = some 1) (hv : oneC v = true) {w : World} (hc : w.cell? p = some u) (hf : w.frozen? p = false) : (Instr.storeAt t (.pointer (some p)) v).run P w = .ok () (w.setCell p v) := by
  obtain ⟨i, hi1, hi2⟩ := Option.map_eq_some_iff.1 hsz
  have e : Instr.storeAt t (.pointer (some p)) v = storeVar t p v := rfl
  have hcs : v.cells = #[v] := by cases v <;> first | rfl | simp [oneC] at hv
  have hadd : p.add 0 = p := by simp [Addr.add]
  rw [e, storeVar]
  cases v <;> first | (simp [oneC] at hv; done) | simp [Sem.run_bind, sizeOf, typeInfo, hi1, hi2, hcs, storeCells, hadd, store, Sem.run, hc, hf]
end

theorem Tab.rowSet {w0 w : World} {T : List Ent} (hT : Tab w0 w T) {i g n cap e sz : Nat} {A : Option Addr} {vals : List Value} {own : Bool} (h : T[i]? = some (.gen (rowE A g n cap e sz vals own))) (hn : 0 < n) (j : Nat) (v : Value) :
    Tab w0 (w.setCell ⟨g, j, none⟩ v) (T.set i (.gen (rowE A g n cap e sz (vals.set j v) own))) := by
  have hrow : Row w A g n cap e sz vals := hT.ok i _ h
  have hA := hrow.at_ hn
  have ho := hrow.own
  rw [hA] at ho
  obtain ⟨hs, hgrow⟩ := ho.stored j v
  refine hT.replace (e := .gen (rowE A g n cap e sz vals own)) (e' := .gen (rowE A g n cap e sz (vals.set j v) own)) h rfl rfl id (fun k hk => .inl hk) (fun k _ hk _ => hk) rfl rfl rfl (by simp) (fun k hk hne => ?_) ?_
  · exact hgrow.block k hk (fun he => hne ⟨by simpa using he, by rw [hA]; simp⟩)
  · exact ⟨by rw [hA]; exact hs, hrow.at_, hrow.spot⟩

/-- Lists of numbers. -/
def ivals (k : IntKind) (xs : List Int) : List Value := xs.map (Value.int k)
theorem ivals_get {k : IntKind} {xs : List Int} {j : Nat} (h : j < xs.length) : (ivals k xs)[j]? = some (.int k (xs.getD j 0)) := by
  simp [ivals, List.getElem?_eq_getElem h]
theorem ivals_length {k : IntKind} {xs : List Int} : (ivals k xs).length = xs.length := by simp [ivals]
theorem ivals_set {k : IntKind} {xs : List Int} {j : Nat} {v : Int} : (ivals k xs).set j (.int k v) = ivals k (xs.set j v) := by simp [ivals]

/-! ### Reslicing -/
def sliceA (g o l cap sz : Nat) : Option Addr := if cap = l then some ⟨g, o, none⟩ else some ⟨g, o + l * sz, none⟩
theorem sliceA_pos {g o l cap sz : Nat} (h : l < cap) : sliceA g o l cap sz = some ⟨g, o + l * sz, none⟩ := by unfold sliceA; rw [if_neg (by omega)]
/-! ### Loops of a known number of rounds -/
theorem cont_rounds {P : Program} {Q : Exit → Act → World → Prop} {n : Nat} {w0 : World} {L : List (Nat × Value)} {T : List Ent} {c : Code} (k : Nat) (h : Cont dfs (Code.rounds P c Q k) n w0 L T) : Cont dfs ((Code.loop c).wp P Q) n w0 L T :=
  fun a w ha hf hT => wp_loop_rounds k (h a w ha hf hT)
theorem cont_round {P : Program} {Q : Exit → Act → World → Prop} {n : Nat} {w0 : World} {L : List (Nat × Value)} {T : List Ent} {c : Code} (k k' : Nat) (hk : k = k' + 1) (h : Cont dfs (c.wp P (Exit.then (Code.rounds P c Q k') Q)) n w0 L T) : Cont dfs (Code.rounds P c Q k) n w0 L T := by
  subst hk
  intro a w ha hf hT
  rw [rounds_succ]
  exact h a w ha hf hT

/-! ### Numbers -/
theorem fdivV {k : IntKind} {x m : Int} (hm : 0 ≤ m) : Value.int k (x.fdiv m) = .int k (x / m) := by rw [Int.fdiv_eq_ediv_of_nonneg _ hm]
theorem tdivI {x y : Int} (hx : 0 ≤ x) (hy : 1 ≤ y) (hm : x ≤ 9223372036854775807) : Value.int .i64 (IntKind.i64.wrap (x.tdiv y)) = .int .i64 (x / y) := by
  rw [Int.tdiv_eq_ediv_of_nonneg hx]
  have h0 : 0 ≤ x / y := Int.ediv_nonneg hx (by omega)
  have h1 : x / y ≤ x := Int.ediv_le_self _ hx
  rw [IntWalk.i64_in _ ⟨by omega, by omega⟩]
theorem tmodI {k : IntKind} {x y : Int} (hx : 0 ≤ x) : Value.int k (x.tmod y) = .int k (x % y) := by rw [Int.tmod_eq_emod_of_nonneg hx]
def bitAnd (n : Nat) (x y : Int) : Int := ((BitVec.ofInt n x &&& BitVec.ofInt n y).toNat : Int)
def bitOr (n : Nat) (x y : Int) : Int := ((BitVec.ofInt n x ||| BitVec.ofInt n y).toNat : Int)
theorem bitAnd255 {x : Int} (h0 : 0 ≤ x) (h1 : x < 4294967296) : bitAnd 32 x 255 = x % 256 := by
  obtain ⟨m, rfl⟩ := Int.eq_ofNat_of_zero_le h0
  unfold bitAnd
  have e1 : BitVec.ofInt 32 (m : Int) = BitVec.ofNat 32 m := by simp
  have e2 : BitVec.ofInt 32 255 = BitVec.ofNat 32 255 := by rfl
  rw [e1, e2, BitVec.toNat_and]
  have hm : m < 2 ^ 32 := by omega
  simp only [BitVec.toNat_ofNat]
  rw [Nat.mod_eq_of_lt hm]
  have : m &&& 255 % 2 ^ 32 = m % 256 := by
    have := Nat.and_two_pow_sub_one_eq_mod m 8
    simpa using this
  rw [this]
  omega
theorem bitAnd255V {x : Int} (h0 : 0 ≤ x) (h1 : x < 4294967296) : Value.int .u32 (IntKind.u32.wrap (bitAnd 32 x 255)) = .int .u32 (x % 256) := by
  rw [bitAnd255 h0 h1, IntWalk.u32_in _ ⟨by omega, by omega⟩]
theorem bitOr8V {x y : Int} (h0 : 0 ≤ x) (h1 : x < 16777216) (hy : 0 ≤ y) (hy1 : y < 256) : Value.int .u32 (IntKind.u32.wrap (bitOr 32 (x * 256) y)) = .int .u32 (x * 256 + y) := by
  obtain ⟨m, rfl⟩ := Int.eq_ofNat_of_zero_le h0
  obtain ⟨b, rfl⟩ := Int.eq_ofNat_of_zero_le hy
  unfold bitOr
  have e1 : BitVec.ofInt 32 ((m : Int) * 256) = BitVec.ofNat 32 (m * 256) := by
    have : ((m : Int) * 256) = ((m * 256 : Nat) : Int) := by omega
    rw [this, BitVec.ofInt_natCast]
  have e2 : BitVec.ofInt 32 (b : Int) = BitVec.ofNat 32 b := by simp
  rw [e1, e2, BitVec.toNat_or]
  simp only [BitVec.toNat_ofNat]
  rw [Nat.mod_eq_of_lt (by omega), Nat.mod_eq_of_lt (by omega)]
  have : m * 256 ||| b = m * 256 + b := by
    have h := Nat.two_pow_add_eq_or_of_lt (i := 8) (b := b) (by omega) m
    rw [show m * 256 = 2 ^ 8 * m by omega, ← h]
  rw [this, IntWalk.u32_in _ ⟨by omega, by omega⟩]
  congr 1
theorem bitOr0V {y : Int} (hy : 0 ≤ y) (hy1 : y < 256) : Value.int .u32 (IntKind.u32.wrap (bitOr 32 0 y)) = .int .u32 y := by
  have := bitOr8V (x := 0) (by omega) (by omega) hy hy1
  simpa using this
theorem ne_of_bne {x y : Int} (h : (x != y) = true) : x ≠ y := by simpa using h
theorem eq_of_bne_false {x y : Int} (h : (x != y) = false) : x = y := by simpa using h
theorem ne_of_beqf {x y : Int} (h : (x == y) = false) : x ≠ y := by simpa using h
theorem eq_of_beqt {x y : Int} (h : (x == y) = true) : x = y := by simpa using h

/-! ### Operations by a law of their own -/
def bopS (op : BinOp) (t : TypeId) (x y : Operand) (a b : Value) : Sem Value := do
  eqGuard op t x y a b
  binOp op t a b
theorem run_rem {P : Program} {k : IntKind} {t : TypeId} {x y : Operand} {a b : Int} (hb : b ≠ 0) (w : World) : (bopS .rem t x y (.int k a) (.int k b)).run P w = .ok (.int k (a.tmod b)) w := by
  simp [bopS, eqGuard, binOp, Op.intDiv, hb, Sem.run_bind]
theorem run_quo {P : Program} {k : IntKind} {t : TypeId} {x y : Operand} {a b : Int} (hb : b ≠ 0) (w : World) : (bopS .quo t x y (.int k a) (.int k b)).run P w = .ok (.int k (k.wrap (a.tdiv b))) w := by
  simp [bopS, eqGuard, binOp, Op.intDiv, hb, Sem.run_bind]
/-! ### make -/
theorem make_row {P : Program} {w0 w : World} {T : List Ent} (hT : Tab w0 w T) {t e : TypeId} {kl kc k : IntKind} {bytes : Nat} (n : Nat) (ht : P.underlying t = some (.slice e)) (hi : (P.info? e).map (fun i => (i.zero, i.size, i.bytes)) = some (some (.int k 0), 1, bytes)) (hb : bytes * n ≤ 281474976710656) (hn : n ≤ 9223372036854775807) :
    ∃ (x : Nat) (w' : World), (Instr.makeSlice t (.int kl (n : Int)) (.int kc (n : Int))).run P w = .ok (.slice (some ⟨x, 0, none⟩) n n) w' ∧ True ∧ Tab w0 w' (.gen (rowE (some ⟨x, 0, none⟩) x n n e 1 (ivals k (List.replicate n 0)) true) :: T) := by
  obtain ⟨i, hi1, hi2⟩ := Option.map_eq_some_iff.1 hi
  simp only [Prod.mk.injEq] at hi2
  obtain ⟨hz, hs, hby⟩ := hi2
  obtain ⟨w', hr, hown, hg⟩ := run_make_full (P := P) w 0 t e i (.int k 0) 1 ht hi1 hz hs kl kc n (by rw [hby]; exact hb) (by unfold maxLen; omega) (Nat.zero_le _)
  have hvals : (madeCells (Value.int k 0).cells (n * 1)).toList = ivals k (List.replicate n 0) := by
    have : (Value.int k 0).cells = #[.int k 0] := rfl
    rw [this, Nat.mul_one, toList_madeCells_one]
    simp [ivals]
  rw [hvals] at hown
  refine ⟨w.heap.size, w', hr, trivial, ?_⟩
  have hbel : Below w.heap.size w w' := ⟨hg.os, hg.tape, hg.output, hg.size, fun k hk => hg.block k hk (by simp)⟩
  exact hT.addRow hbel ⟨hown, fun _ => rfl, fun a ha => by simpa using ha.symm⟩ (fun _ => Nat.le_refl _)

/-! ### A number written into a row -/
theorem store_row {P : Program} {w0 w : World} {T : List Ent} (hT : Tab w0 w T) {t e : TypeId} {A : Option Addr} {i g n cap J : Nat} {k : IntKind} {xs : List Int} {own : Bool} {v : Int} (hi : T[i]? = some (.gen (rowE A g n cap e 1 (ivals k xs) own))) (hsz : (P.info? t).map (·.size) = some 1) (hJ : J < xs.length) :
    ∃ (x : Unit) (w' : World), (Instr.storeAt t (.pointer (some ⟨g, J, none⟩)) (.int k v)).run P w = .ok () w' ∧ True ∧ Tab w0 w' (T.set i (.gen (rowE A g n cap e 1 (ivals k (xs.set J v)) own))) := by
  have hrow : Row w A g n cap e 1 (ivals k xs) := hT.ok i _ hi
  have hlen : xs.length = n := by have := hrow.own.1; rw [ivals_length] at this; omega
  have hn : 0 < n := by omega
  refine ⟨(), _, run_store1 hsz rfl (hrow.cell J _ (ivals_get hJ)) (hrow.free hn J), trivial, ?_⟩
  have := hT.rowSet hi hn J (.int k v)
  rw [ivals_set] at this
  exact this

/-- A row's list, said otherwise. -/
theorem cont_rowEq {K : Act → World → Prop} {n' : Nat} {w0 : World} {L : List (Nat × Value)} {T : List Ent} (i : Nat) {A : Option Addr} {g n cap : Nat} {e : TypeId} {k : IntKind} (xs ys : List Int) {own : Bool} (hi : T[i]? = some (.gen (rowE A g n cap e 1 (ivals k xs) own))) (hxy : xs = ys)
    (h : Cont dfs K n' w0 L (T.set i (.gen (rowE A g n cap e 1 (ivals k ys) own)))) : Cont dfs K n' w0 L T := by
  subst hxy
  have : T.set i (.gen (rowE A g n cap e 1 (ivals k xs) own)) = T := by
    obtain ⟨hlt, he⟩ := List.getElem?_eq_some_iff.1 hi
    rw [← he]
    exact List.set_getElem_self hlt
  rwa [this] at h

end Go.Proofs.Ytlfahohbkgdabaa

