/- Texts of this proof's own, put together: what each holds is told ahead of it. -/
import Derived.Test.YtommojgfkkoghaaPiG1
import Derived.RangeFuncSeq
import Derived.Test.YtommojgfkkoghaaPiG2
import Derived.Test.YtommojgfkkoghaaProg
/- A range over a function: the walk of a function that holds such a loop (a mark among its deferred calls behind it), of the loop's rounds, and of the iterator. Generic in the program. -/
set_option linter.unusedVariables false
set_option linter.unusedSimpArgs false
namespace Go.Proofs.Ytommojgfkkoghaa
open Go Go.RowKit

/-! ### Operations, taken over from the plain walk -/
def noDef (ops : Array Oper) : Bool := ops.toList.all fun o => match o.op with | .defer _ => false | _ => true
theorem noDef_at {ops : Array Oper} (h : noDef ops = true) {i : Nat} {o : Oper} (ho : ops[i]? = some o) : ∀ c, o.op ≠ .defer c := by
  intro c hc
  have hm : o ∈ ops.toList := Array.mem_toList_iff.2 (Array.mem_of_getElem? ho)
  have := List.all_eq_true.1 h o hm
  rw [hc] at this
  cases this

/-- A fence that lets everything in. -/
structure Open (F : Fence) : Prop where
  fn : ∀ f, F.fn f
  depth : F.depth = none
  alive : F.alive = false
theorem open_wide : Open Fence.wide := ⟨fun _ => trivial, rfl, rfl⟩
theorem open_round (l : Nat) : Open (Fence.wide.inRound l) := ⟨fun _ => trivial, rfl, rfl⟩
theorem fenced_open {F : Fence} (h : Open F) (P : Program) (m : Machine) : m.fenced P F := by
  intro g _
  refine ⟨fun ha => ?_, Or.inl (h.fn _), fun _ _ => h.fn _, fun d hd => ?_⟩
  · rw [h.alive] at ha; cases ha
  · rw [h.depth] at hd; cases hd
theorem steps_open {F : Fence} (h : Open F) {P : Program} {m m' : Machine} (s : Steps P m m') : StepsIn (Machine.fenced P F) P m m' :=
  (StepsIn.of_steps s).mono fun m _ => fenced_open h P m
theorem calls_open {F : Fence} (h : Open F) {n : Nat} {P : Program} {f : FuncId} {args : Array Value} {w : World} {R : Ending → World → Prop} (c : Calls P f args w R) : CallsIn F n P f args w R :=
  ⟨h.fn f, fun cs _ => by
    obtain ⟨e, w', fr, r, s, x⟩ := c cs
    refine ⟨e, w', fr, r, ?_, x⟩
    cases e with
    | returned v => exact steps_open h s
    | panicked ch => exact steps_open h s
    | outgrown => exact s⟩
theorem rows_open {F : Fence} (h : Open F) {n : Nat} {P : Program} {row : String} {args : Array Value} {w : World} {R : Value → World → Prop} (c : Rows P row args w R) : RowsIn F n P row args w R :=
  fun fr cs _ => let ⟨v, w', r, s⟩ := c fr cs; ⟨v, w', r, steps_open h s⟩

section
variable {P : Program}
theorem oper_in {F : Fence} (hF : Open F) {o : Oper} {a : Act} {w : World} {K K' : Act → World → Prop} {Q Q' : Exit → Act → World → Prop} (ho : ∀ c, o.op ≠ .defer c) (hlo : ¬ LetsOut Q) (hK : ∀ a' w', K a' w' → K' a' w') (hQ : ∀ c w, Q (.panic c) a w → Q' (.panic c) a w)
    (h : o.wp P a w K Q) : o.wpIn F 0 P a w K' Q' := by
  refine ⟨fun f _ => hF.fn f, ?_⟩
  rw [Oper.semAt_eq _ _ _ ho]
  unfold Oper.wp at h
  generalize (execOp a.eval o).run P w = r at h ⊢
  have hdep : F.depth.isSome = true → 1 ≤ 0 := by rw [hF.depth]; intro hh; cases hh
  unfold Oper.upon at h
  split at h
  · exact hK _ _ h
  · exact hK _ _ h
  · exact hK _ _ h
  · refine ⟨hdep, calls_open hF (h.mono ?_)⟩
    intro e w'' hh
    cases e with
    | returned v => exact hK _ _ hh
    | panicked ch => exact hQ _ _ hh
    | outgrown => exact (hlo hh).elim
  · exact ⟨hdep, rows_open hF (h.mono fun v w'' hh => hK _ _ hh)⟩
  · exact hQ _ _ h
  · exact h.elim

/-- Operations of a plain walk, up to a point, and then on in the fence. -/
theorem ops_in {F : Fence} (hF : Open F) {ops : Array Oper} (hops : noDef ops = true) {K : Act → World → Prop} {Q : Exit → Act → World → Prop} (hlo : ¬ LetsOut Q) (l2 : List Nat) (hK : ∀ a w, K a w → wpOpsIn F 0 P ops Q l2 a w) :
    ∀ (l : List Nat) (a : Act) (w : World), wpOps P ops (Exit.then K Q) l a w → wpOpsIn F 0 P ops Q (l ++ l2) a w := by
  intro l
  induction l with
  | nil => intro a w h; exact hK a w h
  | cons i l ih =>
    intro a w h
    rw [List.cons_append]
    simp only [wpOps, wpOpsIn] at h ⊢
    cases ho : ops[i]? with
    | none => simp only [ho] at h ⊢; exact ih _ _ h
    | some o =>
      simp only [ho] at h ⊢
      by_cases hw : Region.wanted o (yielded ops a.tmps) = true
      · simp only [hw, if_true] at h ⊢
        rcases h with h | ⟨_, a0, w0, h⟩
        · exact oper_in hF (noDef_at hops ho) (Q := Exit.then K Q) (fun ⟨a', w', hq⟩ => hlo ⟨a', w', hq⟩) (fun a' w' hh => ih a' w' hh) (fun c w' hh => hh) h
        · exact (hlo ⟨a0, w0, h⟩).elim
      · simp only [hw, Bool.false_eq_true, if_false] at h ⊢
        exact ⟨fun f _ => hF.fn f, ih _ _ h⟩

/-! ### Ways of walking code -/
structure Mode (P : Program) where
  F : Fence
  hF : Open F
def Mode.wp (M : Mode P) (c : Code) (Q : Exit → Act → World → Prop) (a : Act) (w : World) : Prop := ¬ LetsOut Q → c.wpIn M.F 0 P Q a w
def Mode.round (P : Program) (l : Nat) : Mode P := ⟨Fence.wide.inRound l, open_round l⟩
def Mode.fence (P : Program) : Mode P := ⟨Fence.wide, open_wide⟩

theorem lo_then {K : Act → World → Prop} {Q : Exit → Act → World → Prop} (h : ¬ LetsOut Q) : ¬ LetsOut (Exit.then K Q) := fun ⟨a, w, hq⟩ => h ⟨a, w, hq⟩
theorem lo_blk {id : Nat} {Q : Exit → Act → World → Prop} (h : ¬ LetsOut Q) : ¬ LetsOut (Exit.inBlock id Q) := fun ⟨a, w, hq⟩ => h ⟨a, w, hq⟩

variable {dfs : List Deferred} {M : Mode P} {Q : Exit → Act → World → Prop} {n : Nat} {w0 : World} {L : List (Nat × Value)} {T : List Ent}

theorem mcont_seq {x y : Code} (h : Cont dfs (M.wp x (Exit.then (M.wp y Q) Q)) n w0 L T) : Cont dfs (M.wp (Code.seq x y) Q) n w0 L T :=
  fun a w ha hf hT hlo => wpIn_seq (wpIn_mono (h a w ha hf hT (lo_then hlo)) fun e a' w' hq => by
    cases e with
    | normal => exact hq hlo
    | _ => exact hq)
theorem mcont_region {id : Nat} {ops : Array Oper} (k : Nat) (hk : ops.size = k) (hops : noDef ops = true) (h : Cont dfs (PL P ops Q 0 k) n w0 L T) : Cont dfs (M.wp (Code.region id ops false) Q) n w0 L T := by
  intro a w ha hf hT hlo
  refine wpIn_region ?_
  have := h a w ha hf hT
  unfold PL at this
  rw [List.range_eq_range', hk]
  have e := ops_in M.hF hops (K := Q .normal) hlo [] (fun a w hh => by simpa [wpOpsIn] using hh) (List.range' 0 k) a w (by
    have hQ : Exit.then (Q .normal) Q = Q := by funext e; cases e <;> rfl
    rw [hQ]; exact this)
  simpa using e
theorem mdrawn_enter {id : Nat} {ops : Array Oper} (m : Nat) (ds : List Nat) (hm : ops.size = m) (hmix : P.follows .mixedOrders = true) (hops : noDef ops = true) (h : Cont dfs (AH P ops Q (fun w => Known w (dropT ds T)) m m []) n w0 L T) : Cont dfs (M.wp (Code.region id ops true) Q) n w0 L T := by
  intro a w ha hf hT hlo
  refine wpIn_region_draw fun t => ?_
  simp only [Region.schedule, hmix, Bool.true_or, if_true]
  have := h a w.drew ha hf hT.drew
  unfold AH marked at this
  subst hm
  have e := wpAny_sound ops.size t _ a _ (wpAny_of_held _ _ _ _ this)
  have hQ : Exit.then (Q .normal) Q = Q := by funext e; cases e <;> rfl
  have e2 := ops_in M.hF hops (K := Q .normal) hlo [] (fun a w hh => by simpa [wpOpsIn] using hh) _ a _ (by rw [hQ]; exact e)
  rw [List.append_nil] at e2
  exact e2
theorem mcont_skip (h : Cont dfs (Q .normal) n w0 L T) : Cont dfs (M.wp Code.skip Q) n w0 L T := fun a w ha hf hT _ => wpIn_skip (h a w ha hf hT)
theorem mcont_ret (h : Cont dfs (Q .ret) n w0 L T) : Cont dfs (M.wp Code.ret Q) n w0 L T := fun a w ha hf hT _ => wpIn_ret (h a w ha hf hT)
theorem mcont_exit {id : Nat} (h : Cont dfs (Q (.exit id)) n w0 L T) : Cont dfs (M.wp (Code.exit id) Q) n w0 L T := fun a w ha hf hT _ => wpIn_exit (h a w ha hf hT)
theorem mcont_block {id : Nat} {c : Code} (h : Cont dfs (M.wp c (Exit.inBlock id Q)) n w0 L T) : Cont dfs (M.wp (Code.block id c) Q) n w0 L T := fun a w ha hf hT hlo => wpIn_block (h a w ha hf hT (lo_blk hlo))
theorem mcont_true {c : Operand} {x y : Code} (hc : knownB L c = some (.bool true)) (h : Cont dfs (M.wp x Q) n w0 L T) : Cont dfs (M.wp (Code.cond c x y) Q) n w0 L T :=
  fun a w ha hf hT hlo => wpIn_cond_true (knownB_eval hf hc) (h a w ha hf hT hlo)
theorem mcont_false {c : Operand} {x y : Code} (hc : knownB L c = some (.bool false)) (h : Cont dfs (M.wp y Q) n w0 L T) : Cont dfs (M.wp (Code.cond c x y) Q) n w0 L T :=
  fun a w ha hf hT hlo => wpIn_cond_false (knownB_eval hf hc) (h a w ha hf hT hlo)

theorem wpIn_loop_ghost {F : Fence} {m : Nat} {a : Act} {w : World} {c : Code} (I : Nat → Act → World → Prop) (n₀ : Nat) (h₀ : I n₀ a w)
    (round : ∀ n a w, I n a w → c.wpIn F m P (Exit.then (fun a' w' => ∃ n', n' < n ∧ I n' a' w') Q) a w) : (Code.loop c).wpIn F m P Q a w := by
  refine wpIn_loop (fun a w => ∃ n, I n a w) (fun a w => leastOf (fun n => I n a w)) ⟨n₀, h₀⟩ ?_
  intro a w hI
  refine wpIn_mono (round _ a w (leastOf_spec hI).1) ?_
  intro e a' w' hq
  cases e with
  | normal =>
    obtain ⟨n', hlt, hI'⟩ := hq
    exact show (∃ n, I n a' w') ∧ leastOf (fun n => I n a' w') < leastOf (fun n => I n a w) from ⟨⟨n', hI'⟩, Nat.lt_of_le_of_lt ((leastOf_spec ⟨n', hI'⟩).2 n' hI') hlt⟩
  | _ => exact hq

theorem mcont_loop {α : Type} {body : Code} (Inv : α → Prop) (Lf : α → List (Nat × Value)) (Tf : α → List Ent) (m : α → Nat) (x0 : α) (hinv : Inv x0)
    (hL : ((Lf x0).map fun p => lk L p.1) = ((Lf x0).map fun p => some p.2)) (hTf : Tf x0 = T)
    (round : ∀ x, Inv x → Cont dfs (M.wp body (Exit.then (Again dfs Inv Lf Tf m n w0 x) Q)) n w0 (Lf x) (Tf x)) : Cont dfs (M.wp (Code.loop body) Q) n w0 L T := by
  subst hTf
  intro a w ha hf hT hlo
  refine wpIn_loop_ghost (fun k a' w' => ∃ x, m x = k ∧ Inv x ∧ a'.defers = dfs ∧ FrOk n a'.tmps (Lf x) ∧ Tab w0 w' (Tf x)) (m x0) ⟨x0, rfl, hinv, ha, hf.prune hL, hT⟩ ?_
  rintro k a' w' ⟨x, rfl, hx, ha', hf', hT'⟩
  refine wpIn_mono (round x hx a' w' ha' hf' hT' (lo_then hlo)) (fun e a'' w'' h => ?_)
  cases e with
  | normal =>
    obtain ⟨y, h1, h2, h3, h4, h5⟩ := h
    exact ⟨m y, h2, y, rfl, h1, h3, h4, h5⟩
  | _ => exact h

/-! ### Entries for the loop's book-keeping -/
def objE (b : Nat) (o : Obj) : Ent := .gen { blk := (· = b), wr := true, own := true, ok := fun w => w.heap[b]? = some o, stable := fun w w' h hk => (h b rfl).trans hk, inb := fun w k hk hb => by cases hb; exact (Array.getElem?_eq_some_iff.1 hk).1 }
def markE (D : Nat) : Ent := objE D (.deferred (some []))
theorem Tab.putObj {w : World} (hT : Tab w0 w T) {i b : Nat} {o : Obj} (h : T[i]? = some (objE b o)) (o' : Obj) : Tab w0 (w.putObj b o') (T.set i (objE b o')) := by
  have hk : w.heap[b]? = some o := hT.ok i _ h
  refine hT.replace (e := objE b o) (e' := objE b o') h rfl rfl id (fun k hk => .inl hk) (fun k _ hk _ => hk) rfl rfl rfl (by simp) (fun k _ hk => World.putObj_heap_other (fun e => hk e)) ?_
  exact World.putObj_heap_same (Array.getElem?_eq_some_iff.1 hk).1
theorem Tab.allocObj {w : World} (hT : Tab w0 w T) (o : Obj) : Tab w0 (w.alloc o) (objE w.heap.size o :: T) := by
  refine hT.push (e := objE w.heap.size o) rfl rfl rfl (by simp) (fun k hk => Below.heap_alloc w _ k hk) (World.alloc_heap_new w o) (fun k hk => by have : k = w.heap.size := hk; omega)

theorem Cont.go {K : Act → World → Prop} (h : Cont dfs K n w0 L T) {a : Act} {w : World} (ha : a.defers = dfs) (hf : FrOk n a.tmps L) (hT : Tab w0 w T) : K a w := h a w ha hf hT
/-! ### The end of a function that holds such a loop -/
/-- The same without a way to panic. -/
def NP (Q : Exit → Act → World → Prop) : Exit → Act → World → Prop
  | .panic _, _, _ => False
  | e, a, w => Q e a w
theorem NP.le {Q : Exit → Act → World → Prop} (e : Exit) (a : Act) (w : World) (h : NP Q e a w) : Q e a w := by cases e <;> first | exact h.elim | exact h
theorem pok_np {Q : Exit → Act → World → Prop} : PanicOk (NP Q) := fun c a d v w h => h
theorem enterM {f : FuncId} {fn : Func} {c : Code} {args : Array Value} {w : World} {R : Ending → World → Prop} (n : Nat) (L : List (Nat × Value)) (T : List Ent) (hf : P.funcs[f]? = some fn) (hb : fn.body = some c) (hn : fn.ntmps = n) (hsz : Nat.ble args.size n = true)
    (hL : (L.map fun p => args[p.1]?) = (L.map fun p => some p.2)) (hT : Tab w w T) (h : Cont [] (c.wp P (NP (bodyPostM Fence.wide 0 P fn R))) n w L T) : Calls P f args w R := by
  subst hn
  refine callsIn_wide.1 (callsIn_of_wp_marks hf hb trivial (wpIn_wide.2 (wp_mono (h _ _ rfl ⟨?_, ?_⟩ hT) fun e a w hq => hq.le)) rfl)
  · have := Nat.le_of_ble_eq_true hsz
    simp; omega
  · exact enter_lk hL
theorem plain_end {fn : Func} {R : Ending → World → Prop} {e : Exit} (he : e = .ret ∨ e = .normal) (h : Cont [] (bodyPost P fn R e) n w0 L T) : Cont [] (NP (bodyPostM Fence.wide 0 P fn R) e) n w0 L T := by
  intro a w ha hf hT
  have := h a w ha hf hT
  rcases he with rfl | rfl
  all_goals
    obtain ⟨_, v, h1, h2⟩ := this
    show LeavesInM Fence.wide 0 P fn a.tmps R a.defers .returning w
    rw [ha]
    exact ⟨v, h1, h2⟩
def coll (D : Nat) : Deferred := { target := .collected D, args := #[] }
theorem mark_end {fn : Func} {R : Ending → World → Prop} {e : Exit} {D : Nat} (i : Nat) (hi : T[i]? = some (markE D)) (he : e = .ret ∨ e = .normal) (h : Cont [] (bodyPost P fn R e) n w0 L (T.set i (objE D (.deferred none)))) : Cont [coll D] (NP (bodyPostM Fence.wide 0 P fn R) e) n w0 L T := by
  intro a w ha hf hT
  have hk : w.heap[D]? = some (.deferred (some [])) := hT.ok i _ hi
  have := h { a with defers := [] } (w.putObj D (.deferred none)) rfl hf (hT.putObj hi _)
  rcases he with rfl | rfl
  all_goals
    obtain ⟨_, v, h1, h2⟩ := this
    show LeavesInM Fence.wide 0 P fn a.tmps R a.defers .returning w
    rw [ha]
    exact ⟨by simp, .inl ⟨D, _, rfl, run_takeDeferred hk, v, h1, h2⟩⟩

/-! ### Iterators -/
/-- What an iterator promises: it hands over items one by one, S of all, Sp of those that have come; the entries Es are what it reads; Ex what it hands over with an item. -/
def IterC {X : Type} (P : Program) (gf : Nat) (lb : Array Value) (encs : X → Array Value) (w0 : World) (Es : List Ent) (Ex : X → List Ent) (S Sp : List X → Prop) : Prop :=
  ∀ {β : Type} (Inv : List X → β → Prop) (Tr : β → List Ent) (Jx : World → Prop) (l : Nat) (e1 e2 : Ent) (W : World) (b0 : β), (∀ w w', Jx w → Below w.heap.size w w' → Jx w') →
    (∀ pre x b W1 z, (z.wr = true → z.own = true) → Inv pre b → Sp (pre ++ [x]) → Tab w0 W1 (Ex x ++ z :: e1 :: e2 :: (Es ++ Tr b)) →
      YieldAt Fence.wide 0 P l (encs x) W1 fun e W' => (e = .returned (.bool true) ∧ ∃ b', Inv (pre ++ [x]) b' ∧ Tab w0 W' (z :: e1 :: e2 :: (Es ++ Tr b'))) ∨ (e = .returned (.bool false) ∧ Jx W')) →
    Inv [] b0 → Tab w0 W (e1 :: e2 :: (Es ++ Tr b0)) →
    Calls P gf (#[.func (.yield l) #[] #[]] ++ lb) W fun e W' => (∃ v, e = .returned v) ∧ ((∃ xs b', S xs ∧ Inv xs b' ∧ Tab w0 W' (e1 :: e2 :: (Es ++ Tr b'))) ∨ Jx W')

theorem enterI {f : FuncId} {fn : Func} {c : Code} {args : Array Value} {w : World} {R : Ending → World → Prop} (n : Nat) (L : List (Nat × Value)) (T : List Ent) (hf : P.funcs[f]? = some fn) (hb : fn.body = some c) (hn : fn.ntmps = n) (hsz : Nat.ble args.size n = true)
    (hL : (L.map fun p => args[p.1]?) = (L.map fun p => some p.2)) (hT : Tab w0 w T) (hlo : ∀ w, ¬ R .outgrown w) (h : Cont [] ((Mode.fence P).wp c (bodyPost P fn R)) n w0 L T) : Calls P f args w R := by
  subst hn
  refine callsIn_wide.1 (callsIn_of_wp hf hb trivial (h _ _ rfl ⟨?_, ?_⟩ hT (fun ⟨_, w', hq⟩ => hlo w' hq)) rfl)
  · have := Nat.le_of_ble_eq_true hsz
    simp; omega
  · exact enter_lk hL

def PLI (P : Program) (ops : Array Oper) (Q : Exit → Act → World → Prop) (i k : Nat) (a : Act) (w : World) : Prop := ¬ LetsOut Q → wpOpsIn Fence.wide 0 P ops Q (List.range' i k) a w
theorem icont_region {id : Nat} {ops : Array Oper} (k : Nat) (hk : ops.size = k) (h : Cont dfs (PLI P ops Q 0 k) n w0 L T) : Cont dfs ((Mode.fence P).wp (Code.region id ops false) Q) n w0 L T := by
  intro a w ha hf hT hlo
  refine wpIn_region ?_
  rw [List.range_eq_range', hk]
  exact h a w ha hf hT hlo
theorem pli_ops {ops : Array Oper} {i k : Nat} (j m i' : Nat) (hk : k = j + m) (hi' : i' = i + j) (hops : noDef ops = true) (h : Cont dfs (PL P ops (Exit.then (PLI P ops Q i' m) Q) i j) n w0 L T) : Cont dfs (PLI P ops Q i k) n w0 L T := by
  subst hk; subst hi'
  intro a w ha hf hT hlo
  have := h a w ha hf hT
  have e : List.range' i (j + m) = List.range' i j ++ List.range' (i + j) m := (List.range'_append_1 ..).symm
  rw [e]
  exact ops_in open_wide hops hlo _ (fun a w hh => hh hlo) _ a w this
theorem pli_done {ops : Array Oper} {i : Nat} (h : Cont dfs (Q .normal) n w0 L T) : Cont dfs (PLI P ops Q i 0) n w0 L T :=
  fun a w ha hf hT _ => by
    have := h a w ha hf hT
    simpa [wpOpsIn] using this
theorem YieldAt.weaken {F : Fence} {m l : Nat} {args : Array Value} {W : World} {R R' : Ending → World → Prop} (h : YieldAt F m P l args W R) (hr : ∀ e w', R e w' → R' e w') : YieldAt F m P l args W R' :=
  let ⟨fn, tmps, assign, body, h1, h2⟩ := h; ⟨fn, tmps, assign, body, h1, h2.mono hr⟩
theorem pli_yield {ops : Array Oper} {i k : Nat} {l : Nat} {args : Array Value} (d : Tmp) (i' k' : Nat) (hi : i' = i + 1) (hk : k = k' + 1) (hops : noDef ops = true) (H : opS ops n i L = some (some d, Instr.yield l args))
    {R : Value → World → Prop} (hy : ∀ w, Tab w0 w T → YieldAt Fence.wide 0 P l args w fun e w' => ∃ v, e = .returned v ∧ R v w')
    (hR : ∀ a w v, a.defers = dfs → FrOk n a.tmps ((d, v) :: L) → R v w → PLI P ops Q i' k' a w) : Cont dfs (PLI P ops Q i k) n w0 L T := by
  subst hi; subst hk
  intro a w ha hf hT hlo
  obtain ⟨o, ho, hdst, hd, hw, he⟩ := opS_core H hf
  rw [List.range'_succ]
  simp only [wpOpsIn, ho, hw, if_true]
  refine ⟨fun f _ => trivial, ?_⟩
  rw [Oper.semAt_eq _ _ _ (noDef_at hops ho), he]
  obtain ⟨fn, tmps, assign, body, hrun, hround⟩ := hy w hT
  rw [hrun]
  refine ⟨(fun h => by cases h), hround.mono ?_⟩
  rintro e w' ⟨v, rfl, hr⟩
  exact hR (a.put o.dst v) w' v (by rw [put_defers]; exact ha) (by rw [hdst]; exact hf.put (hd d rfl) v) hr hlo

/-! ### The statement -/
theorem FrOk.puts {tmps : Array Value} (h : FrOk n tmps L) : ∀ (ps : List Nat) (vs : List Value), (ps.all fun p => Nat.blt p n) = true → FrOk n ((ps.zip vs).foldl (fun t p => t.setIfInBounds p.1 p.2) tmps) ((ps.zip vs).reverse ++ L) := by
  intro ps
  induction ps generalizing tmps L with
  | nil => intro vs _; exact h
  | cons p ps ih =>
    intro vs hp
    cases vs with
    | nil => exact h
    | cons v vs =>
      simp only [List.all_cons, Bool.and_eq_true] at hp
      have := ih (h.put (d := p) (by simpa using hp.1) v) vs hp.2
      simp only [List.zip_cons_cons, List.foldl_cons, List.reverse_cons, List.append_assoc, List.singleton_append]
      exact this

/-- Where a round's body ends. -/
def RQ {X β : Type} (w0 : World) (Inv : List X → β → Prop) (Tr : β → List Ent) (Es : List Ent) {γ : Type} (Jx : Code → γ → Prop) (Tx : γ → List Ent) (z e1 e2 : Ent) (xs : List X) : Exit → Act → World → Prop
  | .normal, _, w => ∃ b, Inv xs b ∧ Tab w0 w (z :: e1 :: e2 :: (Es ++ Tr b))
  | .ret, _, w => ∃ c, Jx .ret c ∧ Tab w0 w (e1 :: e2 :: Tx c)
  | .exit id, _, w => ∃ c, Jx (.exit id) c ∧ Tab w0 w (e1 :: e2 :: Tx c)
  | _, _, _ => False
theorem pok_rq {X β γ : Type} {Inv : List X → β → Prop} {Tr : β → List Ent} {Es : List Ent} {Jx : Code → γ → Prop} {Tx : γ → List Ent} {z e1 e2 : Ent} {xs : List X} : PanicOk (RQ w0 Inv Tr Es Jx Tx z e1 e2 xs) := fun c a d v w h => h
theorem rq_next {X β γ : Type} {Inv : List X → β → Prop} {Tr : β → List Ent} {Es : List Ent} {Jx : Code → γ → Prop} {Tx : γ → List Ent} {z e1 e2 : Ent} {xs : List X} (b : β) (hi : Inv xs b) (hT : z :: e1 :: e2 :: (Es ++ Tr b) = T) : Cont dfs (RQ w0 Inv Tr Es Jx Tx z e1 e2 xs .normal) n w0 L T := by
  subst hT; exact fun a w _ _ h => ⟨b, hi, h⟩
theorem rq_ret {X β γ : Type} {Inv : List X → β → Prop} {Tr : β → List Ent} {Es : List Ent} {Jx : Code → γ → Prop} {Tx : γ → List Ent} {z e1 e2 : Ent} {xs : List X} (hz : z.wr = true → z.own = true) (c : γ) (hi : Jx .ret c) (hT : z :: e1 :: e2 :: Tx c = T) : Cont dfs (RQ w0 Inv Tr Es Jx Tx z e1 e2 xs .ret) n w0 L T := by
  subst hT; exact fun a w _ _ h => ⟨c, hi, h.drop hz⟩
theorem cont_rangeFunc {X β γ : Type} {g : Operand} {ps : Array Tmp} {assign body : Code} {gf : Nat} {lb : Array Value} (encs : X → Array Value) (Es : List Ent) (Ex : X → List Ent) (S Sp : List X → Prop) (Inv : List X → β → Prop) (Tr : β → List Ent) (Jx : Code → γ → Prop) (Tx : γ → List Ent) (b0 : β)
    (hg : knownB L g = some (.func (.func gf) #[] lb)) (eg : ∀ args w, (callFunc gf args).run P w = .ok (.enter gf args) w) (hps : ∀ x, (encs x).size = ps.size) (hpn : (ps.toList.all fun p => Nat.blt p n) = true)
    (hseq : IterC P gf lb encs w0 Es Ex S Sp) (h0 : Inv [] b0) (hT0 : Es ++ Tr b0 = T)
    (hbody : ∀ (l : Nat) (z e1 e1b e2 : Ent) (pre : List X) (x : X) (b : β) (B : Act → World → Prop), (z.wr = true → z.own = true) → Inv pre b → Sp (pre ++ [x]) →
      (∀ L' Xs R, Cont [] ((Mode.round P l).wp body (RQ w0 Inv Tr Es Jx Tx z e1b e2 (pre ++ [x]))) n w0 L' (Xs ++ e1b :: R) → Cont [] B n w0 L' (Xs ++ e1 :: R)) →
      Cont [] ((Mode.round P l).wp assign (Exit.then B (fun _ _ _ => False))) n w0 ((ps.toList.zip (encs x).toList).reverse ++ L) (Ex x ++ z :: e1 :: e2 :: (Es ++ Tr b)))
    (hdone : ∀ (D : Nat) (xs : List X) (b : β), S xs → Inv xs b → Cont [coll D] (Q .normal) n w0 L (markE D :: (Es ++ Tr b)))
    (hret : ∀ (D : Nat) (c : γ), Jx .ret c → Cont [coll D] (Q .ret) n w0 L (markE D :: Tx c))
    (hexit : ∀ (D id : Nat) (c : γ), Jx (.exit id) c → Cont [coll D] (Q (.exit id)) n w0 L (markE D :: Tx c)) :
    Cont [] ((Code.rangeFunc g ps assign body).wp P Q) n w0 L T := by
  subst hT0
  intro a w ha hf hT
  refine (wpIn_wide (n := 0)).1 (wpIn_rangeFunc ?_)
  intro fn _
  obtain ⟨rec, hrec⟩ : ∃ rec : LoopState → Option Code → Loop, rec = fun st pe => { state := st, pending := pe, fn, tmps := a.tmps, params := ps, assign, body, defers := w.heap.size } := ⟨_, rfl⟩
  have hTab := (hT.allocObj (.deferred (some []))).allocObj (.loop (rec .ready none))
  rw [World.size_alloc] at hTab
  obtain ⟨W1, hW1⟩ : ∃ W1, (w.alloc (.deferred (some []))).alloc (.loop (rec .ready none)) = W1 := ⟨_, rfl⟩
  rw [hW1] at hTab
  have hgv : a.eval g = .func (.func gf) #[] lb := knownB_eval hf hg
  refine ⟨w.heap.size + 1, [coll w.heap.size], W1, { target := .fn (.func gf) lb, args := #[.func (.yield (w.heap.size + 1)) #[] #[]] }, W1, gf, #[.func (.yield (w.heap.size + 1)) #[] #[]] ++ lb, W1, by rw [← hW1, hrec]; exact run_enterLoop_outer _ _ _ _ _, ?_, fun _ _ => trivial, ?_, (fun h => by cases h), ?_⟩
  · simp only [resolve, hgv]
    simp [go_sem]
  · simp [invoke, go_sem, eg]
  · have key := hseq Inv Tr (fun W => ∃ c d, Jx c d ∧ (c = .ret ∨ ∃ id, c = .exit id) ∧ Tab w0 W (objE (w.heap.size + 1) (.loop (rec .done (some c))) :: markE w.heap.size :: Tx d)) (w.heap.size + 1) (objE (w.heap.size + 1) (.loop (rec .ready none))) (markE w.heap.size) W1 b0 ?_ ?_ h0 hTab
    · refine calls_open open_wide (key.mono ?_)
      rintro e W ⟨⟨v, rfl⟩, ⟨xs, b, hS, hi, hW⟩ | ⟨c, d, hj, hc, hW⟩⟩
      · have hl : W.heap[w.heap.size + 1]? = some (.loop (rec .ready none)) := hW.ok 0 _ rfl
        refine ⟨none, _, by rw [run_endLoop hl (by rw [hrec]; simp)]; rw [hrec], ?_⟩
        have hW2 := (hW.putObj (i := 0) rfl (.loop { rec .ready none with state := .exhausted })).drop (fun _ => rfl)
        refine hdone w.heap.size xs b hS hi _ _ (by simp [ha, coll]) hf (by rw [hrec] at hW2; exact hW2)
      · have hl : W.heap[w.heap.size + 1]? = some (.loop (rec .done (some c))) := hW.ok 0 _ rfl
        refine ⟨some c, _, by rw [run_endLoop hl (by rw [hrec]; simp)]; rw [hrec], ?_⟩
        have hW2 := (hW.putObj (i := 0) rfl (.loop { rec .done (some c) with state := .exhausted })).drop (fun _ => rfl)
        refine wpIn_wide.2 ?_
        rcases hc with rfl | ⟨id, rfl⟩
        · exact wp_ret (hret w.heap.size d hj _ _ (by simp [ha, coll]) hf (by rw [hrec] at hW2; exact hW2))
        · exact wp_exit (hexit w.heap.size id d hj _ _ (by simp [ha, coll]) hf (by rw [hrec] at hW2; exact hW2))
    · rintro wa wb ⟨c, d, h1, h2, h3⟩ hb
      exact ⟨c, d, h1, h2, h3.below hb⟩
    · -- one round
      intro pre x b W1 z hz hi hsp hW
      have hfr : FrOk n ((ps.zip (encs x)).foldl (fun tmps (t, v) => tmps.setIfInBounds t v) a.tmps) ((ps.toList.zip (encs x).toList).reverse ++ L) := by
        have := hf.puts ps.toList (encs x).toList hpn
        rw [← Array.foldl_toList, Array.toList_zip]
        exact this
      have hidx : (Ex x ++ z :: objE (w.heap.size + 1) (.loop (rec .ready none)) :: markE w.heap.size :: (Es ++ Tr b))[(Ex x).length + 1]? = some (objE (w.heap.size + 1) (.loop (rec .ready none))) := by simp [List.getElem?_append_right]
      have hl : W1.heap[w.heap.size + 1]? = some (.loop (rec .ready none)) := hW.ok _ _ hidx
      have hy := run_yield (P := P) (args := encs x) hl (by rw [hrec]; exact hps x)
      rw [hrec] at hy
      refine ⟨fn, _, assign, body, hy, roundIn_of_wpIn (F := Fence.wide) trivial ?_⟩
      refine hbody (w.heap.size + 1) z (objE (w.heap.size + 1) (.loop (rec .ready none))) (objE (w.heap.size + 1) (.loop { rec .ready none with state := .busy })) (markE w.heap.size) pre x b _ hz hi hsp ?_ _ W1 rfl hfr hW ?_
      rotate_left
      · rintro ⟨a', w', hq⟩; exact hq
      intro L' Xs R hB a' W2 ha' hf' hW2
      have hidx2 : (Xs ++ objE (w.heap.size + 1) (.loop (rec .ready none)) :: R)[Xs.length]? = some (objE (w.heap.size + 1) (.loop (rec .ready none))) := by simp
      have hl2 : W2.heap[w.heap.size + 1]? = some (.loop (rec .ready none)) := hW2.ok _ _ hidx2
      have hW3 := hW2.putObj hidx2 (.loop { rec .ready none with state := .busy })
      have hset : (Xs ++ objE (w.heap.size + 1) (.loop (rec .ready none)) :: R).set Xs.length (objE (w.heap.size + 1) (.loop { rec .ready none with state := .busy })) = Xs ++ objE (w.heap.size + 1) (.loop { rec .ready none with state := .busy }) :: R := by simp
      rw [hset] at hW3
      refine ⟨_, run_beginRound hl2 (by rw [hrec]), wpIn_mono (hB a' _ ha' hf' hW3 ?_) ?_⟩
      · rintro ⟨a', w', hq⟩; exact hq
      · intro e a'' W3 hq
        have fin : ∀ (jump : Option Code) (i : Nat) (T' : List Ent), T'[i]? = some (objE (w.heap.size + 1) (.loop { rec .ready none with state := .busy })) → Tab w0 W3 T' →
            (Instr.endRound (w.heap.size + 1) jump).run P W3 = .ok (.bool jump.isNone) (W3.putObj (w.heap.size + 1) (.loop (rec (if jump.isNone then .ready else .done) jump))) ∧ Tab w0 (W3.putObj (w.heap.size + 1) (.loop (rec (if jump.isNone then .ready else .done) jump))) (T'.set i (objE (w.heap.size + 1) (.loop (rec (if jump.isNone then .ready else .done) jump)))) := by
          intro jump i T' hi3 hW3
          have hl3 : W3.heap[w.heap.size + 1]? = some (.loop { rec .ready none with state := .busy }) := hW3.ok i _ hi3
          refine ⟨?_, hW3.putObj hi3 _⟩
          rw [run_endRound jump hl3, hrec]
        cases e with
        | normal =>
          obtain ⟨b', hi', hW3⟩ := hq
          obtain ⟨h1, h2⟩ := fin none 1 _ rfl hW3
          exact ⟨_, _, h1, .inl ⟨rfl, b', hi', h2⟩⟩
        | ret =>
          obtain ⟨c, hj, hW3⟩ := hq
          obtain ⟨h1, h2⟩ := fin (some .ret) 0 _ rfl hW3
          exact ⟨_, _, h1, .inr ⟨rfl, .ret, c, hj, .inl rfl, h2⟩⟩
        | exit id =>
          obtain ⟨c, hj, hW3⟩ := hq
          obtain ⟨h1, h2⟩ := fin (some (.exit id)) 0 _ rfl hW3
          exact ⟨_, _, h1, .inr ⟨rfl, .exit id, c, hj, .inr ⟨id, rfl⟩, h2⟩⟩
        | goto t => exact hq.elim
        | panic ch => exact hq.elim
        | outgrown => exact hq.elim
end
/-- An entry of the call's own is only read from here on. -/
theorem Tab.weaken {w0 w : World} {T : List Ent} (hT : Tab w0 w T) {i : Nat} {e e0 : Ent} (hi : T[i]? = some e) (ho : e.own = true) (hv : Vw e e0) (hw : e0.wr = false) : Tab w0 w (T.set i e0) := by
  have hok := hT.ok i e hi
  refine ⟨hT.os, hT.tape, hT.output, hT.size, ?_, ?_, ?_, ?_⟩
  · intro j x hx
    rcases getElem?_set_cases _ _ _ _ _ hx with ⟨_, rfl⟩ | ⟨_, hx⟩
    · exact hv.ok w hok
    · exact hT.ok j x hx
  · intro k hk hno
    refine hT.frame k hk (fun j x hx hxw hb => ?_)
    by_cases hj : j = i
    · subst hj
      rw [hi] at hx; cases hx
      have := hT.own j e hi ho k hb; omega
    · exact hno j x (by rw [List.getElem?_set_ne (Ne.symm hj)]; exact hx) hxw hb
  · intro j x hx hxo k hk
    rcases getElem?_set_cases _ _ _ _ _ hx with ⟨_, rfl⟩ | ⟨_, hx⟩
    · rw [hv.own] at hxo; cases hxo
    · exact hT.own j x hx hxo k hk
  · intro j l x y hjl hx hy hxy k hk hk'
    rcases getElem?_set_cases _ _ _ _ _ hx with ⟨hji, rfl⟩ | ⟨hj, hx2⟩
    · rcases getElem?_set_cases _ _ _ _ _ hy with ⟨hli, rfl⟩ | ⟨hl, hy⟩
      · omega
      · rw [hw] at hxy
        exact hT.disj i l e y (Ne.symm hl) hi hy (.inr (hxy.resolve_left (by simp))) k (hv.blk w hok k hk) hk'
    · rcases getElem?_set_cases _ _ _ _ _ hy with ⟨hli, rfl⟩ | ⟨hl, hy⟩
      · rw [hw] at hxy
        exact hT.disj j i x e hj hx2 hi (.inl (hxy.resolve_right (by simp))) k hk (hv.blk w hok k hk')
      · exact hT.disj j l x y hjl hx2 hy hxy k hk hk'
theorem cont_weaken {dfs : List Deferred} {K : Act → World → Prop} {n : Nat} {w0 : World} {L : List (Nat × Value)} {T : List Ent} (i : Nat) (e0 : Ent) {e : Ent} (hi : T[i]? = some e) (ho : e.own = true) (hv : Vw e e0) (hw : e0.wr = false) (h : Cont dfs K n w0 L (T.set i e0)) : Cont dfs K n w0 L T :=
  fun a w ha hf hT => h a w ha hf (hT.weaken hi ho hv hw)
end Go.Proofs.Ytommojgfkkoghaa

/- Plain words of Write: colors out of bytes, put into a rectangle row by row; chunks of four. -/
set_option linter.unusedVariables false
set_option linter.unusedSimpArgs false
namespace Go.Proofs.Ytommojgfkkoghaa
open Go Go.RowKit
variable {P : Program}
theorem run_slice3 {t e : TypeId} {g o n cap sz : Nat} {kl kh km : IntKind} {l h m : Int} (hu : P.underlying t = some (.slice e)) (hi : (P.info? e).map (·.size) = some sz) (h0 : 0 ≤ l) (h1 : l < h) (h2 : h ≤ m) (h3 : m ≤ (cap : Int)) {off n' c' : Nat} (hl : off = o + l.toNat * sz) (hn' : n' = h.toNat - l.toNat) (hc' : c' = m.toNat - l.toNat) (w : World) :
    (Instr.sliceAt t (.slice (some ⟨g, o, none⟩) n cap) (some (.int kl l)) (some (.int kh h)) (some (.int km m))).run P w = .ok (.slice (some ⟨g, off, none⟩) n' c') w := by
  subst hl; subst hn'; subst hc'
  obtain ⟨i, hi1, hi2⟩ := Option.map_eq_some_iff.1 hi
  have ha : (⟨g, o, none⟩ : Addr).add (l.toNat * sz) = ⟨g, o + l.toNat * sz, none⟩ := by unfold Addr.add; split <;> simp_all
  have hle : l ≤ (h.toNat : Int) := by omega
  have hlm : h ≤ (m.toNat : Int) := by omega
  simp only [Instr.sliceAt, Instr.slice, Instr.sliceBounds, Instr.sliceBound, asIntOf]
  have e1 : max m 0 = m := by omega
  have e2 : max h 0 = h := by omega
  have e3 : ¬ m.toNat = l.toNat := by omega
  have e4 : l ≤ h := by omega
  simp [Sem.run_bind, run_underlying hu, h0, h2, h3, e1, e2, e3, e4, show (0 : Int) ≤ h by omega, show (0 : Int) ≤ m by omega, sizeOf, typeInfo, hi1, hi2, ha]
theorem run_sliceLoC {t e : TypeId} {g o n cap sz : Nat} {kl : IntKind} {l : Int} (ln : Nat) (hu : P.underlying t = some (.slice e)) (hi : (P.info? e).map (·.size) = some sz) (h0 : 0 ≤ l) (h1 : l ≤ (n : Int)) (h2 : n ≤ cap) (hl : l.toNat = ln) (w : World) :
    (Instr.sliceAt t (.slice (some ⟨g, o, none⟩) n cap) (some (.int kl l)) none none).run P w = .ok (.slice (sliceA g o ln cap sz) (n - ln) (cap - ln)) w := by
  subst hl
  obtain ⟨i, hi1, hi2⟩ := Option.map_eq_some_iff.1 hi
  have ha : (⟨g, o, none⟩ : Addr).add (l.toNat * sz) = ⟨g, o + l.toNat * sz, none⟩ := by unfold Addr.add; split <;> simp_all
  simp only [Instr.sliceAt, Instr.slice, Instr.sliceBounds, Instr.sliceBound, asIntOf]
  simp [Sem.run_bind, run_underlying hu, h0, h1, show (n : Int) ≤ cap by omega, sizeOf, typeInfo, hi1, hi2, ha, sliceA]
theorem Row.subA {w : World} {g n cap : Nat} {e : TypeId} {k : IntKind} {xs : List Int} {A B : Option Addr} (h : Row w A g n cap e 1 (ivals k xs)) {J m : Nat} (hJ : J + m ≤ n) (hB : 0 < m → B = some ⟨g, 0 + J * 1, none⟩) : Rd w B g (0 + J * 1) m 1 (ivals k ((xs.drop J).take m)) := by
  have h2 := h.sub (J := J) (m := m) hJ
  exact ⟨h2.len, hB, h2.cell⟩
/-- What has come of the chunks: from the front, without a gap. -/
def ChP (N : Nat) (p : List Nat) : Prop := p = List.range p.length ∧ p.length ≤ N
theorem ChP.nil (N : Nat) : ChP N [] := ⟨rfl, Nat.zero_le _⟩
theorem ChP.step {N : Nat} {p : List Nat} (hp : ChP N p) (hl : p.length < N) : ChP N (p ++ [p.length]) := by
  refine ⟨?_, by rw [List.length_append, List.length_singleton]; omega⟩
  rw [List.length_append, List.length_singleton, List.range_succ, ← hp.1]
theorem ChP.last {N : Nat} {p : List Nat} {x : Nat} (hp : ChP N (p ++ [x])) : x = p.length ∧ p.length < N := by
  obtain ⟨h1, h2⟩ := hp
  rw [List.length_append, List.length_singleton] at h1 h2
  rw [List.range_succ] at h1
  have := (List.append_inj h1 (by simp)).2
  exact ⟨by simpa using this, by omega⟩
/-- The color that four bytes are. -/
def mkB (bs : List Int) (k : Nat) : Int := mkC (bs.getD (4 * k) 0) (bs.getD (4 * k + 1) 0) (bs.getD (4 * k + 2) 0) (bs.getD (4 * k + 3) 0)
theorem mkB_in (bs : List Int) (k : Nat) : 0 ≤ mkB bs k ∧ mkB bs k < 4294967296 := mkC_range _ _ _ _
def wrL (bs : List Int) (k : Nat) : List Int := (List.range k).map (mkB bs)
theorem wrL_succ (bs : List Int) (k : Nat) : wrL bs (k + 1) = wrL bs k ++ [mkB bs k] := by unfold wrL; rw [List.range_succ, List.map_append]; rfl
theorem wrL_get {bs : List Int} {k j : Nat} (h : j < k) : (wrL bs k)[j]? = some (mkB bs j) := by simp [wrL, h]
def okN (bs : List Int) (k : Nat) : Prop := ∀ j, j < k → mayB (mkB bs j) = true
theorem okN.step {bs : List Int} {k : Nat} (h : okN bs k) (hk : mayB (mkB bs k) = true) : okN bs (k + 1) := fun j hj => by
  rcases Nat.lt_or_ge j k with h1 | h1
  · exact h j h1
  · rw [show j = k by omega]; exact hk
def wIdx (W a b : Int) (w k : Nat) : Nat := Int.toNat ((b + ((k / w : Nat) : Int)) * W + a + ((k % w : Nat) : Int))
/-- Colors out of bytes, one by one put into a rectangle of the width w at a, b. -/
def wrS (W a b : Int) (w : Nat) (bs px : List Int) : Nat → List Int
  | 0 => px
  | k + 1 => (wrS W a b w bs px k).set (wIdx W a b w k) (mkB bs k)
theorem wrS_length (W a b : Int) (w : Nat) (bs px : List Int) : ∀ k, (wrS W a b w bs px k).length = px.length := by
  intro k
  induction k with
  | zero => rfl
  | succ k ih => simp [wrS, ih]
theorem wrS_part (W a b : Int) {w : Nat} (bs px : List Int) {j lo : Nat} (hlo : lo = Int.toNat ((b + (j : Int)) * W + a)) (h0 : 0 ≤ (b + (j : Int)) * W + a) (hl : lo + w ≤ px.length) : ∀ t, t ≤ w →
    wrS W a b w bs px (j * w + t) = (wrS W a b w bs px (j * w)).take lo ++ ((List.range t).map fun i => mkB bs (j * w + i)) ++ (wrS W a b w bs px (j * w)).drop (lo + t) := by
  intro t
  induction t with
  | zero => intro _; simp
  | succ t ih =>
    intro ht
    have hw : 0 < w := by omega
    rw [← Nat.add_assoc, wrS, ih (by omega)]
    have hi : wIdx W a b w (j * w + t) = lo + t := by
      unfold wIdx
      rw [show (j * w + t) / w = j by rw [Nat.add_comm, Nat.add_mul_div_right _ _ hw, Nat.div_eq_of_lt (by omega), Nat.zero_add], show (j * w + t) % w = t by rw [Nat.add_comm, Nat.add_mul_mod_self_right, Nat.mod_eq_of_lt (by omega)], hlo]
      omega
    have hlen := wrS_length W a b w bs px (j * w)
    rw [hi]
    have e1 : ((wrS W a b w bs px (j * w)).take lo ++ (List.range t).map fun i => mkB bs (j * w + i)).length = lo + t := by
      rw [List.length_append, List.length_take, List.length_map, List.length_range]; omega
    rw [List.set_append_right _ _ (by rw [e1]; exact Nat.le_refl _), e1, Nat.sub_self, List.range_succ, List.map_append]
    rw [show (wrS W a b w bs px (j * w)).drop (lo + t) = (wrS W a b w bs px (j * w))[lo + t] :: (wrS W a b w bs px (j * w)).drop (lo + t + 1) from List.drop_eq_getElem_cons (by omega)]
    simp only [List.set_cons_zero, List.map_cons, List.map_nil, List.append_assoc, List.singleton_append, List.cons_append, List.nil_append, Nat.add_assoc]
theorem wrL_part {bs : List Int} {N j w : Nat} (h : j * w + w ≤ N) : ((wrL bs N).drop (j * w)).take w = (List.range w).map fun i => mkB bs (j * w + i) := by
  refine List.ext_getElem? fun i => ?_
  rw [List.getElem?_take, List.getElem?_drop]
  split
  · rename_i hi
    rw [wrL_get (by omega), List.getElem?_map, List.getElem?_range hi]; rfl
  · rename_i hi
    rw [List.getElem?_eq_none (by simp; omega)]
/-- One row that is copied. -/
theorem wrS_row {W H a b c d : Int} {n : Nat} {px bs : List Int} (hok : ImgOk W H n px) {j w N kn dl lo : Nat} (hg : 0 ≤ a ∧ a < c ∧ c ≤ W ∧ 0 ≤ b ∧ d ≤ H) (hj : b + (j : Int) < d) (hw : w = Int.toNat (c - a)) (hN : j * w + w ≤ N) (hkn : kn = N - j * w) (hlo : lo = Int.toNat ((b + (j : Int)) * W + a)) (hdl : dl = Int.toNat ((b + (j : Int)) * W + c) - Int.toNat ((b + (j : Int)) * W + a)) :
    (wrS W a b w bs px (j * w)).take lo ++ (((wrL bs N).drop (j * w)).take kn).take (min kn dl) ++ (wrS W a b w bs px (j * w)).drop (lo + min kn dl) = wrS W a b w bs px ((j + 1) * w) := by
  have hp := hok.place (x := W - 1) (y := b + (j : Int)) (by omega) (by omega) (by omega) (by omega)
  have hlen := hok.len
  have hdw : dl = w := by omega
  have hm : min kn dl = w := by omega
  rw [hm, List.take_take, show min w kn = w by omega, wrL_part hN, show (j + 1) * w = j * w + w by rw [Nat.add_mul, Nat.one_mul]]
  exact (wrS_part W a b bs px hlo (by omega) (by omega) w (Nat.le_refl _)).symm
/-- What Write answers, and what there is then. -/
def wrE (W H a b c d : Int) (bs : List Int) : Int := if insB W H a b c d = false then 4 else if (bs.length : Int) < 4 * areaI a b c d then 3 else if (bs.length : Int) > 4 * areaI a b c d then 2 else if (List.range (bs.length / 4)).all (fun k => mayB (mkB bs k)) = true then 0 else 1
def wrA (W H : Int) (px : List Int) (a b c d : Int) (bs : List Int) : List Int := if wrE W H a b c d bs = 0 then wrS W a b (Int.toNat (c - a)) bs px (bs.length / 4) else px
theorem wrA_no {W H a b c d : Int} {px bs : List Int} (h : wrE W H a b c d bs ≠ 0) : wrA W H px a b c d bs = px := if_neg h
theorem wrA_yes {W H a b c d : Int} {px bs : List Int} (h : wrE W H a b c d bs = 0) : wrA W H px a b c d bs = wrS W a b (Int.toNat (c - a)) bs px (bs.length / 4) := if_pos h
theorem wrE_ins {W H a b c d : Int} {bs : List Int} (h : insB W H a b c d = false) : wrE W H a b c d bs = 4 := if_pos h
theorem wrE_short {W H a b c d : Int} {bs : List Int} (h : insB W H a b c d = true) (h1 : (bs.length : Int) < 4 * areaI a b c d) : wrE W H a b c d bs = 3 := by unfold wrE; rw [if_neg (by rw [h]; simp), if_pos h1]
theorem wrE_long {W H a b c d : Int} {bs : List Int} (h : insB W H a b c d = true) (h1 : (bs.length : Int) > 4 * areaI a b c d) : wrE W H a b c d bs = 2 := by unfold wrE; rw [if_neg (by rw [h]; simp), if_neg (by omega), if_pos h1]
theorem wrE_bad {W H a b c d : Int} {bs : List Int} (h : insB W H a b c d = true) (h1 : (bs.length : Int) = 4 * areaI a b c d) {k N : Nat} (hN : N = bs.length / 4) (hk : k < N) (hm : mayB (mkB bs k) = false) : wrE W H a b c d bs = 1 := by
  unfold wrE
  rw [if_neg (by rw [h]; simp), if_neg (by omega), if_neg (by omega), if_neg]
  intro hall
  have := List.all_eq_true.1 hall k (List.mem_range.2 (by omega))
  rw [hm] at this; cases this
theorem wrE_ok {W H a b c d : Int} {bs : List Int} (h : insB W H a b c d = true) (h1 : (bs.length : Int) = 4 * areaI a b c d) {N : Nat} (hN : N = bs.length / 4) (hm : okN bs N) : wrE W H a b c d bs = 0 := by
  unfold wrE
  rw [if_neg (by rw [h]; simp), if_neg (by omega), if_neg (by omega), if_pos]
  exact List.all_eq_true.2 (fun k hk => hm k (by have := List.mem_range.1 hk; omega))
theorem ins_area {W H a b c d : Int} {n : Nat} {px : List Int} (hok : ImgOk W H n px) (h : insB W H a b c d = true) : areaI a b c d = (c - a) * (d - b) ∧ 1 ≤ areaI a b c d ∧ areaI a b c d ≤ 65536 := by
  obtain ⟨h1, h2, h3, h4, h5, h6⟩ := insB_true h
  have hw := hok.w2
  have hh := hok.h2
  have e : areaI a b c d = (c - a) * (d - b) := by unfold areaI; rw [emptyB_false.2 ⟨h1, h2⟩]; rfl
  have h7 : (c - a) * (d - b) ≤ 256 * 256 := mul_le_of (by omega) (by omega) (by omega) (by omega)
  have h8 : 1 * 1 ≤ (c - a) * (d - b) := mul_le_of (by omega) (by omega) (by omega) (by omega)
  omega
theorem wrS_in {W H a b : Int} {n w : Nat} {px bs : List Int} (hok : ImgOk W H n px) : ∀ k, ImgOk W H n (wrS W a b w bs px k) := by
  intro k
  refine ⟨hok.w1, hok.w2, hok.h1, hok.h2, hok.num, by rw [wrS_length]; exact hok.len, ?_⟩
  induction k with
  | zero => exact hok.rng
  | succ k ih =>
    intro c hc
    rcases List.mem_or_eq_of_mem_set hc with h | h
    · exact ih c h
    · rw [h]; exact mkB_in bs k
theorem ImgOk.wrA {W H a b c d : Int} {n : Nat} {px bs : List Int} (hok : ImgOk W H n px) : ImgOk W H n (wrA W H px a b c d bs) := by
  unfold Go.Proofs.Ytommojgfkkoghaa.wrA
  split
  · exact wrS_in hok _
  · exact hok
theorem getD_byte {bs : List Int} (h : ∀ x ∈ bs, 0 ≤ x ∧ x ≤ 255) (j : Nat) : 0 ≤ bs.getD j 0 ∧ bs.getD j 0 ≤ 255 := by
  rw [List.getD_eq_getElem?_getD]
  cases hj : bs[j]? with
  | none => exact ⟨by simp, by simp⟩
  | some v => exact h v (List.mem_of_getElem? hj)
theorem wIdx_eq {W a b c : Int} {wn i : Nat} (hwn : wn = Int.toNat (c - a)) (h : a < c) : Int.toNat ((b + (i : Int) / (c - a)) * W + a + (i : Int) % (c - a)) = wIdx W a b wn i := by
  have e : c - a = (wn : Int) := by omega
  rw [e]; rfl
theorem row_of {a b c d : Int} {N i : Nat} (hx : a < c) (hy : b < d) (h : (N : Int) = (c - a) * (d - b)) (hi : i < N) : 0 ≤ (i : Int) / (c - a) ∧ b + (i : Int) / (c - a) < d ∧ 0 ≤ (i : Int) % (c - a) ∧ (i : Int) % (c - a) < c - a := by
  refine ⟨Int.ediv_nonneg (by omega) (by omega), ?_, Int.emod_nonneg _ (by omega), Int.emod_lt_of_pos _ (by omega)⟩
  have : (i : Int) / (c - a) < d - b := Int.ediv_lt_of_lt_mul (by omega) (by rw [Int.mul_comm]; omega)
  omega
/-- The numbers of rows and colors. -/
theorem area_nat {a b c d : Int} {N : Nat} (hx : a < c) (hy : b < d) (h : (N : Int) = (c - a) * (d - b)) {j : Nat} (hj : b + (j : Int) < d) : j * Int.toNat (c - a) + Int.toNat (c - a) ≤ N := by
  have h2 : (((j + 1) * Int.toNat (c - a) : Nat) : Int) ≤ (d - b) * (c - a) := by
    rw [Int.natCast_mul, show ((Int.toNat (c - a) : Nat) : Int) = c - a by omega]
    exact Int.mul_le_mul_of_nonneg_right (by omega) (by omega)
  rw [Int.mul_comm (d - b)] at h2
  have e : (j + 1) * Int.toNat (c - a) = j * Int.toNat (c - a) + Int.toNat (c - a) := by rw [Nat.add_mul, Nat.one_mul]
  omega
theorem area_end {a b c d : Int} {N : Nat} (hx : a < c) (hy : b < d) (h : (N : Int) = (c - a) * (d - b)) {j : Nat} (hj : (j : Int) = d - b) : j * Int.toNat (c - a) = N := by
  have h2 : ((j * Int.toNat (c - a) : Nat) : Int) = (d - b) * (c - a) := by
    rw [Int.natCast_mul, show ((Int.toNat (c - a) : Nat) : Int) = c - a by omega, hj]
  rw [Int.mul_comm (d - b)] at h2
  omega
end Go.Proofs.Ytommojgfkkoghaa

/- Contracts of functions of the given program, printed by a program of this project. -/
set_option linter.unusedVariables false
set_option linter.unusedSimpArgs false
namespace Go.Proofs.Ytommojgfkkoghaa
open Go Go.RowKit
set_option maxRecDepth 100000
set_option maxHeartbeats 8000000

theorem sliceChunk (g o n cap : Nat) (w : World) :
    Calls Try.prog 63 #[.slice (some ⟨g, o, none⟩) n cap, .int .i64 4] w fun e w' => ∃ kb1 kb2 : Nat, e = .returned (.func (.func 69) #[] #[.pointer (some ⟨kb1, 0, none⟩), .pointer (some ⟨kb2, 0, none⟩)]) ∧ Tab w w' [.cells kb2 [.int .i64 4] 3 true, .cells kb1 [.slice (some ⟨g, o, none⟩) n cap] 43 true] := by
 refine enter 9 [(0, .slice (some ⟨g, o, none⟩) n cap), (1, iq 4)] [] Try.func63 rfl Try.ntmps63 rfl (by kernel_rfl) (Tab.start w) ?_
 refine cont_seq ?_
 refine cont_region 3 rfl ?_
 refine batch2 [0, 0, 0] 3 0 (fun b1 b2 => [(2, .pointer (pB b1)), (3, .pointer (pB b2))]) (fun b1 b2 => [.cells b2 [iq 4] 3 true, .cells b1 [.slice (some ⟨g, o, none⟩) n cap] 43 true]) rfl rfl [2, 3] (fun _ _ => rfl) (fun b1 b2 => by kernel_rfl) (fun b1 b2 => by kernel_rfl) (fun b1 b2 => ?_)
 refine cont_done ?_
 refine then_normal ?_
 refine cont_seq ?_
 refine cont_seq ?_
 refine cont_region 2 rfl ?_
 refine bS [0, 0] 2 0 [(2, .pointer (pB b1)), (3, .pointer (pB b2)), (6, .bool false)] ?_
 refine cont_done ?_
 refine then_normal ?_
 refine cont_false rfl ?_
 refine cont_skip ?_
 refine then_normal ?_
 refine cont_seq ?_
 refine cont_region 2 rfl ?_
 refine bS [0, 0] 2 0 [(4, .func (.func 69) #[] #[.pointer (pB b1), .pointer (pB b2)])] ?_
 refine cont_done ?_
 refine then_normal ?_
 refine cont_ret ?_
 refine ret_one (.inl rfl) rfl 0 (.func (.func 69) #[] #[.pointer (pB b1), .pointer (pB b2)]) (by kernel_rfl) (by kernel_rfl) (fun w hT => ?_)
 exact ⟨_, _, rfl, hT⟩

theorem chunkIter0 (kb1 kb2 : Nat) (A : Option Addr) (g o n cap : Nat) (xs : List Int) (N : Nat) (hN : n = 4 * N) (hcap : n ≤ cap) (hm : n ≤ 1048576) (w0 : World) {β : Type} (Inv : List Nat → β → Prop) (Tr : β → List Ent) (Jx : World → Prop) (l_ : Nat) (e1 e2 : Ent) (w : World) (b0 : β) (hJx : ∀ w w', Jx w → Below w.heap.size w w' → Jx w') (hY : ∀ pre x b W1 z, (z.wr = true → z.own = true) → Inv pre b → ChP N (pre ++ [x]) → Tab w0 W1 ([] ++ (z :: e1 :: e2 :: (.ro kb1 [.slice (some ⟨g, o, none⟩) n cap] 43) :: (.ro kb2 [.int .i64 4] 3) :: (.gen (rdE (A) g o n 1 (ivals .u8 xs))) :: (Tr b))) → YieldAt Fence.wide 0 Try.prog l_ #[.slice (some ⟨g, o + 4 * x, none⟩) 4 4] W1 fun e W' => (e = .returned (.bool true) ∧ ∃ b', Inv (pre ++ [x]) b' ∧ Tab w0 W' (z :: e1 :: e2 :: (.ro kb1 [.slice (some ⟨g, o, none⟩) n cap] 43) :: (.ro kb2 [.int .i64 4] 3) :: (.gen (rdE (A) g o n 1 (ivals .u8 xs))) :: (Tr b'))) ∨ (e = .returned (.bool false) ∧ Jx W')) (h0 : Inv [] b0) (hT0 : Tab w0 w (e1 :: e2 :: (.ro kb1 [.slice (some ⟨g, o, none⟩) n cap] 43) :: (.ro kb2 [.int .i64 4] 3) :: (.gen (rdE (A) g o n 1 (ivals .u8 xs))) :: (Tr b0))) :
    Calls Try.prog 69 #[.func (.yield l_) #[] #[], .pointer (some ⟨kb1, 0, none⟩), .pointer (some ⟨kb2, 0, none⟩)] w fun e W' => (∃ v, e = .returned v) ∧ ((∃ xs_ b', (ChP N xs_ ∧ xs_.length = N) ∧ Inv xs_ b' ∧ Tab w0 W' (e1 :: e2 :: (.ro kb1 [.slice (some ⟨g, o, none⟩) n cap] 43) :: (.ro kb2 [.int .i64 4] 3) :: (.gen (rdE (A) g o n 1 (ivals .u8 xs))) :: (Tr b'))) ∨ Jx W') := by
 refine enterI 31 [(0, .func (.yield l_) #[] #[]), (1, .pointer (pB kb1)), (2, .pointer (pB kb2))] (e1 :: e2 :: (.ro kb1 [.slice (some ⟨g, o, none⟩) n cap] 43) :: (.ro kb2 [iq 4] 3) :: (.gen (rdE (A) g o n 1 (ivals .u8 xs))) :: (Tr b0)) Try.func69 rfl Try.ntmps69 rfl (by kernel_rfl) hT0 (fun _ h_ => by simp at h_) ?_
 refine mcont_seq ?_
 refine mcont_region 1 rfl (by kernel_rfl) ?_
 refine bS [0] 1 0 [(0, .func (.yield l_) #[] #[]), (1, .pointer (pB kb1)), (2, .pointer (pB kb2)), (4, iq 0)] ?_
 refine cont_done ?_
 refine then_normal ?_
 refine mcont_block ?_
 refine cont_nilrow 5 1 ?_
 refine cont_norm [(0, .func (.yield l_) #[] #[]), (1, .pointer (pB kb1)), (2, .pointer (pB kb2)), (4, iq 0)] _ (by kernel_rfl) rfl ?_
 refine cont_recast 4 (iq 0) (iq ((4 * ([] : List Nat).length : Nat) : Int)) rfl (congrArg (Value.int .i64) (by simp)) ?_
 refine mcont_loop (α := List Nat × β) (fun x_ : List Nat × β => ChP N x_.1 ∧ Inv x_.1 x_.2) (fun x_ : List Nat × β => [(0, .func (.yield l_) #[] #[]), (1, .pointer (pB kb1)), (2, .pointer (pB kb2)), (4, iq ((4 * x_.1.length : Nat) : Int))]) (fun x_ : List Nat × β => ((.gen (rowE (none) 0 0 0 5 1 (ivals .u8 []) true)) :: e1 :: e2 :: (.ro kb1 [.slice (some ⟨g, o, none⟩) n cap] 43) :: (.ro kb2 [iq 4] 3) :: (.gen (rdE (A) g o n 1 (ivals .u8 xs))) :: (Tr x_.2))) (fun x_ : List Nat × β => N - x_.1.length) ([], b0) (show ChP N ([]) ∧ Inv ([]) (b0) from ⟨ChP.nil _, h0⟩) (by kernel_rfl) (by kernel_rfl) ?_
 rintro ⟨pre, b⟩ hinv2_
 replace hinv2_ : ChP N pre ∧ Inv pre b := hinv2_
 refine cont_norm [(0, .func (.yield l_) #[] #[]), (1, .pointer (pB kb1)), (2, .pointer (pB kb2)), (4, iq ((4 * pre.length : Nat) : Int))] _ (by kernel_rfl) rfl ?_
 obtain ⟨hP, hI⟩ := hinv2_
 have hpl := hP.2
 refine mcont_seq ?_
 refine mcont_seq ?_
 refine mcont_region 4 rfl (by kernel_rfl) ?_
 refine bS [0, 3, 0, 0] 4 0 [(0, .func (.yield l_) #[] #[]), (1, .pointer (pB kb1)), (2, .pointer (pB kb2)), (4, iq ((4 * pre.length : Nat) : Int)), (9, .bool (decide (((4 * pre.length : Nat) : Int) < (n : Int))))] ?_
 refine cont_done ?_
 refine then_normal ?_
 refine cont_split 9 (decide (((4 * pre.length : Nat) : Int) < (n : Int))) rfl (fun c3_ => ?_) (fun c3_ => ?_)
 ·
  replace c3_ := of_decide_eq_true c3_
  refine mcont_true rfl ?_
  refine mcont_skip ?_
  refine then_normal ?_
  refine mcont_seq ?_
  refine mcont_block ?_
  refine mcont_seq ?_
  refine mdrawn_enter 7 [] rfl (by kernel_rfl) (by kernel_rfl) ?_
  refine takes 0 [] [(0, 4), (1, 3), (2, 0)] 4 [2, 1, 0] [(0, .func (.yield l_) #[] #[]), (1, .pointer (pB kb1)), (2, .pointer (pB kb2)), (4, iq ((4 * pre.length : Nat) : Int)), (13, iq 4), (14, .slice (some ⟨g, o, none⟩) n cap), (15, iq ((4 * pre.length : Nat) : Int))] (by kernel_rfl) (pok_then (pok_blk (pok_then (pok_then (pok_blk pok_body))))) (by kernel_rfl) rfl rfl (by kernel_rfl) (by kernel_rfl) ?_
  refine sem_take 0 [] 3 3 16 (Instr.sliceAt 43 (.slice (some ⟨g, o, none⟩) n cap) (some (iq ((4 * pre.length : Nat) : Int))) none none) (.slice (sliceA g o (4 * pre.length : Nat) cap 1) (n - (4 * pre.length : Nat)) (cap - (4 * pre.length : Nat))) (by kernel_rfl) (pok_then (pok_blk (pok_then (pok_then (pok_blk pok_body))))) (by kernel_rfl) rfl (by kernel_rfl) (by kernel_rfl) (fun w hT => run_sliceLoC (e := 5) (sz := 1) _ (by kernel_rfl) (by kernel_rfl) (by omega) (by omega) (by omega) (by omega) w) ?_
  refine takes 0 [] [(4, 0), (5, 0), (6, 0)] 0 [6, 5, 4, 3, 2, 1, 0] [(0, .func (.yield l_) #[] #[]), (1, .pointer (pB kb1)), (2, .pointer (pB kb2)), (4, iq ((4 * pre.length : Nat) : Int)), (5, iq (mn 4 (((n - (4 * pre.length : Nat)) : Nat) : Int)))] (by kernel_rfl) (pok_then (pok_blk (pok_then (pok_then (pok_blk pok_body))))) (by kernel_rfl) rfl rfl (by kernel_rfl) (by kernel_rfl) ?_
  refine drawn_done (by kernel_rfl) ?_
  refine then_normal ?_
  refine mcont_seq ?_
  refine icont_region 12 rfl ?_
  refine pli_ops 10 2 10 rfl rfl (by kernel_rfl) ?_
  refine cont_recast 5 (iq (mn 4 (((n - (4 * pre.length : Nat)) : Nat) : Int))) (iq 4) rfl (congrArg (Value.int .i64) (by unfold mn; split <;> omega)) ?_
  refine bS [0, 3, 0, 0, 0, 0] 6 4 [(0, .func (.yield l_) #[] #[]), (1, .pointer (pB kb1)), (2, .pointer (pB kb2)), (4, iq ((4 * pre.length : Nat) : Int)), (5, iq 4), (19, .func (.yield l_) #[] #[]), (20, .slice (some ⟨g, o, none⟩) n cap), (21, iq ((4 * pre.length : Nat) : Int)), (24, iq (IntKind.i64.wrap (((4 * pre.length : Nat) : Int) + 4)))] ?_
  refine cont_recast 24 (iq (IntKind.i64.wrap (((4 * pre.length : Nat) : Int) + 4))) (iq (((4 * pre.length : Nat) : Int) + 4)) rfl (wrapI (by omega) (by omega)) ?_
  refine bS [0, 0, 0] 9 1 [(0, .func (.yield l_) #[] #[]), (1, .pointer (pB kb1)), (2, .pointer (pB kb2)), (4, iq ((4 * pre.length : Nat) : Int)), (19, .func (.yield l_) #[] #[]), (20, .slice (some ⟨g, o, none⟩) n cap), (21, iq ((4 * pre.length : Nat) : Int)), (24, iq (((4 * pre.length : Nat) : Int) + 4)), (27, iq (IntKind.i64.wrap (((4 * pre.length : Nat) : Int) + 4)))] ?_
  refine cont_recast 27 (iq (IntKind.i64.wrap (((4 * pre.length : Nat) : Int) + 4))) (iq (((4 * pre.length : Nat) : Int) + 4)) rfl (wrapI (by omega) (by omega)) ?_
  refine pl_step 10 0 rfl rfl ?_
  refine sem_step 28 (Instr.sliceAt 43 (.slice (some ⟨g, o, none⟩) n cap) (some (iq ((4 * pre.length : Nat) : Int))) (some (iq (((4 * pre.length : Nat) : Int) + 4))) (some (iq (((4 * pre.length : Nat) : Int) + 4)))) (.slice (some ⟨g, o + 4 * pre.length, none⟩) 4 4) (by kernel_rfl) (fun w hT => run_slice3 (e := 5) (sz := 1) (by kernel_rfl) (by kernel_rfl) (by omega) (by omega) (by omega) (by omega) (by omega) (by omega) (by omega) w) ?_
  refine cont_done ?_
  refine then_normal ?_
  have hP2 : ChP N (pre ++ [pre.length]) := hP.step (by omega)
  refine pli_yield 29 11 1 rfl rfl (by kernel_rfl) (by kernel_rfl) (R := fun v_ w_ => (v_ = .bool true ∧ ∃ b_, Inv (pre ++ [pre.length]) b_ ∧ Tab w0 w_ ((.gen (rowE (none) 0 0 0 5 1 (ivals .u8 []) true)) :: e1 :: e2 :: (.ro kb1 [.slice (some ⟨g, o, none⟩) n cap] 43) :: (.ro kb2 [iq 4] 3) :: (.gen (rdE (A) g o n 1 (ivals .u8 xs))) :: (Tr b_))) ∨ (v_ = .bool false ∧ Jx w_)) (fun w_ hT_ => YieldAt.weaken (hY pre pre.length b w_ _ (fun _ => rfl) hI hP2 hT_) (fun e_ w_ h_ => by rcases h_ with ⟨rfl, hh_⟩ | ⟨rfl, hh_⟩; exact ⟨_, rfl, .inl ⟨rfl, hh_⟩⟩; exact ⟨_, rfl, .inr ⟨rfl, hh_⟩⟩)) ?_
  rintro a_ w_ v_ ha_ hf_ (⟨rfl, b, hI, hT_⟩ | ⟨rfl, hJ⟩)
  ·
   refine Cont.go ?_ ha_ hf_ hT_
   refine cont_norm [(0, .func (.yield l_) #[] #[]), (1, .pointer (pB kb1)), (2, .pointer (pB kb2)), (4, iq ((4 * pre.length : Nat) : Int)), (29, .bool true)] _ (by kernel_rfl) rfl ?_
   refine pli_ops 1 0 12 rfl rfl (by kernel_rfl) ?_
   refine bS [0] 12 0 [(0, .func (.yield l_) #[] #[]), (1, .pointer (pB kb1)), (2, .pointer (pB kb2)), (4, iq ((4 * pre.length : Nat) : Int)), (30, .bool false)] ?_
   refine cont_done ?_
   refine then_normal ?_
   refine pli_done ?_
   refine then_normal ?_
   refine mcont_false rfl ?_
   refine mcont_skip ?_
   refine blk_normal ?_
   refine then_normal ?_
   refine mcont_region 4 rfl (by kernel_rfl) ?_
   refine bS [0, 4, 0] 3 1 [(0, .func (.yield l_) #[] #[]), (1, .pointer (pB kb1)), (2, .pointer (pB kb2)), (12, iq (IntKind.i64.wrap (((4 * pre.length : Nat) : Int) + 4)))] ?_
   refine cont_recast 12 (iq (IntKind.i64.wrap (((4 * pre.length : Nat) : Int) + 4))) (iq (((4 * pre.length : Nat) : Int) + 4)) rfl (wrapI (by omega) (by omega)) ?_
   refine bS [0] 4 0 [(0, .func (.yield l_) #[] #[]), (1, .pointer (pB kb1)), (2, .pointer (pB kb2)), (4, iq (((4 * pre.length : Nat) : Int) + 4))] ?_
   refine cont_done ?_
   refine then_normal ?_
   refine cont_recast 4 (iq (((4 * pre.length : Nat) : Int) + 4)) (iq ((4 * (pre ++ [pre.length]).length : Nat) : Int)) rfl (congrArg (Value.int .i64) (by rw [List.length_append, List.length_singleton]; omega)) ?_
   refine cont_again (pre ++ [pre.length], b) (show ChP N (pre ++ [pre.length]) ∧ Inv (pre ++ [pre.length]) (b) from ⟨hP2, hI⟩) (show N - (pre ++ [pre.length]).length < N - pre.length from by have h_ := hP2.2; rw [List.length_append, List.length_singleton] at h_ ⊢; omega) (by kernel_rfl) (by kernel_rfl)
  ·
   refine Cont.go ?_ ha_ hf_ (Tab.start w_)
   refine cont_norm [(0, .func (.yield l_) #[] #[]), (1, .pointer (pB kb1)), (2, .pointer (pB kb2)), (4, iq ((4 * pre.length : Nat) : Int)), (29, .bool false)] _ (by kernel_rfl) rfl ?_
   refine pli_ops 1 0 12 rfl rfl (by kernel_rfl) ?_
   refine bS [0] 12 0 [(0, .func (.yield l_) #[] #[]), (1, .pointer (pB kb1)), (2, .pointer (pB kb2)), (4, iq ((4 * pre.length : Nat) : Int)), (30, .bool true)] ?_
   refine cont_done ?_
   refine then_normal ?_
   refine pli_done ?_
   refine then_normal ?_
   refine mcont_true rfl ?_
   refine mcont_ret ?_
   refine blk_ret ?_
   refine then_ret ?_
   refine then_ret ?_
   refine blk_ret ?_
   refine ret_none (.inl rfl) rfl (fun w hT => ?_)
   exact ⟨⟨_, rfl⟩, .inr (hJx _ _ hJ (hT.toBelow (fun i e h => by simp at h)))⟩
 replace c3_ := of_decide_eq_false c3_
 refine mcont_false rfl ?_
 refine mcont_exit ?_
 refine then_exit ?_
 refine then_exit ?_
 refine blk_exit ?_
 refine ret_none (.inr rfl) rfl (fun w hT => ?_)
 exact ⟨⟨_, rfl⟩, .inl ⟨pre, b, ⟨hP, by omega⟩, hI, hT.drop (fun _ => rfl)⟩⟩

theorem chunkIter (kb1 kb2 : Nat) (A : Option Addr) (g o n cap : Nat) (xs : List Int) (N : Nat) (hN : n = 4 * N) (hcap : n ≤ cap) (hm : n ≤ 1048576) (w0 : World) : IterC Try.prog 69 #[.pointer (some ⟨kb1, 0, none⟩), .pointer (some ⟨kb2, 0, none⟩)] (fun z_ : Nat => #[.slice (some ⟨g, o + 4 * z_, none⟩) 4 4]) w0 [.ro kb1 [.slice (some ⟨g, o, none⟩) n cap] 43, .ro kb2 [.int .i64 4] 3, .gen (rdE (A) g o n 1 (ivals .u8 xs))] (fun _ => []) (fun xs_ => ChP N xs_ ∧ xs_.length = N) (fun p_ => ChP N p_) :=
  fun Inv Tr Jx l e1 e2 W1 b0 hJx hY h0 hT => chunkIter0 kb1 kb2 A g o n cap xs N hN hcap hm w0 Inv Tr Jx l e1 e2 W1 b0 hJx hY h0 hT

theorem imgWrite (m : Nat) (W H : Int) (r n cap : Nat) (px : List Int) (a b c d : Int) (A2 : Option Addr) (g2 o2 n2 cap2 : Nat) (xs2 : List Int) (w : World) (hT0 : Tab w w [.ro m [.int .i64 W, .int .i64 H, .slice (some ⟨r, 0, none⟩) n cap] 84, .gen (rowE (some ⟨r, 0, none⟩) r n cap 28 1 (ivals .u32 px) false), .gen (rdE (A2) g2 o2 n2 1 (ivals .u8 xs2))]) (hok : ImgOk W H n px) (hcap : n ≤ cap) (hc2 : n2 ≤ cap2) (hx2 : ∀ x ∈ xs2, 0 ≤ x ∧ x ≤ 255) :
    Calls Try.prog 39 #[.pointer (some ⟨m, 0, none⟩), .agg #[.int .i64 a, .int .i64 b, .int .i64 c, .int .i64 d], .slice A2 n2 cap2] w fun e w' => e = .returned (.int .i64 (wrE W H a b c d xs2)) ∧ Tab w w' [.ro m [.int .i64 W, .int .i64 H, .slice (some ⟨r, 0, none⟩) n cap] 84, .gen (rowE (some ⟨r, 0, none⟩) r n cap 28 1 (ivals .u32 (wrA W H px a b c d xs2)) false)] := by
  have hw1 := hok.w1
  have hw2 := hok.w2
  have hh1 := hok.h1
  have hh2 := hok.h2
  have hnum := hok.num
  have hlen := hok.len
  have hle := hok.le
  have hra2 := ((hT0.ok 2 _ rfl : Rd w A2 g2 o2 n2 1 (ivals .u8 xs2)).at_)
  have hl2 : xs2.length = n2 := Rd.flen (hT0.ok 2 _ rfl)
  refine enterM 78 [(0, .pointer (some ⟨m, 0, none⟩)), (1, .agg #[.int .i64 a, .int .i64 b, .int .i64 c, .int .i64 d]), (2, .slice A2 n2 cap2)] [.ro m [.int .i64 W, .int .i64 H, .slice (some ⟨r, 0, none⟩) n cap] 84, .gen (rowE (some ⟨r, 0, none⟩) r n cap 28 1 (ivals .u32 px) false), .gen (rdE (A2) g2 o2 n2 1 (ivals .u8 xs2))] Try.func39 rfl Try.ntmps39 rfl (by kernel_rfl) hT0 ?_
  refine cont_fact (F := (0 < n2 → (A2 : Option Addr) = some ⟨g2, o2, none⟩) ∧ xs2.length = n2) (fun w hT => Rd.facts (hT.ok 2 _ rfl)) (fun hl1_ => ?_)
  obtain ⟨hl1_a, hl1_l⟩ := hl1_
  refine cont_seq ?_
  refine cont_region 2 rfl ?_
  refine batch2 [0, 0] 2 0 (fun b2 b3 => [(0, .pointer (some ⟨m, 0, none⟩)), (2, .slice A2 n2 cap2), (4, .pointer (some ⟨b2, 0, none⟩)), (6, .pointer (some ⟨b3, 0, none⟩))]) (fun b2 b3 => [.cells b3 [.int .i64 0] 23 true, .cells b2 [.int .i64 a, .int .i64 b, .int .i64 c, .int .i64 d] 32 true, .ro m [.int .i64 W, .int .i64 H, .slice (some ⟨r, 0, none⟩) n cap] 84, .gen (rowE (some ⟨r, 0, none⟩) r n cap 28 1 (ivals .u32 px) false), .gen (rdE (A2) g2 o2 n2 1 (ivals .u8 xs2))]) rfl rfl [0, 2, 4, 6] (fun _ _ => rfl) (fun b2 b3 => by kernel_rfl) (fun b2 b3 => by kernel_rfl) (fun b2 b3 => ?_)
  refine cont_done ?_
  refine then_normal ?_
  refine cont_seq ?_
  refine cont_block ?_
  refine cont_seq ?_
  refine cont_region 5 rfl ?_
  refine bS [0, 1] 2 3 [(0, .pointer (some ⟨m, 0, none⟩)), (2, .slice A2 n2 cap2), (4, .pointer (some ⟨b2, 0, none⟩)), (6, .pointer (some ⟨b3, 0, none⟩)), (13, .pointer (some ⟨m, 0, none⟩)), (14, .agg #[.int .i64 a, .int .i64 b, .int .i64 c, .int .i64 d])] ?_
  refine pl_step 3 2 rfl rfl ?_
  refine call_pure (d := 15) (.bool (insB W H a b c d)) (by kernel_rfl) (fun w hT => imgIns m W H r n cap px a b c d w ⟨hT.ok 2 _ rfl, Row.rd (hT.ok 3 _ rfl), Row.capLe (hT.ok 3 _ rfl)⟩ hok) ?_
  refine bS [0, 0] 5 0 [(0, .pointer (some ⟨m, 0, none⟩)), (2, .slice A2 n2 cap2), (4, .pointer (some ⟨b2, 0, none⟩)), (6, .pointer (some ⟨b3, 0, none⟩)), (12, .bool (!(insB W H a b c d)))] ?_
  refine cont_done ?_
  refine then_normal ?_
  refine cont_split 12 (!(insB W H a b c d)) rfl (fun c4_ => ?_) (fun c4_ => ?_)
  ·
    replace c4_ : (insB W H a b c d) = false := by simpa using c4_
    have hgF : insB W H a b c d = false := c4_
    refine cont_true rfl ?_
    refine cont_seq ?_
    refine cont_region 1 rfl ?_
    refine batch0 [0] 1 0 [(6, .pointer (some ⟨b3, 0, none⟩))] [.cells b3 [.int .i64 4] 23 true, .cells b2 [.int .i64 a, .int .i64 b, .int .i64 c, .int .i64 d] 32 true, .ro m [.int .i64 W, .int .i64 H, .slice (some ⟨r, 0, none⟩) n cap] 84, .gen (rowE (some ⟨r, 0, none⟩) r n cap 28 1 (ivals .u32 px) false), .gen (rdE (A2) g2 o2 n2 1 (ivals .u8 xs2))] rfl rfl (by kernel_rfl) (by kernel_rfl) ?_
    refine cont_forget 1 rfl ?_
    refine cont_done ?_
    refine then_normal ?_
    refine cont_ret ?_
    refine blk_ret ?_
    refine then_ret ?_
    refine plain_end (.inl rfl) ?_
    refine ret_one (.inl rfl) rfl 0 (.int .i64 4) (by kernel_rfl) (by kernel_rfl) (fun w hT => ?_)
    replace hT := hT.erase 3 (fun e h hw => by cases h; first | rfl | cases hw)
    replace hT := hT.erase 0 (fun e h hw => by cases h; first | rfl | cases hw)
    have hE : wrE W H a b c d xs2 = 4 := wrE_ins hgF
    exact ⟨ret_int hE.symm, by rw [wrA_no (by rw [hE]; decide)]; exact hT⟩
  replace c4_ : (insB W H a b c d) = true := by simpa using c4_
  have hg : insB W H a b c d = true := c4_
  obtain ⟨hg1, hg2, hg3, hg4, hg5, hg6⟩ := insB_true hg
  obtain ⟨har0, har1, har2⟩ := ins_area hok hg
  refine cont_false rfl ?_
  refine cont_seq ?_
  refine cont_region 7 rfl ?_
  refine bS [0, 0, 1] 3 4 [(0, .pointer (some ⟨m, 0, none⟩)), (2, .slice A2 n2 cap2), (4, .pointer (some ⟨b2, 0, none⟩)), (6, .pointer (some ⟨b3, 0, none⟩)), (19, .int .i64 (n2 : Int)), (20, .agg #[.int .i64 a, .int .i64 b, .int .i64 c, .int .i64 d])] ?_
  refine pl_step 4 3 rfl rfl ?_
  refine call_pure (d := 21) (.int .i64 (areaI a b c d)) (by kernel_rfl) (fun w hT => rectArea a b c d w (by omega) (by omega) (by omega) (by omega)) ?_
  refine bS [0] 5 2 [(0, .pointer (some ⟨m, 0, none⟩)), (2, .slice A2 n2 cap2), (4, .pointer (some ⟨b2, 0, none⟩)), (6, .pointer (some ⟨b3, 0, none⟩)), (19, .int .i64 (n2 : Int)), (22, .int .i64 (IntKind.i64.wrap (4 * (areaI a b c d))))] ?_
  refine cont_recast 22 (.int .i64 (IntKind.i64.wrap (4 * (areaI a b c d)))) (.int .i64 (4 * (areaI a b c d))) rfl (wrapI (by omega) (by omega)) ?_
  refine bS [0, 0] 7 0 [(0, .pointer (some ⟨m, 0, none⟩)), (2, .slice A2 n2 cap2), (4, .pointer (some ⟨b2, 0, none⟩)), (6, .pointer (some ⟨b3, 0, none⟩)), (17, .bool (decide ((n2 : Int) < (4 * (areaI a b c d)))))] ?_
  refine cont_done ?_
  refine then_normal ?_
  refine cont_split 17 (decide ((n2 : Int) < (4 * (areaI a b c d)))) rfl (fun c5_ => ?_) (fun c5_ => ?_)
  ·
    replace c5_ := of_decide_eq_true c5_
    refine cont_true rfl ?_
    refine cont_seq ?_
    refine cont_region 1 rfl ?_
    refine batch0 [0] 1 0 [(6, .pointer (some ⟨b3, 0, none⟩))] [.cells b3 [.int .i64 3] 23 true, .cells b2 [.int .i64 a, .int .i64 b, .int .i64 c, .int .i64 d] 32 true, .ro m [.int .i64 W, .int .i64 H, .slice (some ⟨r, 0, none⟩) n cap] 84, .gen (rowE (some ⟨r, 0, none⟩) r n cap 28 1 (ivals .u32 px) false), .gen (rdE (A2) g2 o2 n2 1 (ivals .u8 xs2))] rfl rfl (by kernel_rfl) (by kernel_rfl) ?_
    refine cont_forget 1 rfl ?_
    refine cont_done ?_
    refine then_normal ?_
    refine cont_ret ?_
    refine blk_ret ?_
    refine then_ret ?_
    refine plain_end (.inl rfl) ?_
    refine ret_one (.inl rfl) rfl 0 (.int .i64 3) (by kernel_rfl) (by kernel_rfl) (fun w hT => ?_)
    replace hT := hT.erase 3 (fun e h hw => by cases h; first | rfl | cases hw)
    replace hT := hT.erase 0 (fun e h hw => by cases h; first | rfl | cases hw)
    have hE : wrE W H a b c d xs2 = 3 := wrE_short hg (by omega)
    exact ⟨ret_int hE.symm, by rw [wrA_no (by rw [hE]; decide)]; exact hT⟩
  replace c5_ := of_decide_eq_false c5_
  refine cont_false rfl ?_
  refine cont_seq ?_
  refine cont_region 7 rfl ?_
  refine bS [0, 0, 1] 3 4 [(0, .pointer (some ⟨m, 0, none⟩)), (2, .slice A2 n2 cap2), (4, .pointer (some ⟨b2, 0, none⟩)), (6, .pointer (some ⟨b3, 0, none⟩)), (26, .int .i64 (n2 : Int)), (27, .agg #[.int .i64 a, .int .i64 b, .int .i64 c, .int .i64 d])] ?_
  refine pl_step 4 3 rfl rfl ?_
  refine call_pure (d := 28) (.int .i64 (areaI a b c d)) (by kernel_rfl) (fun w hT => rectArea a b c d w (by omega) (by omega) (by omega) (by omega)) ?_
  refine bS [0] 5 2 [(0, .pointer (some ⟨m, 0, none⟩)), (2, .slice A2 n2 cap2), (4, .pointer (some ⟨b2, 0, none⟩)), (6, .pointer (some ⟨b3, 0, none⟩)), (26, .int .i64 (n2 : Int)), (29, .int .i64 (IntKind.i64.wrap (4 * (areaI a b c d))))] ?_
  refine cont_recast 29 (.int .i64 (IntKind.i64.wrap (4 * (areaI a b c d)))) (.int .i64 (4 * (areaI a b c d))) rfl (wrapI (by omega) (by omega)) ?_
  refine bS [0, 0] 7 0 [(0, .pointer (some ⟨m, 0, none⟩)), (2, .slice A2 n2 cap2), (4, .pointer (some ⟨b2, 0, none⟩)), (6, .pointer (some ⟨b3, 0, none⟩)), (24, .bool (decide ((n2 : Int) > (4 * (areaI a b c d)))))] ?_
  refine cont_done ?_
  refine then_normal ?_
  refine cont_split 24 (decide ((n2 : Int) > (4 * (areaI a b c d)))) rfl (fun c6_ => ?_) (fun c6_ => ?_)
  ·
    replace c6_ := of_decide_eq_true c6_
    refine cont_true rfl ?_
    refine cont_seq ?_
    refine cont_region 1 rfl ?_
    refine batch0 [0] 1 0 [(6, .pointer (some ⟨b3, 0, none⟩))] [.cells b3 [.int .i64 2] 23 true, .cells b2 [.int .i64 a, .int .i64 b, .int .i64 c, .int .i64 d] 32 true, .ro m [.int .i64 W, .int .i64 H, .slice (some ⟨r, 0, none⟩) n cap] 84, .gen (rowE (some ⟨r, 0, none⟩) r n cap 28 1 (ivals .u32 px) false), .gen (rdE (A2) g2 o2 n2 1 (ivals .u8 xs2))] rfl rfl (by kernel_rfl) (by kernel_rfl) ?_
    refine cont_forget 1 rfl ?_
    refine cont_done ?_
    refine then_normal ?_
    refine cont_ret ?_
    refine blk_ret ?_
    refine then_ret ?_
    refine plain_end (.inl rfl) ?_
    refine ret_one (.inl rfl) rfl 0 (.int .i64 2) (by kernel_rfl) (by kernel_rfl) (fun w hT => ?_)
    replace hT := hT.erase 3 (fun e h hw => by cases h; first | rfl | cases hw)
    replace hT := hT.erase 0 (fun e h hw => by cases h; first | rfl | cases hw)
    have hE : wrE W H a b c d xs2 = 2 := wrE_long hg (by omega)
    exact ⟨ret_int hE.symm, by rw [wrA_no (by rw [hE]; decide)]; exact hT⟩
  replace c6_ := of_decide_eq_false c6_
  refine cont_false rfl ?_
  refine cont_skip ?_
  refine blk_normal ?_
  refine then_normal ?_
  refine cont_seq ?_
  refine cont_region 1 rfl ?_
  refine batch1 [0] 1 0 (fun b7 => [(0, .pointer (some ⟨m, 0, none⟩)), (2, .slice A2 n2 cap2), (4, .pointer (some ⟨b2, 0, none⟩)), (6, .pointer (some ⟨b3, 0, none⟩)), (7, .pointer (some ⟨b7, 0, none⟩))]) (fun b7 => [.cells b7 [.slice none 0 0] 35 true, .cells b3 [.int .i64 0] 23 true, .cells b2 [.int .i64 a, .int .i64 b, .int .i64 c, .int .i64 d] 32 true, .ro m [.int .i64 W, .int .i64 H, .slice (some ⟨r, 0, none⟩) n cap] 84, .gen (rowE (some ⟨r, 0, none⟩) r n cap 28 1 (ivals .u32 px) false), .gen (rdE (A2) g2 o2 n2 1 (ivals .u8 xs2))]) rfl rfl [0, 2, 4, 6, 7] (fun _ => rfl) (fun b7 => by kernel_rfl) (fun b7 => by kernel_rfl) (fun b7 => ?_)
  refine cont_done ?_
  refine then_normal ?_
  refine cont_seq ?_
  refine cont_seq ?_
  refine cont_region 2 rfl ?_
  obtain ⟨N, hN⟩ : ∃ N : Nat, (N : Int) = areaI a b c d := ⟨Int.toNat (areaI a b c d), by omega⟩
  refine bS [0] 1 1 [(0, .pointer (some ⟨m, 0, none⟩)), (4, .pointer (some ⟨b2, 0, none⟩)), (6, .pointer (some ⟨b3, 0, none⟩)), (7, .pointer (some ⟨b7, 0, none⟩)), (31, .slice A2 n2 cap2)] ?_
  refine pl_step 2 0 rfl rfl ?_
  refine cont_recast 31 (.slice A2 n2 cap2) (.slice (some ⟨g2, o2, none⟩) n2 cap2) rfl (by rw [hl1_a (by omega)]) ?_
  refine call_gen (d := 32) (α := Nat × Nat) (fun x_ => .func (.func 69) #[] #[.pointer (some ⟨x_.1, 0, none⟩), .pointer (some ⟨x_.2, 0, none⟩)]) (fun x_ => [.cells x_.2 [.int .i64 4] 3 true, .cells x_.1 [.slice (some ⟨g2, o2, none⟩) n2 cap2] 43 true, .cells b7 [.slice none 0 0] 35 true, .cells b3 [.int .i64 0] 23 true, .cells b2 [.int .i64 a, .int .i64 b, .int .i64 c, .int .i64 d] 32 true, .ro m [.int .i64 W, .int .i64 H, .slice (some ⟨r, 0, none⟩) n cap] 84, .gen (rowE (some ⟨r, 0, none⟩) r n cap 28 1 (ivals .u32 px) false), .gen (rdE (A2) g2 o2 n2 1 (ivals .u8 xs2))]) (fun x_ => True) (by kernel_rfl) (fun w hT => (sliceChunk g2 o2 n2 cap2 w).mono fun e w' ⟨kb18, kb29, he_, ht_⟩ => ⟨(kb18, kb29), he_, trivial, hT.news ht_ rfl⟩) ?_
  rintro ⟨kb18, kb29⟩ hf10_
  refine cont_norm [(0, .pointer (some ⟨m, 0, none⟩)), (4, .pointer (some ⟨b2, 0, none⟩)), (6, .pointer (some ⟨b3, 0, none⟩)), (7, .pointer (some ⟨b7, 0, none⟩)), (31, .slice (some ⟨g2, o2, none⟩) n2 cap2), (32, .func (.func 69) #[] #[.pointer (some ⟨kb18, 0, none⟩), .pointer (some ⟨kb29, 0, none⟩)])] [.cells kb29 [.int .i64 4] 3 true, .cells kb18 [.slice (some ⟨g2, o2, none⟩) n2 cap2] 43 true, .cells b7 [.slice none 0 0] 35 true, .cells b3 [.int .i64 0] 23 true, .cells b2 [.int .i64 a, .int .i64 b, .int .i64 c, .int .i64 d] 32 true, .ro m [.int .i64 W, .int .i64 H, .slice (some ⟨r, 0, none⟩) n cap] 84, .gen (rowE (some ⟨r, 0, none⟩) r n cap 28 1 (ivals .u32 px) false), .gen (rdE (A2) g2 o2 n2 1 (ivals .u8 xs2))] (by kernel_rfl) rfl ?_
  refine cont_done ?_
  refine then_normal ?_
  refine cont_block ?_
  refine cont_weaken 1 (.ro kb18 [.slice (some ⟨g2, o2, none⟩) n2 cap2] 43) rfl rfl Vw.roc rfl ?_
  refine cont_norm [(0, .pointer (some ⟨m, 0, none⟩)), (4, .pointer (some ⟨b2, 0, none⟩)), (6, .pointer (some ⟨b3, 0, none⟩)), (7, .pointer (some ⟨b7, 0, none⟩)), (31, .slice (some ⟨g2, o2, none⟩) n2 cap2), (32, .func (.func 69) #[] #[.pointer (some ⟨kb18, 0, none⟩), .pointer (some ⟨kb29, 0, none⟩)])] [.cells kb29 [.int .i64 4] 3 true, .ro kb18 [.slice (some ⟨g2, o2, none⟩) n2 cap2] 43, .cells b7 [.slice none 0 0] 35 true, .cells b3 [.int .i64 0] 23 true, .cells b2 [.int .i64 a, .int .i64 b, .int .i64 c, .int .i64 d] 32 true, .ro m [.int .i64 W, .int .i64 H, .slice (some ⟨r, 0, none⟩) n cap] 84, .gen (rowE (some ⟨r, 0, none⟩) r n cap 28 1 (ivals .u32 px) false), .gen (rdE (A2) g2 o2 n2 1 (ivals .u8 xs2))] (by kernel_rfl) rfl ?_
  refine cont_weaken 0 (.ro kb29 [.int .i64 4] 3) rfl rfl Vw.roc rfl ?_
  refine cont_norm [(0, .pointer (some ⟨m, 0, none⟩)), (4, .pointer (some ⟨b2, 0, none⟩)), (6, .pointer (some ⟨b3, 0, none⟩)), (7, .pointer (some ⟨b7, 0, none⟩)), (31, .slice (some ⟨g2, o2, none⟩) n2 cap2), (32, .func (.func 69) #[] #[.pointer (some ⟨kb18, 0, none⟩), .pointer (some ⟨kb29, 0, none⟩)])] [.ro kb29 [.int .i64 4] 3, .ro kb18 [.slice (some ⟨g2, o2, none⟩) n2 cap2] 43, .cells b7 [.slice none 0 0] 35 true, .cells b3 [.int .i64 0] 23 true, .cells b2 [.int .i64 a, .int .i64 b, .int .i64 c, .int .i64 d] 32 true, .ro m [.int .i64 W, .int .i64 H, .slice (some ⟨r, 0, none⟩) n cap] 84, .gen (rowE (some ⟨r, 0, none⟩) r n cap 28 1 (ivals .u32 px) false), .gen (rdE (A2) g2 o2 n2 1 (ivals .u8 xs2))] (by kernel_rfl) rfl ?_
  refine cont_nilrow 28 1 ?_
  refine cont_norm [(0, .pointer (some ⟨m, 0, none⟩)), (4, .pointer (some ⟨b2, 0, none⟩)), (6, .pointer (some ⟨b3, 0, none⟩)), (7, .pointer (some ⟨b7, 0, none⟩)), (31, .slice (some ⟨g2, o2, none⟩) n2 cap2), (32, .func (.func 69) #[] #[.pointer (some ⟨kb18, 0, none⟩), .pointer (some ⟨kb29, 0, none⟩)])] [.gen (rowE (none) 0 0 0 28 1 (ivals .u32 []) true), .ro kb29 [.int .i64 4] 3, .ro kb18 [.slice (some ⟨g2, o2, none⟩) n2 cap2] 43, .cells b7 [.slice none 0 0] 35 true, .cells b3 [.int .i64 0] 23 true, .cells b2 [.int .i64 a, .int .i64 b, .int .i64 c, .int .i64 d] 32 true, .ro m [.int .i64 W, .int .i64 H, .slice (some ⟨r, 0, none⟩) n cap] 84, .gen (rowE (some ⟨r, 0, none⟩) r n cap 28 1 (ivals .u32 px) false), .gen (rdE (A2) g2 o2 n2 1 (ivals .u8 xs2))] (by kernel_rfl) rfl ?_
  refine cont_pick [2, 1, 8, 0, 3, 4, 5, 6, 7] [.ro kb18 [.slice (some ⟨g2, o2, none⟩) n2 cap2] 43, .ro kb29 [.int .i64 4] 3, .gen (rdE (A2) g2 o2 n2 1 (ivals .u8 xs2)), .gen (rowE (none) 0 0 0 28 1 (ivals .u32 []) true), .cells b7 [.slice none 0 0] 35 true, .cells b3 [.int .i64 0] 23 true, .cells b2 [.int .i64 a, .int .i64 b, .int .i64 c, .int .i64 d] 32 true, .ro m [.int .i64 W, .int .i64 H, .slice (some ⟨r, 0, none⟩) n cap] 84, .gen (rowE (some ⟨r, 0, none⟩) r n cap 28 1 (ivals .u32 px) false)] (by decide) rfl rfl ?_
  refine cont_rangeFunc (X := Nat) (β := Nat × Option Addr × Nat × Nat) (γ := Unit) (gf := 69) (lb := #[.pointer (some ⟨kb18, 0, none⟩), .pointer (some ⟨kb29, 0, none⟩)]) (fun z_ : Nat => #[.slice (some ⟨g2, o2 + 4 * z_, none⟩) 4 4]) [.ro kb18 [.slice (some ⟨g2, o2, none⟩) n2 cap2] 43, .ro kb29 [.int .i64 4] 3, .gen (rdE (A2) g2 o2 n2 1 (ivals .u8 xs2))] (fun z_ : Nat => []) (fun xs_ => ChP N xs_ ∧ xs_.length = N) (fun xs_ => ChP N xs_) (fun (pre : List (Nat)) (x_ : Nat × Option Addr × Nat × Nat) => x_.1 = pre.length ∧ okN xs2 x_.1) (fun x_ : Nat × Option Addr × Nat × Nat => [.gen (rowE (x_.2.1) x_.2.2.1 x_.1 x_.2.2.2 28 1 (ivals .u32 (wrL xs2 x_.1)) true), .cells b7 [.slice x_.2.1 x_.1 x_.2.2.2] 35 true, .cells b3 [.int .i64 0] 23 true, .cells b2 [.int .i64 a, .int .i64 b, .int .i64 c, .int .i64 d] 32 true, .ro m [.int .i64 W, .int .i64 H, .slice (some ⟨r, 0, none⟩) n cap] 84, .gen (rowE (some ⟨r, 0, none⟩) r n cap 28 1 (ivals .u32 px) false)]) (fun (c_ : Code) (x_ : Unit) => (c_ = .ret ∧ ∃ k_, k_ < N ∧ mayB (mkB xs2 k_) = false)) (fun x_ : Unit => [.cells b3 [.int .i64 1] 23 true, .ro m [.int .i64 W, .int .i64 H, .slice (some ⟨r, 0, none⟩) n cap] 84, .gen (rowE (some ⟨r, 0, none⟩) r n cap 28 1 (ivals .u32 px) false)]) (0, none, 0, 0) rfl (fun _ _ => rfl) (fun _ => rfl) (by kernel_rfl) (chunkIter kb18 kb29 A2 g2 o2 n2 cap2 xs2 N (by omega) hc2 (by omega) _) (⟨rfl, fun j hj => by omega⟩) rfl ?_ ?_ ?_ ?_
  ·
    rintro l_ z12_ e12_ e12b_ e12q_ pre kk ⟨k, Ao, gw, co⟩ B_ hz_ hinv13_ hsp_ hB_
    replace hinv13_ : k = pre.length ∧ okN xs2 k := hinv13_
    replace hsp_ : ChP N (pre ++ [(kk)]) := hsp_
    refine cont_norm [(6, .pointer (some ⟨b3, 0, none⟩)), (7, .pointer (some ⟨b7, 0, none⟩)), (33, .slice (some ⟨g2, o2 + 4 * kk, none⟩) 4 4)] [z12_, e12_, e12q_, .ro kb18 [.slice (some ⟨g2, o2, none⟩) n2 cap2] 43, .ro kb29 [.int .i64 4] 3, .gen (rdE (A2) g2 o2 n2 1 (ivals .u8 xs2)), .gen (rowE (Ao) gw k co 28 1 (ivals .u32 (wrL xs2 k)) true), .cells b7 [.slice Ao k co] 35 true, .cells b3 [.int .i64 0] 23 true, .cells b2 [.int .i64 a, .int .i64 b, .int .i64 c, .int .i64 d] 32 true, .ro m [.int .i64 W, .int .i64 H, .slice (some ⟨r, 0, none⟩) n cap] 84, .gen (rowE (some ⟨r, 0, none⟩) r n cap 28 1 (ivals .u32 px) false)] (by kernel_rfl) rfl ?_
    refine mcont_region 1 rfl (by kernel_rfl) ?_
    refine bS [0] 1 0 [(6, .pointer (some ⟨b3, 0, none⟩)), (7, .pointer (some ⟨b7, 0, none⟩)), (8, .slice (some ⟨g2, o2 + 4 * kk, none⟩) 4 4)] ?_
    refine cont_done ?_
    refine then_normal ?_
    refine hB_ [(6, .pointer (some ⟨b3, 0, none⟩)), (7, .pointer (some ⟨b7, 0, none⟩)), (8, .slice (some ⟨g2, o2 + 4 * kk, none⟩) 4 4)] [z12_] [e12q_, .ro kb18 [.slice (some ⟨g2, o2, none⟩) n2 cap2] 43, .ro kb29 [.int .i64 4] 3, .gen (rdE (A2) g2 o2 n2 1 (ivals .u8 xs2)), .gen (rowE (Ao) gw k co 28 1 (ivals .u32 (wrL xs2 k)) true), .cells b7 [.slice Ao k co] 35 true, .cells b3 [.int .i64 0] 23 true, .cells b2 [.int .i64 a, .int .i64 b, .int .i64 c, .int .i64 d] 32 true, .ro m [.int .i64 W, .int .i64 H, .slice (some ⟨r, 0, none⟩) n cap] 84, .gen (rowE (some ⟨r, 0, none⟩) r n cap 28 1 (ivals .u32 px) false)] ?_
    refine cont_norm [(6, .pointer (some ⟨b3, 0, none⟩)), (7, .pointer (some ⟨b7, 0, none⟩)), (8, .slice (some ⟨g2, o2 + 4 * kk, none⟩) 4 4)] [z12_, e12b_, e12q_, .ro kb18 [.slice (some ⟨g2, o2, none⟩) n2 cap2] 43, .ro kb29 [.int .i64 4] 3, .gen (rdE (A2) g2 o2 n2 1 (ivals .u8 xs2)), .gen (rowE (Ao) gw k co 28 1 (ivals .u32 (wrL xs2 k)) true), .cells b7 [.slice Ao k co] 35 true, .cells b3 [.int .i64 0] 23 true, .cells b2 [.int .i64 a, .int .i64 b, .int .i64 c, .int .i64 d] 32 true, .ro m [.int .i64 W, .int .i64 H, .slice (some ⟨r, 0, none⟩) n cap] 84, .gen (rowE (some ⟨r, 0, none⟩) r n cap 28 1 (ivals .u32 px) false)] (by kernel_rfl) rfl ?_
    obtain ⟨hkp, hokn⟩ := hinv13_
    obtain ⟨hkk0, hlt_⟩ := hsp_.last
    have hkk : kk = k := by omega
    have hmk := mkB_in xs2 kk
    have hb0 := getD_byte hx2 (4 * kk + 0)
    have hb1 := getD_byte hx2 (4 * kk + 1)
    have hb2 := getD_byte hx2 (4 * kk + 2)
    have hb3 := getD_byte hx2 (4 * kk + 3)
    refine mcont_block ?_
    refine mcont_seq ?_
    refine mdrawn_enter 18 [] rfl (by kernel_rfl) (by kernel_rfl) ?_
    refine takes 0 [] [(0, 0), (4, 0), (8, 0), (12, 0)] 14 [12, 8, 4, 0] [(6, .pointer (some ⟨b3, 0, none⟩)), (7, .pointer (some ⟨b7, 0, none⟩)), (34, .slice (some ⟨g2, o2 + 4 * kk, none⟩) 4 4), (38, .slice (some ⟨g2, o2 + 4 * kk, none⟩) 4 4), (42, .slice (some ⟨g2, o2 + 4 * kk, none⟩) 4 4), (46, .slice (some ⟨g2, o2 + 4 * kk, none⟩) 4 4)] (by kernel_rfl) (pok_then (pok_blk pok_rq)) (by kernel_rfl) rfl rfl (by kernel_rfl) (by kernel_rfl) ?_
    refine sem_take 0 [] 1 13 35 (Instr.indexAt 43 (.slice (some ⟨g2, o2 + 4 * kk, none⟩) 4 4) (.int .i64 0)) (.pointer (some ⟨g2, o2 + 4 * kk + 0, none⟩)) (by kernel_rfl) (pok_then (pok_blk pok_rq)) (by kernel_rfl) rfl (by kernel_rfl) (by kernel_rfl) (fun w hT => run_indexAt (e := 5) (sz := 1) _ (by kernel_rfl) (by kernel_rfl) (by omega) (by omega) (by omega) w) ?_
    refine sem_take 0 [] 2 12 36 (Instr.loadAt 5 (.pointer (some ⟨g2, o2 + 4 * kk + 0, none⟩))) (.int .u8 (xs2.getD (4 * kk + 0) 0)) (by kernel_rfl) (pok_then (pok_blk pok_rq)) (by kernel_rfl) rfl (by kernel_rfl) (by kernel_rfl) (fun w hT => run_load1 (by kernel_rfl) (Rd.cell (hT 5 _ rfl) (4 * kk + 0) _ (ivals_get (by omega)))) ?_
    refine takes 0 [] [(3, 0)] 11 [3, 2, 1, 12, 8, 4, 0] [(6, .pointer (some ⟨b3, 0, none⟩)), (7, .pointer (some ⟨b7, 0, none⟩)), (37, .int .i64 (IntKind.i64.wrap (xs2.getD (4 * kk + 0) 0))), (38, .slice (some ⟨g2, o2 + 4 * kk, none⟩) 4 4), (42, .slice (some ⟨g2, o2 + 4 * kk, none⟩) 4 4), (46, .slice (some ⟨g2, o2 + 4 * kk, none⟩) 4 4)] (by kernel_rfl) (pok_then (pok_blk pok_rq)) (by kernel_rfl) rfl rfl (by kernel_rfl) (by kernel_rfl) ?_
    refine cont_recast 37 (.int .i64 (IntKind.i64.wrap (xs2.getD (4 * kk + 0) 0))) (.int .i64 (xs2.getD (4 * kk + 0) 0)) rfl (wrapI (by omega) (by omega)) ?_
    refine sem_take 0 [] 5 10 39 (Instr.indexAt 43 (.slice (some ⟨g2, o2 + 4 * kk, none⟩) 4 4) (.int .i64 1)) (.pointer (some ⟨g2, o2 + 4 * kk + 1, none⟩)) (by kernel_rfl) (pok_then (pok_blk pok_rq)) (by kernel_rfl) rfl (by kernel_rfl) (by kernel_rfl) (fun w hT => run_indexAt (e := 5) (sz := 1) _ (by kernel_rfl) (by kernel_rfl) (by omega) (by omega) (by omega) w) ?_
    refine sem_take 0 [] 6 9 40 (Instr.loadAt 5 (.pointer (some ⟨g2, o2 + 4 * kk + 1, none⟩))) (.int .u8 (xs2.getD (4 * kk + 1) 0)) (by kernel_rfl) (pok_then (pok_blk pok_rq)) (by kernel_rfl) rfl (by kernel_rfl) (by kernel_rfl) (fun w hT => run_load1 (by kernel_rfl) (Rd.cell (hT 5 _ rfl) (4 * kk + 1) _ (ivals_get (by omega)))) ?_
    refine takes 0 [] [(7, 0)] 8 [7, 6, 5, 3, 2, 1, 12, 8, 4, 0] [(6, .pointer (some ⟨b3, 0, none⟩)), (7, .pointer (some ⟨b7, 0, none⟩)), (37, .int .i64 (xs2.getD (4 * kk + 0) 0)), (41, .int .i64 (IntKind.i64.wrap (xs2.getD (4 * kk + 1) 0))), (42, .slice (some ⟨g2, o2 + 4 * kk, none⟩) 4 4), (46, .slice (some ⟨g2, o2 + 4 * kk, none⟩) 4 4)] (by kernel_rfl) (pok_then (pok_blk pok_rq)) (by kernel_rfl) rfl rfl (by kernel_rfl) (by kernel_rfl) ?_
    refine cont_recast 41 (.int .i64 (IntKind.i64.wrap (xs2.getD (4 * kk + 1) 0))) (.int .i64 (xs2.getD (4 * kk + 1) 0)) rfl (wrapI (by omega) (by omega)) ?_
    refine sem_take 0 [] 9 7 43 (Instr.indexAt 43 (.slice (some ⟨g2, o2 + 4 * kk, none⟩) 4 4) (.int .i64 2)) (.pointer (some ⟨g2, o2 + 4 * kk + 2, none⟩)) (by kernel_rfl) (pok_then (pok_blk pok_rq)) (by kernel_rfl) rfl (by kernel_rfl) (by kernel_rfl) (fun w hT => run_indexAt (e := 5) (sz := 1) _ (by kernel_rfl) (by kernel_rfl) (by omega) (by omega) (by omega) w) ?_
    refine sem_take 0 [] 10 6 44 (Instr.loadAt 5 (.pointer (some ⟨g2, o2 + 4 * kk + 2, none⟩))) (.int .u8 (xs2.getD (4 * kk + 2) 0)) (by kernel_rfl) (pok_then (pok_blk pok_rq)) (by kernel_rfl) rfl (by kernel_rfl) (by kernel_rfl) (fun w hT => run_load1 (by kernel_rfl) (Rd.cell (hT 5 _ rfl) (4 * kk + 2) _ (ivals_get (by omega)))) ?_
    refine takes 0 [] [(11, 0)] 5 [11, 10, 9, 7, 6, 5, 3, 2, 1, 12, 8, 4, 0] [(6, .pointer (some ⟨b3, 0, none⟩)), (7, .pointer (some ⟨b7, 0, none⟩)), (37, .int .i64 (xs2.getD (4 * kk + 0) 0)), (41, .int .i64 (xs2.getD (4 * kk + 1) 0)), (45, .int .i64 (IntKind.i64.wrap (xs2.getD (4 * kk + 2) 0))), (46, .slice (some ⟨g2, o2 + 4 * kk, none⟩) 4 4)] (by kernel_rfl) (pok_then (pok_blk pok_rq)) (by kernel_rfl) rfl rfl (by kernel_rfl) (by kernel_rfl) ?_
    refine cont_recast 45 (.int .i64 (IntKind.i64.wrap (xs2.getD (4 * kk + 2) 0))) (.int .i64 (xs2.getD (4 * kk + 2) 0)) rfl (wrapI (by omega) (by omega)) ?_
    refine sem_take 0 [] 13 4 47 (Instr.indexAt 43 (.slice (some ⟨g2, o2 + 4 * kk, none⟩) 4 4) (.int .i64 3)) (.pointer (some ⟨g2, o2 + 4 * kk + 3, none⟩)) (by kernel_rfl) (pok_then (pok_blk pok_rq)) (by kernel_rfl) rfl (by kernel_rfl) (by kernel_rfl) (fun w hT => run_indexAt (e := 5) (sz := 1) _ (by kernel_rfl) (by kernel_rfl) (by omega) (by omega) (by omega) w) ?_
    refine sem_take 0 [] 14 3 48 (Instr.loadAt 5 (.pointer (some ⟨g2, o2 + 4 * kk + 3, none⟩))) (.int .u8 (xs2.getD (4 * kk + 3) 0)) (by kernel_rfl) (pok_then (pok_blk pok_rq)) (by kernel_rfl) rfl (by kernel_rfl) (by kernel_rfl) (fun w hT => run_load1 (by kernel_rfl) (Rd.cell (hT 5 _ rfl) (4 * kk + 3) _ (ivals_get (by omega)))) ?_
    refine takes 0 [] [(15, 0)] 2 [15, 14, 13, 11, 10, 9, 7, 6, 5, 3, 2, 1, 12, 8, 4, 0] [(6, .pointer (some ⟨b3, 0, none⟩)), (7, .pointer (some ⟨b7, 0, none⟩)), (37, .int .i64 (xs2.getD (4 * kk + 0) 0)), (41, .int .i64 (xs2.getD (4 * kk + 1) 0)), (45, .int .i64 (xs2.getD (4 * kk + 2) 0)), (49, .int .i64 (IntKind.i64.wrap (xs2.getD (4 * kk + 3) 0)))] (by kernel_rfl) (pok_then (pok_blk pok_rq)) (by kernel_rfl) rfl rfl (by kernel_rfl) (by kernel_rfl) ?_
    refine cont_recast 49 (.int .i64 (IntKind.i64.wrap (xs2.getD (4 * kk + 3) 0))) (.int .i64 (xs2.getD (4 * kk + 3) 0)) rfl (wrapI (by omega) (by omega)) ?_
    refine drawn_one 16 1 rfl (by kernel_rfl) ?_
    refine call_pure (d := 50) (.int .u32 (mkC (xs2.getD (4 * kk + 0) 0) (xs2.getD (4 * kk + 1) 0) (xs2.getD (4 * kk + 2) 0) (xs2.getD (4 * kk + 3) 0))) (by kernel_rfl) (fun w hT => colorMake (xs2.getD (4 * kk + 0) 0) (xs2.getD (4 * kk + 1) 0) (xs2.getD (4 * kk + 2) 0) (xs2.getD (4 * kk + 3) 0) w) ?_
    refine cont_recast 50 (.int .u32 (mkC (xs2.getD (4 * kk + 0) 0) (xs2.getD (4 * kk + 1) 0) (xs2.getD (4 * kk + 2) 0) (xs2.getD (4 * kk + 3) 0))) (.int .u32 (mkB xs2 kk)) rfl (congrArg (Value.int .u32) rfl) ?_
    refine drawn_next 0 [] (by kernel_rfl) ?_
    refine takes 0 [] [(17, 0)] 0 [17, 16, 15, 14, 13, 11, 10, 9, 7, 6, 5, 3, 2, 1, 12, 8, 4, 0] [(6, .pointer (some ⟨b3, 0, none⟩)), (7, .pointer (some ⟨b7, 0, none⟩)), (9, .int .u32 (mkB xs2 kk))] (by kernel_rfl) (pok_then (pok_blk pok_rq)) (by kernel_rfl) rfl rfl (by kernel_rfl) (by kernel_rfl) ?_
    refine drawn_done (by kernel_rfl) ?_
    refine then_normal ?_
    refine mcont_seq ?_
    refine mcont_seq ?_
    refine mcont_region 3 rfl (by kernel_rfl) ?_
    refine bS [0] 1 2 [(6, .pointer (some ⟨b3, 0, none⟩)), (7, .pointer (some ⟨b7, 0, none⟩)), (9, .int .u32 (mkB xs2 kk)), (51, .int .u32 (mkB xs2 kk))] ?_
    refine pl_step 2 1 rfl rfl ?_
    refine call_pure (d := 52) (.bool (mayB (mkB xs2 kk))) (by kernel_rfl) (fun w hT => colorMay (mkB xs2 kk) w (by omega) (by omega)) ?_
    refine bS [0] 3 0 [(6, .pointer (some ⟨b3, 0, none⟩)), (7, .pointer (some ⟨b7, 0, none⟩)), (9, .int .u32 (mkB xs2 kk)), (53, .bool (!(mayB (mkB xs2 kk))))] ?_
    refine cont_done ?_
    refine then_normal ?_
    refine cont_split 53 (!(mayB (mkB xs2 kk))) rfl (fun c14_ => ?_) (fun c14_ => ?_)
    ·
      replace c14_ : (mayB (mkB xs2 kk)) = false := by simpa using c14_
      have hmy : mayB (mkB xs2 kk) = false := c14_
      refine mcont_true rfl ?_
      refine mcont_seq ?_
      refine mcont_region 1 rfl (by kernel_rfl) ?_
      refine batch0 [8] 1 0 [(6, .pointer (some ⟨b3, 0, none⟩))] [z12_, e12b_, e12q_, .ro kb18 [.slice (some ⟨g2, o2, none⟩) n2 cap2] 43, .ro kb29 [.int .i64 4] 3, .gen (rdE (A2) g2 o2 n2 1 (ivals .u8 xs2)), .gen (rowE (Ao) gw k co 28 1 (ivals .u32 (wrL xs2 k)) true), .cells b7 [.slice Ao k co] 35 true, .cells b3 [.int .i64 1] 23 true, .cells b2 [.int .i64 a, .int .i64 b, .int .i64 c, .int .i64 d] 32 true, .ro m [.int .i64 W, .int .i64 H, .slice (some ⟨r, 0, none⟩) n cap] 84, .gen (rowE (some ⟨r, 0, none⟩) r n cap 28 1 (ivals .u32 px) false)] rfl rfl (by kernel_rfl) (by kernel_rfl) ?_
      refine cont_done ?_
      refine then_normal ?_
      refine mcont_ret ?_
      refine then_ret ?_
      refine blk_ret ?_
      refine cont_pick [0, 1, 2, 8, 10, 11] [z12_, e12b_, e12q_, .cells b3 [.int .i64 1] 23 true, .ro m [.int .i64 W, .int .i64 H, .slice (some ⟨r, 0, none⟩) n cap] 84, .gen (rowE (some ⟨r, 0, none⟩) r n cap 28 1 (ivals .u32 px) false)] (by decide) rfl rfl ?_
      refine rq_ret hz_ () (⟨rfl, kk, by omega, hmy⟩) rfl
    replace c14_ : (mayB (mkB xs2 kk)) = true := by simpa using c14_
    have hmy : mayB (mkB xs2 kk) = true := c14_
    refine mcont_false rfl ?_
    refine mcont_skip ?_
    refine then_normal ?_
    refine mcont_region 5 rfl (by kernel_rfl) ?_
    refine batch1 [7, 0, 0] 3 2 (fun b15 => [(7, .pointer (some ⟨b7, 0, none⟩)), (54, .slice Ao k co), (56, .slice (some ⟨b15, 0, none⟩) 1 1)]) (fun b15 => [.cells b15 [.int .u32 (mkB xs2 kk)] 28 true, z12_, e12b_, e12q_, .ro kb18 [.slice (some ⟨g2, o2, none⟩) n2 cap2] 43, .ro kb29 [.int .i64 4] 3, .gen (rdE (A2) g2 o2 n2 1 (ivals .u8 xs2)), .gen (rowE (Ao) gw k co 28 1 (ivals .u32 (wrL xs2 k)) true), .cells b7 [.slice Ao k co] 35 true, .cells b3 [.int .i64 0] 23 true, .cells b2 [.int .i64 a, .int .i64 b, .int .i64 c, .int .i64 d] 32 true, .ro m [.int .i64 W, .int .i64 H, .slice (some ⟨r, 0, none⟩) n cap] 84, .gen (rowE (some ⟨r, 0, none⟩) r n cap 28 1 (ivals .u32 px) false)]) rfl rfl [7, 54, 56] (fun _ => rfl) (fun b15 => by kernel_rfl) (fun b15 => by kernel_rfl) (fun b15 => ?_)
    refine pl_step 4 1 rfl rfl ?_
    refine sem_stepW (α := Option Addr × Nat × Nat) 57 (Builtin.append_ #[35, 35] 35 #[.slice Ao k co, .slice (some ⟨b15, 0, none⟩) 1 1]) (fun x_ => .slice x_.1 (k + 1) x_.2.2) (fun x_ => [.cells b15 [.int .u32 (mkB xs2 kk)] 28 true, z12_, e12b_, e12q_, .ro kb18 [.slice (some ⟨g2, o2, none⟩) n2 cap2] 43, .ro kb29 [.int .i64 4] 3, .gen (rdE (A2) g2 o2 n2 1 (ivals .u8 xs2)), .gen (rowE (x_.1) x_.2.1 (k + 1) x_.2.2 28 1 (ivals .u32 ((wrL xs2 k) ++ [mkB xs2 kk])) true), .cells b7 [.slice Ao k co] 35 true, .cells b3 [.int .i64 0] 23 true, .cells b2 [.int .i64 a, .int .i64 b, .int .i64 c, .int .i64 d] 32 true, .ro m [.int .i64 W, .int .i64 H, .slice (some ⟨r, 0, none⟩) n cap] 84, .gen (rowE (some ⟨r, 0, none⟩) r n cap 28 1 (ivals .u32 px) false)]) (fun _ => True) (by kernel_rfl) (fun w hT => append_own (n' := (k + 1)) (z := .int .u32 0) hT (i := 7) (bytes := 4) rfl (by kernel_rfl) (by kernel_rfl) rfl (by decide) (by decide) (Rd.ofCells (vals := ivals .u32 [mkB xs2 kk]) (hT.ok 0 _ rfl) rfl rfl) (ivals_one .u32 [mkB xs2 kk]) (by omega) (ivals_append .u32 (wrL xs2 k) [mkB xs2 kk]) rfl) ?_
    rintro ⟨A16, g16, cp16⟩ -
    refine cont_norm [(7, .pointer (some ⟨b7, 0, none⟩)), (54, .slice Ao k co), (56, .slice (some ⟨b15, 0, none⟩) 1 1), (57, .slice A16 (k + 1) cp16)] [.cells b15 [.int .u32 (mkB xs2 kk)] 28 true, z12_, e12b_, e12q_, .ro kb18 [.slice (some ⟨g2, o2, none⟩) n2 cap2] 43, .ro kb29 [.int .i64 4] 3, .gen (rdE (A2) g2 o2 n2 1 (ivals .u8 xs2)), .gen (rowE (A16) g16 (k + 1) cp16 28 1 (ivals .u32 ((wrL xs2 k) ++ [mkB xs2 kk])) true), .cells b7 [.slice Ao k co] 35 true, .cells b3 [.int .i64 0] 23 true, .cells b2 [.int .i64 a, .int .i64 b, .int .i64 c, .int .i64 d] 32 true, .ro m [.int .i64 W, .int .i64 H, .slice (some ⟨r, 0, none⟩) n cap] 84, .gen (rowE (some ⟨r, 0, none⟩) r n cap 28 1 (ivals .u32 px) false)] (by kernel_rfl) rfl ?_
    refine cont_fact (F := (0 < (k + 1) → (A16 : Option Addr) = some ⟨g16, 0, none⟩) ∧ ((wrL xs2 k) ++ [mkB xs2 kk]).length = (k + 1) ∧ (k + 1) ≤ cp16 ∧ cp16 ≤ maxLen) (fun w hT => Row.facts (hT.ok 7 _ rfl)) (fun hr17_ => ?_)
    obtain ⟨hr17_a, hr17_l, hr17_c, hr17_m⟩ := hr17_
    unfold maxLen at hr17_m
    refine batch0 [8] 5 0 [] [.cells b15 [.int .u32 (mkB xs2 kk)] 28 true, z12_, e12b_, e12q_, .ro kb18 [.slice (some ⟨g2, o2, none⟩) n2 cap2] 43, .ro kb29 [.int .i64 4] 3, .gen (rdE (A2) g2 o2 n2 1 (ivals .u8 xs2)), .gen (rowE (A16) g16 (k + 1) cp16 28 1 (ivals .u32 ((wrL xs2 k) ++ [mkB xs2 kk])) true), .cells b7 [.slice A16 (k + 1) cp16] 35 true, .cells b3 [.int .i64 0] 23 true, .cells b2 [.int .i64 a, .int .i64 b, .int .i64 c, .int .i64 d] 32 true, .ro m [.int .i64 W, .int .i64 H, .slice (some ⟨r, 0, none⟩) n cap] 84, .gen (rowE (some ⟨r, 0, none⟩) r n cap 28 1 (ivals .u32 px) false)] rfl rfl (by kernel_rfl) (by kernel_rfl) ?_
    refine cont_forget 0 rfl ?_
    refine cont_done ?_
    refine blk_normal ?_
    refine cont_rowEq (k := .u32) 6 ((wrL xs2 k) ++ [mkB xs2 kk]) (wrL xs2 (k + 1)) rfl (by rw [wrL_succ, hkk]) ?_
    refine rq_next (k + 1, A16, g16, cp16) (show (k + 1) = (pre ++ [kk]).length ∧ okN xs2 (k + 1) from ⟨by rw [List.length_append, List.length_singleton]; omega, hokn.step (by rw [← hkk]; exact hmy)⟩) rfl
  ·
    rintro D19_ xs_ ⟨k, Ao, gw, co⟩ hS_ hinv18_
    replace hinv18_ : k = xs_.length ∧ okN xs2 k := hinv18_
    replace hS_ : ChP N xs_ ∧ xs_.length = N := hS_
    refine cont_norm [(0, .pointer (some ⟨m, 0, none⟩)), (4, .pointer (some ⟨b2, 0, none⟩)), (6, .pointer (some ⟨b3, 0, none⟩)), (7, .pointer (some ⟨b7, 0, none⟩))] [markE D19_, .ro kb18 [.slice (some ⟨g2, o2, none⟩) n2 cap2] 43, .ro kb29 [.int .i64 4] 3, .gen (rdE (A2) g2 o2 n2 1 (ivals .u8 xs2)), .gen (rowE (Ao) gw k co 28 1 (ivals .u32 (wrL xs2 k)) true), .cells b7 [.slice Ao k co] 35 true, .cells b3 [.int .i64 0] 23 true, .cells b2 [.int .i64 a, .int .i64 b, .int .i64 c, .int .i64 d] 32 true, .ro m [.int .i64 W, .int .i64 H, .slice (some ⟨r, 0, none⟩) n cap] 84, .gen (rowE (some ⟨r, 0, none⟩) r n cap 28 1 (ivals .u32 px) false)] (by kernel_rfl) rfl ?_
    obtain ⟨hkp, hokn⟩ := hinv18_
    have hkN : k = N := by rw [hkp]; exact hS_.2
    have hro := 0
    refine blk_normal ?_
    refine then_normal ?_
    refine cont_seq ?_
    refine cont_seq ?_
    refine cont_region 3 rfl ?_
    refine bS [0, 7, 0] 3 0 [(0, .pointer (some ⟨m, 0, none⟩)), (4, .pointer (some ⟨b2, 0, none⟩)), (6, .pointer (some ⟨b3, 0, none⟩)), (7, .pointer (some ⟨b7, 0, none⟩)), (10, .int .i64 b)] ?_
    refine cont_done ?_
    refine then_normal ?_
    refine cont_block ?_
    clear hro
    refine cont_fact (F := (0 < k → (Ao : Option Addr) = some ⟨gw, 0, none⟩) ∧ (wrL xs2 k).length = k ∧ k ≤ co ∧ co ≤ maxLen) (fun w hT => Row.facts (hT.ok 4 _ rfl)) (fun hr20_ => ?_)
    obtain ⟨hr20_a, hr20_l, hr20_c, hr20_m⟩ := hr20_
    unfold maxLen at hr20_m
    have hroa := hr20_a
    obtain ⟨wn, hwn⟩ : ∃ k_ : Nat, k_ = Int.toNat (c - a) := ⟨_, rfl⟩
    rw [har0] at hN
    refine cont_rowEq (k := .u32) 9 (px) (wrS W a b wn xs2 px (0 * wn)) rfl (by rw [Nat.zero_mul]; rfl) ?_
    refine cont_recast 10 (.int .i64 b) (.int .i64 (b + ((0 : Nat) : Int))) rfl (congrArg (Value.int .i64) (by omega)) ?_
    refine cont_loop (α := Nat × Option Addr × Nat × Nat) (fun x_ : Nat × Option Addr × Nat × Nat => b + (x_.1 : Int) ≤ d ∧ x_.2.2.1 = k - x_.1 * wn ∧ x_.2.2.1 ≤ x_.2.2.2 ∧ (0 < x_.2.2.1 → x_.2.1 = some ⟨gw, 0 + (x_.1 * wn) * 1, none⟩)) (fun x_ : Nat × Option Addr × Nat × Nat => [(0, .pointer (some ⟨m, 0, none⟩)), (4, .pointer (some ⟨b2, 0, none⟩)), (6, .pointer (some ⟨b3, 0, none⟩)), (7, .pointer (some ⟨b7, 0, none⟩)), (10, .int .i64 (b + (x_.1 : Int)))]) (fun x_ : Nat × Option Addr × Nat × Nat => [markE D19_, .ro kb18 [.slice (some ⟨g2, o2, none⟩) n2 cap2] 43, .ro kb29 [.int .i64 4] 3, .gen (rdE (A2) g2 o2 n2 1 (ivals .u8 xs2)), .gen (rowE (Ao) gw k co 28 1 (ivals .u32 (wrL xs2 k)) true), .cells b7 [.slice x_.2.1 x_.2.2.1 x_.2.2.2] 35 true, .cells b3 [.int .i64 0] 23 true, .cells b2 [.int .i64 a, .int .i64 b, .int .i64 c, .int .i64 d] 32 true, .ro m [.int .i64 W, .int .i64 H, .slice (some ⟨r, 0, none⟩) n cap] 84, .gen (rowE (some ⟨r, 0, none⟩) r n cap 28 1 (ivals .u32 (wrS W a b wn xs2 px (x_.1 * wn))) false)]) (fun x_ : Nat × Option Addr × Nat × Nat => (d - b - x_.1).toNat) (0, Ao, k, co) (show b + ((0) : Int) ≤ d ∧ (k) = k - (0) * wn ∧ (k) ≤ (co) ∧ (0 < (k) → (Ao) = some ⟨gw, 0 + ((0) * wn) * 1, none⟩) from ⟨by omega, by omega, by omega, fun h_ => by rw [Nat.zero_mul]; exact hroa h_⟩) (by kernel_rfl) (by kernel_rfl) ?_
    rintro ⟨j, Aj, kn, kc⟩ hinv21_
    replace hinv21_ : b + (j : Int) ≤ d ∧ kn = k - j * wn ∧ kn ≤ kc ∧ (0 < kn → Aj = some ⟨gw, 0 + (j * wn) * 1, none⟩) := hinv21_
    refine cont_norm [(0, .pointer (some ⟨m, 0, none⟩)), (4, .pointer (some ⟨b2, 0, none⟩)), (6, .pointer (some ⟨b3, 0, none⟩)), (7, .pointer (some ⟨b7, 0, none⟩)), (10, .int .i64 (b + (j : Int)))] [markE D19_, .ro kb18 [.slice (some ⟨g2, o2, none⟩) n2 cap2] 43, .ro kb29 [.int .i64 4] 3, .gen (rdE (A2) g2 o2 n2 1 (ivals .u8 xs2)), .gen (rowE (Ao) gw k co 28 1 (ivals .u32 (wrL xs2 k)) true), .cells b7 [.slice Aj kn kc] 35 true, .cells b3 [.int .i64 0] 23 true, .cells b2 [.int .i64 a, .int .i64 b, .int .i64 c, .int .i64 d] 32 true, .ro m [.int .i64 W, .int .i64 H, .slice (some ⟨r, 0, none⟩) n cap] 84, .gen (rowE (some ⟨r, 0, none⟩) r n cap 28 1 (ivals .u32 (wrS W a b wn xs2 px (j * wn))) false)] (by kernel_rfl) rfl ?_
    obtain ⟨hj, hkn, hkc, hAj⟩ := hinv21_
    have hjw : b + (j : Int) < d → j * wn + wn ≤ k := fun h_ => by rw [hwn]; exact area_nat hg1 hg2 (by omega) h_
    have hjx : ∀ q : Nat, (wrS W a b wn xs2 px q).length = n := fun q => by rw [wrS_length]; exact hlen
    have hjl := hjx (j * wn)
    have hpl : b + (j : Int) < d → 0 ≤ (b + (j : Int)) * W ∧ (b + (j : Int)) * W ≤ 65536 ∧ (b + (j : Int)) * W + (W - 1) < n := fun h_ => hok.place (x := W - 1) (y := b + j) (by omega) (by omega) (by omega) (by omega)
    refine cont_seq ?_
    refine cont_seq ?_
    refine cont_region 4 rfl ?_
    refine bS [0, 0, 7, 0] 4 0 [(0, .pointer (some ⟨m, 0, none⟩)), (4, .pointer (some ⟨b2, 0, none⟩)), (6, .pointer (some ⟨b3, 0, none⟩)), (7, .pointer (some ⟨b7, 0, none⟩)), (10, .int .i64 (b + (j : Int))), (63, .bool (decide ((b + (j : Int)) < d)))] ?_
    refine cont_done ?_
    refine then_normal ?_
    refine cont_split 63 (decide ((b + (j : Int)) < d)) rfl (fun c22_ => ?_) (fun c22_ => ?_)
    ·
      replace c22_ := of_decide_eq_true c22_
      refine cont_true rfl ?_
      refine cont_skip ?_
      refine then_normal ?_
      refine cont_seq ?_
      refine cont_block ?_
      refine cont_seq ?_
      have hjw2 := hjw (by omega)
      obtain ⟨hpl1, hpl2, hpl3⟩ := hpl (by omega)
      refine drawn_enter 10 [9] rfl (by kernel_rfl) ?_
      refine takes 0 [9] [(0, 0), (1, 0), (2, 0), (4, 0), (7, 5), (3, 7), (5, 7)] 3 [5, 3, 7, 4, 2, 1, 0] [(0, .pointer (some ⟨m, 0, none⟩)), (4, .pointer (some ⟨b2, 0, none⟩)), (6, .pointer (some ⟨b3, 0, none⟩)), (7, .pointer (some ⟨b7, 0, none⟩)), (10, .int .i64 (b + (j : Int))), (66, .pointer (some ⟨m, 0, none⟩)), (67, .int .i64 (b + (j : Int))), (69, .int .i64 a), (71, .int .i64 c), (73, .slice Aj kn kc)] (by kernel_rfl) (pok_then (pok_blk (pok_then (pok_then (pok_blk (pok_then pok_np)))))) (by kernel_rfl) rfl rfl (by kernel_rfl) (by kernel_rfl) ?_
      refine drawn_one 6 2 rfl (by kernel_rfl) ?_
      refine call_pure (d := 72) (.slice (sliceA r 0 (Int.toNat ((b + (j : Int)) * W + a)) cap 1) (Int.toNat ((b + (j : Int)) * W + c) - Int.toNat ((b + (j : Int)) * W + a)) (cap - Int.toNat ((b + (j : Int)) * W + a))) (by kernel_rfl) (fun w hT => imgRow m W H r n cap (wrS W a b wn xs2 px (j * wn)) (b + (j : Int)) a c w ⟨hT.ok 8 _ rfl, Row.rd (hT.ok 9 _ rfl), Row.capLe (hT.ok 9 _ rfl)⟩ (wrS_in hok _) (by omega)) ?_
      refine drawn_next 0 [9] (by kernel_rfl) ?_
      refine drawn_one 8 1 rfl (by kernel_rfl) ?_
      refine sem_stepW 74 (Builtin.copy_ #[35, 35] 3 #[.slice (sliceA r 0 (Int.toNat ((b + (j : Int)) * W + a)) cap 1) (Int.toNat ((b + (j : Int)) * W + c) - Int.toNat ((b + (j : Int)) * W + a)) (cap - Int.toNat ((b + (j : Int)) * W + a)), .slice Aj kn kc]) (fun _ => .int .i64 ((min kn (Int.toNat ((b + (j : Int)) * W + c) - Int.toNat ((b + (j : Int)) * W + a)) : Nat) : Int)) (fun _ => [markE D19_, .ro kb18 [.slice (some ⟨g2, o2, none⟩) n2 cap2] 43, .ro kb29 [.int .i64 4] 3, .gen (rdE (A2) g2 o2 n2 1 (ivals .u8 xs2)), .gen (rowE (Ao) gw k co 28 1 (ivals .u32 (wrL xs2 k)) true), .cells b7 [.slice Aj kn kc] 35 true, .cells b3 [.int .i64 0] 23 true, .cells b2 [.int .i64 a, .int .i64 b, .int .i64 c, .int .i64 d] 32 true, .ro m [.int .i64 W, .int .i64 H, .slice (some ⟨r, 0, none⟩) n cap] 84, .gen (rowE (some ⟨r, 0, none⟩) r n cap 28 1 (ivals .u32 (wrS W a b wn xs2 px ((j + 1) * wn))) false)]) (fun _ => True) (by kernel_rfl) (fun w hT => copy_row (o := 0 + (Int.toNat ((b + (j : Int)) * W + a)) * 1) hT (i := 9) rfl (by kernel_rfl) (by kernel_rfl) (fun h_ => sliceA_pos (by omega)) (by omega) (Row.subA (hT.ok 4 _ rfl) (by omega) hAj) (wrS_row (H := H) (d := d) hok ⟨by omega, by omega, by omega, by omega, by omega⟩ (by omega) hwn hjw2 hkn (by omega) rfl)) (fun _ _ => ?_)
      refine drawn_next 0 [9] (by kernel_rfl) ?_
      refine takes 0 [9] [(9, 0)] 0 [9, 8, 6, 5, 3, 7, 4, 2, 1, 0] [(0, .pointer (some ⟨m, 0, none⟩)), (4, .pointer (some ⟨b2, 0, none⟩)), (6, .pointer (some ⟨b3, 0, none⟩)), (7, .pointer (some ⟨b7, 0, none⟩)), (10, .int .i64 (b + (j : Int))), (11, .int .i64 ((min kn (Int.toNat ((b + (j : Int)) * W + c) - Int.toNat ((b + (j : Int)) * W + a)) : Nat) : Int))] (by kernel_rfl) (pok_then (pok_blk (pok_then (pok_then (pok_blk (pok_then pok_np)))))) (by kernel_rfl) rfl rfl (by kernel_rfl) (by kernel_rfl) ?_
      refine drawn_done (by kernel_rfl) ?_
      refine then_normal ?_
      refine cont_region 4 rfl ?_
      refine cont_recast 11 (.int .i64 ((min kn (Int.toNat ((b + (j : Int)) * W + c) - Int.toNat ((b + (j : Int)) * W + a)) : Nat) : Int)) (.int .i64 (wn : Int)) rfl (congrArg (Value.int .i64) (by omega)) ?_
      refine bS [5, 0] 2 2 [(0, .pointer (some ⟨m, 0, none⟩)), (4, .pointer (some ⟨b2, 0, none⟩)), (6, .pointer (some ⟨b3, 0, none⟩)), (7, .pointer (some ⟨b7, 0, none⟩)), (10, .int .i64 (b + (j : Int))), (75, .slice Aj kn kc), (76, .int .i64 (wn : Int))] ?_
      refine pl_step 3 1 rfl rfl ?_
      refine cont_recast 75 (.slice Aj kn kc) (.slice (some ⟨gw, 0 + (j * wn) * 1, none⟩) kn kc) rfl (by rw [hAj (by omega)]) ?_
      refine sem_step 77 (Instr.sliceAt 35 (.slice (some ⟨gw, 0 + (j * wn) * 1, none⟩) kn kc) (some (.int .i64 (wn : Int))) none none) (.slice (sliceA gw (0 + (j * wn) * 1) wn kc 1) (kn - wn) (kc - wn)) (by kernel_rfl) (fun w hT => run_sliceLoC (e := 28) (sz := 1) _ (by kernel_rfl) (by kernel_rfl) (by omega) (by omega) (by omega) (by omega) w) ?_
      refine batch0 [5] 4 0 [(0, .pointer (some ⟨m, 0, none⟩)), (4, .pointer (some ⟨b2, 0, none⟩)), (6, .pointer (some ⟨b3, 0, none⟩)), (7, .pointer (some ⟨b7, 0, none⟩)), (10, .int .i64 (b + (j : Int)))] [markE D19_, .ro kb18 [.slice (some ⟨g2, o2, none⟩) n2 cap2] 43, .ro kb29 [.int .i64 4] 3, .gen (rdE (A2) g2 o2 n2 1 (ivals .u8 xs2)), .gen (rowE (Ao) gw k co 28 1 (ivals .u32 (wrL xs2 k)) true), .cells b7 [.slice (sliceA gw (0 + (j * wn) * 1) wn kc 1) (kn - wn) (kc - wn)] 35 true, .cells b3 [.int .i64 0] 23 true, .cells b2 [.int .i64 a, .int .i64 b, .int .i64 c, .int .i64 d] 32 true, .ro m [.int .i64 W, .int .i64 H, .slice (some ⟨r, 0, none⟩) n cap] 84, .gen (rowE (some ⟨r, 0, none⟩) r n cap 28 1 (ivals .u32 (wrS W a b wn xs2 px ((j + 1) * wn))) false)] rfl rfl (by kernel_rfl) (by kernel_rfl) ?_
      refine cont_done ?_
      refine blk_normal ?_
      refine then_normal ?_
      refine cont_region 3 rfl ?_
      refine bS [0, 0] 2 1 [(0, .pointer (some ⟨m, 0, none⟩)), (4, .pointer (some ⟨b2, 0, none⟩)), (6, .pointer (some ⟨b3, 0, none⟩)), (7, .pointer (some ⟨b7, 0, none⟩)), (65, .int .i64 (IntKind.i64.wrap ((b + (j : Int)) + 1)))] ?_
      refine cont_recast 65 (.int .i64 (IntKind.i64.wrap ((b + (j : Int)) + 1))) (.int .i64 ((b + (j : Int)) + 1)) rfl (wrapI (by omega) (by omega)) ?_
      refine bS [0] 3 0 [(0, .pointer (some ⟨m, 0, none⟩)), (4, .pointer (some ⟨b2, 0, none⟩)), (6, .pointer (some ⟨b3, 0, none⟩)), (7, .pointer (some ⟨b7, 0, none⟩)), (10, .int .i64 ((b + (j : Int)) + 1))] ?_
      refine cont_done ?_
      refine then_normal ?_
      refine cont_recast 10 (.int .i64 ((b + (j : Int)) + 1)) (.int .i64 (b + ((j + 1 : Nat) : Int))) rfl (congrArg (Value.int .i64) (by omega)) ?_
      refine cont_again (j + 1, sliceA gw (0 + (j * wn) * 1) wn kc 1, (kn - wn), (kc - wn)) (show b + ((j + 1) : Int) ≤ d ∧ ((kn - wn)) = k - (j + 1) * wn ∧ ((kn - wn)) ≤ ((kc - wn)) ∧ (0 < ((kn - wn)) → (sliceA gw (0 + (j * wn) * 1) wn kc 1) = some ⟨gw, 0 + ((j + 1) * wn) * 1, none⟩) from ⟨by omega, by rw [Nat.add_mul, Nat.one_mul]; omega, by omega, fun h_ => by rw [sliceA_pos (by omega), show 0 + j * wn * 1 + wn * 1 = 0 + (j + 1) * wn * 1 by rw [Nat.add_mul]; omega]⟩) (show (d - b - (j + 1)).toNat < (d - b - j).toNat from by omega) (by kernel_rfl) (by kernel_rfl)
    replace c22_ := of_decide_eq_false c22_
    refine cont_false rfl ?_
    refine cont_exit ?_
    refine then_exit ?_
    refine then_exit ?_
    refine blk_exit ?_
    refine then_normal ?_
    refine cont_seq ?_
    refine cont_region 1 rfl ?_
    refine bS [6] 1 0 [(6, .pointer (some ⟨b3, 0, none⟩))] ?_
    refine cont_forget 5 rfl ?_
    refine cont_forget 6 rfl ?_
    refine cont_done ?_
    refine then_normal ?_
    refine cont_ret ?_
    refine mark_end 0 rfl (.inl rfl) ?_
    refine cont_norm [(6, .pointer (some ⟨b3, 0, none⟩))] [objE D19_ (.deferred none), .ro kb18 [.slice (some ⟨g2, o2, none⟩) n2 cap2] 43, .ro kb29 [.int .i64 4] 3, .gen (rdE (A2) g2 o2 n2 1 (ivals .u8 xs2)), .gen (rowE (Ao) gw k co 28 1 (ivals .u32 (wrL xs2 k)) true), .cells b3 [.int .i64 0] 23 true, .ro m [.int .i64 W, .int .i64 H, .slice (some ⟨r, 0, none⟩) n cap] 84, .gen (rowE (some ⟨r, 0, none⟩) r n cap 28 1 (ivals .u32 (wrS W a b wn xs2 px (j * wn))) false)] (by kernel_rfl) rfl ?_
    refine ret_one (.inl rfl) rfl 5 (.int .i64 0) (by kernel_rfl) (by kernel_rfl) (fun w hT => ?_)
    replace hT := hT.erase 5 (fun e h hw => by cases h; first | rfl | cases hw)
    replace hT := hT.erase 4 (fun e h hw => by cases h; first | rfl | cases hw)
    replace hT := hT.erase 3 (fun e h hw => by cases h; first | rfl | cases hw)
    replace hT := hT.erase 2 (fun e h hw => by cases h; first | rfl | cases hw)
    replace hT := hT.erase 1 (fun e h hw => by cases h; first | rfl | cases hw)
    replace hT := hT.erase 0 (fun e h hw => by cases h; first | rfl | cases hw)
    have hE : wrE W H a b c d xs2 = 0 := wrE_ok hg (by omega) (N := k) (by omega) hokn
    have hjk : j * wn = k := by rw [hwn]; exact area_end hg1 hg2 (by omega) (by omega)
    rw [hjk, hwn] at hT
    exact ⟨ret_int hE.symm, by rw [wrA_yes hE, show xs2.length / 4 = k by omega]; exact hT⟩
  ·
    rintro D23_ ⟨⟩ hinv24_
    replace hinv24_ : ∃ k_, k_ < N ∧ mayB (mkB xs2 k_) = false := by simpa using hinv24_
    refine cont_norm [(6, .pointer (some ⟨b3, 0, none⟩))] [markE D23_, .cells b3 [.int .i64 1] 23 true, .ro m [.int .i64 W, .int .i64 H, .slice (some ⟨r, 0, none⟩) n cap] 84, .gen (rowE (some ⟨r, 0, none⟩) r n cap 28 1 (ivals .u32 px) false)] (by kernel_rfl) rfl ?_
    refine blk_ret ?_
    refine then_ret ?_
    refine mark_end 0 rfl (.inl rfl) ?_
    refine cont_norm [(6, .pointer (some ⟨b3, 0, none⟩))] [objE D23_ (.deferred none), .cells b3 [.int .i64 1] 23 true, .ro m [.int .i64 W, .int .i64 H, .slice (some ⟨r, 0, none⟩) n cap] 84, .gen (rowE (some ⟨r, 0, none⟩) r n cap 28 1 (ivals .u32 px) false)] (by kernel_rfl) rfl ?_
    refine ret_one (.inl rfl) rfl 1 (.int .i64 1) (by kernel_rfl) (by kernel_rfl) (fun w hT => ?_)
    replace hT := hT.erase 1 (fun e h hw => by cases h; first | rfl | cases hw)
    replace hT := hT.erase 0 (fun e h hw => by cases h; first | rfl | cases hw)
    obtain ⟨k_, hk1_, hk2_⟩ := hinv24_
    have hE : wrE W H a b c d xs2 = 1 := wrE_bad hg (by omega) (N := N) (by omega) hk1_ hk2_
    exact ⟨ret_int hE.symm, by rw [wrA_no (by rw [hE]; decide)]; exact hT⟩
  ·
    rintro D_ id_ c_ h_; simp at h_

end Go.Proofs.Ytommojgfkkoghaa

