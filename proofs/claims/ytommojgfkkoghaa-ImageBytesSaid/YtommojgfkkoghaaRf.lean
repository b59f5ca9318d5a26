/- A range over a function: the walk of a function that holds such a loop (a mark among its deferred calls behind it), of the loop's rounds, and of the iterator. Generic in the program. -/
import Derived.Test.YtommojgfkkoghaaVw
import Derived.RangeFuncSeq
set_option linter.unusedVariables false
set_option linter.unusedSimpArgs false
namespace Go.Proofs.Ytommojgfkkoghaa
open Go Go.RowKit

/-! ### Operations, taken over from the plain walk -/
def noDef (ops : Array Oper) : Bool := ops.toList.all fun o => match o.op with | .defer _ => false | _ => true
theorem noDef_at {ops : Array Oper} (h : noDef ops = true) {i : Nat} {o : Oper} (ho : ops[i]? = some o) : ∀ c, o.op ≠ .defer c := by
  intro c hc
  have hm : o ∈ ops.toList := Array.mem_toList_iff.2 (Array.mem_of_getElem? ho)
  have := List.all_eq_true.1 h o hm
  rw [hc] at this
  cases this

/-- A fence that lets everything in. -/
structure Open (F : Fence) : Prop where
  fn : ∀ f, F.fn f
  depth : F.depth = none
  alive : F.alive = false
theorem open_wide : Open Fence.wide := ⟨fun _ => trivial, rfl, rfl⟩
theorem open_round (l : Nat) : Open (Fence.wide.inRound l) := ⟨fun _ => trivial, rfl, rfl⟩
theorem fenced_open {F : Fence} (h : Open F) (P : Program) (m : Machine) : m.fenced P F := by
  intro g _
  refine ⟨fun ha => ?_, Or.inl (h.fn _), fun _ _ => h.fn _, fun d hd => ?_⟩
  · rw [h.alive] at ha; cases ha
  · rw [h.depth] at hd; cases hd
theorem steps_open {F : Fence} (h : Open F) {P : Program} {m m' : Machine} (s : Steps P m m') : StepsIn (Machine.fenced P F) P m m' :=
  (StepsIn.of_steps s).mono fun m _ => fenced_open h P m
theorem calls_open {F : Fence} (h : Open F) {n : Nat} {P : Program} {f : FuncId} {args : Array Value} {w : World} {R : Ending → World → Prop} (c : Calls P f args w R) : CallsIn F n P f args w R :=
  ⟨h.fn f, fun cs _ => by
    obtain ⟨e, w', fr, r, s, x⟩ := c cs
    refine ⟨e, w', fr, r, ?_, x⟩
    cases e with
    | returned v => exact steps_open h s
    | panicked ch => exact steps_open h s
    | outgrown => exact s⟩
theorem rows_open {F : Fence} (h : Open F) {n : Nat} {P : Program} {row : String} {args : Array Value} {w : World} {R : Value → World → Prop} (c : Rows P row args w R) : RowsIn F n P row args w R :=
  fun fr cs _ => let ⟨v, w', r, s⟩ := c fr cs; ⟨v, w', r, steps_open h s⟩

section
variable {P : Program}
theorem oper_in {F : Fence} (hF : Open F) {o : Oper} {a : Act} {w : World} {K K' : Act → World → Prop} {Q Q' : Exit → Act → World → Prop} (ho : ∀ c, o.op ≠ .defer c) (hlo : ¬ LetsOut Q) (hK : ∀ a' w', K a' w' → K' a' w') (hQ : ∀ c w, Q (.panic c) a w → Q' (.panic c) a w)
    (h : o.wp P a w K Q) : o.wpIn F 0 P a w K' Q' := by
  refine ⟨fun f _ => hF.fn f, ?_⟩
  rw [Oper.semAt_eq _ _ _ ho]
  unfold Oper.wp at h
  generalize (execOp a.eval o).run P w = r at h ⊢
  have hdep : F.depth.isSome = true → 1 ≤ 0 := by rw [hF.depth]; intro hh; cases hh
  unfold Oper.upon at h
  split at h
  · exact hK _ _ h
  · exact hK _ _ h
  · exact hK _ _ h
  · refine ⟨hdep, calls_open hF (h.mono ?_)⟩
    intro e w'' hh
    cases e with
    | returned v => exact hK _ _ hh
    | panicked ch => exact hQ _ _ hh
    | outgrown => exact (hlo hh).elim
  · exact ⟨hdep, rows_open hF (h.mono fun v w'' hh => hK _ _ hh)⟩
  · exact hQ _ _ h
  · exact h.elim

/-- Operations of a plain walk, up to a point, and then on in the fence. -/
theorem ops_in {F : Fence} (hF : Open F) {ops : Array Oper} (hops : noDef ops = true) {K : Act → World → Prop} {Q : Exit → Act → World → Prop} (hlo : ¬ LetsOut Q) (l2 : List Nat) (hK : ∀ a w, K a w → wpOpsIn F 0 P ops Q l2 a w) :
    ∀ (l : List Nat) (a : Act) (w : World), wpOps P ops (Exit.then K Q) l a w → wpOpsIn F 0 P ops Q (l ++ l2) a w := by
  intro l
  induction l with
  | nil => intro a w h; exact hK a w h
  | cons i l ih =>
    intro a w h
    rw [List.cons_append]
    simp only [wpOps, wpOpsIn] at h ⊢
    cases ho : ops[i]? with
    | none => simp only [ho] at h ⊢; exact ih _ _ h
    | some o =>
      simp only [ho] at h ⊢
      by_cases hw : Region.wanted o (yielded ops a.tmps) = true
      · simp only [hw, if_true] at h ⊢
        rcases h with h | ⟨_, a0, w0, h⟩
        · exact oper_in hF (noDef_at hops ho) (Q := Exit.then K Q) (fun ⟨a', w', hq⟩ => hlo ⟨a', w', hq⟩) (fun a' w' hh => ih a' w' hh) (fun c w' hh => hh) h
        · exact (hlo ⟨a0, w0, h⟩).elim
      · simp only [hw, Bool.false_eq_true, if_false] at h ⊢
        exact ⟨fun f _ => hF.fn f, ih _ _ h⟩

/-! ### Ways of walking code -/
structure Mode (P : Program) where
  F : Fence
  hF : Open F
def Mode.wp (M : Mode P) (c : Code) (Q : Exit → Act → World → Prop) (a : Act) (w : World) : Prop := ¬ LetsOut Q → c.wpIn M.F 0 P Q a w
def Mode.round (P : Program) (l : Nat) : Mode P := ⟨Fence.wide.inRound l, open_round l⟩
def Mode.fence (P : Program) : Mode P := ⟨Fence.wide, open_wide⟩

theorem lo_then {K : Act → World → Prop} {Q : Exit → Act → World → Prop} (h : ¬ LetsOut Q) : ¬ LetsOut (Exit.then K Q) := fun ⟨a, w, hq⟩ => h ⟨a, w, hq⟩
theorem lo_blk {id : Nat} {Q : Exit → Act → World → Prop} (h : ¬ LetsOut Q) : ¬ LetsOut (Exit.inBlock id Q) := fun ⟨a, w, hq⟩ => h ⟨a, w, hq⟩

variable {dfs : List Deferred} {M : Mode P} {Q : Exit → Act → World → Prop} {n : Nat} {w0 : World} {L : List (Nat × Value)} {T : List Ent}

theorem mcont_seq {x y : Code} (h : Cont dfs (M.wp x (Exit.then (M.wp y Q) Q)) n w0 L T) : Cont dfs (M.wp (Code.seq x y) Q) n w0 L T :=
  fun a w ha hf hT hlo => wpIn_seq (wpIn_mono (h a w ha hf hT (lo_then hlo)) fun e a' w' hq => by
    cases e with
    | normal => exact hq hlo
    | _ => exact hq)
theorem mcont_region {id : Nat} {ops : Array Oper} (k : Nat) (hk : ops.size = k) (hops : noDef ops = true) (h : Cont dfs (PL P ops Q 0 k) n w0 L T) : Cont dfs (M.wp (Code.region id ops false) Q) n w0 L T := by
  intro a w ha hf hT hlo
  refine wpIn_region ?_
  have := h a w ha hf hT
  unfold PL at this
  rw [List.range_eq_range', hk]
  have e := ops_in M.hF hops (K := Q .normal) hlo [] (fun a w hh => by simpa [wpOpsIn] using hh) (List.range' 0 k) a w (by
    have hQ : Exit.then (Q .normal) Q = Q := by funext e; cases e <;> rfl
    rw [hQ]; exact this)
  simpa using e
theorem mdrawn_enter {id : Nat} {ops : Array Oper} (m : Nat) (ds : List Nat) (hm : ops.size = m) (hmix : P.follows .mixedOrders = true) (hops : noDef ops = true) (h : Cont dfs (AH P ops Q (fun w => Known w (dropT ds T)) m m []) n w0 L T) : Cont dfs (M.wp (Code.region id ops true) Q) n w0 L T := by
  intro a w ha hf hT hlo
  refine wpIn_region_draw fun t => ?_
  simp only [Region.schedule, hmix, Bool.true_or, if_true]
  have := h a w.drew ha hf hT.drew
  unfold AH marked at this
  subst hm
  have e := wpAny_sound ops.size t _ a _ (wpAny_of_held _ _ _ _ this)
  have hQ : Exit.then (Q .normal) Q = Q := by funext e; cases e <;> rfl
  have e2 := ops_in M.hF hops (K := Q .normal) hlo [] (fun a w hh => by simpa [wpOpsIn] using hh) _ a _ (by rw [hQ]; exact e)
  rw [List.append_nil] at e2
  exact e2
theorem mcont_skip (h : Cont dfs (Q .normal) n w0 L T) : Cont dfs (M.wp Code.skip Q) n w0 L T := fun a w ha hf hT _ => wpIn_skip (h a w ha hf hT)
theorem mcont_ret (h : Cont dfs (Q .ret) n w0 L T) : Cont dfs (M.wp Code.ret Q) n w0 L T := fun a w ha hf hT _ => wpIn_ret (h a w ha hf hT)
theorem mcont_exit {id : Nat} (h : Cont dfs (Q (.exit id)) n w0 L T) : Cont dfs (M.wp (Code.exit id) Q) n w0 L T := fun a w ha hf hT _ => wpIn_exit (h a w ha hf hT)
theorem mcont_block {id : Nat} {c : Code} (h : Cont dfs (M.wp c (Exit.inBlock id Q)) n w0 L T) : Cont dfs (M.wp (Code.block id c) Q) n w0 L T := fun a w ha hf hT hlo => wpIn_block (h a w ha hf hT (lo_blk hlo))
theorem mcont_true {c : Operand} {x y : Code} (hc : knownB L c = some (.bool true)) (h : Cont dfs (M.wp x Q) n w0 L T) : Cont dfs (M.wp (Code.cond c x y) Q) n w0 L T :=
  fun a w ha hf hT hlo => wpIn_cond_true (knownB_eval hf hc) (h a w ha hf hT hlo)
theorem mcont_false {c : Operand} {x y : Code} (hc : knownB L c = some (.bool false)) (h : Cont dfs (M.wp y Q) n w0 L T) : Cont dfs (M.wp (Code.cond c x y) Q) n w0 L T :=
  fun a w ha hf hT hlo => wpIn_cond_false (knownB_eval hf hc) (h a w ha hf hT hlo)

theorem wpIn_loop_ghost {F : Fence} {m : Nat} {a : Act} {w : World} {c : Code} (I : Nat → Act → World → Prop) (n₀ : Nat) (h₀ : I n₀ a w)
    (round : ∀ n a w, I n a w → c.wpIn F m P (Exit.then (fun a' w' => ∃ n', n' < n ∧ I n' a' w') Q) a w) : (Code.loop c).wpIn F m P Q a w := by
  refine wpIn_loop (fun a w => ∃ n, I n a w) (fun a w => leastOf (fun n => I n a w)) ⟨n₀, h₀⟩ ?_
  intro a w hI
  refine wpIn_mono (round _ a w (leastOf_spec hI).1) ?_
  intro e a' w' hq
  cases e with
  | normal =>
    obtain ⟨n', hlt, hI'⟩ := hq
    exact show (∃ n, I n a' w') ∧ leastOf (fun n => I n a' w') < leastOf (fun n => I n a w) from ⟨⟨n', hI'⟩, Nat.lt_of_le_of_lt ((leastOf_spec ⟨n', hI'⟩).2 n' hI') hlt⟩
  | _ => exact hq

theorem mcont_loop {α : Type} {body : Code} (Inv : α → Prop) (Lf : α → List (Nat × Value)) (Tf : α → List Ent) (m : α → Nat) (x0 : α) (hinv : Inv x0)
    (hL : ((Lf x0).map fun p => lk L p.1) = ((Lf x0).map fun p => some p.2)) (hTf : Tf x0 = T)
    (round : ∀ x, Inv x → Cont dfs (M.wp body (Exit.then (Again dfs Inv Lf Tf m n w0 x) Q)) n w0 (Lf x) (Tf x)) : Cont dfs (M.wp (Code.loop body) Q) n w0 L T := by
  subst hTf
  intro a w ha hf hT hlo
  refine wpIn_loop_ghost (fun k a' w' => ∃ x, m x = k ∧ Inv x ∧ a'.defers = dfs ∧ FrOk n a'.tmps (Lf x) ∧ Tab w0 w' (Tf x)) (m x0) ⟨x0, rfl, hinv, ha, hf.prune hL, hT⟩ ?_
  rintro k a' w' ⟨x, rfl, hx, ha', hf', hT'⟩
  refine wpIn_mono (round x hx a' w' ha' hf' hT' (lo_then hlo)) (fun e a'' w'' h => ?_)
  cases e with
  | normal =>
    obtain ⟨y, h1, h2, h3, h4, h5⟩ := h
    exact ⟨m y, h2, y, rfl, h1, h3, h4, h5⟩
  | _ => exact h

/-! ### Entries for the loop's book-keeping -/
def objE (b : Nat) (o : Obj) : Ent := .gen { blk := (· = b), wr := true, own := true, ok := fun w => w.heap[b]? = some o, stable := fun w w' h hk => (h b rfl).trans hk, inb := fun w k hk hb => by cases hb; exact (Array.getElem?_eq_some_iff.1 hk).1 }
def markE (D : Nat) : Ent := objE D (.deferred (some []))
theorem Tab.putObj {w : World} (hT : Tab w0 w T) {i b : Nat} {o : Obj} (h : T[i]? = some (objE b o)) (o' : Obj) : Tab w0 (w.putObj b o') (T.set i (objE b o')) := by
  have hk : w.heap[b]? = some o := hT.ok i _ h
  refine hT.replace (e := objE b o) (e' := objE b o') h rfl rfl id (fun k hk => .inl hk) (fun k _ hk _ => hk) rfl rfl rfl (by simp) (fun k _ hk => World.putObj_heap_other (fun e => hk e)) ?_
  exact World.putObj_heap_same (Array.getElem?_eq_some_iff.1 hk).1
theorem Tab.allocObj {w : World} (hT : Tab w0 w T) (o : Obj) : Tab w0 (w.alloc o) (objE w.heap.size o :: T) := by
  refine hT.push (e := objE w.heap.size o) rfl rfl rfl (by simp) (fun k hk => Below.heap_alloc w _ k hk) (World.alloc_heap_new w o) (fun k hk => by have : k = w.heap.size := hk; omega)

theorem Cont.go {K : Act → World → Prop} (h : Cont dfs K n w0 L T) {a : Act} {w : World} (ha : a.defers = dfs) (hf : FrOk n a.tmps L) (hT : Tab w0 w T) : K a w := h a w ha hf hT
/-! ### The end of a function that holds such a loop -/
/-- The same without a way to panic. -/
def NP (Q : Exit → Act → World → Prop) : Exit → Act → World → Prop
  | .panic _, _, _ => False
  | e, a, w => Q e a w
theorem NP.le {Q : Exit → Act → World → Prop} (e : Exit) (a : Act) (w : World) (h : NP Q e a w) : Q e a w := by cases e <;> first | exact h.elim | exact h
theorem pok_np {Q : Exit → Act → World → Prop} : PanicOk (NP Q) := fun c a d v w h => h
theorem enterM {f : FuncId} {fn : Func} {c : Code} {args : Array Value} {w : World} {R : Ending → World → Prop} (n : Nat) (L : List (Nat × Value)) (T : List Ent) (hf : P.funcs[f]? = some fn) (hb : fn.body = some c) (hn : fn.ntmps = n) (hsz : Nat.ble args.size n = true)
    (hL : (L.map fun p => args[p.1]?) = (L.map fun p => some p.2)) (hT : Tab w w T) (h : Cont [] (c.wp P (NP (bodyPostM Fence.wide 0 P fn R))) n w L T) : Calls P f args w R := by
  subst hn
  refine callsIn_wide.1 (callsIn_of_wp_marks hf hb trivial (wpIn_wide.2 (wp_mono (h _ _ rfl ⟨?_, ?_⟩ hT) fun e a w hq => hq.le)) rfl)
  · have := Nat.le_of_ble_eq_true hsz
    simp; omega
  · exact enter_lk hL
theorem plain_end {fn : Func} {R : Ending → World → Prop} {e : Exit} (he : e = .ret ∨ e = .normal) (h : Cont [] (bodyPost P fn R e) n w0 L T) : Cont [] (NP (bodyPostM Fence.wide 0 P fn R) e) n w0 L T := by
  intro a w ha hf hT
  have := h a w ha hf hT
  rcases he with rfl | rfl
  all_goals
    obtain ⟨_, v, h1, h2⟩ := this
    show LeavesInM Fence.wide 0 P fn a.tmps R a.defers .returning w
    rw [ha]
    exact ⟨v, h1, h2⟩
def coll (D : Nat) : Deferred := { target := .collected D, args := #[] }
theorem mark_end {fn : Func} {R : Ending → World → Prop} {e : Exit} {D : Nat} (i : Nat) (hi : T[i]? = some (markE D)) (he : e = .ret ∨ e = .normal) (h : Cont [] (bodyPost P fn R e) n w0 L (T.set i (objE D (.deferred none)))) : Cont [coll D] (NP (bodyPostM Fence.wide 0 P fn R) e) n w0 L T := by
  intro a w ha hf hT
  have hk : w.heap[D]? = some (.deferred (some [])) := hT.ok i _ hi
  have := h { a with defers := [] } (w.putObj D (.deferred none)) rfl hf (hT.putObj hi _)
  rcases he with rfl | rfl
  all_goals
    obtain ⟨_, v, h1, h2⟩ := this
    show LeavesInM Fence.wide 0 P fn a.tmps R a.defers .returning w
    rw [ha]
    exact ⟨by simp, .inl ⟨D, _, rfl, run_takeDeferred hk, v, h1, h2⟩⟩

/-! ### Iterators -/
/-- What an iterator promises: it hands over items one by one, S of all, Sp of those that have come; the entries Es are what it reads; Ex what it hands over with an item. -/
def IterC {X : Type} (P : Program) (gf : Nat) (lb : Array Value) (encs : X → Array Value) (w0 : World) (Es : List Ent) (Ex : X → List Ent) (S Sp : List X → Prop) : Prop :=
  ∀ {β : Type} (Inv : List X → β → Prop) (Tr : β → List Ent) (Jx : World → Prop) (l : Nat) (e1 e2 : Ent) (W : World) (b0 : β), (∀ w w', Jx w → Below w.heap.size w w' → Jx w') →
    (∀ pre x b W1 z, (z.wr = true → z.own = true) → Inv pre b → Sp (pre ++ [x]) → Tab w0 W1 (Ex x ++ z :: e1 :: e2 :: (Es ++ Tr b)) →
      YieldAt Fence.wide 0 P l (encs x) W1 fun e W' => (e = .returned (.bool true) ∧ ∃ b', Inv (pre ++ [x]) b' ∧ Tab w0 W' (z :: e1 :: e2 :: (Es ++ Tr b'))) ∨ (e = .returned (.bool false) ∧ Jx W')) →
    Inv [] b0 → Tab w0 W (e1 :: e2 :: (Es ++ Tr b0)) →
    Calls P gf (#[.func (.yield l) #[] #[]] ++ lb) W fun e W' => (∃ v, e = .returned v) ∧ ((∃ xs b', S xs ∧ Inv xs b' ∧ Tab w0 W' (e1 :: e2 :: (Es ++ Tr b'))) ∨ Jx W')

theorem enterI {f : FuncId} {fn : Func} {c : Code} {args : Array Value} {w : World} {R : Ending → World → Prop} (n : Nat) (L : List (Nat × Value)) (T : List Ent) (hf : P.funcs[f]? = some fn) (hb : fn.body = some c) (hn : fn.ntmps = n) (hsz : Nat.ble args.size n = true)
    (hL : (L.map fun p => args[p.1]?) = (L.map fun p => some p.2)) (hT : Tab w0 w T) (hlo : ∀ w, ¬ R .outgrown w) (h : Cont [] ((Mode.fence P).wp c (bodyPost P fn R)) n w0 L T) : Calls P f args w R := by
  subst hn
  refine callsIn_wide.1 (callsIn_of_wp hf hb trivial (h _ _ rfl ⟨?_, ?_⟩ hT (fun ⟨_, w', hq⟩ => hlo w' hq)) rfl)
  · have := Nat.le_of_ble_eq_true hsz
    simp; omega
  · exact enter_lk hL

def PLI (P : Program) (ops : Array Oper) (Q : Exit → Act → World → Prop) (i k : Nat) (a : Act) (w : World) : Prop := ¬ LetsOut Q → wpOpsIn Fence.wide 0 P ops Q (List.range' i k) a w
theorem icont_region {id : Nat} {ops : Array Oper} (k : Nat) (hk : ops.size = k) (h : Cont dfs (PLI P ops Q 0 k) n w0 L T) : Cont dfs ((Mode.fence P).wp (Code.region id ops false) Q) n w0 L T := by
  intro a w ha hf hT hlo
  refine wpIn_region ?_
  rw [List.range_eq_range', hk]
  exact h a w ha hf hT hlo
theorem pli_ops {ops : Array Oper} {i k : Nat} (j m i' : Nat) (hk : k = j + m) (hi' : i' = i + j) (hops : noDef ops = true) (h : Cont dfs (PL P ops (Exit.then (PLI P ops Q i' m) Q) i j) n w0 L T) : Cont dfs (PLI P ops Q i k) n w0 L T := by
  subst hk; subst hi'
  intro a w ha hf hT hlo
  have := h a w ha hf hT
  have e : List.range' i (j + m) = List.range' i j ++ List.range' (i + j) m := (List.range'_append_1 ..).symm
  rw [e]
  exact ops_in open_wide hops hlo _ (fun a w hh => hh hlo) _ a w this
theorem pli_done {ops : Array Oper} {i : Nat} (h : Cont dfs (Q .normal) n w0 L T) : Cont dfs (PLI P ops Q i 0) n w0 L T :=
  fun a w ha hf hT _ => by
    have := h a w ha hf hT
    simpa [wpOpsIn] using this
theorem YieldAt.weaken {F : Fence} {m l : Nat} {args : Array Value} {W : World} {R R' : Ending → World → Prop} (h : YieldAt F m P l args W R) (hr : ∀ e w', R e w' → R' e w') : YieldAt F m P l args W R' :=
  let ⟨fn, tmps, assign, body, h1, h2⟩ := h; ⟨fn, tmps, assign, body, h1, h2.mono hr⟩
theorem pli_yield {ops : Array Oper} {i k : Nat} {l : Nat} {args : Array Value} (d : Tmp) (i' k' : Nat) (hi : i' = i + 1) (hk : k = k' + 1) (hops : noDef ops = true) (H : opS ops n i L = some (some d, Instr.yield l args))
    {R : Value → World → Prop} (hy : ∀ w, Tab w0 w T → YieldAt Fence.wide 0 P l args w fun e w' => ∃ v, e = .returned v ∧ R v w')
    (hR : ∀ a w v, a.defers = dfs → FrOk n a.tmps ((d, v) :: L) → R v w → PLI P ops Q i' k' a w) : Cont dfs (PLI P ops Q i k) n w0 L T := by
  subst hi; subst hk
  intro a w ha hf hT hlo
  obtain ⟨o, ho, hdst, hd, hw, he⟩ := opS_core H hf
  rw [List.range'_succ]
  simp only [wpOpsIn, ho, hw, if_true]
  refine ⟨fun f _ => trivial, ?_⟩
  rw [Oper.semAt_eq _ _ _ (noDef_at hops ho), he]
  obtain ⟨fn, tmps, assign, body, hrun, hround⟩ := hy w hT
  rw [hrun]
  refine ⟨(fun h => by cases h), hround.mono ?_⟩
  rintro e w' ⟨v, rfl, hr⟩
  exact hR (a.put o.dst v) w' v (by rw [put_defers]; exact ha) (by rw [hdst]; exact hf.put (hd d rfl) v) hr hlo

/-! ### The statement -/
theorem FrOk.puts {tmps : Array Value} (h : FrOk n tmps L) : ∀ (ps : List Nat) (vs : List Value), (ps.all fun p => Nat.blt p n) = true → FrOk n ((ps.zip vs).foldl (fun t p => t.setIfInBounds p.1 p.2) tmps) ((ps.zip vs).reverse ++ L) := by
  intro ps
  induction ps generalizing tmps L with
  | nil => intro vs _; exact h
  | cons p ps ih =>
    intro vs hp
    cases vs with
    | nil => exact h
    | cons v vs =>
      simp only [List.all_cons, Bool.and_eq_true] at hp
      have := ih (h.put (d := p) (by simpa using hp.1) v) vs hp.2
      simp only [List.zip_cons_cons, List.foldl_cons, List.reverse_cons, List.append_assoc, List.singleton_append]
      exact this

/-- Where a round's body ends. -/
def RQ {X β : Type} (w0 : World) (Inv : List X → β → Prop) (Tr : β → List Ent) (Es : List Ent) {γ : Type} (Jx : Code → γ → Prop) (Tx : γ → List Ent) (z e1 e2 : Ent) (xs : List X) : Exit → Act → World → Prop
  | .normal, _, w => ∃ b, Inv xs b ∧ Tab w0 w (z :: e1 :: e2 :: (Es ++ Tr b))
  | .ret, _, w => ∃ c, Jx .ret c ∧ Tab w0 w (e1 :: e2 :: Tx c)
  | .exit id, _, w => ∃ c, Jx (.exit id) c ∧ Tab w0 w (e1 :: e2 :: Tx c)
  | _, _, _ => False
theorem pok_rq {X β γ : Type} {Inv : List X → β → Prop} {Tr : β → List Ent} {Es : List Ent} {Jx : Code → γ → Prop} {Tx : γ → List Ent} {z e1 e2 : Ent} {xs : List X} : PanicOk (RQ w0 Inv Tr Es Jx Tx z e1 e2 xs) := fun c a d v w h => h
theorem rq_next {X β γ : Type} {Inv : List X → β → Prop} {Tr : β → List Ent} {Es : List Ent} {Jx : Code → γ → Prop} {Tx : γ → List Ent} {z e1 e2 : Ent} {xs : List X} (b : β) (hi : Inv xs b) (hT : z :: e1 :: e2 :: (Es ++ Tr b) = T) : Cont dfs (RQ w0 Inv Tr Es Jx Tx z e1 e2 xs .normal) n w0 L T := by
  subst hT; exact fun a w _ _ h => ⟨b, hi, h⟩
theorem rq_ret {X β γ : Type} {Inv : List X → β → Prop} {Tr : β → List Ent} {Es : List Ent} {Jx : Code → γ → Prop} {Tx : γ → List Ent} {z e1 e2 : Ent} {xs : List X} (hz : z.wr = true → z.own = true) (c : γ) (hi : Jx .ret c) (hT : z :: e1 :: e2 :: Tx c = T) : Cont dfs (RQ w0 Inv Tr Es Jx Tx z e1 e2 xs .ret) n w0 L T := by
  subst hT; exact fun a w _ _ h => ⟨c, hi, h.drop hz⟩
theorem rq_exit {X β γ : Type} {Inv : List X → β → Prop} {Tr : β → List Ent} {Es : List Ent} {Jx : Code → γ → Prop} {Tx : γ → List Ent} {z e1 e2 : Ent} {xs : List X} {id : Nat} (hz : z.wr = true → z.own = true) (c : γ) (hi : Jx (.exit id) c) (hT : z :: e1 :: e2 :: Tx c = T) : Cont dfs (RQ w0 Inv Tr Es Jx Tx z e1 e2 xs (.exit id)) n w0 L T := by
  subst hT; exact fun a w _ _ h => ⟨c, hi, h.drop hz⟩

theorem cont_rangeFunc {X β γ : Type} {g : Operand} {ps : Array Tmp} {assign body : Code} {gf : Nat} {lb : Array Value} (encs : X → Array Value) (Es : List Ent) (Ex : X → List Ent) (S Sp : List X → Prop) (Inv : List X → β → Prop) (Tr : β → List Ent) (Jx : Code → γ → Prop) (Tx : γ → List Ent) (b0 : β)
    (hg : knownB L g = some (.func (.func gf) #[] lb)) (eg : ∀ args w, (callFunc gf args).run P w = .ok (.enter gf args) w) (hps : ∀ x, (encs x).size = ps.size) (hpn : (ps.toList.all fun p => Nat.blt p n) = true)
    (hseq : IterC P gf lb encs w0 Es Ex S Sp) (h0 : Inv [] b0) (hT0 : Es ++ Tr b0 = T)
    (hbody : ∀ (l : Nat) (z e1 e1b e2 : Ent) (pre : List X) (x : X) (b : β) (B : Act → World → Prop), (z.wr = true → z.own = true) → Inv pre b → Sp (pre ++ [x]) →
      (∀ L' Xs R, Cont [] ((Mode.round P l).wp body (RQ w0 Inv Tr Es Jx Tx z e1b e2 (pre ++ [x]))) n w0 L' (Xs ++ e1b :: R) → Cont [] B n w0 L' (Xs ++ e1 :: R)) →
      Cont [] ((Mode.round P l).wp assign (Exit.then B (fun _ _ _ => False))) n w0 ((ps.toList.zip (encs x).toList).reverse ++ L) (Ex x ++ z :: e1 :: e2 :: (Es ++ Tr b)))
    (hdone : ∀ (D : Nat) (xs : List X) (b : β), S xs → Inv xs b → Cont [coll D] (Q .normal) n w0 L (markE D :: (Es ++ Tr b)))
    (hret : ∀ (D : Nat) (c : γ), Jx .ret c → Cont [coll D] (Q .ret) n w0 L (markE D :: Tx c))
    (hexit : ∀ (D id : Nat) (c : γ), Jx (.exit id) c → Cont [coll D] (Q (.exit id)) n w0 L (markE D :: Tx c)) :
    Cont [] ((Code.rangeFunc g ps assign body).wp P Q) n w0 L T := by
  subst hT0
  intro a w ha hf hT
  refine (wpIn_wide (n := 0)).1 (wpIn_rangeFunc ?_)
  intro fn _
  obtain ⟨rec, hrec⟩ : ∃ rec : LoopState → Option Code → Loop, rec = fun st pe => { state := st, pending := pe, fn, tmps := a.tmps, params := ps, assign, body, defers := w.heap.size } := ⟨_, rfl⟩
  have hTab := (hT.allocObj (.deferred (some []))).allocObj (.loop (rec .ready none))
  rw [World.size_alloc] at hTab
  obtain ⟨W1, hW1⟩ : ∃ W1, (w.alloc (.deferred (some []))).alloc (.loop (rec .ready none)) = W1 := ⟨_, rfl⟩
  rw [hW1] at hTab
  have hgv : a.eval g = .func (.func gf) #[] lb := knownB_eval hf hg
  refine ⟨w.heap.size + 1, [coll w.heap.size], W1, { target := .fn (.func gf) lb, args := #[.func (.yield (w.heap.size + 1)) #[] #[]] }, W1, gf, #[.func (.yield (w.heap.size + 1)) #[] #[]] ++ lb, W1, by rw [← hW1, hrec]; exact run_enterLoop_outer _ _ _ _ _, ?_, fun _ _ => trivial, ?_, (fun h => by cases h), ?_⟩
  · simp only [resolve, hgv]
    simp [go_sem]
  · simp [invoke, go_sem, eg]
  · have key := hseq Inv Tr (fun W => ∃ c d, Jx c d ∧ (c = .ret ∨ ∃ id, c = .exit id) ∧ Tab w0 W (objE (w.heap.size + 1) (.loop (rec .done (some c))) :: markE w.heap.size :: Tx d)) (w.heap.size + 1) (objE (w.heap.size + 1) (.loop (rec .ready none))) (markE w.heap.size) W1 b0 ?_ ?_ h0 hTab
    · refine calls_open open_wide (key.mono ?_)
      rintro e W ⟨⟨v, rfl⟩, ⟨xs, b, hS, hi, hW⟩ | ⟨c, d, hj, hc, hW⟩⟩
      · have hl : W.heap[w.heap.size + 1]? = some (.loop (rec .ready none)) := hW.ok 0 _ rfl
        refine ⟨none, _, by rw [run_endLoop hl (by rw [hrec]; simp)]; rw [hrec], ?_⟩
        have hW2 := (hW.putObj (i := 0) rfl (.loop { rec .ready none with state := .exhausted })).drop (fun _ => rfl)
        refine hdone w.heap.size xs b hS hi _ _ (by simp [ha, coll]) hf (by rw [hrec] at hW2; exact hW2)
      · have hl : W.heap[w.heap.size + 1]? = some (.loop (rec .done (some c))) := hW.ok 0 _ rfl
        refine ⟨some c, _, by rw [run_endLoop hl (by rw [hrec]; simp)]; rw [hrec], ?_⟩
        have hW2 := (hW.putObj (i := 0) rfl (.loop { rec .done (some c) with state := .exhausted })).drop (fun _ => rfl)
        refine wpIn_wide.2 ?_
        rcases hc with rfl | ⟨id, rfl⟩
        · exact wp_ret (hret w.heap.size d hj _ _ (by simp [ha, coll]) hf (by rw [hrec] at hW2; exact hW2))
        · exact wp_exit (hexit w.heap.size id d hj _ _ (by simp [ha, coll]) hf (by rw [hrec] at hW2; exact hW2))
    · rintro wa wb ⟨c, d, h1, h2, h3⟩ hb
      exact ⟨c, d, h1, h2, h3.below hb⟩
    · -- one round
      intro pre x b W1 z hz hi hsp hW
      have hfr : FrOk n ((ps.zip (encs x)).foldl (fun tmps (t, v) => tmps.setIfInBounds t v) a.tmps) ((ps.toList.zip (encs x).toList).reverse ++ L) := by
        have := hf.puts ps.toList (encs x).toList hpn
        rw [← Array.foldl_toList, Array.toList_zip]
        exact this
      have hidx : (Ex x ++ z :: objE (w.heap.size + 1) (.loop (rec .ready none)) :: markE w.heap.size :: (Es ++ Tr b))[(Ex x).length + 1]? = some (objE (w.heap.size + 1) (.loop (rec .ready none))) := by simp [List.getElem?_append_right]
      have hl : W1.heap[w.heap.size + 1]? = some (.loop (rec .ready none)) := hW.ok _ _ hidx
      have hy := run_yield (P := P) (args := encs x) hl (by rw [hrec]; exact hps x)
      rw [hrec] at hy
      refine ⟨fn, _, assign, body, hy, roundIn_of_wpIn (F := Fence.wide) trivial ?_⟩
      refine hbody (w.heap.size + 1) z (objE (w.heap.size + 1) (.loop (rec .ready none))) (objE (w.heap.size + 1) (.loop { rec .ready none with state := .busy })) (markE w.heap.size) pre x b _ hz hi hsp ?_ _ W1 rfl hfr hW ?_
      rotate_left
      · rintro ⟨a', w', hq⟩; exact hq
      intro L' Xs R hB a' W2 ha' hf' hW2
      have hidx2 : (Xs ++ objE (w.heap.size + 1) (.loop (rec .ready none)) :: R)[Xs.length]? = some (objE (w.heap.size + 1) (.loop (rec .ready none))) := by simp
      have hl2 : W2.heap[w.heap.size + 1]? = some (.loop (rec .ready none)) := hW2.ok _ _ hidx2
      have hW3 := hW2.putObj hidx2 (.loop { rec .ready none with state := .busy })
      have hset : (Xs ++ objE (w.heap.size + 1) (.loop (rec .ready none)) :: R).set Xs.length (objE (w.heap.size + 1) (.loop { rec .ready none with state := .busy })) = Xs ++ objE (w.heap.size + 1) (.loop { rec .ready none with state := .busy }) :: R := by simp
      rw [hset] at hW3
      refine ⟨_, run_beginRound hl2 (by rw [hrec]), wpIn_mono (hB a' _ ha' hf' hW3 ?_) ?_⟩
      · rintro ⟨a', w', hq⟩; exact hq
      · intro e a'' W3 hq
        have fin : ∀ (jump : Option Code) (i : Nat) (T' : List Ent), T'[i]? = some (objE (w.heap.size + 1) (.loop { rec .ready none with state := .busy })) → Tab w0 W3 T' →
            (Instr.endRound (w.heap.size + 1) jump).run P W3 = .ok (.bool jump.isNone) (W3.putObj (w.heap.size + 1) (.loop (rec (if jump.isNone then .ready else .done) jump))) ∧ Tab w0 (W3.putObj (w.heap.size + 1) (.loop (rec (if jump.isNone then .ready else .done) jump))) (T'.set i (objE (w.heap.size + 1) (.loop (rec (if jump.isNone then .ready else .done) jump)))) := by
          intro jump i T' hi3 hW3
          have hl3 : W3.heap[w.heap.size + 1]? = some (.loop { rec .ready none with state := .busy }) := hW3.ok i _ hi3
          refine ⟨?_, hW3.putObj hi3 _⟩
          rw [run_endRound jump hl3, hrec]
        cases e with
        | normal =>
          obtain ⟨b', hi', hW3⟩ := hq
          obtain ⟨h1, h2⟩ := fin none 1 _ rfl hW3
          exact ⟨_, _, h1, .inl ⟨rfl, b', hi', h2⟩⟩
        | ret =>
          obtain ⟨c, hj, hW3⟩ := hq
          obtain ⟨h1, h2⟩ := fin (some .ret) 0 _ rfl hW3
          exact ⟨_, _, h1, .inr ⟨rfl, .ret, c, hj, .inl rfl, h2⟩⟩
        | exit id =>
          obtain ⟨c, hj, hW3⟩ := hq
          obtain ⟨h1, h2⟩ := fin (some (.exit id)) 0 _ rfl hW3
          exact ⟨_, _, h1, .inr ⟨rfl, .exit id, c, hj, .inr ⟨id, rfl⟩, h2⟩⟩
        | goto t => exact hq.elim
        | panic ch => exact hq.elim
        | outgrown => exact hq.elim
end
/-- An entry of the call's own is only read from here on. -/
theorem Tab.weaken {w0 w : World} {T : List Ent} (hT : Tab w0 w T) {i : Nat} {e e0 : Ent} (hi : T[i]? = some e) (ho : e.own = true) (hv : Vw e e0) (hw : e0.wr = false) : Tab w0 w (T.set i e0) := by
  have hok := hT.ok i e hi
  refine ⟨hT.os, hT.tape, hT.output, hT.size, ?_, ?_, ?_, ?_⟩
  · intro j x hx
    rcases getElem?_set_cases _ _ _ _ _ hx with ⟨_, rfl⟩ | ⟨_, hx⟩
    · exact hv.ok w hok
    · exact hT.ok j x hx
  · intro k hk hno
    refine hT.frame k hk (fun j x hx hxw hb => ?_)
    by_cases hj : j = i
    · subst hj
      rw [hi] at hx; cases hx
      have := hT.own j e hi ho k hb; omega
    · exact hno j x (by rw [List.getElem?_set_ne (Ne.symm hj)]; exact hx) hxw hb
  · intro j x hx hxo k hk
    rcases getElem?_set_cases _ _ _ _ _ hx with ⟨_, rfl⟩ | ⟨_, hx⟩
    · rw [hv.own] at hxo; cases hxo
    · exact hT.own j x hx hxo k hk
  · intro j l x y hjl hx hy hxy k hk hk'
    rcases getElem?_set_cases _ _ _ _ _ hx with ⟨hji, rfl⟩ | ⟨hj, hx2⟩
    · rcases getElem?_set_cases _ _ _ _ _ hy with ⟨hli, rfl⟩ | ⟨hl, hy⟩
      · omega
      · rw [hw] at hxy
        exact hT.disj i l e y (Ne.symm hl) hi hy (.inr (hxy.resolve_left (by simp))) k (hv.blk w hok k hk) hk'
    · rcases getElem?_set_cases _ _ _ _ _ hy with ⟨hli, rfl⟩ | ⟨hl, hy⟩
      · rw [hw] at hxy
        exact hT.disj j i x e hj hx2 hi (.inl (hxy.resolve_right (by simp))) k hk (hv.blk w hok k hk')
      · exact hT.disj j l x y hjl hx2 hy hxy k hk hk'
theorem cont_weaken {dfs : List Deferred} {K : Act → World → Prop} {n : Nat} {w0 : World} {L : List (Nat × Value)} {T : List Ent} (i : Nat) (e0 : Ent) {e : Ent} (hi : T[i]? = some e) (ho : e.own = true) (hv : Vw e e0) (hw : e0.wr = false) (h : Cont dfs K n w0 L (T.set i e0)) : Cont dfs K n w0 L T :=
  fun a w ha hf hT => h a w ha hf (hT.weaken hi ho hv hw)
end Go.Proofs.Ytommojgfkkoghaa
