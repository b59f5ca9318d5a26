/- Texts of this proof's own, put together: what each holds is told ahead of it. -/
import Derived.Test.YtkfdmfclndaanaaPphG0
import Derived.RangeFuncSeq
import Derived.Maps.RangeRun
import Derived.Test.YtkfdmfclndaanaaRows
import Derived.ProofKit
import Derived.OpenShut
import Derived.Carry
import Derived.ChangeSame
import Derived.ChangeSlices
import Derived.Deep.Slices
import Derived.Deep.Fields
import Derived.Lib.SmallJoins
import Derived.Test.YtkfdmfclndaanaaProg
import Derived.Laws.Slices
set_option linter.unusedSimpArgs false
set_option linter.unusedVariables false
namespace Go.Proofs.Ytkfdmfclndaanaa
open Go Go.RowKit
def noDef (ops : Array Oper) : Bool := ops.toList.all fun o => match o.op with | .defer _ => false | _ => true
theorem noDef_at {ops : Array Oper} (h : noDef ops = true) {i : Nat} {o : Oper} (ho : ops[i]? = some o) : ∀ c, o.op ≠ .defer c := by
  intro c hc
  have hm : o ∈ ops.toList := Array.mem_toList_iff.2 (Array.mem_of_getElem? ho)
  have := List.all_eq_true.1 h o hm
  rw [hc] at this
  cases this
structure Open (F : Fence) : Prop where
  fn : ∀ f, F.fn f
  depth : F.depth = none
  alive : F.alive = false
theorem open_wide : Open Fence.wide := ⟨fun _ => trivial, rfl, rfl⟩
theorem open_round (l : Nat) : Open (Fence.wide.inRound l) := ⟨fun _ => trivial, rfl, rfl⟩
theorem fenced_open {F : Fence} (h : Open F) (P : Program) (m : Machine) : m.fenced P F := by
  intro g _
  refine ⟨fun ha => ?_, Or.inl (h.fn _), fun _ _ => h.fn _, fun d hd => ?_⟩
  · rw [h.alive] at ha; cases ha
  · rw [h.depth] at hd; cases hd
theorem steps_open {F : Fence} (h : Open F) {P : Program} {m m' : Machine} (s : Steps P m m') : StepsIn (Machine.fenced P F) P m m' :=
  (StepsIn.of_steps s).mono fun m _ => fenced_open h P m
theorem calls_open {F : Fence} (h : Open F) {n : Nat} {P : Program} {f : FuncId} {args : Array Value} {w : World} {R : Ending → World → Prop} (c : Calls P f args w R) : CallsIn F n P f args w R :=
  ⟨h.fn f, fun cs _ => by
    obtain ⟨e, w', fr, r, s, x⟩ := c cs
    refine ⟨e, w', fr, r, ?_, x⟩
    cases e with
    | returned v => exact steps_open h s
    | panicked ch => exact steps_open h s
    | outgrown => exact s⟩
theorem rows_open {F : Fence} (h : Open F) {n : Nat} {P : Program} {row : String} {args : Array Value} {w : World} {R : Value → World → Prop} (c : Rows P row args w R) : RowsIn F n P row args w R :=
  fun fr cs _ => let ⟨v, w', r, s⟩ := c fr cs; ⟨v, w', r, steps_open h s⟩
section
variable {P : Program}
theorem oper_in {F : Fence} (hF : Open F) {o : Oper} {a : Act} {w : World} {K K' : Act → World → Prop} {Q Q' : Exit → Act → World → Prop} (ho : ∀ c, o.op ≠ .defer c) (hlo : ¬ LetsOut Q) (hK : ∀ a' w', K a' w' → K' a' w') (hQ : ∀ c w, Q (.panic c) a w → Q' (.panic c) a w)
    (h : o.wp P a w K Q) : o.wpIn F 0 P a w K' Q' := by
  refine ⟨fun f _ => hF.fn f, ?_⟩
  rw [Oper.semAt_eq _ _ _ ho]
  unfold Oper.wp at h
  generalize (execOp a.eval o).run P w = r at h ⊢
  have hdep : F.depth.isSome = true → 1 ≤ 0 := by rw [hF.depth]; intro hh; cases hh
  unfold Oper.upon at h
  split at h
  · exact hK _ _ h
  · exact hK _ _ h
  · exact hK _ _ h
  · refine ⟨hdep, calls_open hF (h.mono ?_)⟩
    intro e w'' hh
    cases e with
    | returned v => exact hK _ _ hh
    | panicked ch => exact hQ _ _ hh
    | outgrown => exact (hlo hh).elim
  · exact ⟨hdep, rows_open hF (h.mono fun v w'' hh => hK _ _ hh)⟩
  · exact hQ _ _ h
  · exact h.elim
theorem ops_in {F : Fence} (hF : Open F) {ops : Array Oper} (hops : noDef ops = true) {K : Act → World → Prop} {Q : Exit → Act → World → Prop} (hlo : ¬ LetsOut Q) (l2 : List Nat) (hK : ∀ a w, K a w → wpOpsIn F 0 P ops Q l2 a w) :
    ∀ (l : List Nat) (a : Act) (w : World), wpOps P ops (Exit.then K Q) l a w → wpOpsIn F 0 P ops Q (l ++ l2) a w := by
  intro l
  induction l with
  | nil => intro a w h; exact hK a w h
  | cons i l ih =>
    intro a w h
    rw [List.cons_append]
    simp only [wpOps, wpOpsIn] at h ⊢
    cases ho : ops[i]? with
    | none => simp only [ho] at h ⊢; exact ih _ _ h
    | some o =>
      simp only [ho] at h ⊢
      by_cases hw : Region.wanted o (yielded ops a.tmps) = true
      · simp only [hw, if_true] at h ⊢
        rcases h with h | ⟨_, a0, w0, h⟩
        · exact oper_in hF (noDef_at hops ho) (Q := Exit.then K Q) (fun ⟨a', w', hq⟩ => hlo ⟨a', w', hq⟩) (fun a' w' hh => ih a' w' hh) (fun c w' hh => hh) h
        · exact (hlo ⟨a0, w0, h⟩).elim
      · simp only [hw, Bool.false_eq_true, if_false] at h ⊢
        exact ⟨fun f _ => hF.fn f, ih _ _ h⟩
structure Mode (P : Program) where
  F : Fence
  hF : Open F
def Mode.wp (M : Mode P) (c : Code) (Q : Exit → Act → World → Prop) (a : Act) (w : World) : Prop := ¬ LetsOut Q → c.wpIn M.F 0 P Q a w
def Mode.round (P : Program) (l : Nat) : Mode P := ⟨Fence.wide.inRound l, open_round l⟩
def Mode.fence (P : Program) : Mode P := ⟨Fence.wide, open_wide⟩
theorem lo_then {K : Act → World → Prop} {Q : Exit → Act → World → Prop} (h : ¬ LetsOut Q) : ¬ LetsOut (Exit.then K Q) := fun ⟨a, w, hq⟩ => h ⟨a, w, hq⟩
theorem lo_blk {id : Nat} {Q : Exit → Act → World → Prop} (h : ¬ LetsOut Q) : ¬ LetsOut (Exit.inBlock id Q) := fun ⟨a, w, hq⟩ => h ⟨a, w, hq⟩
variable {dfs : List Deferred} {M : Mode P} {Q : Exit → Act → World → Prop} {n : Nat} {w0 : World} {L : List (Nat × Value)} {T : List Ent}
theorem mcont_seq {x y : Code} (h : Cont dfs (M.wp x (Exit.then (M.wp y Q) Q)) n w0 L T) : Cont dfs (M.wp (Code.seq x y) Q) n w0 L T :=
  fun a w ha hf hT hlo => wpIn_seq (wpIn_mono (h a w ha hf hT (lo_then hlo)) fun e a' w' hq => by
    cases e with
    | normal => exact hq hlo
    | _ => exact hq)
theorem mcont_region {id : Nat} {ops : Array Oper} (k : Nat) (hk : ops.size = k) (hops : noDef ops = true) (h : Cont dfs (PL P ops Q 0 k) n w0 L T) : Cont dfs (M.wp (Code.region id ops false) Q) n w0 L T := by
  intro a w ha hf hT hlo
  refine wpIn_region ?_
  have := h a w ha hf hT
  unfold PL at this
  rw [List.range_eq_range', hk]
  have e := ops_in M.hF hops (K := Q .normal) hlo [] (fun a w hh => by simpa [wpOpsIn] using hh) (List.range' 0 k) a w (by
    have hQ : Exit.then (Q .normal) Q = Q := by funext e; cases e <;> rfl
    rw [hQ]; exact this)
  simpa using e
theorem mcont_skip (h : Cont dfs (Q .normal) n w0 L T) : Cont dfs (M.wp Code.skip Q) n w0 L T := fun a w ha hf hT _ => wpIn_skip (h a w ha hf hT)
theorem mcont_ret (h : Cont dfs (Q .ret) n w0 L T) : Cont dfs (M.wp Code.ret Q) n w0 L T := fun a w ha hf hT _ => wpIn_ret (h a w ha hf hT)
theorem mcont_exit {id : Nat} (h : Cont dfs (Q (.exit id)) n w0 L T) : Cont dfs (M.wp (Code.exit id) Q) n w0 L T := fun a w ha hf hT _ => wpIn_exit (h a w ha hf hT)
theorem mcont_block {id : Nat} {c : Code} (h : Cont dfs (M.wp c (Exit.inBlock id Q)) n w0 L T) : Cont dfs (M.wp (Code.block id c) Q) n w0 L T := fun a w ha hf hT hlo => wpIn_block (h a w ha hf hT (lo_blk hlo))
theorem mcont_true {c : Operand} {x y : Code} (hc : knownB L c = some (.bool true)) (h : Cont dfs (M.wp x Q) n w0 L T) : Cont dfs (M.wp (Code.cond c x y) Q) n w0 L T :=
  fun a w ha hf hT hlo => wpIn_cond_true (knownB_eval hf hc) (h a w ha hf hT hlo)
theorem mcont_false {c : Operand} {x y : Code} (hc : knownB L c = some (.bool false)) (h : Cont dfs (M.wp y Q) n w0 L T) : Cont dfs (M.wp (Code.cond c x y) Q) n w0 L T :=
  fun a w ha hf hT hlo => wpIn_cond_false (knownB_eval hf hc) (h a w ha hf hT hlo)
theorem wpIn_loop_ghost {F : Fence} {m : Nat} {a : Act} {w : World} {c : Code} (I : Nat → Act → World → Prop) (n₀ : Nat) (h₀ : I n₀ a w)
    (round : ∀ n a w, I n a w → c.wpIn F m P (Exit.then (fun a' w' => ∃ n', n' < n ∧ I n' a' w') Q) a w) : (Code.loop c).wpIn F m P Q a w := by
  refine wpIn_loop (fun a w => ∃ n, I n a w) (fun a w => leastOf (fun n => I n a w)) ⟨n₀, h₀⟩ ?_
  intro a w hI
  refine wpIn_mono (round _ a w (leastOf_spec hI).1) ?_
  intro e a' w' hq
  cases e with
  | normal =>
    obtain ⟨n', hlt, hI'⟩ := hq
    exact show (∃ n, I n a' w') ∧ leastOf (fun n => I n a' w') < leastOf (fun n => I n a w) from ⟨⟨n', hI'⟩, Nat.lt_of_le_of_lt ((leastOf_spec ⟨n', hI'⟩).2 n' hI') hlt⟩
  | _ => exact hq
theorem mcont_loop {α : Type} {body : Code} (Inv : α → Prop) (Lf : α → List (Nat × Value)) (Tf : α → List Ent) (m : α → Nat) (x0 : α) (hinv : Inv x0)
    (hL : ((Lf x0).map fun p => lk L p.1) = ((Lf x0).map fun p => some p.2)) (hTf : Tf x0 = T)
    (round : ∀ x, Inv x → Cont dfs (M.wp body (Exit.then (Again dfs Inv Lf Tf m n w0 x) Q)) n w0 (Lf x) (Tf x)) : Cont dfs (M.wp (Code.loop body) Q) n w0 L T := by
  subst hTf
  intro a w ha hf hT hlo
  refine wpIn_loop_ghost (fun k a' w' => ∃ x, m x = k ∧ Inv x ∧ a'.defers = dfs ∧ FrOk n a'.tmps (Lf x) ∧ Tab w0 w' (Tf x)) (m x0) ⟨x0, rfl, hinv, ha, hf.prune hL, hT⟩ ?_
  rintro k a' w' ⟨x, rfl, hx, ha', hf', hT'⟩
  refine wpIn_mono (round x hx a' w' ha' hf' hT' (lo_then hlo)) (fun e a'' w'' h => ?_)
  cases e with
  | normal =>
    obtain ⟨y, h1, h2, h3, h4, h5⟩ := h
    exact ⟨m y, h2, y, rfl, h1, h3, h4, h5⟩
  | _ => exact h
def objE (b : Nat) (o : Obj) : Ent := .gen { blk := (· = b), wr := true, own := true, ok := fun w => w.heap[b]? = some o, stable := fun w w' h hk => (h b rfl).trans hk, inb := fun w k hk hb => by cases hb; exact (Array.getElem?_eq_some_iff.1 hk).1 }
def markE (D : Nat) : Ent := objE D (.deferred (some []))
theorem Tab.putObj {w : World} (hT : Tab w0 w T) {i b : Nat} {o : Obj} (h : T[i]? = some (objE b o)) (o' : Obj) : Tab w0 (w.putObj b o') (T.set i (objE b o')) := by
  have hk : w.heap[b]? = some o := hT.ok i _ h
  refine hT.replace (e := objE b o) (e' := objE b o') h rfl rfl id (fun k hk => .inl hk) (fun k _ hk _ => hk) rfl rfl rfl (by simp) (fun k _ hk => World.putObj_heap_other (fun e => hk e)) ?_
  exact World.putObj_heap_same (Array.getElem?_eq_some_iff.1 hk).1
theorem Tab.allocObj {w : World} (hT : Tab w0 w T) (o : Obj) : Tab w0 (w.alloc o) (objE w.heap.size o :: T) := by
  refine hT.push (e := objE w.heap.size o) rfl rfl rfl (by simp) (fun k hk => Below.heap_alloc w _ k hk) (World.alloc_heap_new w o) (fun k hk => by have : k = w.heap.size := hk; omega)
theorem Cont.go {K : Act → World → Prop} (h : Cont dfs K n w0 L T) {a : Act} {w : World} (ha : a.defers = dfs) (hf : FrOk n a.tmps L) (hT : Tab w0 w T) : K a w := h a w ha hf hT
def NP (Q : Exit → Act → World → Prop) : Exit → Act → World → Prop
  | .panic _, _, _ => False
  | e, a, w => Q e a w
theorem NP.le {Q : Exit → Act → World → Prop} (e : Exit) (a : Act) (w : World) (h : NP Q e a w) : Q e a w := by cases e <;> first | exact h.elim | exact h
theorem enterM {f : FuncId} {fn : Func} {c : Code} {args : Array Value} {w : World} {R : Ending → World → Prop} (n : Nat) (L : List (Nat × Value)) (T : List Ent) (hf : P.funcs[f]? = some fn) (hb : fn.body = some c) (hn : fn.ntmps = n) (hsz : Nat.ble args.size n = true)
    (hL : (L.map fun p => args[p.1]?) = (L.map fun p => some p.2)) (hT : Tab w w T) (h : Cont [] (c.wp P (NP (bodyPostM Fence.wide 0 P fn R))) n w L T) : Calls P f args w R := by
  subst hn
  refine callsIn_wide.1 (callsIn_of_wp_marks hf hb trivial (wpIn_wide.2 (wp_mono (h _ _ rfl ⟨?_, ?_⟩ hT) fun e a w hq => hq.le)) rfl)
  · have := Nat.le_of_ble_eq_true hsz
    simp; omega
  · exact enter_lk hL
def coll (D : Nat) : Deferred := { target := .collected D, args := #[] }
theorem mark_end {fn : Func} {R : Ending → World → Prop} {e : Exit} {D : Nat} (i : Nat) (hi : T[i]? = some (markE D)) (he : e = .ret ∨ e = .normal) (h : Cont [] (bodyPost P fn R e) n w0 L (T.set i (objE D (.deferred none)))) : Cont [coll D] (NP (bodyPostM Fence.wide 0 P fn R) e) n w0 L T := by
  intro a w ha hf hT
  have hk : w.heap[D]? = some (.deferred (some [])) := hT.ok i _ hi
  have := h { a with defers := [] } (w.putObj D (.deferred none)) rfl hf (hT.putObj hi _)
  rcases he with rfl | rfl
  all_goals
    obtain ⟨_, v, h1, h2⟩ := this
    show LeavesInM Fence.wide 0 P fn a.tmps R a.defers .returning w
    rw [ha]
    exact ⟨by simp, .inl ⟨D, _, rfl, run_takeDeferred hk, v, h1, h2⟩⟩
def IterC {X : Type} (P : Program) (gf : Nat) (lb : Array Value) (encs : X → Array Value) (w0 : World) (Es : List Ent) (Ex : X → List Ent) (S Sp : List X → Prop) : Prop :=
  ∀ {β : Type} (Inv : List X → β → Prop) (Tr : β → List Ent) (Jx : World → Prop) (l : Nat) (e1 e2 : Ent) (W : World) (b0 : β), (∀ w w', Jx w → Below w.heap.size w w' → Jx w') →
    (∀ pre x b W1 z, (z.wr = true → z.own = true) → Inv pre b → Sp (pre ++ [x]) → Tab w0 W1 (Ex x ++ z :: e1 :: e2 :: (Es ++ Tr b)) →
      YieldAt Fence.wide 0 P l (encs x) W1 fun e W' => (e = .returned (.bool true) ∧ ∃ b', Inv (pre ++ [x]) b' ∧ Tab w0 W' (z :: e1 :: e2 :: (Es ++ Tr b'))) ∨ (e = .returned (.bool false) ∧ Jx W')) →
    Inv [] b0 → Tab w0 W (e1 :: e2 :: (Es ++ Tr b0)) →
    Calls P gf (#[.func (.yield l) #[] #[]] ++ lb) W fun e W' => (∃ v, e = .returned v) ∧ ((∃ xs b', S xs ∧ Inv xs b' ∧ Tab w0 W' (e1 :: e2 :: (Es ++ Tr b'))) ∨ Jx W')
theorem enterI {f : FuncId} {fn : Func} {c : Code} {args : Array Value} {w : World} {R : Ending → World → Prop} (n : Nat) (L : List (Nat × Value)) (T : List Ent) (hf : P.funcs[f]? = some fn) (hb : fn.body = some c) (hn : fn.ntmps = n) (hsz : Nat.ble args.size n = true)
    (hL : (L.map fun p => args[p.1]?) = (L.map fun p => some p.2)) (hT : Tab w0 w T) (hlo : ∀ w, ¬ R .outgrown w) (h : Cont [] ((Mode.fence P).wp c (bodyPost P fn R)) n w0 L T) : Calls P f args w R := by
  subst hn
  refine callsIn_wide.1 (callsIn_of_wp hf hb trivial (h _ _ rfl ⟨?_, ?_⟩ hT (fun ⟨_, w', hq⟩ => hlo w' hq)) rfl)
  · have := Nat.le_of_ble_eq_true hsz
    simp; omega
  · exact enter_lk hL
def PLI (P : Program) (ops : Array Oper) (Q : Exit → Act → World → Prop) (i k : Nat) (a : Act) (w : World) : Prop := ¬ LetsOut Q → wpOpsIn Fence.wide 0 P ops Q (List.range' i k) a w
theorem icont_region {id : Nat} {ops : Array Oper} (k : Nat) (hk : ops.size = k) (h : Cont dfs (PLI P ops Q 0 k) n w0 L T) : Cont dfs ((Mode.fence P).wp (Code.region id ops false) Q) n w0 L T := by
  intro a w ha hf hT hlo
  refine wpIn_region ?_
  rw [List.range_eq_range', hk]
  exact h a w ha hf hT hlo
theorem pli_ops {ops : Array Oper} {i k : Nat} (j m i' : Nat) (hk : k = j + m) (hi' : i' = i + j) (hops : noDef ops = true) (h : Cont dfs (PL P ops (Exit.then (PLI P ops Q i' m) Q) i j) n w0 L T) : Cont dfs (PLI P ops Q i k) n w0 L T := by
  subst hk; subst hi'
  intro a w ha hf hT hlo
  have := h a w ha hf hT
  have e : List.range' i (j + m) = List.range' i j ++ List.range' (i + j) m := (List.range'_append_1 ..).symm
  rw [e]
  exact ops_in open_wide hops hlo _ (fun a w hh => hh hlo) _ a w this
theorem pli_done {ops : Array Oper} {i : Nat} (h : Cont dfs (Q .normal) n w0 L T) : Cont dfs (PLI P ops Q i 0) n w0 L T :=
  fun a w ha hf hT _ => by
    have := h a w ha hf hT
    simpa [wpOpsIn] using this
theorem YieldAt.weaken {F : Fence} {m l : Nat} {args : Array Value} {W : World} {R R' : Ending → World → Prop} (h : YieldAt F m P l args W R) (hr : ∀ e w', R e w' → R' e w') : YieldAt F m P l args W R' :=
  let ⟨fn, tmps, assign, body, h1, h2⟩ := h; ⟨fn, tmps, assign, body, h1, h2.mono hr⟩
theorem pli_yield {ops : Array Oper} {i k : Nat} {l : Nat} {args : Array Value} (d : Tmp) (i' k' : Nat) (hi : i' = i + 1) (hk : k = k' + 1) (hops : noDef ops = true) (H : opS ops n i L = some (some d, Instr.yield l args))
    {R : Value → World → Prop} (hy : ∀ w, Tab w0 w T → YieldAt Fence.wide 0 P l args w fun e w' => ∃ v, e = .returned v ∧ R v w')
    (hR : ∀ a w v, a.defers = dfs → FrOk n a.tmps ((d, v) :: L) → R v w → PLI P ops Q i' k' a w) : Cont dfs (PLI P ops Q i k) n w0 L T := by
  subst hi; subst hk
  intro a w ha hf hT hlo
  obtain ⟨o, ho, hdst, hd, hw, he⟩ := opS_core H hf
  rw [List.range'_succ]
  simp only [wpOpsIn, ho, hw, if_true]
  refine ⟨fun f _ => trivial, ?_⟩
  rw [Oper.semAt_eq _ _ _ (noDef_at hops ho), he]
  obtain ⟨fn, tmps, assign, body, hrun, hround⟩ := hy w hT
  rw [hrun]
  refine ⟨(fun h => by cases h), hround.mono ?_⟩
  rintro e w' ⟨v, rfl, hr⟩
  exact hR (a.put o.dst v) w' v (by rw [put_defers]; exact ha) (by rw [hdst]; exact hf.put (hd d rfl) v) hr hlo
theorem FrOk.puts {tmps : Array Value} (h : FrOk n tmps L) : ∀ (ps : List Nat) (vs : List Value), (ps.all fun p => Nat.blt p n) = true → FrOk n ((ps.zip vs).foldl (fun t p => t.setIfInBounds p.1 p.2) tmps) ((ps.zip vs).reverse ++ L) := by
  intro ps
  induction ps generalizing tmps L with
  | nil => intro vs _; exact h
  | cons p ps ih =>
    intro vs hp
    cases vs with
    | nil => exact h
    | cons v vs =>
      simp only [List.all_cons, Bool.and_eq_true] at hp
      have := ih (h.put (d := p) (by simpa using hp.1) v) vs hp.2
      simp only [List.zip_cons_cons, List.foldl_cons, List.reverse_cons, List.append_assoc, List.singleton_append]
      exact this
def RQ {X β : Type} (w0 : World) (Inv : List X → β → Prop) (Tr : β → List Ent) (Es : List Ent) {γ : Type} (Jx : Code → γ → Prop) (Tx : γ → List Ent) (z e1 e2 : Ent) (xs : List X) : Exit → Act → World → Prop
  | .normal, _, w => ∃ b, Inv xs b ∧ Tab w0 w (z :: e1 :: e2 :: (Es ++ Tr b))
  | .ret, _, w => ∃ c, Jx .ret c ∧ Tab w0 w (e1 :: e2 :: Tx c)
  | .exit id, _, w => ∃ c, Jx (.exit id) c ∧ Tab w0 w (e1 :: e2 :: Tx c)
  | _, _, _ => False
theorem rq_next {X β γ : Type} {Inv : List X → β → Prop} {Tr : β → List Ent} {Es : List Ent} {Jx : Code → γ → Prop} {Tx : γ → List Ent} {z e1 e2 : Ent} {xs : List X} (b : β) (hi : Inv xs b) (hT : z :: e1 :: e2 :: (Es ++ Tr b) = T) : Cont dfs (RQ w0 Inv Tr Es Jx Tx z e1 e2 xs .normal) n w0 L T := by
  subst hT; exact fun a w _ _ h => ⟨b, hi, h⟩
theorem cont_rangeFunc {X β γ : Type} {g : Operand} {ps : Array Tmp} {assign body : Code} {gf : Nat} {lb : Array Value} (encs : X → Array Value) (Es : List Ent) (Ex : X → List Ent) (S Sp : List X → Prop) (Inv : List X → β → Prop) (Tr : β → List Ent) (Jx : Code → γ → Prop) (Tx : γ → List Ent) (b0 : β)
    (hg : knownB L g = some (.func (.func gf) #[] lb)) (eg : ∀ args w, (callFunc gf args).run P w = .ok (.enter gf args) w) (hps : ∀ x, (encs x).size = ps.size) (hpn : (ps.toList.all fun p => Nat.blt p n) = true)
    (hseq : IterC P gf lb encs w0 Es Ex S Sp) (h0 : Inv [] b0) (hT0 : Es ++ Tr b0 = T)
    (hbody : ∀ (l : Nat) (z e1 e1b e2 : Ent) (pre : List X) (x : X) (b : β) (B : Act → World → Prop), (z.wr = true → z.own = true) → Inv pre b → Sp (pre ++ [x]) →
      (∀ L' Xs R, Cont [] ((Mode.round P l).wp body (RQ w0 Inv Tr Es Jx Tx z e1b e2 (pre ++ [x]))) n w0 L' (Xs ++ e1b :: R) → Cont [] B n w0 L' (Xs ++ e1 :: R)) →
      Cont [] ((Mode.round P l).wp assign (Exit.then B (fun _ _ _ => False))) n w0 ((ps.toList.zip (encs x).toList).reverse ++ L) (Ex x ++ z :: e1 :: e2 :: (Es ++ Tr b)))
    (hdone : ∀ (D : Nat) (xs : List X) (b : β), S xs → Inv xs b → Cont [coll D] (Q .normal) n w0 L (markE D :: (Es ++ Tr b)))
    (hret : ∀ (D : Nat) (c : γ), Jx .ret c → Cont [coll D] (Q .ret) n w0 L (markE D :: Tx c))
    (hexit : ∀ (D id : Nat) (c : γ), Jx (.exit id) c → Cont [coll D] (Q (.exit id)) n w0 L (markE D :: Tx c)) :
    Cont [] ((Code.rangeFunc g ps assign body).wp P Q) n w0 L T := by
  subst hT0
  intro a w ha hf hT
  refine (wpIn_wide (n := 0)).1 (wpIn_rangeFunc ?_)
  intro fn _
  obtain ⟨rec, hrec⟩ : ∃ rec : LoopState → Option Code → Loop, rec = fun st pe => { state := st, pending := pe, fn, tmps := a.tmps, params := ps, assign, body, defers := w.heap.size } := ⟨_, rfl⟩
  have hTab := (hT.allocObj (.deferred (some []))).allocObj (.loop (rec .ready none))
  rw [World.size_alloc] at hTab
  obtain ⟨W1, hW1⟩ : ∃ W1, (w.alloc (.deferred (some []))).alloc (.loop (rec .ready none)) = W1 := ⟨_, rfl⟩
  rw [hW1] at hTab
  have hgv : a.eval g = .func (.func gf) #[] lb := knownB_eval hf hg
  refine ⟨w.heap.size + 1, [coll w.heap.size], W1, { target := .fn (.func gf) lb, args := #[.func (.yield (w.heap.size + 1)) #[] #[]] }, W1, gf, #[.func (.yield (w.heap.size + 1)) #[] #[]] ++ lb, W1, by rw [← hW1, hrec]; exact run_enterLoop_outer _ _ _ _ _, ?_, fun _ _ => trivial, ?_, (fun h => by cases h), ?_⟩
  · simp only [resolve, hgv]
    simp [go_sem]
  · simp [invoke, go_sem, eg]
  · have key := hseq Inv Tr (fun W => ∃ c d, Jx c d ∧ (c = .ret ∨ ∃ id, c = .exit id) ∧ Tab w0 W (objE (w.heap.size + 1) (.loop (rec .done (some c))) :: markE w.heap.size :: Tx d)) (w.heap.size + 1) (objE (w.heap.size + 1) (.loop (rec .ready none))) (markE w.heap.size) W1 b0 ?_ ?_ h0 hTab
    · refine calls_open open_wide (key.mono ?_)
      rintro e W ⟨⟨v, rfl⟩, ⟨xs, b, hS, hi, hW⟩ | ⟨c, d, hj, hc, hW⟩⟩
      · have hl : W.heap[w.heap.size + 1]? = some (.loop (rec .ready none)) := hW.ok 0 _ rfl
        refine ⟨none, _, by rw [run_endLoop hl (by rw [hrec]; simp)]; rw [hrec], ?_⟩
        have hW2 := (hW.putObj (i := 0) rfl (.loop { rec .ready none with state := .exhausted })).drop (fun _ => rfl)
        refine hdone w.heap.size xs b hS hi _ _ (by simp [ha, coll]) hf (by rw [hrec] at hW2; exact hW2)
      · have hl : W.heap[w.heap.size + 1]? = some (.loop (rec .done (some c))) := hW.ok 0 _ rfl
        refine ⟨some c, _, by rw [run_endLoop hl (by rw [hrec]; simp)]; rw [hrec], ?_⟩
        have hW2 := (hW.putObj (i := 0) rfl (.loop { rec .done (some c) with state := .exhausted })).drop (fun _ => rfl)
        refine wpIn_wide.2 ?_
        rcases hc with rfl | ⟨id, rfl⟩
        · exact wp_ret (hret w.heap.size d hj _ _ (by simp [ha, coll]) hf (by rw [hrec] at hW2; exact hW2))
        · exact wp_exit (hexit w.heap.size id d hj _ _ (by simp [ha, coll]) hf (by rw [hrec] at hW2; exact hW2))
    · rintro wa wb ⟨c, d, h1, h2, h3⟩ hb
      exact ⟨c, d, h1, h2, h3.below hb⟩
    · -- one round
      intro pre x b W1 z hz hi hsp hW
      have hfr : FrOk n ((ps.zip (encs x)).foldl (fun tmps (t, v) => tmps.setIfInBounds t v) a.tmps) ((ps.toList.zip (encs x).toList).reverse ++ L) := by
        have := hf.puts ps.toList (encs x).toList hpn
        rw [← Array.foldl_toList, Array.toList_zip]
        exact this
      have hidx : (Ex x ++ z :: objE (w.heap.size + 1) (.loop (rec .ready none)) :: markE w.heap.size :: (Es ++ Tr b))[(Ex x).length + 1]? = some (objE (w.heap.size + 1) (.loop (rec .ready none))) := by simp [List.getElem?_append_right]
      have hl : W1.heap[w.heap.size + 1]? = some (.loop (rec .ready none)) := hW.ok _ _ hidx
      have hy := run_yield (P := P) (args := encs x) hl (by rw [hrec]; exact hps x)
      rw [hrec] at hy
      refine ⟨fn, _, assign, body, hy, roundIn_of_wpIn (F := Fence.wide) trivial ?_⟩
      refine hbody (w.heap.size + 1) z (objE (w.heap.size + 1) (.loop (rec .ready none))) (objE (w.heap.size + 1) (.loop { rec .ready none with state := .busy })) (markE w.heap.size) pre x b _ hz hi hsp ?_ _ W1 rfl hfr hW ?_
      rotate_left
      · rintro ⟨a', w', hq⟩; exact hq
      intro L' Xs R hB a' W2 ha' hf' hW2
      have hidx2 : (Xs ++ objE (w.heap.size + 1) (.loop (rec .ready none)) :: R)[Xs.length]? = some (objE (w.heap.size + 1) (.loop (rec .ready none))) := by simp
      have hl2 : W2.heap[w.heap.size + 1]? = some (.loop (rec .ready none)) := hW2.ok _ _ hidx2
      have hW3 := hW2.putObj hidx2 (.loop { rec .ready none with state := .busy })
      have hset : (Xs ++ objE (w.heap.size + 1) (.loop (rec .ready none)) :: R).set Xs.length (objE (w.heap.size + 1) (.loop { rec .ready none with state := .busy })) = Xs ++ objE (w.heap.size + 1) (.loop { rec .ready none with state := .busy }) :: R := by simp
      rw [hset] at hW3
      refine ⟨_, run_beginRound hl2 (by rw [hrec]), wpIn_mono (hB a' _ ha' hf' hW3 ?_) ?_⟩
      · rintro ⟨a', w', hq⟩; exact hq
      · intro e a'' W3 hq
        have fin : ∀ (jump : Option Code) (i : Nat) (T' : List Ent), T'[i]? = some (objE (w.heap.size + 1) (.loop { rec .ready none with state := .busy })) → Tab w0 W3 T' →
            (Instr.endRound (w.heap.size + 1) jump).run P W3 = .ok (.bool jump.isNone) (W3.putObj (w.heap.size + 1) (.loop (rec (if jump.isNone then .ready else .done) jump))) ∧ Tab w0 (W3.putObj (w.heap.size + 1) (.loop (rec (if jump.isNone then .ready else .done) jump))) (T'.set i (objE (w.heap.size + 1) (.loop (rec (if jump.isNone then .ready else .done) jump)))) := by
          intro jump i T' hi3 hW3
          have hl3 : W3.heap[w.heap.size + 1]? = some (.loop { rec .ready none with state := .busy }) := hW3.ok i _ hi3
          refine ⟨?_, hW3.putObj hi3 _⟩
          rw [run_endRound jump hl3, hrec]
        cases e with
        | normal =>
          obtain ⟨b', hi', hW3⟩ := hq
          obtain ⟨h1, h2⟩ := fin none 1 _ rfl hW3
          exact ⟨_, _, h1, .inl ⟨rfl, b', hi', h2⟩⟩
        | ret =>
          obtain ⟨c, hj, hW3⟩ := hq
          obtain ⟨h1, h2⟩ := fin (some .ret) 0 _ rfl hW3
          exact ⟨_, _, h1, .inr ⟨rfl, .ret, c, hj, .inl rfl, h2⟩⟩
        | exit id =>
          obtain ⟨c, hj, hW3⟩ := hq
          obtain ⟨h1, h2⟩ := fin (some (.exit id)) 0 _ rfl hW3
          exact ⟨_, _, h1, .inr ⟨rfl, .exit id, c, hj, .inr ⟨id, rfl⟩, h2⟩⟩
        | goto t => exact hq.elim
        | panic ch => exact hq.elim
        | outgrown => exact hq.elim
end
end Go.Proofs.Ytkfdmfclndaanaa
namespace Go.Proofs.Ytkfdmfclndaanaa
open Go Go.RowKit
variable {dfs : List Deferred}
section
variable {P : Program}
end
end Go.Proofs.Ytkfdmfclndaanaa
namespace Go.Proofs.Ytkfdmfclndaanaa
open Go Go.RowKit
variable {P : Program} {dfs : List Deferred} {n : Nat} {w0 : World} {L : List (Tmp × Value)} {T : List Ent} {Q : Exit → Act → World → Prop}
def roObjE (b : Nat) (o : Obj) : Ent := .gen { blk := (· = b), wr := false, own := false, ok := fun w => w.heap[b]? = some o, stable := fun w w' h hk => (h b rfl).trans hk, inb := fun w k hk hb => by cases hb; exact (Array.getElem?_eq_some_iff.1 hk).1 }
def kvOf (e : MapEntry) : Value × Value := (e.key, e.val)
theorem leftOf_push (es : Array MapEntry) (sn : Array Nat) (b : Nat) : (leftOf es (sn.push b)).toList = (leftOf es sn).toList.filter fun x => x.born != b := by
  simp only [leftOf, Array.toList_filter, List.filter_filter]
  congr 1
  funext x
  simp only [Array.contains_push]
  cases h : sn.contains x.born <;> cases h2 : (x.born == b) <;> simp_all [bne]
theorem strike_born {L : List MapEntry} {e : MapEntry} (hn : (L.map (·.born)).Nodup) (he : e ∈ L) : ∃ A B, L = A ++ e :: B ∧ (L.filter fun x => x.born != e.born) = A ++ B := by
  obtain ⟨A, B, rfl⟩ := List.append_of_mem he
  refine ⟨A, B, rfl, ?_⟩
  rw [List.map_append, List.map_cons, List.nodup_append] at hn
  obtain ⟨_, h2, h3⟩ := hn
  rw [List.nodup_cons] at h2
  rw [List.filter_append, List.filter_cons]
  have e1 : (A.filter fun x => x.born != e.born) = A := List.filter_eq_self.2 fun x hx => by
    have := h3 x.born (List.mem_map.2 ⟨x, hx, rfl⟩) e.born (List.mem_cons_self ..)
    simpa using this
  have e2 : (B.filter fun x => x.born != e.born) = B := List.filter_eq_self.2 fun x hx => by
    have : x.born ≠ e.born := fun h => h2.1 (h ▸ List.mem_map.2 ⟨x, hx, rfl⟩)
    simpa using this
  rw [e1, e2]; simp
end Go.Proofs.Ytkfdmfclndaanaa
namespace Go.Proofs.Ytkfdmfclndaanaa
open Go Go.RowKit
theorem sorted_unique : ∀ {a b : List Int}, a.Pairwise (· ≤ ·) → b.Pairwise (· ≤ ·) → a.Perm b → a = b := by
  intro a
  induction a with
  | nil => intro b _ _ h; exact (List.nil_perm.1 h).symm ▸ rfl
  | cons x a ih =>
    intro b ha hb h
    cases b with
    | nil => exact absurd h.length_eq (by simp)
    | cons y b =>
      have h1 : x ∈ y :: b := h.mem_iff.1 (List.mem_cons_self ..)
      have h2 : y ∈ x :: a := h.mem_iff.2 (List.mem_cons_self ..)
      have hxy : x = y := by
        rw [List.pairwise_cons] at ha hb
        rcases List.mem_cons.1 h1 with e | e
        · exact e
        · rcases List.mem_cons.1 h2 with e2 | e2
          · exact e2.symm
          · have := hb.1 x e; have := ha.1 y e2; omega
      subst hxy
      rw [ih (List.pairwise_cons.1 ha).2 (List.pairwise_cons.1 hb).2 ((List.perm_cons x).1 h)]
theorem sortL_perm {a b : List Int} (h : a.Perm b) : sortL a = sortL b :=
  sorted_unique (sortL_sorted a) (sortL_sorted b) (((List.mergeSort_perm a _).trans h).trans (List.mergeSort_perm b _).symm)
end Go.Proofs.Ytkfdmfclndaanaa
namespace Go.Proofs.Ytkfdmfclndaanaa
open Go Go.RowKit
variable {dfs : List Deferred}
def sepE (A B : GenEnt) : GenEnt :=
  { blk := fun k => A.blk k ∨ B.blk k, wr := true, own := true,
    ok := fun w => A.ok w ∧ B.ok w ∧ ∀ k, A.blk k → ¬ B.blk k,
    stable := fun w w' h hk => ⟨A.stable w w' (fun b hb => h b (.inl hb)) hk.1, B.stable w w' (fun b hb => h b (.inr hb)) hk.2.1, hk.2.2⟩,
    inb := fun w k hk hb => hb.elim (A.inb w k hk.1) (B.inb w k hk.2.1) }
def nilE : GenEnt := { blk := fun _ => False, wr := true, own := true, ok := fun _ => True, stable := fun _ _ _ _ => trivial, inb := fun _ _ _ h => h.elim }
def cellsG (b : Nat) (cs : List Value) (t : TypeId) : GenEnt :=
  { blk := fun k => k = b, wr := true, own := true, ok := fun w => w.heap[b]? = some (.cells cs.toArray t (0, 0)),
    stable := fun w w' hb h => (hb b rfl).trans h,
    inb := fun w k h hk => by rw [show k = b from hk]; exact (Array.getElem?_eq_some_iff.1 h).1 }
theorem Tab.swapW {w0 w : World} {T : List Ent} (hT : Tab w0 w T) {i : Nat} {e e' : Ent} (hi : T[i]? = some e) (hw : e'.wr = e.wr) (ho : e'.own = true → e.own = true) (hb : ∀ k, e'.blk k ↔ e.blk k) (hok : e'.ok w) : Tab w0 w (T.set i e') := by
  refine ⟨hT.os, hT.tape, hT.output, hT.size, ?_, ?_, ?_, ?_⟩
  · intro j x hx
    rcases getElem?_set_cases _ _ _ _ _ hx with ⟨_, rfl⟩ | ⟨_, hx⟩
    · exact hok
    · exact hT.ok j x hx
  · intro k hk hno
    refine hT.frame k hk (fun j x hx hxw hbk => ?_)
    by_cases hj : j = i
    · subst hj
      rw [hi] at hx; cases hx
      have hlt := (List.getElem?_eq_some_iff.1 hi).1
      exact hno j e' (by simp [List.getElem?_set, hlt]) (hw.trans hxw) ((hb k).2 hbk)
    · exact hno j x (by rw [List.getElem?_set_ne (Ne.symm hj)]; exact hx) hxw hbk
  · intro j x hx hxo k hk
    rcases getElem?_set_cases _ _ _ _ _ hx with ⟨_, rfl⟩ | ⟨_, hx⟩
    · exact hT.own i e hi (ho hxo) k ((hb k).1 hk)
    · exact hT.own j x hx hxo k hk
  · intro j l x y hjl hx hy hxy k hk hk'
    rcases getElem?_set_cases _ _ _ _ _ hx with ⟨rfl, rfl⟩ | ⟨hj, hx2⟩
    · rcases getElem?_set_cases _ _ _ _ _ hy with ⟨rfl, _⟩ | ⟨hl, hy2⟩
      · exact absurd rfl hjl
      · exact hT.disj j l e y hjl hi hy2 (by rwa [← hw]) k ((hb k).1 hk) hk'
    · rcases getElem?_set_cases _ _ _ _ _ hy with ⟨rfl, rfl⟩ | ⟨hl, hy2⟩
      · exact hT.disj j l x e hjl hx2 hi (by rwa [← hw]) k hk ((hb k).1 hk')
      · exact hT.disj j l x y hjl hx2 hy2 hxy k hk hk'
theorem Tab.unsep {w0 w : World} {T : List Ent} (hT : Tab w0 w T) {i : Nat} {A B : GenEnt} (hi : T[i]? = some (.gen (sepE A B))) (hA : A.wr = true) (hB : B.wr = true) : Tab w0 w (.gen A :: T.set i (.gen B)) := by
  obtain ⟨h1, h2, h3⟩ : A.ok w ∧ B.ok w ∧ ∀ k, A.blk k → ¬ B.blk k := hT.ok i _ hi
  have hlt := (List.getElem?_eq_some_iff.1 hi).1
  have hset : (T.set i (.gen B))[i]? = some (.gen B) := by simp [List.getElem?_set, hlt]
  refine ⟨hT.os, hT.tape, hT.output, hT.size, ?_, ?_, ?_, ?_⟩
  · intro j x hx
    cases j with
    | zero => simp at hx; subst hx; exact h1
    | succ j =>
      rcases getElem?_set_cases _ _ _ _ _ (by simpa using hx) with ⟨_, rfl⟩ | ⟨_, hx⟩
      · exact h2
      · exact hT.ok j x hx
  · intro k hk hno
    refine hT.frame k hk (fun j x hx hxw hbk => ?_)
    by_cases hj : j = i
    · subst hj
      rw [hi] at hx; cases hx
      rcases hbk with hbk | hbk
      · exact hno 0 (.gen A) (by simp) hA hbk
      · exact hno (j + 1) (.gen B) (by simpa using hset) hB hbk
    · exact hno (j + 1) x (by rw [List.getElem?_cons_succ, List.getElem?_set_ne (Ne.symm hj)]; exact hx) hxw hbk
  · intro j x hx hxo k hk
    cases j with
    | zero => simp at hx; subst hx; exact hT.own i _ hi rfl k (.inl hk)
    | succ j =>
      rcases getElem?_set_cases _ _ _ _ _ (by simpa using hx) with ⟨_, rfl⟩ | ⟨_, hx⟩
      · exact hT.own i _ hi rfl k (.inr hk)
      · exact hT.own j x hx hxo k hk
  · have key : ∀ (j : Nat) (x : Ent), (T.set i (.gen B))[j]? = some x → ∀ k, A.blk k → ¬ x.blk k := by
      intro j x hx k hk hk'
      rcases getElem?_set_cases _ _ _ _ _ hx with ⟨_, rfl⟩ | ⟨hj, hx⟩
      · exact h3 k hk hk'
      · exact hT.disj i j _ x (fun e => hj e.symm) hi hx (.inl rfl) k (.inl hk) hk'
    have key2 : ∀ (j l : Nat) (x y : Ent), j ≠ l → (T.set i (.gen B))[j]? = some x → (T.set i (.gen B))[l]? = some y → (x.wr = true ∨ y.wr = true) → ∀ k, x.blk k → ¬ y.blk k := by
      intro j l x y hjl hx hy hxy k hk hk'
      rcases getElem?_set_cases _ _ _ _ _ hx with ⟨rfl, rfl⟩ | ⟨hj, hx2⟩
      · rcases getElem?_set_cases _ _ _ _ _ hy with ⟨rfl, _⟩ | ⟨hl, hy2⟩
        · exact absurd rfl hjl
        · exact hT.disj j l _ y hjl hi hy2 (.inl rfl) k (.inr hk) hk'
      · rcases getElem?_set_cases _ _ _ _ _ hy with ⟨rfl, rfl⟩ | ⟨hl, hy2⟩
        · exact hT.disj j l x _ hjl hx2 hi (.inr rfl) k hk (.inr hk')
        · exact hT.disj j l x y hjl hx2 hy2 hxy k hk hk'
    intro j l x y hjl hx hy hxy k hk hk'
    cases j with
    | zero =>
      simp at hx; subst hx
      cases l with
      | zero => exact absurd rfl hjl
      | succ l => exact key l y (by simpa using hy) k hk hk'
    | succ j =>
      cases l with
      | zero => simp at hy; subst hy; exact key j x (by simpa using hx) k hk' hk
      | succ l => exact key2 j l x y (by omega) (by simpa using hx) (by simpa using hy) hxy k hk hk'
theorem Tab.sep {w0 w : World} {T : List Ent} {A B : GenEnt} (hT : Tab w0 w (.gen A :: T)) {i : Nat} (hi : T[i]? = some (.gen B)) (hA : A.wr = true) (hB : B.wr = true) (hAo : A.own = true) (hBo : B.own = true) : Tab w0 w (T.set i (.gen (sepE A B))) := by
  have g0 : (.gen A :: T : List Ent)[0]? = some (.gen A) := rfl
  have gi : (.gen A :: T : List Ent)[i + 1]? = some (.gen B) := by simpa using hi
  have gs : ∀ (j : Nat) (x : Ent), T[j]? = some x → (.gen A :: T : List Ent)[j + 1]? = some x := fun j x h => by simpa using h
  have hlt := (List.getElem?_eq_some_iff.1 hi).1
  have hset : (T.set i (.gen (sepE A B)))[i]? = some (.gen (sepE A B)) := by simp [List.getElem?_set, hlt]
  refine ⟨hT.os, hT.tape, hT.output, hT.size, ?_, ?_, ?_, ?_⟩
  · intro j x hx
    rcases getElem?_set_cases _ _ _ _ _ hx with ⟨_, rfl⟩ | ⟨_, hx⟩
    · exact ⟨hT.ok 0 _ g0, hT.ok (i + 1) _ gi, fun k hk hk' => hT.disj 0 (i + 1) _ _ (by omega) g0 gi (.inl hA) k hk hk'⟩
    · exact hT.ok (j + 1) x (gs j x hx)
  · intro k hk hno
    refine hT.frame k hk (fun j x hx hxw hbk => ?_)
    cases j with
    | zero => simp at hx; subst hx; exact hno i _ hset rfl (.inl hbk)
    | succ j =>
      by_cases hj : j = i
      · subst hj
        rw [gi] at hx; cases hx
        exact hno j _ hset rfl (.inr hbk)
      · exact hno j x (by rw [List.getElem?_set_ne (Ne.symm hj)]; simpa using hx) hxw hbk
  · intro j x hx hxo k hk
    rcases getElem?_set_cases _ _ _ _ _ hx with ⟨_, rfl⟩ | ⟨_, hx⟩
    · rcases hk with hk | hk
      · exact hT.own 0 _ g0 hAo k hk
      · exact hT.own (i + 1) _ gi hBo k hk
    · exact hT.own (j + 1) x (gs j x hx) hxo k hk
  · intro j l x y hjl hx hy hxy k hk hk'
    rcases getElem?_set_cases _ _ _ _ _ hx with ⟨rfl, rfl⟩ | ⟨hj, hx2⟩
    · rcases getElem?_set_cases _ _ _ _ _ hy with ⟨rfl, _⟩ | ⟨hl, hy2⟩
      · exact absurd rfl hjl
      · rcases hk with hk | hk
        · exact hT.disj 0 (l + 1) _ y (by omega) g0 (gs l y hy2) (.inl hA) k hk hk'
        · exact hT.disj (j + 1) (l + 1) _ y (by omega) gi (gs l y hy2) (.inl hB) k hk hk'
    · rcases getElem?_set_cases _ _ _ _ _ hy with ⟨rfl, rfl⟩ | ⟨hl, hy2⟩
      · rcases hk' with hk' | hk'
        · exact hT.disj (j + 1) 0 x _ (by omega) (gs j x hx2) g0 (.inr hA) k hk hk'
        · exact hT.disj (j + 1) (l + 1) x _ (by omega) (gs j x hx2) gi (.inr hB) k hk hk'
      · exact hT.disj (j + 1) (l + 1) x y (by omega) (gs j x hx2) (gs l y hy2) hxy k hk hk'
structure PB where
  k : Int
  b : Nat
  id : Int
  nm : Bool
  hd : Int
  m : Nat
  W : Int
  H : Int
  q : Nat
  n : Nat
  px : List Int
def PB.c (x : PB) : List Value := [.int .i64 x.id, .bool x.nm, .pointer (some ⟨x.m, 0, none⟩), .int .i64 x.hd]
def PB.i (x : PB) : List Value := [.int .i64 x.W, .int .i64 x.H, .slice (some ⟨x.q, 0, none⟩) x.n x.n]
def PB.r (tC : TypeId) (x : PB) : GenEnt := rowE (some ⟨x.q, 0, none⟩) x.q x.n x.n tC 1 (ivals .u32 x.px) true
def PB.g (tB tI tC : TypeId) (x : PB) : GenEnt := sepE (cellsG x.m x.i tI) (sepE (cellsG x.b x.c tB) (x.r tC))
def allG (tB tI tC : TypeId) (l : List PB) : GenEnt := l.foldr (fun x e => sepE (x.g tB tI tC) e) nilE
def allE (tB tI tC : TypeId) (l : List PB) : GenEnt := { allG tB tI tC l with wr := true, own := true }
theorem allG_perm {tB tI tC : TypeId} {l l' : List PB} (h : l.Perm l') : (∀ k, (allG tB tI tC l').blk k ↔ (allG tB tI tC l).blk k) ∧ ∀ w, (allG tB tI tC l).ok w → (allG tB tI tC l').ok w := by
  induction h with
  | nil => exact ⟨fun k => Iff.rfl, fun w h => h⟩
  | cons x _ ih =>
    refine ⟨fun k => ?_, fun w h => ?_⟩
    · exact ⟨fun h => h.elim .inl fun h => .inr ((ih.1 k).1 h), fun h => h.elim .inl fun h => .inr ((ih.1 k).2 h)⟩
    · obtain ⟨h1, h2, h3⟩ := h
      exact ⟨h1, ih.2 w h2, fun k hk hk' => h3 k hk ((ih.1 k).1 hk')⟩
  | swap x y l =>
    refine ⟨fun k => ?_, fun w h => ?_⟩
    · show _ ∨ (_ ∨ _) ↔ _ ∨ (_ ∨ _)
      constructor
      · rintro (h | h | h)
        · exact .inr (.inl h)
        · exact .inl h
        · exact .inr (.inr h)
      · rintro (h | h | h)
        · exact .inr (.inl h)
        · exact .inl h
        · exact .inr (.inr h)
    · obtain ⟨h1, ⟨h2, h3, h4⟩, h5⟩ := h
      exact ⟨h2, ⟨h1, h3, fun k hk hk' => h5 k hk (.inr hk')⟩, fun k hk hk' => hk'.elim (fun h => h5 k h (.inl hk)) (fun h => h4 k hk h)⟩
  | trans _ _ ih1 ih2 => exact ⟨fun k => (ih2.1 k).trans (ih1.1 k), fun w h => ih2.2 w (ih1.2 w h)⟩
theorem Tab.takeB {w0 w : World} {T : List Ent} (hT : Tab w0 w T) {i : Nat} {tB tI tC : TypeId} {l : List PB} (hi : T[i]? = some (.gen (allE tB tI tC l))) {x : PB} {l' : List PB} (hp : l.Perm (x :: l')) :
    Tab w0 w (.cells x.b x.c tB true :: .cells x.m x.i tI true :: .gen (x.r tC) :: T.set i (.gen (allE tB tI tC l'))) := by
  have hlt := (List.getElem?_eq_some_iff.1 hi).1
  obtain ⟨hb, hok⟩ := allG_perm (tB := tB) (tI := tI) (tC := tC) hp
  have h1 : Tab w0 w (T.set i (.gen (sepE (x.g tB tI tC) (allE tB tI tC l')))) := hT.swapW hi rfl (fun _ => rfl) hb (hok w (hT.ok i _ hi))
  have h2 := h1.unsep (i := i) (A := x.g tB tI tC) (B := allE tB tI tC l') (by simp [List.getElem?_set, hlt]) rfl rfl
  rw [List.set_set] at h2
  have h3 : Tab w0 w (.gen (cellsG x.m x.i tI) :: .gen (sepE (cellsG x.b x.c tB) (x.r tC)) :: T.set i (.gen (allE tB tI tC l'))) := h2.unsep (i := 0) rfl rfl rfl
  have h4 : Tab w0 w (.gen (cellsG x.b x.c tB) :: .gen (cellsG x.m x.i tI) :: .gen (x.r tC) :: T.set i (.gen (allE tB tI tC l'))) := h3.unsep (i := 1) rfl rfl rfl
  have h5 : Tab w0 w (.cells x.b x.c tB true :: .gen (cellsG x.m x.i tI) :: .gen (x.r tC) :: T.set i (.gen (allE tB tI tC l'))) := h4.swapW (i := 0) (e := .gen (cellsG x.b x.c tB)) (e' := .cells x.b x.c tB true) rfl rfl (fun _ => rfl) (fun _ => Iff.rfl) (h4.ok 0 (.gen (cellsG x.b x.c tB)) rfl)
  exact h5.swapW (i := 1) (e := .gen (cellsG x.m x.i tI)) (e' := .cells x.m x.i tI true) rfl rfl (fun _ => rfl) (fun _ => Iff.rfl) (h5.ok 1 (.gen (cellsG x.m x.i tI)) rfl)
theorem Tab.putB {w0 w : World} {T : List Ent} {tB tI tC : TypeId} {x : PB} (hT : Tab w0 w (.cells x.b x.c tB true :: .cells x.m x.i tI true :: .gen (x.r tC) :: T)) {i : Nat} {l' l : List PB} (hi : T[i]? = some (.gen (allE tB tI tC l'))) (hp : (x :: l').Perm l) : Tab w0 w (T.set i (.gen (allE tB tI tC l))) := by
  have hlt := (List.getElem?_eq_some_iff.1 hi).1
  obtain ⟨hb, hok⟩ := allG_perm (tB := tB) (tI := tI) (tC := tC) hp
  have h1 : Tab w0 w (.gen (cellsG x.b x.c tB) :: .cells x.m x.i tI true :: .gen (x.r tC) :: T) := hT.swapW (i := 0) (e := .cells x.b x.c tB true) (e' := .gen (cellsG x.b x.c tB)) rfl rfl (fun _ => rfl) (fun _ => Iff.rfl) (hT.ok 0 (.cells x.b x.c tB true) rfl)
  have h2 : Tab w0 w (.gen (cellsG x.b x.c tB) :: .gen (cellsG x.m x.i tI) :: .gen (x.r tC) :: T) := h1.swapW (i := 1) (e := .cells x.m x.i tI true) (e' := .gen (cellsG x.m x.i tI)) rfl rfl (fun _ => rfl) (fun _ => Iff.rfl) (h1.ok 1 (.cells x.m x.i tI true) rfl)
  have h3 : Tab w0 w (.gen (cellsG x.m x.i tI) :: .gen (sepE (cellsG x.b x.c tB) (x.r tC)) :: T) := h2.sep (i := 1) rfl rfl rfl rfl rfl
  have h4 : Tab w0 w (.gen (x.g tB tI tC) :: T) := h3.sep (i := 0) rfl rfl rfl rfl rfl
  have h5 : Tab w0 w (T.set i (.gen (sepE (x.g tB tI tC) (allE tB tI tC l')))) := h4.sep hi rfl rfl rfl rfl
  have hs : (T.set i (.gen (sepE (x.g tB tI tC) (allE tB tI tC l'))))[i]? = some (.gen (sepE (x.g tB tI tC) (allE tB tI tC l'))) := by simp [List.getElem?_set, hlt]
  have h6 := h5.swapW (i := i) (e' := .gen (allE tB tI tC l)) hs rfl (fun _ => rfl) hb (hok w (h5.ok i _ hs))
  rwa [List.set_set] at h6
theorem cont_takeB {K : Act → World → Prop} {n : Nat} {w0 : World} {L : List (Tmp × Value)} {T : List Ent} (i : Nat) {tB tI tC : TypeId} {l : List PB} (x : PB) (l' : List PB) (hi : T[i]? = some (.gen (allE tB tI tC l))) (hp : l.Perm (x :: l'))
    (h : Cont dfs K n w0 L (.cells x.b x.c tB true :: .cells x.m x.i tI true :: .gen (x.r tC) :: T.set i (.gen (allE tB tI tC l')))) : Cont dfs K n w0 L T :=
  fun a w ha hf hT => h a w ha hf (hT.takeB hi hp)
theorem cont_putB {K : Act → World → Prop} {n : Nat} {w0 : World} {L : List (Tmp × Value)} {T : List Ent} (i : Nat) {tB tI tC : TypeId} (x : PB) (l' l : List PB) (hi : T[i]? = some (.gen (allE tB tI tC l'))) (hp : (x :: l').Perm l)
    (h : Cont dfs K n w0 L (T.set i (.gen (allE tB tI tC l)))) : Cont dfs K n w0 L (.cells x.b x.c tB true :: .cells x.m x.i tI true :: .gen (x.r tC) :: T) :=
  fun a w ha hf hT => h a w ha hf (hT.putB hi hp)
theorem cont_nilB {K : Act → World → Prop} {n : Nat} {w0 : World} {L : List (Tmp × Value)} {T : List Ent} (tB tI tC : TypeId) (h : Cont dfs K n w0 L (.gen (allE tB tI tC []) :: T)) : Cont dfs K n w0 L T :=
  fun a w ha hf hT => h a w ha hf (hT.fresh _ trivial (fun k hk => hk))
end Go.Proofs.Ytkfdmfclndaanaa
namespace Go.Proofs.Ytkfdmfclndaanaa
open Go Go.RowKit
variable {P : Program} {dfs : List Deferred} {n : Nat} {w0 : World} {L : List (Tmp × Value)} {T : List Ent} {Q : Exit → Act → World → Prop}
abbrev PmL := List (Int × Nat)
def pmsV (l : PmL) : MS := l.map fun p => (p.1, Value.pointer (some ⟨p.2, 0, none⟩))
def enc2P (p : Int × Nat) : Value × Value := (.int .i64 p.1, .pointer (some ⟨p.2, 0, none⟩))
structure MapFP (es : Array MapEntry) (ck : Nat) (l : PmL) : Prop where
  kv : es.toList.map kvOf = l.map enc2P
  lt : ∀ e ∈ es.toList, e.born < ck
  nd : (es.toList.map (·.born)).Nodup
theorem cont_openMapP {K : Act → World → Prop} (i : Nat) {b : Nat} {l : PmL} (hi : T[i]? = some (.gen (mapE b (pmsV l) true))) (h : ∀ (es : Array MapEntry) (ck : Nat), MapFP es ck l → Cont dfs K n w0 L (T.set i (objE b (.map es ck)))) : Cont dfs K n w0 L T := by
  intro a w ha hf hT
  have hk : MapAt w b (pmsV l) := hT.ok i _ hi
  obtain ⟨es, ck, h1, h2, h3, h4⟩ := hk.here
  refine h es ck ⟨?_, h3, h4⟩ a w ha hf (hT.swapW (e' := objE b (.map es ck)) hi rfl (fun _ => rfl) (fun _ => Iff.rfl) h1)
  show es.toList.map (fun e => (e.key, e.val)) = _
  rw [h2]
  unfold pmsV
  rw [List.map_map]; rfl
theorem cont_closeMapP {K : Act → World → Prop} (i : Nat) {b ck : Nat} {es : Array MapEntry} {l : PmL} (hi : T[i]? = some (objE b (.map es ck))) (hF : MapFP es ck l) (h : Cont dfs K n w0 L (T.set i (.gen (mapE b (pmsV l) true)))) : Cont dfs K n w0 L T := by
  intro a w ha hf hT
  have hk : w.heap[b]? = some (.map es ck) := hT.ok i _ hi
  refine h a w ha hf (hT.swapW (e' := .gen (mapE b (pmsV l) true)) hi rfl (fun _ => rfl) (fun _ => Iff.rfl) (show MapAt w b (pmsV l) from ⟨es, ck, hk, ?_, hF.lt, hF.nd⟩))
  have := hF.kv
  unfold kvOf at this
  rw [this]
  unfold pmsV
  rw [List.map_map]; rfl
structure IterPP (es : Array MapEntry) (l : PmL) (sn : Array Nat) (dn : PmL) : Prop where
  left : ∃ lf : PmL, (leftOf es sn).toList.map kvOf = lf.map enc2P ∧ (dn ++ lf).Perm l
theorem IterPP.start {es : Array MapEntry} {ck : Nat} {l : PmL} (h : MapFP es ck l) : IterPP es l #[] [] :=
  ⟨l, by rw [← h.kv, show (leftOf es #[]).toList = es.toList by simp only [leftOf, Array.toList_filter]; exact List.filter_eq_self.2 (fun _ _ => by simp)], List.Perm.refl _⟩
theorem IterPP.done {es : Array MapEntry} {l : PmL} {sn : Array Nat} {dn : PmL} (h : IterPP es l sn dn) (h0 : (leftOf es sn).size = 0) : dn.Perm l := by
  obtain ⟨lf, h1, h2⟩ := h.left
  have h3 := congrArg List.length h1
  simp only [List.length_map, Array.length_toList] at h3
  have : lf = [] := List.length_eq_zero_iff.1 (by omega)
  subst this
  simpa using h2
theorem IterPP.len {es : Array MapEntry} {l : PmL} {sn : Array Nat} {dn : PmL} (h : IterPP es l sn dn) : dn.length ≤ l.length := by
  obtain ⟨lf, h1, h2⟩ := h.left
  have := h2.length_eq
  rw [List.length_append] at this
  omega
theorem IterPP.step {es : Array MapEntry} {ck : Nat} {l : PmL} {sn : Array Nat} {dn : PmL} (hF : MapFP es ck l) (h : IterPP es l sn dn) {e : MapEntry} (he : e ∈ (leftOf es sn).toList) :
    ∃ p : Int × Nat, e.key = .int .i64 p.1 ∧ e.val = .pointer (some ⟨p.2, 0, none⟩) ∧ p ∈ l ∧ IterPP es l (sn.push e.born) (dn ++ [p]) := by
  obtain ⟨lf, h1, h2⟩ := h.left
  have hsub : ((leftOf es sn).toList.map (·.born)).Nodup := by
    refine List.Nodup.sublist (List.Sublist.map _ ?_) hF.nd
    simp only [leftOf, Array.toList_filter]
    exact List.filter_sublist
  obtain ⟨A, B, e1, e2⟩ := strike_born hsub he
  rw [e1, List.map_append, List.map_cons] at h1
  obtain ⟨a, r, rfl, ha, hr⟩ := List.map_eq_append_iff.1 h1.symm
  obtain ⟨p, b, rfl, hp, hb⟩ := List.map_eq_cons_iff.1 hr
  have hp' : enc2P p = kvOf e := hp
  refine ⟨p, (congrArg Prod.fst hp').symm, (congrArg Prod.snd hp').symm, h2.mem_iff.1 (by simp), ⟨a ++ b, ?_, ?_⟩⟩
  · rw [leftOf_push, e2, List.map_append, List.map_append, ha, hb]
  · refine List.Perm.trans ?_ h2
    rw [List.append_assoc]
    exact (List.perm_append_left_iff dn).2 (by simpa using List.perm_middle.symm)
def LastEP (es : Array MapEntry) (sn : Array Nat) (x : Int) (v : Nat) : Prop := ∃ (s : Array Nat) (e : MapEntry), sn = s.push e.born ∧ e ∈ es.toList ∧ e.key = .int .i64 x ∧ e.val = .pointer (some ⟨v, 0, none⟩)
theorem sem_rangeP {ops : Array Oper} {i : Nat} {K : Act → World → Prop} (d : Tmp) {m bm ck : Nat} {es : Array MapEntry} {t k e : TypeId} (H : opS ops n i L = some (some d, valS (Instr.range t (.map (some bm))))) (ht : P.underlying t = some (.map k e)) (hb : ∃ e, T[m]? = some e ∧ ∀ w, e.ok w → w.heap[bm]? = some (.map es ck))
    (hk : ∀ r : Nat, Cont dfs K n w0 ((d, .pointer (some ⟨r, 0, none⟩)) :: L) (objE r (.mapIter (some bm) ck #[] ck) :: T)) : Cont dfs (wpOp P ops Q i K) n w0 L T :=
  sSW d _ (α := Nat) (fun r => .pointer (some ⟨r, 0, none⟩)) (fun r => objE r (.mapIter (some bm) ck #[] ck) :: T) (fun _ => True) H
    (fun w hT => ⟨w.heap.size, _, run_range_map w t k e bm es ck ht (by obtain ⟨e_, h1_, h2_⟩ := hb; exact h2_ w (hT.ok m _ h1_)), trivial, hT.allocObj _⟩) (fun r _ => hk r)
theorem sem_nextP {ops : Array Oper} {i : Nat} {K : Act → World → Prop} (d : Tmp) {j m r bm ck : Nat} {es : Array MapEntry} {sn : Array Nat} {l dn : PmL} {ty : TypeId} (H : opS ops n i L = some (some d, valS (Instr.next (.pointer (some ⟨r, 0, none⟩)) false ty)))
    (hr : T[j]? = some (objE r (.mapIter (some bm) ck sn ck))) (hb : ∃ e, T[m]? = some e ∧ ∀ w, e.ok w → w.heap[bm]? = some (.map es ck)) (hF : MapFP es ck l) (hP : IterPP es l sn dn)
    (h0 : dn.Perm l → Cont dfs K n w0 ((d, .tuple #[.bool false]) :: L) T)
    (h1 : ∀ (x : Int) (v : Nat) (sn' : Array Nat), (x, v) ∈ l → IterPP es l sn' (dn ++ [(x, v)]) → LastEP es sn' x v → Cont dfs K n w0 ((d, .tuple #[.bool true, .int .i64 x, .pointer (some ⟨v, 0, none⟩)]) :: L) (T.set j (objE r (.mapIter (some bm) ck sn' ck)))) : Cont dfs (wpOp P ops Q i K) n w0 L T := by
  intro a w ha hf hT
  obtain ⟨o, ho, hdst, hd, hw, he⟩ := opS_core H hf
  have hr' : w.heap[r]? = some (.mapIter (some bm) ck sn ck) := hT.ok j _ hr
  have hb' : w.heap[bm]? = some (.map es ck) := by obtain ⟨e_, h1_, h2_⟩ := hb; exact h2_ w (hT.ok m _ h1_)
  unfold wpOp
  simp only [ho, hw, if_true]
  refine .inl ?_
  unfold Oper.wp
  rcases run_next_at (P := P) w ty r bm ck ck sn es ck hr' hb' hF.lt (Nat.le_refl _) with ⟨hz, hrun⟩ | ⟨e, he', w1, hw1, hrun⟩
  · rw [he, valS_run hrun]
    show K (a.put o.dst _) w
    rw [hdst]
    exact h0 (hP.done hz) _ _ (by rw [put_defers]; exact ha) (frok_putD hf hd) hT
  · obtain ⟨⟨x, v⟩, hk, hv, hm, hP'⟩ := hP.step hF he'
    rw [he, valS_run hrun, hk, hv]
    show K (a.put o.dst _) _
    rw [hdst]
    have hmem : e ∈ es.toList := by
      simp only [leftOf, Array.toList_filter] at he'
      exact (List.mem_filter.1 he').1
    refine h1 x v _ hm hP' ⟨sn, e, rfl, hmem, hk, hv⟩ _ _ (by rw [put_defers]; exact ha) (frok_putD hf hd) ?_
    rcases hw1 with rfl | rfl
    · exact hT.putObj hr _
    · exact hT.drew.putObj hr _
theorem run_entryP {w : World} {r bm ck : Nat} {es : Array MapEntry} {sn : Array Nat} {l : PmL} {x : Int} {v : Nat} (hr : w.heap[r]? = some (.mapIter (some bm) ck sn ck)) (hb : w.heap[bm]? = some (.map es ck)) (hF : MapFP es ck l) (hl : LastEP es sn x v) :
    (Instr.entry (.pointer (some ⟨r, 0, none⟩))).run P w = .ok (.tuple #[.int .i64 x, .pointer (some ⟨v, 0, none⟩)]) w := by
  obtain ⟨s, e, rfl, he, hk, hv⟩ := hl
  have := run_entry_at (P := P) w r bm ck s es ck e hr hb he hF.nd
  rwa [hk, hv] at this
def pget : PmL → Int → Option Nat
  | [], _ => none
  | (k, v) :: r, x => if x = k then some v else pget r x
theorem mget_pmsV (l : PmL) (x : Int) : mget (pmsV l) x = (pget l x).map fun b => Value.pointer (some ⟨b, 0, none⟩) := by
  induction l with
  | nil => rfl
  | cons p r ih =>
    obtain ⟨k, v⟩ := p
    show (if x = k then some (Value.pointer (some ⟨v, 0, none⟩)) else mget (pmsV r) x) = (if x = k then some v else pget r x).map fun b => Value.pointer (some ⟨b, 0, none⟩)
    rw [ih]
    by_cases h : x = k <;> simp [h]
theorem Vw.objRo {b : Nat} {o : Obj} : Vw (objE b o) (roObjE b o) := ⟨fun _ h => h, fun _ _ _ h => h, fun _ => rfl, rfl⟩
theorem Vw.roObj {b : Nat} {o : Obj} : Vw (roObjE b o) (roObjE b o) := ⟨fun _ h => h, fun _ _ _ h => h, id, rfl⟩
end Go.Proofs.Ytkfdmfclndaanaa
namespace Go.Proofs.Ytkfdmfclndaanaa
open Go.ChangeShapes Go.WideShapes Go.ChangeAt Go.RowKit Go.Deep
theorem own0 : ownKnob Try.prog.godebug = none := by kernel_rfl
theorem laidOut0 : laidOutB Try.prog = true := by kernel_rfl
section
variable {H : Type} {enc : TypeId × Value → H} {P : Program}
theorem post_below {f : Func} {s : ChangeSpec} {apart fresh handsOn again : Bool} {W W' : World} {args : Array Value} {v : Value} {ds gs : List (DataW H)} {before pa pv : List MemPlace}
    (hW : DataW.Whole enc P f.params.toList s.vars apart W args.toList ds gs before)
    (hres : ∀ (b : Nat) (sp : Nat → Bool) (hd : Bool), DataW.TrodAll enc P W' b sp hd f.resultTypes.toList (v.resultList f.resultTypes.size) (s.fn H (ds ++ gs)).results [])
    (hargs : ∀ sp : Nat → Bool, (∀ p ∈ before, sp p.block = true) → DataW.TrodAll enc P W' 0 sp true f.params.toList args.toList (s.fn H (ds ++ gs)).args pa)
    (hvars : ∀ sp : Nat → Bool, (∀ p ∈ before, sp p.block = true) → DataW.TrodVars enc P W' sp s.vars (s.fn H (ds ++ gs)).vars pv)
    (hps : before = pa ++ pv) (hb : Below W.heap.size W W')
    (hok : ∀ (j : Nat) (t : TypeId) (r : Value), f.resultTypes[j]? = some t → (v.resultList f.resultTypes.size)[j]? = some r → Value.okWide P W' .any 0 t r) :
    s.post enc P f apart fresh handsOn again W args v W' := by
  have hlt : ∀ p ∈ before, p.block < W.heap.size := fun p hp => hW.lt p hp
  have hold : ∀ p ∈ before, (fun b => decide (b < W.heap.size)) p.block = true := fun p hp => by simpa using hlt p hp
  refine ⟨ds, gs, before, [], pa, pv, hW, hres _ _ _, hargs _ hold, hvars _ hold, World.keptBut_mono (fun p hp => ⟨hp, ?_⟩) (hb.frame (· ∈ before)), fun _ => ?_⟩
  · rw [hps, List.mem_append] at hp
    exact Or.inr hp
  · obtain ⟨_, _, _, _, _, hz, hn⟩ := hW
    refine ⟨hok, _, _, ([] ++ pa) ++ pv, ⟨[] ++ pa, pv, trodAll_append (hargs _ (fun _ _ => rfl)) (hres _ _ _), hvars _ (fun _ _ => rfl), rfl, ?_, ?_⟩, ?_⟩
    · intro b off hp
      have hin : MemPlace.cell b off ∈ before := by rw [hps]; simpa using hp
      rw [hb.frozen (hlt _ hin)]
      exact hz b off hin
    · intro ha
      have := hn ha
      rw [hps] at this
      simpa using this
    · intro p hp _
      rw [hps]
      simpa using hp
theorem trod_keeps {t : TypeId} (hl : laidOutB P = true) (hr : P.readableRec t = true) (hrow : t < P.types.size) {W W' : World} {v : Value} {d : DataW H} {ps : List MemPlace}
    (h : DataW.Trod enc P W 0 (fun _ => true) true t v d ps) (hb : Below W.heap.size W W') (hlt : ∀ x ∈ ps, x.block < W.heap.size) (sp : Nat → Bool) (hsp : ∀ p ∈ ps, sp p.block = true) : DataW.Trod enc P W' 0 sp true t v d ps :=
  WideElems.Trod_stays hl hr hrow h (fun x hx => hb.same (hlt x hx)) hsp
end
theorem open_intC {H : Type} {enc : TypeId × Value → H} {P : Program} {W : World} {t : TypeId} {k : IntKind} {c : Value} {n : Nat} {x : DataW H × List MemPlace} (ht : P.underlying t = some (.int k)) (h : DataW.trod enc P W 0 (fun _ => true) true n t [c] = some x) : ∃ a : Int, c = .int k a ∧ (Lit.int k a).wf = true := by
  obtain ⟨a, e, _, w⟩ := DataW.trod_int ht h
  exact ⟨a, by simpa using e, w⟩
end Go.Proofs.Ytkfdmfclndaanaa
namespace Go.Proofs.Ytkfdmfclndaanaa
open Go Go.ChangeShapes Go.WideShapes Go.ChangeAt Go.RowKit Go.Deep
end Go.Proofs.Ytkfdmfclndaanaa
namespace Go.Proofs.Ytkfdmfclndaanaa
open Go Go.ChangeShapes Go.WideShapes Go.ChangeAt Go.RowKit Go.Deep
variable {dfs : List Deferred}
section
def dget {α : Type} [Inhabited α] (l : List α) (i : Nat) : α := l.getD i default
theorem dget_mem {α : Type} [Inhabited α] {l : List α} {i : Nat} (h : i < l.length) : dget l i ∈ l := by
  unfold dget; rw [List.getD_eq_getElem?_getD, List.getElem?_eq_getElem h]; simp
end
end Go.Proofs.Ytkfdmfclndaanaa
namespace Go.Proofs.Ytkfdmfclndaanaa
open Go Go.RowKit
instance : Inhabited PB := ⟨⟨0, 0, 0, false, 0, 0, 0, 0, 0, 0, []⟩⟩
def PB.al (x : PB) : Bool := x.nm || decide (0 < x.hd)
def liveP (ds : List PB) : List PB := ds.filter PB.al
def restP (ds : List PB) (i : Nat) : List PB := liveP (ds.take i) ++ liveP (ds.drop (i + 1))
def keysP (l : List PB) : PmL := l.map fun x => (x.k, x.b)
structure PoolOk (ds : List PB) (B : Int) : Prop where
  key : ∀ i, i < ds.length → (dget ds i).k = (i : Int)
  one : ∀ x ∈ ds, ∀ y ∈ ds, x.nm = true → y.nm = true → x.id = y.id → x.k = y.k
  img : ∀ x ∈ ds, ImgOk x.W x.H x.n x.px
  may : ∀ x ∈ ds, AllMay x.px
  hd : ∀ x ∈ ds, 0 ≤ x.hd ∧ x.hd ≤ B
theorem PoolOk.nil (B : Int) : PoolOk [] B := ⟨fun i h => absurd h (Nat.not_lt_zero _), fun x h => absurd h (by simp), fun x h => absurd h (by simp), fun x h => absurd h (by simp), fun x h => absurd h (by simp)⟩
theorem cut_at {ds : List PB} {i : Nat} (h : i < ds.length) : ds = ds.take i ++ dget ds i :: ds.drop (i + 1) := by
  have : dget ds i = ds[i] := by unfold dget; rw [List.getD_eq_getElem?_getD, List.getElem?_eq_getElem h]; rfl
  rw [this, ← List.drop_eq_getElem_cons h, List.take_append_drop]
theorem set_at {ds : List PB} {i : Nat} (h : i < ds.length) (x : PB) : ds.set i x = ds.take i ++ x :: ds.drop (i + 1) := by
  conv => lhs; rw [cut_at h]
  rw [List.set_append_right _ _ (by rw [List.length_take]; omega), List.length_take, Nat.min_eq_left (by omega), Nat.sub_self]
  rfl
theorem liveP_app (a b : List PB) : liveP (a ++ b) = liveP a ++ liveP b := List.filter_append ..
theorem liveP_yes {x : PB} (h : x.al = true) (l : List PB) : liveP (x :: l) = x :: liveP l := by unfold liveP; rw [List.filter_cons, if_pos h]
theorem liveP_no {x : PB} (h : x.al = false) (l : List PB) : liveP (x :: l) = liveP l := by unfold liveP; rw [List.filter_cons, if_neg (by rw [h]; simp)]
theorem live_take {ds : List PB} {i : Nat} (h : i < ds.length) (ha : (dget ds i).al = true) : (liveP ds).Perm (dget ds i :: restP ds i) := by
  conv => lhs; rw [cut_at h]
  rw [liveP_app, liveP_yes ha]
  exact List.perm_middle
theorem live_put {ds : List PB} {i : Nat} (h : i < ds.length) {x : PB} (ha : x.al = true) : (x :: restP ds i).Perm (liveP (ds.set i x)) := by
  rw [set_at h, liveP_app, liveP_yes ha]
  exact List.perm_middle.symm
theorem live_dead {ds : List PB} {i : Nat} (h : i < ds.length) {x : PB} (ha : x.al = false) : restP ds i = liveP (ds.set i x) := by
  rw [set_at h, liveP_app, liveP_no ha]; rfl
theorem live_push {ds : List PB} {x : PB} (ha : x.al = true) : liveP (ds ++ [x]) = liveP ds ++ [x] := by
  rw [liveP_app, liveP_yes ha]; rfl
theorem keys_same {ds : List PB} {i : Nat} (h : i < ds.length) {x : PB} (ho : (dget ds i).al = true) (ha : x.al = true) (hk : x.k = (dget ds i).k) (hb : x.b = (dget ds i).b) : keysP (liveP ds) = keysP (liveP (ds.set i x)) := by
  rw [set_at h, liveP_app, liveP_yes ha]
  conv => lhs; rw [cut_at h]
  rw [liveP_app, liveP_yes ho]
  unfold keysP
  simp [hk, hb]
theorem mdel_app {k : Int} {v : Value} : ∀ {a b : MS}, (∀ p ∈ a, p.1 ≠ k) → mdel (a ++ (k, v) :: b) k = a ++ b := by
  intro a
  induction a with
  | nil => intro b _; simp [mdel]
  | cons p a ih =>
    intro b h
    obtain ⟨q, u⟩ := p
    have hq : k ≠ q := fun e => h (q, u) (by simp) e.symm
    show mdel ((q, u) :: (a ++ (k, v) :: b)) k = _
    simp only [mdel, if_neg hq]
    rw [ih (fun p hp => h p (by simp [hp]))]; rfl
theorem mput_app {k : Int} {v : Value} {l : MS} (h : ∀ p ∈ l, p.1 ≠ k) : mput l k v = l ++ [(k, v)] := by
  refine mput_new l ?_
  induction l with
  | nil => rfl
  | cons p r ih =>
    obtain ⟨q, u⟩ := p
    have hq : k ≠ q := fun e => h (q, u) (by simp) e.symm
    simp only [mget, if_neg hq]
    exact ih (fun p hp => h p (by simp [hp]))
theorem PoolOk.at {ds : List PB} {B : Int} (h : PoolOk ds B) {x : PB} (hx : x ∈ ds) : ∃ i, i < ds.length ∧ x = dget ds i ∧ x.k = (i : Int) := by
  obtain ⟨i, hi, rfl⟩ := List.mem_iff_getElem.1 hx
  have e : dget ds i = ds[i] := by unfold dget; rw [List.getD_eq_getElem?_getD, List.getElem?_eq_getElem hi]; rfl
  exact ⟨i, hi, e.symm, by rw [← e]; exact h.key i hi⟩
theorem take_key {ds : List PB} {B : Int} (h : PoolOk ds B) {i : Nat} {x : PB} (hx : x ∈ ds.take i) : x.k < (i : Int) := by
  obtain ⟨j, hj, rfl⟩ := List.mem_iff_getElem.1 hx
  rw [List.length_take] at hj
  have e : dget ds j = (ds.take i)[j] := by
    unfold dget
    rw [List.getD_eq_getElem?_getD, List.getElem?_eq_getElem (show j < ds.length by omega), List.getElem_take]; rfl
  rw [← e, h.key j (by omega)]
  omega
theorem keys_del {ds : List PB} {B : Int} (h : PoolOk ds B) {i : Nat} (hi : i < ds.length) {x : PB} (ho : (dget ds i).al = true) (ha : x.al = false) : mdel (pmsV (keysP (liveP ds))) (i : Int) = pmsV (keysP (liveP (ds.set i x))) := by
  rw [set_at hi, liveP_app, liveP_no ha]
  conv => lhs; rw [cut_at hi]
  rw [liveP_app, liveP_yes ho]
  have e : pmsV (keysP (liveP (ds.take i) ++ dget ds i :: liveP (ds.drop (i + 1)))) = pmsV (keysP (liveP (ds.take i))) ++ ((i : Int), Value.pointer (some ⟨(dget ds i).b, 0, none⟩)) :: pmsV (keysP (liveP (ds.drop (i + 1)))) := by
    unfold pmsV keysP
    simp [h.key i hi]
  rw [e, mdel_app]
  · unfold pmsV keysP; simp
  · intro p hp
    unfold pmsV keysP at hp
    simp only [List.map_map, List.mem_map, Function.comp] at hp
    obtain ⟨x, hx, rfl⟩ := hp
    have := take_key h (List.mem_filter.1 hx).1
    simp only
    omega
theorem keys_push {ds : List PB} {B : Int} (h : PoolOk ds B) {x : PB} (ha : x.al = true) (hk : x.k = (ds.length : Int)) : mput (pmsV (keysP (liveP ds))) (ds.length : Int) (.pointer (some ⟨x.b, 0, none⟩)) = pmsV (keysP (liveP (ds ++ [x]))) := by
  rw [mput_app]
  · rw [live_push ha]; unfold pmsV keysP; simp [hk]
  · intro p hp
    unfold pmsV keysP at hp
    simp only [List.map_map, List.mem_map, Function.comp] at hp
    obtain ⟨y, hy, rfl⟩ := hp
    obtain ⟨i, hi, _, e⟩ := h.at (List.mem_filter.1 hy).1
    simp only
    omega
theorem pget_mem {l : PmL} {x : Int} {v : Nat} : (l.map (·.1)).Nodup → (x, v) ∈ l → pget l x = some v := by
  induction l with
  | nil => intro _ h; cases h
  | cons p l ih =>
    intro hn hm
    obtain ⟨k, u⟩ := p
    rw [List.map_cons, List.nodup_cons] at hn
    show (if x = k then some u else pget l x) = _
    rcases List.mem_cons.1 hm with e | e
    · cases e; rw [if_pos rfl]
    · have hne : x ≠ k := fun h => hn.1 (h ▸ List.mem_map.2 ⟨(x, v), e, rfl⟩)
      rw [if_neg hne]; exact ih hn.2 e
theorem pget_none {l : PmL} {x : Int} : (∀ p ∈ l, p.1 ≠ x) → pget l x = none := by
  induction l with
  | nil => intro _; rfl
  | cons p l ih =>
    intro h
    obtain ⟨k, u⟩ := p
    show (if x = k then some u else pget l x) = _
    rw [if_neg (fun e => h (k, u) (by simp) e.symm)]
    exact ih (fun p hp => h p (by simp [hp]))
theorem PoolOk.nodup {ds : List PB} {B : Int} (h : PoolOk ds B) : ((keysP (liveP ds)).map (·.1)).Nodup := by
  have e : ds.map (·.k) = (List.range ds.length).map fun (i : Nat) => (i : Int) := by
    refine List.ext_getElem (by simp) (fun i h1 h2 => ?_)
    have hi : i < ds.length := by simpa using h1
    rw [List.getElem_map, List.getElem_map, List.getElem_range]
    have := h.key i hi
    unfold dget at this
    rwa [List.getD_eq_getElem?_getD, List.getElem?_eq_getElem hi] at this
  have e2 : (keysP (liveP ds)).map (·.1) = (liveP ds).map (·.k) := by unfold keysP; rw [List.map_map]; rfl
  rw [e2]
  refine List.Nodup.sublist (List.Sublist.map _ List.filter_sublist) ?_
  rw [e]
  exact List.pairwise_map.2 (List.Pairwise.imp (S := fun a b : Nat => (a : Int) ≠ (b : Int)) (fun {a b} (h : a ≠ b) e => h (by omega)) List.nodup_range)
def thereP (ds : List PB) (x : Int) : Bool := decide (0 ≤ x ∧ x < (ds.length : Int)) && (dget ds x.toNat).al
theorem pget_yes {ds : List PB} {B : Int} (h : PoolOk ds B) {i : Nat} (hi : i < ds.length) (ha : (dget ds i).al = true) : pget (keysP (liveP ds)) (i : Int) = some (dget ds i).b :=
  pget_mem h.nodup (List.mem_map.2 ⟨dget ds i, List.mem_filter.2 ⟨dget_mem hi, ha⟩, by rw [h.key i hi]⟩)
theorem pget_no {ds : List PB} {B : Int} (h : PoolOk ds B) {x : Int} (ha : thereP ds x = false) : pget (keysP (liveP ds)) x = none := by
  refine pget_none (fun p hp => ?_)
  obtain ⟨y, hy, rfl⟩ := List.mem_map.1 hp
  obtain ⟨h1, h2⟩ := List.mem_filter.1 hy
  obtain ⟨i, hi, e, hk⟩ := h.at h1
  intro hx
  simp only at hx
  rw [hk] at hx
  subst hx
  unfold thereP at ha
  rw [decide_eq_true (by omega), Bool.true_and, Int.toNat_natCast, ← e, h2] at ha
  cases ha
def hitB (id : Int) (x : PB) : Bool := x.nm && (x.id == id)
def findP (ds : List PB) (id : Int) : Int := match ds.find? (hitB id) with
  | some x => x.k
  | none => -1
theorem findP_yes {ds : List PB} {B : Int} (h : PoolOk ds B) {x : PB} {id : Int} (hx : x ∈ ds) (hh : hitB id x = true) : findP ds id = x.k := by
  unfold findP
  cases e : ds.find? (hitB id) with
  | none => exact absurd hh (by simpa using List.find?_eq_none.1 e x hx)
  | some y =>
    have hy := List.mem_of_find?_eq_some e
    have hy2 := List.find?_some e
    unfold hitB at hh hy2
    simp only [Bool.and_eq_true, beq_iff_eq] at hh hy2
    exact h.one y hy x hx hy2.1 hh.1 (hy2.2.trans hh.2.symm)
theorem findP_no {ds : List PB} {id : Int} (hh : ∀ x ∈ ds, hitB id x = false) : findP ds id = -1 := by
  unfold findP
  rw [List.find?_eq_none.2 (fun x hx => by rw [hh x hx]; simp)]
theorem keys_mem {ds : List PB} {B : Int} (h : PoolOk ds B) {k : Int} {v : Nat} (hm : (k, v) ∈ keysP (liveP ds)) : ∃ (i : Nat) (x : PB), i < ds.length ∧ x = dget ds i ∧ x.al = true ∧ k = (i : Int) ∧ v = x.b := by
  obtain ⟨y, hy, e⟩ := List.mem_map.1 hm
  obtain ⟨h1, h2⟩ := List.mem_filter.1 hy
  obtain ⟨i, hi, hx, hk⟩ := h.at h1
  cases e
  exact ⟨i, y, hi, hx, h2, hk, rfl⟩
theorem takeP {ds : List PB} {i : Nat} {x : PB} (h : i < ds.length) (hx : x = dget ds i) (ha : x.al = true) : (liveP ds).Perm (x :: restP ds i) := by
  subst hx; exact live_take h ha
theorem putP {ds : List PB} {i : Nat} {x : PB} (h : i < ds.length) (hx : x = dget ds i) (ha : x.al = true) : (x :: restP ds i).Perm (liveP ds) := (takeP h hx ha).symm
def fndE (ds : List PB) (id E : Int) : Int := if findP ds id = -1 then E else 0
theorem fndE_no {ds : List PB} {id E : Int} (h : findP ds id = -1) : fndE ds id E = E := if_pos h
theorem fndE_yes {ds : List PB} {id E : Int} (h : findP ds id ≠ -1) : fndE ds id E = 0 := if_neg h
def NoneP (ds : List PB) (id : Int) (dn : PmL) : Prop := ∀ p ∈ dn, ∀ x ∈ ds, x.al = true → x.k = p.1 → hitB id x = false
theorem NoneP.nil (ds : List PB) (id : Int) : NoneP ds id [] := fun p hp => by cases hp
theorem NoneP.step {ds : List PB} {B id : Int} (h : PoolOk ds B) {dn : PmL} (hn : NoneP ds id dn) {i : Nat} {x : PB} {v : Nat} (hi : i < ds.length) (hx : x = dget ds i) (hh : hitB id x = false) : NoneP ds id (dn ++ [((i : Int), v)]) := by
  intro p hp y hy ha hk
  rcases List.mem_append.1 hp with h1 | h1
  · exact hn p h1 y hy ha hk
  · have e := List.mem_singleton.1 h1
    subst e
    obtain ⟨j, hj, hyj, hkj⟩ := h.at hy
    simp only at hk
    have : j = i := by omega
    subst this
    rw [hyj, ← hx]; exact hh
theorem NoneP.all {ds : List PB} {B id : Int} (h : PoolOk ds B) {dn : PmL} (hn : NoneP ds id dn) (hp : dn.Perm (keysP (liveP ds))) : findP ds id = -1 := by
  refine findP_no (fun x hx => ?_)
  cases ha : x.al with
  | true => exact hn (x.k, x.b) (hp.mem_iff.2 (List.mem_map.2 ⟨x, List.mem_filter.2 ⟨hx, ha⟩, rfl⟩)) x hx ha rfl
  | false =>
    unfold PB.al at ha
    unfold hitB
    rw [(Bool.or_eq_false_iff.1 ha).1]; rfl
theorem findP_hit {ds : List PB} {B id : Int} (h : PoolOk ds B) {i : Nat} {x : PB} (hi : i < ds.length) (hx : x = dget ds i) (hn : x.nm = true) (hid : x.id = id) : findP ds id = (i : Int) := by
  have hm : x ∈ ds := by rw [hx]; exact dget_mem hi
  rw [findP_yes h hm (by unfold hitB; rw [hn, hid]; simp), hx, h.key i hi]
def PB.hold (x : PB) : PB := { x with hd := x.hd + 1 }
def PB.less (x : PB) : PB := { x with hd := x.hd - 1 }
def PB.drop (x : PB) : PB := { x with nm := false }
def swpM (x : PB) (k : Int) (ms : MS) : MS := bif !x.nm && (x.hd == 0) then mdel ms k else ms
theorem al_of {x : PB} (h : 0 ≤ x.hd) : x.al = !(!x.nm && (x.hd == 0)) := by
  unfold PB.al
  cases x.nm with
  | true => simp
  | false =>
    by_cases h0 : x.hd = 0
    · simp [h0]
    · have : 0 < x.hd := by omega
      simp [h0, this]
theorem swp_keys {ds : List PB} {B : Int} (h : PoolOk ds B) {i : Nat} {x y : PB} (hi : i < ds.length) (hx : x = dget ds i) (ha : x.al = true) (hk : y.k = x.k) (hb : y.b = x.b) (hy : 0 ≤ y.hd) : swpM y (i : Int) (pmsV (keysP (liveP ds))) = pmsV (keysP (liveP (ds.set i y))) := by
  unfold swpM
  cases e : (!y.nm && (y.hd == 0)) with
  | true => exact keys_del h hi (by rw [← hx]; exact ha) (by rw [al_of hy, e]; rfl)
  | false => rw [cond_false, keys_same hi (by rw [← hx]; exact ha) (by rw [al_of hy, e]; rfl) (by rw [hk, hx]) (by rw [hb, hx])]
theorem mget_yes {ds : List PB} {B : Int} (h : PoolOk ds B) {i : Nat} {x : PB} (hi : i < ds.length) (hx : x = dget ds i) (ha : x.al = true) : mget (pmsV (keysP (liveP ds))) (i : Int) = some (.pointer (some ⟨x.b, 0, none⟩)) := by
  rw [mget_pmsV, pget_yes h hi (by rw [← hx]; exact ha), hx]; rfl
theorem mget_no {ds : List PB} {B : Int} (h : PoolOk ds B) {k : Int} (ha : thereP ds k = false) : mget (pmsV (keysP (liveP ds))) k = none := by
  rw [mget_pmsV, pget_no h ha]; rfl
section
variable {dfs : List Deferred}
theorem cont_entEq {K : Act → World → Prop} {n : Nat} {w0 : World} {L : List (Tmp × Value)} {T : List Ent} (i : Nat) (e e' : Ent) (hi : T[i]? = some e) (he : e = e') (h : Cont dfs K n w0 L (T.set i e')) : Cont dfs K n w0 L T := by
  subst he
  have : T.set i e = T := by
    obtain ⟨hlt, h2⟩ := List.getElem?_eq_some_iff.1 hi
    rw [← h2]
    exact List.set_getElem_self hlt
  rwa [this] at h
theorem Tab.putOr {w0 w : World} {T : List Ent} {tB tI tC : TypeId} (y : PB) {ds : List PB} {ix : Nat} (hT : Tab w0 w (.cells y.b y.c tB true :: .cells y.m y.i tI true :: .gen (y.r tC) :: T)) {i : Nat} (hi : T[i]? = some (.gen (allE tB tI tC (restP ds ix)))) (hix : ix < ds.length) : Tab w0 w (T.set i (.gen (allE tB tI tC (liveP (ds.set ix y))))) := by
  cases ha : y.al with
  | true => exact hT.putB hi (live_put hix ha)
  | false =>
    have h1 : Tab w0 w T := ((hT.erase 0 (fun e h _ => by cases h; rfl)).erase 0 (fun e h _ => by cases h; rfl)).erase 0 (fun e h _ => by cases h; rfl)
    exact h1.swapW hi rfl (fun _ => rfl) (fun k => by rw [live_dead hix ha]) (by rw [← live_dead hix ha]; exact h1.ok i _ hi)
theorem cont_putOr {K : Act → World → Prop} {n : Nat} {w0 : World} {L : List (Tmp × Value)} {T : List Ent} (i : Nat) {tB tI tC : TypeId} (y : PB) {ds : List PB} {ix : Nat} (hi : T[i]? = some (.gen (allE tB tI tC (restP ds ix)))) (hix : ix < ds.length) (h : Cont dfs K n w0 L (T.set i (.gen (allE tB tI tC (liveP (ds.set ix y)))))) : Cont dfs K n w0 L (.cells y.b y.c tB true :: .cells y.m y.i tI true :: .gen (y.r tC) :: T) :=
  fun a w ha hf hT => h a w ha hf (hT.putOr y hi hix)
end
def newP (k : Int) (b : Nat) (id : Int) (m : Nat) (W H : Int) (q n : Nat) : PB := ⟨k, b, id, true, 0, m, W, H, q, n, List.replicate n 0⟩
theorem perm_snoc {x : PB} {ds : List PB} (h : x.al = true) : (x :: liveP ds).Perm (liveP (ds ++ [x])) := by
  rw [live_push h]; exact (List.perm_append_comm (l₁ := liveP ds) (l₂ := [x])).symm
theorem keys_upd {ds : List PB} {i : Nat} {x y : PB} (hi : i < ds.length) (hx : x = dget ds i) (ha : x.al = true) (hy : y.al = true) (hk : y.k = x.k) (hb : y.b = x.b) : pmsV (keysP (liveP ds)) = pmsV (keysP (liveP (ds.set i y))) := by
  rw [keys_same hi (by rw [← hx]; exact ha) hy (by rw [hk, hx]) (by rw [hb, hx])]
end Go.Proofs.Ytkfdmfclndaanaa
namespace Go.Proofs.Ytkfdmfclndaanaa
open Go Go.RowKit
theorem enterB {P : Program} {f : FuncId} {fn : Func} {c : Code} {args : Array Value} {w w0 : World} {R : Ending → World → Prop} (n : Nat) (L : List (Nat × Value)) (T : List Ent) (hf : P.funcs[f]? = some fn) (hb : fn.body = some c) (hn : fn.ntmps = n) (hsz : Nat.ble args.size n = true)
    (hL : (L.map fun p => args[p.1]?) = (L.map fun p => some p.2)) (hT : Tab w0 w T) (h : Cont [] (c.wp P (bodyPost P fn R)) n w0 L T) : Calls P f args w R := by
  subst hn
  refine calls_of_wp hf hb (h _ _ rfl ⟨?_, ?_⟩ hT)
  · have := Nat.le_of_ble_eq_true hsz
    simp; omega
  · exact enter_lk hL
theorem Tab.perm {w0 w : World} {T T' : List Ent} (hT : Tab w0 w T) (h : T.Perm T') : Tab w0 w T' := by
  have mem : ∀ (i : Nat) (e : Ent), T'[i]? = some e → ∃ j : Nat, T[j]? = some e := fun i e he => by
    have h1 : e ∈ T := h.mem_iff.2 (List.mem_of_getElem? he)
    obtain ⟨j, hj, hje⟩ := List.mem_iff_getElem.1 h1
    exact ⟨j, by rw [List.getElem?_eq_getElem hj, hje]⟩
  have mem' : ∀ (j : Nat) (e : Ent), T[j]? = some e → ∃ i : Nat, T'[i]? = some e := fun j e he => by
    have h1 : e ∈ T' := h.mem_iff.1 (List.mem_of_getElem? he)
    obtain ⟨i, hi, hie⟩ := List.mem_iff_getElem.1 h1
    exact ⟨i, by rw [List.getElem?_eq_getElem hi, hie]⟩
  have hp : T.Pairwise (fun e e' => (e.wr = true ∨ e'.wr = true) → ∀ k, e.blk k → ¬ e'.blk k) :=
    List.pairwise_iff_getElem.2 fun i j hi hj hij hw k hk hk' => hT.disj i j _ _ (by omega) (List.getElem?_eq_getElem hi) (List.getElem?_eq_getElem hj) hw k hk hk'
  have hp' := (h.pairwise_iff (fun {x y} hxy hw k hk hk' => hxy (hw.elim .inr .inl) k hk' hk)).1 hp
  refine ⟨hT.os, hT.tape, hT.output, hT.size, fun i e he => ?_, fun k hk hno => ?_, fun i e he ho k hk => ?_, fun i j e e' hij he he' hw k hk hk' => ?_⟩
  · obtain ⟨j, hj⟩ := mem i e he; exact hT.ok j e hj
  · exact hT.frame k hk (fun j e he hw hb => by obtain ⟨i, hi⟩ := mem' j e he; exact hno i e hi hw hb)
  · obtain ⟨j, hj⟩ := mem i e he; exact hT.own j e hj ho k hk
  · obtain ⟨hi, rfl⟩ := List.getElem?_eq_some_iff.1 he
    obtain ⟨hj, rfl⟩ := List.getElem?_eq_some_iff.1 he'
    rcases Nat.lt_or_gt_of_ne hij with hlt | hlt
    · exact List.pairwise_iff_getElem.1 hp' i j hi hj hlt hw k hk hk'
    · exact List.pairwise_iff_getElem.1 hp' j i hj hi hlt (hw.elim .inr .inl) k hk' hk
theorem cont_pickT {dfs : List Deferred} {K : Act → World → Prop} {n : Nat} {w0 : World} {L : List (Nat × Value)} {T : List Ent} (σ : List Nat) (T1 T2 R T' : List Ent) (hT : T = T1 ++ R) (hT' : T2 ++ R = T') (hm : T2.map some = σ.map fun i => T1[i]?) (m : Nat) (hl : T1.length = m) (hp : σ.Perm (List.range m)) (h : Cont dfs K n w0 L T') : Cont dfs K n w0 L T := by
  subst hT hT' hl
  have e1 : (List.range T1.length).map (fun i => T1[i]?) = T1.map some := by
    refine List.ext_getElem (by simp) (fun i h1 h2 => ?_)
    simp at h1
    simp [h1]
  have h1 : (T2.map some).Perm (T1.map some) := by rw [hm, ← e1]; exact hp.map _
  have h2 : T1.Perm T2 := by
    have := h1.filterMap id
    simpa using this.symm
  exact fun a w ha hf hw => h a w ha hf (hw.perm (h2.append_right R))
end Go.Proofs.Ytkfdmfclndaanaa
namespace Go.Proofs.Ytkfdmfclndaanaa
open Go Go.RowKit
set_option maxRecDepth 100000
set_option maxHeartbeats 8000000
theorem poolNew (w : World) :
    Calls Try.prog 7 #[] w fun e w' => ∃ (p_ mp_ : Nat), e = .returned (pT p_) ∧ Tab w w' [.cells p_ [iQ ((([] : List PB).length : Nat) : Int), .map (some mp_)] 65 true, .gen (mapE mp_ (pmsV (keysP (liveP ([] : List PB)))) true), .gen (allE 67 81 48 (liveP ([] : List PB)))] := by
  refine eN [] Try.func7 Try.ntmps7 rfl (Tab.start w) ?_
  refine zSR 1 <| bS [0] 1 0 [] <| zDNSR 4 <| cont_nilB 67 81 48 ?_
  refine cM ?_
  refine pS 1 3 <| sSW 1 (Instr.makeMap 63 none) (fun mp1 => .map (some mp1)) (fun mp1 => [.gen (mapE mp1 ([]) true), .gen (allE 67 81 48 ([]))]) (fun _ => True) (by kernel_rfl) (fun w hT => run_makeMap' hT 63) (fun mp1 _ => ?_)
  refine cM ?_
  refine bW [0, 0, 0] 4 0 (fun b2 => [(0, pT b2)]) (fun b2 => [.cells b2 [iQ 0, .map (some mp1)] 65 true, .gen (mapE mp1 ([]) true), .gen (allE 67 81 48 ([]))]) [0] fun b2 => ?_
  refine zDNr <| rA rfl 0 (pT b2) fun w hT => ?_
  exact ⟨_, _, rfl, hT⟩
theorem poolFind (p mp : Nat) (ds : List PB) (id : Int) (B : Int) (R : List Ent) (w0 w : World) (hT0 : Tab w0 w ((.cells p [iQ ((ds.length : Nat) : Int), .map (some mp)] 65 true) :: (.gen (mapE mp (pmsV (keysP (liveP ds))) true)) :: (.gen (allE 67 81 48 (liveP ds))) :: R)) (hok : PoolOk ds B) :
    Calls Try.prog 11 #[pT p, iQ id] w fun e w' => e = .returned (.tuple #[iQ (findP ds id), iQ (fndE ds id 5)]) ∧ Tab w0 w' ((.cells p [iQ ((ds.length : Nat) : Int), .map (some mp)] 65 true) :: (.gen (mapE mp (pmsV (keysP (liveP ds))) true)) :: (.gen (allE 67 81 48 (liveP ds))) :: R) := by
  refine enterB 31 [(0, pT p), (1, iQ id)] ((.cells p [iQ ((ds.length : Nat) : Int), .map (some mp)] 65 true) :: (.gen (mapE mp (pmsV (keysP (liveP ds))) true)) :: (.gen (allE 67 81 48 (liveP ds))) :: R) Try.func11 rfl Try.ntmps11 rfl (by kernel_rfl) hT0 ?_
  refine zSR 2 <| bD [0, 0] 2 0 [] [4, 5] <| zDNSSR 5 <| bD [0, 0, 0, 0] 4 1 [(11, .map (some mp))] [8, 9, 10] <| pS 5 0 <| cont_openMapP 1 (l := keysP (liveP ds)) rfl (fun es ck hMF => ?_)
  refine cM ?_
  refine sem_rangeP 12 (m := 1) (t := 63) (k := 3) (e := 68) (by kernel_rfl) (by kernel_rfl) ⟨_, rfl, fun _ h_ => h_⟩ (fun ri => ?_)
  refine cM ?_
  refine zDN <| cont_block <| cL (α := Array Nat × PmL) (fun x_ : Array Nat × PmL => IterPP es (keysP (liveP ds)) x_.1 x_.2 ∧ NoneP ds id x_.2) (fun x_ : Array Nat × PmL => [(1, iQ id), (12, pT ri)]) (fun x_ : Array Nat × PmL => ((objE ri (.mapIter (some mp) ck x_.1 ck)) :: (.cells p [iQ ((ds.length : Nat) : Int), .map (some mp)] 65 true) :: (objE mp (.map es ck)) :: (.gen (allE 67 81 48 (liveP ds))) :: R)) (fun x_ : Array Nat × PmL => (keysP (liveP ds)).length - x_.2.length) (#[], []) (show IterPP es (keysP (liveP ds)) (#[]) ([]) ∧ NoneP ds id ([]) from ⟨IterPP.start hMF, NoneP.nil _ _⟩) ?_
  rintro ⟨sn, dn⟩ hinv1_
  replace hinv1_ : IterPP es (keysP (liveP ds)) sn dn ∧ NoneP ds id dn := hinv1_
  refine cM ?_
  obtain ⟨hIP, hno⟩ := hinv1_
  have hil := hIP.len
  refine zSR 2 <| pS 1 1 <| sem_nextP 13 (j := 0) (m := 2) (ty := 0) (by kernel_rfl) rfl ⟨_, rfl, fun _ h_ => h_⟩ hMF hIP (fun hpm => ?_) (fun xk_ vk_ sn2 hxm hIP2 hls => ?_)
  ·
    refine bD [0] 2 0 [(14, .bool false)] [] <| zDN <| cSq <| cFa rfl <| cont_exit <| then_exit <| then_exit <| blk_exit <| zN <| zSR 2 <| cont_closeMapP 2 (l := keysP (liveP ds)) rfl hMF ?_
    refine cM ?_
    refine fG 0 <| bS [0, 0] 2 0 [(4, iQ (-1)), (5, iQ 5)] <| zDNr <| rB rfl 0 0 (iQ (-1)) (iQ 5) fun w hT => ?_
    have hf9 := hno.all hok hpm
    exact ⟨by rw [hf9, fndE_no hf9], hT⟩
  ·
    refine cM ?_
    refine bD [0] 2 0 [(14, .bool true)] [] <| zDN <| cSq <| cTr rfl <| cont_skip <| zN <| cont_block <| zSR 5 <| pS 1 4 <| sS 15 (Instr.entry (pT ri)) (.tuple #[iQ xk_, pT vk_]) (fun w hT => run_entryP (hT.ok 0 _ rfl) (hT.ok 2 _ rfl) hMF hls) <| bD [0, 0, 0, 0] 5 0 [(6, iQ xk_), (7, pT vk_)] [16, 17] <| zDNSR 12 ?_
    obtain ⟨ix, x, hix, hx, hal, rfl, rfl⟩ := keys_mem hok hxm
    refine cont_takeB 3 x (restP ds ix) rfl (takeP hix hx hal) ?_
    refine cM ?_
    refine bD [0, 0, 0, 0, 0] 5 7 [(22, .bool x.nm)] [18, 19, 20, 21] <| cSp 22 _ rfl (fun c2_ => ?_) fun c2_ => ?_
    ·
      refine bD [0, 0, 0, 0, 0, 0, 0] 12 0 [(23, pT x.b), (24, pT x.b), (25, pT x.b), (26, iQ x.id), (27, iQ id), (28, .bool (x.id == id)), (29, .bool (x.id == id))] [] <| zDN <| cSp 29 _ rfl (fun c3_ => ?_) fun c3_ => ?_
      ·
        refine rC 28 (.bool true) rfl (congrArg Value.bool c3_) ?_
        replace c3_ := eq_of_beqt c3_
        refine cTr rfl <| zSR 3 <| cM ?_
        refine cont_putB 3 x (restP ds ix) (liveP ds) rfl (putP hix hx hal) ?_
        refine cM ?_
        refine cont_closeMapP 2 (l := keysP (liveP ds)) rfl hMF ?_
        refine cM ?_
        refine fG 0 <| bS [0, 0, 0] 3 0 [(4, iQ ((ix : Nat) : Int)), (5, iQ 0)] <| zDNr <| blk_ret <| then_ret <| blk_ret <| then_ret ?_
        refine rB rfl 0 0 (iQ ((ix : Nat) : Int)) (iQ 0) fun w hT => ?_
        have hf9 := findP_hit hok hix hx c2_ c3_
        exact ⟨by rw [hf9, fndE_yes (by omega)], hT⟩
      refine rC 28 (.bool false) rfl (congrArg Value.bool c3_) ?_
      replace c3_ := ne_of_beqf c3_
      refine cFa rfl <| cont_skip <| blk_normal <| zN <| cM ?_
      refine cont_putB 3 x (restP ds ix) (liveP ds) rfl (putP hix hx hal) ?_
      refine cM ?_
      refine cA (sn2, dn ++ [(((ix : Nat) : Int), x.b)]) (show IterPP es (keysP (liveP ds)) (sn2) (dn ++ [(((ix : Nat) : Int), x.b)]) ∧ NoneP ds id (dn ++ [(((ix : Nat) : Int), x.b)]) from ⟨hIP2, hno.step hok hix hx (by unfold hitB; rw [beq_eq_false_iff_ne.2 c3_, Bool.and_false])⟩) (show (keysP (liveP ds)).length - (dn ++ [(((ix : Nat) : Int), x.b)]).length < (keysP (liveP ds)).length - dn.length from by have h_ := hIP2.len; rw [List.length_append, List.length_singleton] at h_ ⊢; omega)
    refine bD [0, 0, 0, 0, 0, 0, 0] 12 0 [(23, undef), (24, undef), (25, undef), (26, undef), (27, undef), (28, undef), (29, .bool false)] [] <| zDN <| cFa rfl <| cont_skip <| blk_normal <| zN <| cM ?_
    refine cont_putB 3 x (restP ds ix) (liveP ds) rfl (putP hix hx hal) ?_
    refine cM ?_
    refine cA (sn2, dn ++ [(((ix : Nat) : Int), x.b)]) (show IterPP es (keysP (liveP ds)) (sn2) (dn ++ [(((ix : Nat) : Int), x.b)]) ∧ NoneP ds id (dn ++ [(((ix : Nat) : Int), x.b)]) from ⟨hIP2, hno.step hok hix hx (by unfold hitB; rw [c2_]; rfl)⟩) (show (keysP (liveP ds)).length - (dn ++ [(((ix : Nat) : Int), x.b)]).length < (keysP (liveP ds)).length - dn.length from by have h_ := hIP2.len; rw [List.length_append, List.length_singleton] at h_ ⊢; omega)
theorem poolSweep (p mp : Nat) (nx : Int) (ms : MS) (y : PB) (k : Int) (R : List Ent) (w0 w : World) (hT0 : Tab w0 w ((.cells p [iQ nx, .map (some mp)] 65 true) :: (.gen (mapE mp (ms) true)) :: (.cells y.b [iQ y.id, .bool y.nm, pT y.m, iQ y.hd] 67 true) :: R)) (hm : mget ms k = some (pT y.b)) :
    Calls Try.prog 23 #[pT p, iQ k] w fun e w' => e = .returned (.tuple #[]) ∧ Tab w0 w' ((.cells p [iQ nx, .map (some mp)] 65 true) :: (.gen (mapE mp (swpM y k ms) true)) :: (.cells y.b [iQ y.id, .bool y.nm, pT y.m, iQ y.hd] 67 true) :: R) := by
  refine enterB 28 [(0, pT p), (1, iQ k)] ((.cells p [iQ nx, .map (some mp)] 65 true) :: (.gen (mapE mp (ms) true)) :: (.cells y.b [iQ y.id, .bool y.nm, pT y.m, iQ y.hd] 67 true) :: R) Try.func23 rfl Try.ntmps23 rfl (by kernel_rfl) hT0 ?_
  refine zSR 7 <| bD [0, 0, 0, 0, 0] 5 2 [(8, .map (some mp)), (9, iQ k)] [5, 6, 7] <| pS 6 1 <| sS 10 (Instr.lookup 63 (.map (some mp)) (iQ k) false) (pT y.b) (fun w hT => (run_lookup (z := .pointer none) (hT.ok 1 _ rfl) (kt := 3) (et := 68) (kf := .i64) (by kernel_rfl) (by kernel_rfl) (by kernel_rfl) k).trans (by rw [hm]; rfl)) <| bD [0] 7 0 [(4, pT y.b)] [] <| zDNSR 12 <| bD [0, 0, 0, 2, 0, 0] 6 6 [(16, .bool (!y.nm))] [11, 12, 13, 14, 15] <| cSp 16 _ rfl (fun c1_ => ?_) fun c1_ => ?_
  ·
    replace c1_ : y.nm = false := by simpa using c1_
    refine bD [0, 0, 0, 2, 0, 0] 12 0 [(22, .bool (y.hd == 0))] [17, 18, 19, 20, 21] <| zDN <| sE 22 rfl (fun c2_ => ?_) fun c2_ => ?_
    ·
      refine cTr rfl <| cRg 6 rfl <| bS [0, 0, 0, 0, 0] 5 1 [(26, .map (some mp)), (27, iQ k)] <| pS 6 0 <| sem_stepN (Builtin.delete_ #[63, 3] 0 #[.map (some mp), iQ k]) (fun _ => ((.cells p [iQ nx, .map (some mp)] 65 true) :: (.gen (mapE mp (mdel (ms) k) true)) :: (.cells y.b [iQ y.id, .bool y.nm, pT y.m, iQ y.hd] 67 true) :: R)) (fun _ => True) (by kernel_rfl) (fun w hT => run_delete (kt := 3) (et := 68) (kf := .i64) hT (i := 1) rfl rfl (by kernel_rfl) (by kernel_rfl) k) (fun _ _ => ?_)
      refine cM ?_
      refine cDn ?_
      refine ret_none (.inr rfl) rfl (fun w hT => ?_)
      refine ⟨rfl, ?_⟩
      rw [show swpM y k ms = mdel (ms) k from by unfold swpM; rw [c1_, c2_]; rfl]
      exact hT
    refine cFa rfl <| cont_skip ?_
    refine ret_none (.inr rfl) rfl (fun w hT => ?_)
    refine ⟨rfl, ?_⟩
    rw [show swpM y k ms = ms from by unfold swpM; rw [c1_, beq_eq_false_iff_ne.2 c2_]; rfl]
    exact hT
  replace c1_ : y.nm = true := by simpa using c1_
  refine bD [0, 0, 0, 0, 0, 0] 12 0 [(22, .bool false)] [17, 18, 19, 20, 21] <| zDN <| cFa rfl <| cont_skip ?_
  refine ret_none (.inr rfl) rfl (fun w hT => ?_)
  refine ⟨rfl, ?_⟩
  rw [show swpM y k ms = ms from by unfold swpM; rw [c1_]; rfl]
  exact hT
theorem poolDestroyN (p mp : Nat) (ds : List PB) (id : Int) (B : Int) (R : List Ent) (w0 w : World) (hT0 : Tab w0 w ((.cells p [iQ ((ds.length : Nat) : Int), .map (some mp)] 65 true) :: (.gen (mapE mp (pmsV (keysP (liveP ds))) true)) :: (.gen (allE 67 81 48 (liveP ds))) :: R)) (hok : PoolOk ds B) (hf : findP ds id = -1) :
    Calls Try.prog 9 #[pT p, iQ id] w fun e w' => e = .returned (iQ 5) ∧ Tab w0 w' ((.cells p [iQ ((ds.length : Nat) : Int), .map (some mp)] 65 true) :: (.gen (mapE mp (pmsV (keysP (liveP ds))) true)) :: (.gen (allE 67 81 48 (liveP ds))) :: R) := by
  refine enterB 27 [(0, pT p), (1, iQ id)] ((.cells p [iQ ((ds.length : Nat) : Int), .map (some mp)] 65 true) :: (.gen (mapE mp (pmsV (keysP (liveP ds))) true)) :: (.gen (allE 67 81 48 (liveP ds))) :: R) Try.func9 rfl Try.ntmps9 rfl (by kernel_rfl) hT0 ?_
  refine zSR 1 <| bD [0] 1 0 [] [4] <| zDNSR 8 <| bD [0, 0] 2 6 [(8, pT p), (9, iQ id)] [] <| pS 3 5 <| cG (d := 10) (α := Unit) (fun x_ => .tuple #[iQ (findP ds id), iQ (fndE ds id 5)]) (fun x_ => ((.cells p [iQ ((ds.length : Nat) : Int), .map (some mp)] 65 true) :: (.gen (mapE mp (pmsV (keysP (liveP ds))) true)) :: (.gen (allE 67 81 48 (liveP ds))) :: R)) (fun x_ => True) (fun w hT => (poolFind p mp ds id _ (R) _ w hT hok).mono fun e w' ⟨he_, ht_⟩ => ⟨(), he_, trivial, ht_⟩) ?_
  rintro ⟨⟩ -
  refine cM ?_
  refine bD [0, 0, 0, 0, 0] 8 0 [(5, iQ (findP ds id)), (6, iQ (fndE ds id 5))] [7, 11, 12] <| zDNSSR 2 <| rC 6 (iQ 5) rfl (congrArg (Value.int .i64) (fndE_no hf)) <| bD [0, 0] 2 0 [(14, .bool true)] [13] <| zDN <| cTr rfl <| zSR 2 <| bS [0, 0] 2 0 [(4, iQ 5)] <| zDNr <| then_ret ?_
  refine rA rfl 0 (iQ 5) fun w hT => ?_
  exact ⟨rfl, hT⟩
theorem poolDestroyY (p mp : Nat) (ds : List PB) (id : Int) (ix : Nat) (x : PB) (B : Int) (R : List Ent) (w0 w : World) (hT0 : Tab w0 w ((.cells p [iQ ((ds.length : Nat) : Int), .map (some mp)] 65 true) :: (.gen (mapE mp (pmsV (keysP (liveP ds))) true)) :: (.gen (allE 67 81 48 (liveP ds))) :: R)) (hok : PoolOk ds B) (hix : ix < ds.length) (hx : x = dget ds ix) (hal : x.al = true) (hfk : findP ds id = (ix : Int)) :
    Calls Try.prog 9 #[pT p, iQ id] w fun e w' => e = .returned (iQ 0) ∧ Tab w0 w' ((.cells p [iQ (((ds.set ix (PB.drop x)).length : Nat) : Int), .map (some mp)] 65 true) :: (.gen (mapE mp (pmsV (keysP (liveP (ds.set ix (PB.drop x))))) true)) :: (.gen (allE 67 81 48 (liveP (ds.set ix (PB.drop x))))) :: R) := by
  refine enterB 27 [(0, pT p), (1, iQ id)] ((.cells p [iQ ((ds.length : Nat) : Int), .map (some mp)] 65 true) :: (.gen (mapE mp (pmsV (keysP (liveP ds))) true)) :: (.gen (allE 67 81 48 (liveP ds))) :: R) Try.func9 rfl Try.ntmps9 rfl (by kernel_rfl) hT0 ?_
  refine zSR 1 <| bD [0] 1 0 [] [4] <| zDNSR 8 <| bD [0, 0] 2 6 [(8, pT p), (9, iQ id)] [] <| pS 3 5 <| cG (d := 10) (α := Unit) (fun x_ => .tuple #[iQ (findP ds id), iQ (fndE ds id 5)]) (fun x_ => ((.cells p [iQ ((ds.length : Nat) : Int), .map (some mp)] 65 true) :: (.gen (mapE mp (pmsV (keysP (liveP ds))) true)) :: (.gen (allE 67 81 48 (liveP ds))) :: R)) (fun x_ => True) (fun w hT => (poolFind p mp ds id _ (R) _ w hT hok).mono fun e w' ⟨he_, ht_⟩ => ⟨(), he_, trivial, ht_⟩) ?_
  rintro ⟨⟩ -
  refine cM ?_
  refine bD [0, 0, 0, 0, 0] 8 0 [(5, iQ (findP ds id)), (6, iQ (fndE ds id 5))] [7, 11, 12] <| zDNSSR 2 <| rC 5 (iQ ((ix : Nat) : Int)) rfl (congrArg (Value.int .i64) hfk) <| rC 6 (iQ 0) rfl (congrArg (Value.int .i64) (fndE_yes (by omega))) <| bD [0, 0] 2 0 [(14, .bool false)] [13] <| zDNFKNSR 9 <| cont_takeB 2 x (restP ds ix) rfl (takeP hix hx hal) ?_
  refine cM ?_
  have hhd := hok.hd _ (dget_mem hix)
  rw [← hx] at hhd
  refine bD [0, 0, 0, 3, 0] 5 4 [(19, .map (some mp)), (20, iQ ((ix : Nat) : Int))] [16, 17, 18] <| pS 6 3 <| sS 21 (Instr.lookup 63 (.map (some mp)) (iQ ((ix : Nat) : Int)) false) (pT x.b) (fun w hT => (run_lookup (z := .pointer none) (hT.ok 4 _ rfl) (kt := 3) (et := 68) (kf := .i64) (by kernel_rfl) (by kernel_rfl) (by kernel_rfl) ((ix : Nat) : Int)).trans (by rw [mget_yes hok hix hx hal]; rfl)) <| bZ [0, 0, 0] 9 0 [(0, pT p), (5, iQ ((ix : Nat) : Int))] ((.cells x.b [iQ x.id, .bool false, pT x.m, iQ x.hd] 67 true) :: (.cells x.m [iQ x.W, iQ x.H, sL x.q x.n x.n] 81 true) :: (.gen (rowE (some ⟨x.q, 0, none⟩) x.q x.n x.n 48 1 (cV x.px) true)) :: (.cells p [iQ ((ds.length : Nat) : Int), .map (some mp)] 65 true) :: (.gen (mapE mp (pmsV (keysP (liveP ds))) true)) :: (.gen (allE 67 81 48 (restP ds ix))) :: R) <| zDNSR 3 <| bS [0, 0] 2 1 [(24, pT p), (25, iQ ((ix : Nat) : Int))] <| pS 3 0 <| cont_pickT [3, 4, 0, 1, 2, 5] [.cells x.b [iQ x.id, .bool false, pT x.m, iQ x.hd] 67 true, .cells x.m [iQ x.W, iQ x.H, sL x.q x.n x.n] 81 true, .gen (rowE (some ⟨x.q, 0, none⟩) x.q x.n x.n 48 1 (cV x.px) true), .cells p [iQ ((ds.length : Nat) : Int), .map (some mp)] 65 true, .gen (mapE mp (pmsV (keysP (liveP ds))) true), .gen (allE 67 81 48 (restP ds ix))] [.cells p [iQ ((ds.length : Nat) : Int), .map (some mp)] 65 true, .gen (mapE mp (pmsV (keysP (liveP ds))) true), .cells x.b [iQ x.id, .bool false, pT x.m, iQ x.hd] 67 true, .cells x.m [iQ x.W, iQ x.H, sL x.q x.n x.n] 81 true, .gen (rowE (some ⟨x.q, 0, none⟩) x.q x.n x.n 48 1 (cV x.px) true), .gen (allE 67 81 48 (restP ds ix))] R ((.cells p [iQ ((ds.length : Nat) : Int), .map (some mp)] 65 true) :: (.gen (mapE mp (pmsV (keysP (liveP ds))) true)) :: (.cells x.b [iQ x.id, .bool false, pT x.m, iQ x.hd] 67 true) :: (.cells x.m [iQ x.W, iQ x.H, sL x.q x.n x.n] 81 true) :: (.gen (rowE (some ⟨x.q, 0, none⟩) x.q x.n x.n 48 1 (cV x.px) true)) :: (.gen (allE 67 81 48 (restP ds ix))) :: R) rfl rfl rfl 6 rfl (by decide) ?_
  refine cG (d := 26) (α := Unit) (fun x_ => .tuple #[]) (fun x_ => ((.cells p [iQ ((ds.length : Nat) : Int), .map (some mp)] 65 true) :: (.gen (mapE mp (swpM (PB.drop x) ((ix : Nat) : Int) (pmsV (keysP (liveP ds)))) true)) :: (.cells x.b [iQ x.id, .bool false, pT x.m, iQ x.hd] 67 true) :: (.cells x.m [iQ x.W, iQ x.H, sL x.q x.n x.n] 81 true) :: (.gen (rowE (some ⟨x.q, 0, none⟩) x.q x.n x.n 48 1 (cV x.px) true)) :: (.gen (allE 67 81 48 (restP ds ix))) :: R)) (fun x_ => True) (fun w hT => (poolSweep p mp ((ds.length : Nat) : Int) (pmsV (keysP (liveP ds))) (PB.drop x) ((ix : Nat) : Int) ((.cells x.m [iQ x.W, iQ x.H, sL x.q x.n x.n] 81 true) :: (.gen (rowE (some ⟨x.q, 0, none⟩) x.q x.n x.n 48 1 (cV x.px) true)) :: (.gen (allE 67 81 48 (restP ds ix))) :: R) _ w hT (mget_yes (x := x) hok hix hx hal)).mono fun e w' ⟨he_, ht_⟩ => ⟨(), he_, trivial, ht_⟩) ?_
  rintro ⟨⟩ -
  refine cont_pickT [2, 3, 4, 0, 1, 5] [.cells p [iQ ((ds.length : Nat) : Int), .map (some mp)] 65 true, .gen (mapE mp (swpM (PB.drop x) ((ix : Nat) : Int) (pmsV (keysP (liveP ds)))) true), .cells x.b [iQ x.id, .bool false, pT x.m, iQ x.hd] 67 true, .cells x.m [iQ x.W, iQ x.H, sL x.q x.n x.n] 81 true, .gen (rowE (some ⟨x.q, 0, none⟩) x.q x.n x.n 48 1 (cV x.px) true), .gen (allE 67 81 48 (restP ds ix))] [.cells x.b [iQ x.id, .bool false, pT x.m, iQ x.hd] 67 true, .cells x.m [iQ x.W, iQ x.H, sL x.q x.n x.n] 81 true, .gen (rowE (some ⟨x.q, 0, none⟩) x.q x.n x.n 48 1 (cV x.px) true), .cells p [iQ ((ds.length : Nat) : Int), .map (some mp)] 65 true, .gen (mapE mp (swpM (PB.drop x) ((ix : Nat) : Int) (pmsV (keysP (liveP ds)))) true), .gen (allE 67 81 48 (restP ds ix))] R ((.cells x.b [iQ x.id, .bool false, pT x.m, iQ x.hd] 67 true) :: (.cells x.m [iQ x.W, iQ x.H, sL x.q x.n x.n] 81 true) :: (.gen (rowE (some ⟨x.q, 0, none⟩) x.q x.n x.n 48 1 (cV x.px) true)) :: (.cells p [iQ ((ds.length : Nat) : Int), .map (some mp)] 65 true) :: (.gen (mapE mp (swpM (PB.drop x) ((ix : Nat) : Int) (pmsV (keysP (liveP ds)))) true)) :: (.gen (allE 67 81 48 (restP ds ix))) :: R) rfl rfl rfl 6 rfl (by decide) ?_
  refine cM ?_
  refine zDNSR 1 <| cont_entEq 4 (.gen (mapE mp (swpM (PB.drop x) ((ix : Nat) : Int) (pmsV (keysP (liveP ds)))) true)) (.gen (mapE mp (pmsV (keysP (liveP (ds.set ix (PB.drop x))))) true)) rfl (congrArg (fun m_ => Ent.gen (mapE mp m_ true)) (swp_keys (y := PB.drop x) hok hix hx hal rfl rfl hhd.1)) ?_
  refine cont_norm [(24, pT p), (25, iQ ((ix : Nat) : Int)), (26, .tuple #[])] ((.cells x.b [iQ x.id, .bool false, pT x.m, iQ x.hd] 67 true) :: (.cells x.m [iQ x.W, iQ x.H, sL x.q x.n x.n] 81 true) :: (.gen (rowE (some ⟨x.q, 0, none⟩) x.q x.n x.n 48 1 (cV x.px) true)) :: (.cells p [iQ (((ds.set ix (PB.drop x)).length : Nat) : Int), .map (some mp)] 65 true) :: (.gen (mapE mp (pmsV (keysP (liveP (ds.set ix (PB.drop x))))) true)) :: (.gen (allE 67 81 48 (restP ds ix))) :: R) (by kernel_rfl) (congrArg (fun c_ : List Value => (((.cells x.b [iQ x.id, .bool false, pT x.m, iQ x.hd] 67 true) :: (.cells x.m [iQ x.W, iQ x.H, sL x.q x.n x.n] 81 true) :: (.gen (rowE (some ⟨x.q, 0, none⟩) x.q x.n x.n 48 1 (cV x.px) true)) :: (.cells p c_ 65 true) :: (.gen (mapE mp (pmsV (keysP (liveP (ds.set ix (PB.drop x))))) true)) :: (.gen (allE 67 81 48 (restP ds ix))) :: R) : List Ent)) (by rw [List.length_set])) ?_
  refine cM ?_
  refine cM ?_
  refine cont_putOr 2 (PB.drop x) (ds := ds) (ix := ix) rfl hix ?_
  refine cM ?_
  refine bS [0] 1 0 [(4, iQ 0)] <| zDNr <| rA rfl 0 (iQ 0) fun w hT => ?_
  exact ⟨rfl, hT⟩
theorem poolHoldY (p mp : Nat) (ds : List PB) (ix : Nat) (x : PB) (B : Int) (R : List Ent) (w0 w : World) (hT0 : Tab w0 w ((.cells p [iQ ((ds.length : Nat) : Int), .map (some mp)] 65 true) :: (.gen (mapE mp (pmsV (keysP (liveP ds))) true)) :: (.gen (allE 67 81 48 (liveP ds))) :: R)) (hok : PoolOk ds B) (hB : B ≤ 1000000000) (hix : ix < ds.length) (hx : x = dget ds ix) (hal : x.al = true) :
    Calls Try.prog 14 #[pT p, iQ ((ix : Nat) : Int)] w fun e w' => e = .returned (iQ 0) ∧ Tab w0 w' ((.cells p [iQ (((ds.set ix (PB.hold x)).length : Nat) : Int), .map (some mp)] 65 true) :: (.gen (mapE mp (pmsV (keysP (liveP (ds.set ix (PB.hold x))))) true)) :: (.gen (allE 67 81 48 (liveP (ds.set ix (PB.hold x))))) :: R) := by
  refine enterB 21 [(0, pT p), (1, iQ ((ix : Nat) : Int))] ((.cells p [iQ ((ds.length : Nat) : Int), .map (some mp)] 65 true) :: (.gen (mapE mp (pmsV (keysP (liveP ds))) true)) :: (.gen (allE 67 81 48 (liveP ds))) :: R) Try.func14 rfl Try.ntmps14 rfl (by kernel_rfl) hT0 ?_
  refine zSR 1 <| bD [0] 1 0 [] [4] <| zDNSR 7 <| cont_takeB 2 x (restP ds ix) rfl (takeP hix hx hal) ?_
  refine cM ?_
  have hhd := hok.hd _ (dget_mem hix)
  rw [← hx] at hhd
  refine bS [0, 0, 0, 3, 0] 5 2 [(9, .map (some mp)), (10, iQ ((ix : Nat) : Int))] <| pS 6 1 <| sS 11 (Instr.lookup 63 (.map (some mp)) (iQ ((ix : Nat) : Int)) false) (pT x.b) (fun w hT => (run_lookup (z := .pointer none) (hT.ok 4 _ rfl) (kt := 3) (et := 68) (kf := .i64) (by kernel_rfl) (by kernel_rfl) (by kernel_rfl) ((ix : Nat) : Int)).trans (by rw [mget_yes hok hix hx hal]; rfl)) <| bS [0] 7 0 [(5, pT x.b)] <| zDNSSR 2 <| bD [0, 0] 2 0 [(13, .bool false)] [12] <| zDNFKNSR 8 <| bS [0, 0, 0, 0, 0] 5 3 [(14, pT x.b), (18, iQ (IntKind.i64.wrap (x.hd + 1)))] <| wI 18 (x.hd + 1) <| bZ [0, 0, 0] 8 0 [] ((.cells x.b [iQ x.id, .bool x.nm, pT x.m, iQ (x.hd + 1)] 67 true) :: (.cells x.m [iQ x.W, iQ x.H, sL x.q x.n x.n] 81 true) :: (.gen (rowE (some ⟨x.q, 0, none⟩) x.q x.n x.n 48 1 (cV x.px) true)) :: (.cells p [iQ ((ds.length : Nat) : Int), .map (some mp)] 65 true) :: (.gen (mapE mp (pmsV (keysP (liveP ds))) true)) :: (.gen (allE 67 81 48 (restP ds ix))) :: R) <| zDNSR 1 <| cont_norm [] ((.cells x.b [iQ x.id, .bool x.nm, pT x.m, iQ (x.hd + 1)] 67 true) :: (.cells x.m [iQ x.W, iQ x.H, sL x.q x.n x.n] 81 true) :: (.gen (rowE (some ⟨x.q, 0, none⟩) x.q x.n x.n 48 1 (cV x.px) true)) :: (.cells p [iQ (((ds.set ix (PB.hold x)).length : Nat) : Int), .map (some mp)] 65 true) :: (.gen (mapE mp (pmsV (keysP (liveP ds))) true)) :: (.gen (allE 67 81 48 (restP ds ix))) :: R) (by kernel_rfl) (congrArg (fun c_ : List Value => (((.cells x.b [iQ x.id, .bool x.nm, pT x.m, iQ (x.hd + 1)] 67 true) :: (.cells x.m [iQ x.W, iQ x.H, sL x.q x.n x.n] 81 true) :: (.gen (rowE (some ⟨x.q, 0, none⟩) x.q x.n x.n 48 1 (cV x.px) true)) :: (.cells p c_ 65 true) :: (.gen (mapE mp (pmsV (keysP (liveP ds))) true)) :: (.gen (allE 67 81 48 (restP ds ix))) :: R) : List Ent)) (by rw [List.length_set])) ?_
  refine cont_entEq 4 (.gen (mapE mp (pmsV (keysP (liveP ds))) true)) (.gen (mapE mp (pmsV (keysP (liveP (ds.set ix (PB.hold x))))) true)) rfl (congrArg (fun m_ => Ent.gen (mapE mp m_ true)) (keys_upd (y := PB.hold x) hix hx hal (by unfold PB.al; rw [show decide (0 < (PB.hold x).hd) = true from decide_eq_true (by show 0 < x.hd + 1; omega), Bool.or_true]) rfl rfl)) ?_
  refine cM ?_
  refine cM ?_
  refine cont_putOr 2 (PB.hold x) (ds := ds) (ix := ix) rfl hix ?_
  refine cM ?_
  refine bS [0] 1 0 [(4, iQ 0)] <| zDNr <| rA rfl 0 (iQ 0) fun w hT => ?_
  exact ⟨rfl, hT⟩
theorem poolHeldY (p mp : Nat) (ds : List PB) (ix : Nat) (x : PB) (B : Int) (R : List Ent) (w0 w : World) (hT0 : Tab w0 w ((.cells p [iQ ((ds.length : Nat) : Int), .map (some mp)] 65 true) :: (.gen (mapE mp (pmsV (keysP (liveP ds))) true)) :: (.gen (allE 67 81 48 (liveP ds))) :: R)) (hok : PoolOk ds B) (hB : B ≤ 1000000000) (hix : ix < ds.length) (hx : x = dget ds ix) (hal : x.al = true) :
    Calls Try.prog 16 #[pT p, iQ ((ix : Nat) : Int)] w fun e w' => e = .returned (iQ x.hd) ∧ Tab w0 w' ((.cells p [iQ ((ds.length : Nat) : Int), .map (some mp)] 65 true) :: (.gen (mapE mp (pmsV (keysP (liveP ds))) true)) :: (.gen (allE 67 81 48 (liveP ds))) :: R) := by
  refine enterB 18 [(0, pT p), (1, iQ ((ix : Nat) : Int))] ((.cells p [iQ ((ds.length : Nat) : Int), .map (some mp)] 65 true) :: (.gen (mapE mp (pmsV (keysP (liveP ds))) true)) :: (.gen (allE 67 81 48 (liveP ds))) :: R) Try.func16 rfl Try.ntmps16 rfl (by kernel_rfl) hT0 ?_
  refine zSR 1 <| bD [0] 1 0 [] [4] <| zDNSR 7 <| cont_takeB 2 x (restP ds ix) rfl (takeP hix hx hal) ?_
  refine cM ?_
  have hhd := hok.hd _ (dget_mem hix)
  rw [← hx] at hhd
  refine bS [0, 0, 0, 3, 0] 5 2 [(9, .map (some mp)), (10, iQ ((ix : Nat) : Int))] <| pS 6 1 <| sS 11 (Instr.lookup 63 (.map (some mp)) (iQ ((ix : Nat) : Int)) false) (pT x.b) (fun w hT => (run_lookup (z := .pointer none) (hT.ok 4 _ rfl) (kt := 3) (et := 68) (kf := .i64) (by kernel_rfl) (by kernel_rfl) (by kernel_rfl) ((ix : Nat) : Int)).trans (by rw [mget_yes hok hix hx hal]; rfl)) <| bS [0] 7 0 [(5, pT x.b)] <| zDNSSR 2 <| bD [0, 0] 2 0 [(13, .bool false)] [12] <| zDNFKNSR 5 <| bS [0, 0, 0, 0, 0] 5 0 [(4, iQ x.hd)] <| zDNr <| cM ?_
  refine cont_putB 2 x (restP ds ix) (liveP ds) rfl (putP hix hx hal) ?_
  refine cM ?_
  refine rA rfl 0 (iQ x.hd) fun w hT => ?_
  exact ⟨rfl, hT⟩
theorem poolImageN (p mp : Nat) (ds : List PB) (k : Int) (B : Int) (R : List Ent) (w0 w : World) (hT0 : Tab w0 w ((.cells p [iQ ((ds.length : Nat) : Int), .map (some mp)] 65 true) :: (.gen (mapE mp (pmsV (keysP (liveP ds))) true)) :: (.gen (allE 67 81 48 (liveP ds))) :: R)) (hok : PoolOk ds B) (hB : B ≤ 1000000000) (hno : thereP ds k = false) :
    Calls Try.prog 18 #[pT p, iQ k] w fun e w' => e = .returned (.tuple #[.pointer none, .bool false]) ∧ Tab w0 w' ((.cells p [iQ ((ds.length : Nat) : Int), .map (some mp)] 65 true) :: (.gen (mapE mp (pmsV (keysP (liveP ds))) true)) :: (.gen (allE 67 81 48 (liveP ds))) :: R) := by
  refine enterB 19 [(0, pT p), (1, iQ k)] ((.cells p [iQ ((ds.length : Nat) : Int), .map (some mp)] 65 true) :: (.gen (mapE mp (pmsV (keysP (liveP ds))) true)) :: (.gen (allE 67 81 48 (liveP ds))) :: R) Try.func18 rfl Try.ntmps18 rfl (by kernel_rfl) hT0 ?_
  refine zSR 2 <| bD [0, 0] 2 0 [] [4, 5] <| zDNSR 7 <| bS [0, 0, 0, 0, 0] 5 2 [(10, .map (some mp)), (11, iQ k)] <| pS 6 1 <| sS 12 (Instr.lookup 63 (.map (some mp)) (iQ k) false) (.pointer none) (fun w hT => (run_lookup (z := .pointer none) (hT.ok 1 _ rfl) (kt := 3) (et := 68) (kf := .i64) (by kernel_rfl) (by kernel_rfl) (by kernel_rfl) k).trans (by rw [mget_no hok hno]; rfl)) <| bS [0] 7 0 [(6, .pointer none)] <| zDNSSR 2 <| bD [0, 0] 2 0 [(14, .bool true)] [13] <| zDN <| cTr rfl <| zSR 2 <| bS [0, 0] 2 0 [(4, .pointer none), (5, .bool false)] <| zDNr <| then_ret ?_
  refine rB rfl 0 0 (.pointer none) (.bool false) fun w hT => ?_
  exact ⟨rfl, hT⟩
theorem poolImageY (p mp : Nat) (ds : List PB) (ix : Nat) (x : PB) (B : Int) (R : List Ent) (w0 w : World) (hT0 : Tab w0 w ((.cells p [iQ ((ds.length : Nat) : Int), .map (some mp)] 65 true) :: (.gen (mapE mp (pmsV (keysP (liveP ds))) true)) :: (.gen (allE 67 81 48 (liveP ds))) :: R)) (hok : PoolOk ds B) (hB : B ≤ 1000000000) (hix : ix < ds.length) (hx : x = dget ds ix) (hal : x.al = true) :
    Calls Try.prog 18 #[pT p, iQ ((ix : Nat) : Int)] w fun e w' => e = .returned (.tuple #[pT x.m, .bool true]) ∧ Tab w0 w' ((.cells p [iQ ((ds.length : Nat) : Int), .map (some mp)] 65 true) :: (.gen (mapE mp (pmsV (keysP (liveP ds))) true)) :: (.gen (allE 67 81 48 (liveP ds))) :: R) := by
  refine enterB 19 [(0, pT p), (1, iQ ((ix : Nat) : Int))] ((.cells p [iQ ((ds.length : Nat) : Int), .map (some mp)] 65 true) :: (.gen (mapE mp (pmsV (keysP (liveP ds))) true)) :: (.gen (allE 67 81 48 (liveP ds))) :: R) Try.func18 rfl Try.ntmps18 rfl (by kernel_rfl) hT0 ?_
  refine zSR 2 <| bD [0, 0] 2 0 [] [4, 5] <| zDNSR 7 <| cont_takeB 2 x (restP ds ix) rfl (takeP hix hx hal) ?_
  refine cM ?_
  have hhd := hok.hd _ (dget_mem hix)
  rw [← hx] at hhd
  refine bS [0, 0, 0, 3, 0] 5 2 [(10, .map (some mp)), (11, iQ ((ix : Nat) : Int))] <| pS 6 1 <| sS 12 (Instr.lookup 63 (.map (some mp)) (iQ ((ix : Nat) : Int)) false) (pT x.b) (fun w hT => (run_lookup (z := .pointer none) (hT.ok 4 _ rfl) (kt := 3) (et := 68) (kf := .i64) (by kernel_rfl) (by kernel_rfl) (by kernel_rfl) ((ix : Nat) : Int)).trans (by rw [mget_yes hok hix hx hal]; rfl)) <| bS [0] 7 0 [(6, pT x.b)] <| zDNSSR 2 <| bD [0, 0] 2 0 [(14, .bool false)] [13] <| zDNFKNSR 6 <| bS [0, 0, 0, 0, 0, 0] 6 0 [(4, pT x.m), (5, .bool true)] <| zDNr <| cM ?_
  refine cont_putB 2 x (restP ds ix) (liveP ds) rfl (putP hix hx hal) ?_
  refine cM ?_
  refine rB rfl 0 0 (pT x.m) (.bool true) fun w hT => ?_
  exact ⟨rfl, hT⟩
theorem poolLetN (p mp : Nat) (ds : List PB) (k : Int) (B : Int) (R : List Ent) (w0 w : World) (hT0 : Tab w0 w ((.cells p [iQ ((ds.length : Nat) : Int), .map (some mp)] 65 true) :: (.gen (mapE mp (pmsV (keysP (liveP ds))) true)) :: (.gen (allE 67 81 48 (liveP ds))) :: R)) (hok : PoolOk ds B) (hB : B ≤ 1000000000) (hno : thereP ds k = false) :
    Calls Try.prog 17 #[pT p, iQ k] w fun e w' => e = .returned (.tuple #[iQ 0, .bool false]) ∧ Tab w0 w' ((.cells p [iQ ((ds.length : Nat) : Int), .map (some mp)] 65 true) :: (.gen (mapE mp (pmsV (keysP (liveP ds))) true)) :: (.gen (allE 67 81 48 (liveP ds))) :: R) := by
  refine enterB 47 [(0, pT p), (1, iQ k)] ((.cells p [iQ ((ds.length : Nat) : Int), .map (some mp)] 65 true) :: (.gen (mapE mp (pmsV (keysP (liveP ds))) true)) :: (.gen (allE 67 81 48 (liveP ds))) :: R) Try.func17 rfl Try.ntmps17 rfl (by kernel_rfl) hT0 ?_
  refine zSR 2 <| bD [0, 0] 2 0 [] [4, 5] <| zDNSR 7 <| bD [0, 0, 0, 0, 0] 5 2 [(10, .map (some mp)), (11, iQ k)] [7, 8, 9] <| pS 6 1 <| sS 12 (Instr.lookup 63 (.map (some mp)) (iQ k) false) (.pointer none) (fun w hT => (run_lookup (z := .pointer none) (hT.ok 1 _ rfl) (kt := 3) (et := 68) (kf := .i64) (by kernel_rfl) (by kernel_rfl) (by kernel_rfl) k).trans (by rw [mget_no hok hno]; rfl)) <| bD [0] 7 0 [(6, .pointer none)] [] <| zDNSSR 9 <| bD [0, 0, 0, 0, 0, 0, 0, 0, 0] 9 0 [(21, .bool true)] [13, 14, 15, 16, 17, 18, 19, 20] <| zDN <| cTr rfl <| zSR 2 <| bS [0, 0] 2 0 [(4, iQ 0), (5, .bool false)] <| zDNr <| then_ret ?_
  refine rB rfl 0 0 (iQ 0) (.bool false) fun w hT => ?_
  exact ⟨rfl, hT⟩
theorem poolLetZ (p mp : Nat) (ds : List PB) (ix : Nat) (x : PB) (B : Int) (R : List Ent) (w0 w : World) (hT0 : Tab w0 w ((.cells p [iQ ((ds.length : Nat) : Int), .map (some mp)] 65 true) :: (.gen (mapE mp (pmsV (keysP (liveP ds))) true)) :: (.gen (allE 67 81 48 (liveP ds))) :: R)) (hok : PoolOk ds B) (hB : B ≤ 1000000000) (hix : ix < ds.length) (hx : x = dget ds ix) (hal : x.al = true) (hz : x.hd = 0) :
    Calls Try.prog 17 #[pT p, iQ ((ix : Nat) : Int)] w fun e w' => e = .returned (.tuple #[iQ 0, .bool false]) ∧ Tab w0 w' ((.cells p [iQ ((ds.length : Nat) : Int), .map (some mp)] 65 true) :: (.gen (mapE mp (pmsV (keysP (liveP ds))) true)) :: (.gen (allE 67 81 48 (liveP ds))) :: R) := by
  refine enterB 47 [(0, pT p), (1, iQ ((ix : Nat) : Int))] ((.cells p [iQ ((ds.length : Nat) : Int), .map (some mp)] 65 true) :: (.gen (mapE mp (pmsV (keysP (liveP ds))) true)) :: (.gen (allE 67 81 48 (liveP ds))) :: R) Try.func17 rfl Try.ntmps17 rfl (by kernel_rfl) hT0 ?_
  refine zSR 2 <| bD [0, 0] 2 0 [] [4, 5] <| zDNSR 7 <| cont_takeB 2 x (restP ds ix) rfl (takeP hix hx hal) ?_
  refine cM ?_
  have hhd := hok.hd _ (dget_mem hix)
  rw [← hx] at hhd
  refine bD [0, 0, 0, 3, 0] 5 2 [(10, .map (some mp)), (11, iQ ((ix : Nat) : Int))] [7, 8, 9] <| pS 6 1 <| sS 12 (Instr.lookup 63 (.map (some mp)) (iQ ((ix : Nat) : Int)) false) (pT x.b) (fun w hT => (run_lookup (z := .pointer none) (hT.ok 4 _ rfl) (kt := 3) (et := 68) (kf := .i64) (by kernel_rfl) (by kernel_rfl) (by kernel_rfl) ((ix : Nat) : Int)).trans (by rw [mget_yes hok hix hx hal]; rfl)) <| bD [0] 7 0 [(6, pT x.b)] [] <| zDNSSR 9 <| bD [0, 0, 0, 0, 0, 0, 0, 0, 0] 9 0 [(21, .bool (x.hd == 0))] [13, 14, 15, 16, 17, 18, 19, 20] <| zDN <| rC 21 (.bool true) rfl (congrArg Value.bool (beq_iff_eq.2 hz)) <| cTr rfl <| zSR 2 <| bS [0, 0] 2 0 [(4, iQ 0), (5, .bool false)] <| zDNr <| then_ret <| cM ?_
  refine cont_putB 2 x (restP ds ix) (liveP ds) rfl (putP hix hx hal) ?_
  refine cM ?_
  refine rB rfl 0 0 (iQ 0) (.bool false) fun w hT => ?_
  exact ⟨rfl, hT⟩
theorem poolLetY (p mp : Nat) (ds : List PB) (ix : Nat) (x : PB) (B : Int) (R : List Ent) (w0 w : World) (hT0 : Tab w0 w ((.cells p [iQ ((ds.length : Nat) : Int), .map (some mp)] 65 true) :: (.gen (mapE mp (pmsV (keysP (liveP ds))) true)) :: (.gen (allE 67 81 48 (liveP ds))) :: R)) (hok : PoolOk ds B) (hB : B ≤ 1000000000) (hix : ix < ds.length) (hx : x = dget ds ix) (hal : x.al = true) (hz : 0 < x.hd) :
    Calls Try.prog 17 #[pT p, iQ ((ix : Nat) : Int)] w fun e w' => e = .returned (.tuple #[iQ x.id, .bool (x.nm && (x.hd - 1 == 0))]) ∧ Tab w0 w' ((.cells p [iQ (((ds.set ix (PB.less x)).length : Nat) : Int), .map (some mp)] 65 true) :: (.gen (mapE mp (pmsV (keysP (liveP (ds.set ix (PB.less x))))) true)) :: (.gen (allE 67 81 48 (liveP (ds.set ix (PB.less x))))) :: R) := by
  refine enterB 47 [(0, pT p), (1, iQ ((ix : Nat) : Int))] ((.cells p [iQ ((ds.length : Nat) : Int), .map (some mp)] 65 true) :: (.gen (mapE mp (pmsV (keysP (liveP ds))) true)) :: (.gen (allE 67 81 48 (liveP ds))) :: R) Try.func17 rfl Try.ntmps17 rfl (by kernel_rfl) hT0 ?_
  refine zSR 2 <| bD [0, 0] 2 0 [] [4, 5] <| zDNSR 7 <| cont_takeB 2 x (restP ds ix) rfl (takeP hix hx hal) ?_
  refine cM ?_
  have hhd := hok.hd _ (dget_mem hix)
  rw [← hx] at hhd
  refine bD [0, 0, 0, 3, 0] 5 2 [(10, .map (some mp)), (11, iQ ((ix : Nat) : Int))] [7, 8, 9] <| pS 6 1 <| sS 12 (Instr.lookup 63 (.map (some mp)) (iQ ((ix : Nat) : Int)) false) (pT x.b) (fun w hT => (run_lookup (z := .pointer none) (hT.ok 4 _ rfl) (kt := 3) (et := 68) (kf := .i64) (by kernel_rfl) (by kernel_rfl) (by kernel_rfl) ((ix : Nat) : Int)).trans (by rw [mget_yes hok hix hx hal]; rfl)) <| bD [0] 7 0 [(6, pT x.b)] [] <| zDNSSR 9 <| bD [0, 0, 0, 0, 0, 0, 0, 0, 0] 9 0 [(21, .bool (x.hd == 0))] [13, 14, 15, 16, 17, 18, 19, 20] <| zDN <| rC 21 (.bool false) rfl (congrArg Value.bool (beq_eq_false_iff_ne.2 (by omega))) <| cFa rfl <| cont_skip <| zN <| zSR 8 <| bD [0, 0, 0, 0, 0] 5 3 [(22, pT x.b), (26, iQ (IntKind.i64.wrap (x.hd - 1)))] [23, 24, 25] <| wI 26 (x.hd - 1) <| bZ [0, 0, 0] 8 0 [(0, pT p), (1, iQ ((ix : Nat) : Int)), (6, pT x.b)] ((.cells x.b [iQ x.id, .bool x.nm, pT x.m, iQ (x.hd - 1)] 67 true) :: (.cells x.m [iQ x.W, iQ x.H, sL x.q x.n x.n] 81 true) :: (.gen (rowE (some ⟨x.q, 0, none⟩) x.q x.n x.n 48 1 (cV x.px) true)) :: (.cells p [iQ ((ds.length : Nat) : Int), .map (some mp)] 65 true) :: (.gen (mapE mp (pmsV (keysP (liveP ds))) true)) :: (.gen (allE 67 81 48 (restP ds ix))) :: R) <| zDNSR 3 <| bD [0, 0] 2 1 [(29, pT p), (30, iQ ((ix : Nat) : Int))] [] <| pS 3 0 <| cont_pickT [3, 4, 0, 1, 2, 5] [.cells x.b [iQ x.id, .bool x.nm, pT x.m, iQ (x.hd - 1)] 67 true, .cells x.m [iQ x.W, iQ x.H, sL x.q x.n x.n] 81 true, .gen (rowE (some ⟨x.q, 0, none⟩) x.q x.n x.n 48 1 (cV x.px) true), .cells p [iQ ((ds.length : Nat) : Int), .map (some mp)] 65 true, .gen (mapE mp (pmsV (keysP (liveP ds))) true), .gen (allE 67 81 48 (restP ds ix))] [.cells p [iQ ((ds.length : Nat) : Int), .map (some mp)] 65 true, .gen (mapE mp (pmsV (keysP (liveP ds))) true), .cells x.b [iQ x.id, .bool x.nm, pT x.m, iQ (x.hd - 1)] 67 true, .cells x.m [iQ x.W, iQ x.H, sL x.q x.n x.n] 81 true, .gen (rowE (some ⟨x.q, 0, none⟩) x.q x.n x.n 48 1 (cV x.px) true), .gen (allE 67 81 48 (restP ds ix))] R ((.cells p [iQ ((ds.length : Nat) : Int), .map (some mp)] 65 true) :: (.gen (mapE mp (pmsV (keysP (liveP ds))) true)) :: (.cells x.b [iQ x.id, .bool x.nm, pT x.m, iQ (x.hd - 1)] 67 true) :: (.cells x.m [iQ x.W, iQ x.H, sL x.q x.n x.n] 81 true) :: (.gen (rowE (some ⟨x.q, 0, none⟩) x.q x.n x.n 48 1 (cV x.px) true)) :: (.gen (allE 67 81 48 (restP ds ix))) :: R) rfl rfl rfl 6 rfl (by decide) ?_
  refine cG (d := 31) (α := Unit) (fun x_ => .tuple #[]) (fun x_ => ((.cells p [iQ ((ds.length : Nat) : Int), .map (some mp)] 65 true) :: (.gen (mapE mp (swpM (PB.less x) ((ix : Nat) : Int) (pmsV (keysP (liveP ds)))) true)) :: (.cells x.b [iQ x.id, .bool x.nm, pT x.m, iQ (x.hd - 1)] 67 true) :: (.cells x.m [iQ x.W, iQ x.H, sL x.q x.n x.n] 81 true) :: (.gen (rowE (some ⟨x.q, 0, none⟩) x.q x.n x.n 48 1 (cV x.px) true)) :: (.gen (allE 67 81 48 (restP ds ix))) :: R)) (fun x_ => True) (fun w hT => (poolSweep p mp ((ds.length : Nat) : Int) (pmsV (keysP (liveP ds))) (PB.less x) ((ix : Nat) : Int) ((.cells x.m [iQ x.W, iQ x.H, sL x.q x.n x.n] 81 true) :: (.gen (rowE (some ⟨x.q, 0, none⟩) x.q x.n x.n 48 1 (cV x.px) true)) :: (.gen (allE 67 81 48 (restP ds ix))) :: R) _ w hT (mget_yes (x := x) hok hix hx hal)).mono fun e w' ⟨he_, ht_⟩ => ⟨(), he_, trivial, ht_⟩) ?_
  rintro ⟨⟩ -
  refine cont_pickT [2, 3, 4, 0, 1, 5] [.cells p [iQ ((ds.length : Nat) : Int), .map (some mp)] 65 true, .gen (mapE mp (swpM (PB.less x) ((ix : Nat) : Int) (pmsV (keysP (liveP ds)))) true), .cells x.b [iQ x.id, .bool x.nm, pT x.m, iQ (x.hd - 1)] 67 true, .cells x.m [iQ x.W, iQ x.H, sL x.q x.n x.n] 81 true, .gen (rowE (some ⟨x.q, 0, none⟩) x.q x.n x.n 48 1 (cV x.px) true), .gen (allE 67 81 48 (restP ds ix))] [.cells x.b [iQ x.id, .bool x.nm, pT x.m, iQ (x.hd - 1)] 67 true, .cells x.m [iQ x.W, iQ x.H, sL x.q x.n x.n] 81 true, .gen (rowE (some ⟨x.q, 0, none⟩) x.q x.n x.n 48 1 (cV x.px) true), .cells p [iQ ((ds.length : Nat) : Int), .map (some mp)] 65 true, .gen (mapE mp (swpM (PB.less x) ((ix : Nat) : Int) (pmsV (keysP (liveP ds)))) true), .gen (allE 67 81 48 (restP ds ix))] R ((.cells x.b [iQ x.id, .bool x.nm, pT x.m, iQ (x.hd - 1)] 67 true) :: (.cells x.m [iQ x.W, iQ x.H, sL x.q x.n x.n] 81 true) :: (.gen (rowE (some ⟨x.q, 0, none⟩) x.q x.n x.n 48 1 (cV x.px) true)) :: (.cells p [iQ ((ds.length : Nat) : Int), .map (some mp)] 65 true) :: (.gen (mapE mp (swpM (PB.less x) ((ix : Nat) : Int) (pmsV (keysP (liveP ds)))) true)) :: (.gen (allE 67 81 48 (restP ds ix))) :: R) rfl rfl rfl 6 rfl (by decide) ?_
  refine cM ?_
  refine zDN <| cSq <| drawn_enter 17 [] rfl (by kernel_rfl) ?_
  refine tD 0 [] [(0, 0), (4, 0), (1, 0), (5, 0), (2, 0), (6, 0), (3, 0), (7, 0), (8, 0)] 8 [8, 7, 3, 6, 2, 5, 1, 4, 0] [(35, iQ x.id), (40, .bool x.nm)] [32, 33, 34, 36, 37, 38, 39] <| cSp 40 _ rfl (fun c3_ => ?_) fun c3_ => ?_
  ·
    refine tD 0 [] [(9, 0), (15, 0), (10, 0), (11, 0), (12, 0), (13, 0), (14, 0), (16, 0)] 0 [16, 14, 13, 12, 11, 10, 15, 9, 8, 7, 3, 6, 2, 5, 1, 4, 0] [(4, iQ x.id), (5, .bool ((x.hd - 1) == 0))] [41, 42, 43, 44, 45, 46] <| dD <| zN <| cont_ret <| cont_entEq 4 (.gen (mapE mp (swpM (PB.less x) ((ix : Nat) : Int) (pmsV (keysP (liveP ds)))) true)) (.gen (mapE mp (pmsV (keysP (liveP (ds.set ix (PB.less x))))) true)) rfl (congrArg (fun m_ => Ent.gen (mapE mp m_ true)) (swp_keys (y := PB.less x) hok hix hx hal rfl rfl (by show 0 ≤ x.hd - 1; omega))) ?_
    refine cont_norm [(4, iQ x.id), (5, .bool ((x.hd - 1) == 0))] ((.cells x.b [iQ x.id, .bool x.nm, pT x.m, iQ (x.hd - 1)] 67 true) :: (.cells x.m [iQ x.W, iQ x.H, sL x.q x.n x.n] 81 true) :: (.gen (rowE (some ⟨x.q, 0, none⟩) x.q x.n x.n 48 1 (cV x.px) true)) :: (.cells p [iQ (((ds.set ix (PB.less x)).length : Nat) : Int), .map (some mp)] 65 true) :: (.gen (mapE mp (pmsV (keysP (liveP (ds.set ix (PB.less x))))) true)) :: (.gen (allE 67 81 48 (restP ds ix))) :: R) (by kernel_rfl) (congrArg (fun c_ : List Value => (((.cells x.b [iQ x.id, .bool x.nm, pT x.m, iQ (x.hd - 1)] 67 true) :: (.cells x.m [iQ x.W, iQ x.H, sL x.q x.n x.n] 81 true) :: (.gen (rowE (some ⟨x.q, 0, none⟩) x.q x.n x.n 48 1 (cV x.px) true)) :: (.cells p c_ 65 true) :: (.gen (mapE mp (pmsV (keysP (liveP (ds.set ix (PB.less x))))) true)) :: (.gen (allE 67 81 48 (restP ds ix))) :: R) : List Ent)) (by rw [List.length_set])) ?_
    refine cM ?_
    refine cM ?_
    refine cont_putOr 2 (PB.less x) (ds := ds) (ix := ix) rfl hix ?_
    refine cM ?_
    refine rB rfl 0 0 (iQ x.id) (.bool ((x.hd - 1) == 0)) fun w hT => ?_
    exact ⟨by rw [c3_]; rfl, hT⟩
  refine tD 0 [] [(9, 0), (15, 0), (10, 0), (11, 0), (12, 0), (13, 0), (14, 0), (16, 0)] 0 [16, 14, 13, 12, 11, 10, 15, 9, 8, 7, 3, 6, 2, 5, 1, 4, 0] [(4, iQ x.id), (5, .bool false)] [41, 42, 43, 44, 45, 46] <| dD <| zN <| cont_ret <| cont_entEq 4 (.gen (mapE mp (swpM (PB.less x) ((ix : Nat) : Int) (pmsV (keysP (liveP ds)))) true)) (.gen (mapE mp (pmsV (keysP (liveP (ds.set ix (PB.less x))))) true)) rfl (congrArg (fun m_ => Ent.gen (mapE mp m_ true)) (swp_keys (y := PB.less x) hok hix hx hal rfl rfl (by show 0 ≤ x.hd - 1; omega))) ?_
  refine cont_norm [(4, iQ x.id), (5, .bool false)] ((.cells x.b [iQ x.id, .bool x.nm, pT x.m, iQ (x.hd - 1)] 67 true) :: (.cells x.m [iQ x.W, iQ x.H, sL x.q x.n x.n] 81 true) :: (.gen (rowE (some ⟨x.q, 0, none⟩) x.q x.n x.n 48 1 (cV x.px) true)) :: (.cells p [iQ (((ds.set ix (PB.less x)).length : Nat) : Int), .map (some mp)] 65 true) :: (.gen (mapE mp (pmsV (keysP (liveP (ds.set ix (PB.less x))))) true)) :: (.gen (allE 67 81 48 (restP ds ix))) :: R) (by kernel_rfl) (congrArg (fun c_ : List Value => (((.cells x.b [iQ x.id, .bool x.nm, pT x.m, iQ (x.hd - 1)] 67 true) :: (.cells x.m [iQ x.W, iQ x.H, sL x.q x.n x.n] 81 true) :: (.gen (rowE (some ⟨x.q, 0, none⟩) x.q x.n x.n 48 1 (cV x.px) true)) :: (.cells p c_ 65 true) :: (.gen (mapE mp (pmsV (keysP (liveP (ds.set ix (PB.less x))))) true)) :: (.gen (allE 67 81 48 (restP ds ix))) :: R) : List Ent)) (by rw [List.length_set])) ?_
  refine cM ?_
  refine cM ?_
  refine cont_putOr 2 (PB.less x) (ds := ds) (ix := ix) rfl hix ?_
  refine cM ?_
  refine rB rfl 0 0 (iQ x.id) (.bool false) fun w hT => ?_
  exact ⟨by rw [c3_]; rfl, hT⟩
theorem poolMakeY (p mp : Nat) (ds : List PB) (id W H : Int) (B : Int) (R : List Ent) (w0 w : World) (hT0 : Tab w0 w ((.cells p [iQ ((ds.length : Nat) : Int), .map (some mp)] 65 true) :: (.gen (mapE mp (pmsV (keysP (liveP ds))) true)) :: (.gen (allE 67 81 48 (liveP ds))) :: R)) (hok : PoolOk ds B) (hf : findP ds id = -1) (hgood : 1 ≤ W ∧ W ≤ 256 ∧ 1 ≤ H ∧ H ≤ 256) (hlen : ds.length ≤ 1000000) :
    Calls Try.prog 10 #[pT p, iQ id, iQ W, iQ H] w fun e w' => ∃ (b_ m_ q_ n_ : Nat), e = .returned (.tuple #[iQ ((ds.length : Nat) : Int), iQ 0]) ∧ (n_ : Int) = W * H ∧ Tab w0 w' ((.cells p [iQ (((ds ++ [newP ((ds.length : Nat) : Int) b_ id m_ W H q_ n_]).length : Nat) : Int), .map (some mp)] 65 true) :: (.gen (mapE mp (pmsV (keysP (liveP (ds ++ [newP ((ds.length : Nat) : Int) b_ id m_ W H q_ n_])))) true)) :: (.gen (allE 67 81 48 (liveP (ds ++ [newP ((ds.length : Nat) : Int) b_ id m_ W H q_ n_])))) :: R) := by
  refine enterB 53 [(0, pT p), (1, iQ id), (2, iQ W), (3, iQ H)] ((.cells p [iQ ((ds.length : Nat) : Int), .map (some mp)] 65 true) :: (.gen (mapE mp (pmsV (keysP (liveP ds))) true)) :: (.gen (allE 67 81 48 (liveP ds))) :: R) Try.func10 rfl Try.ntmps10 rfl (by kernel_rfl) hT0 ?_
  refine zSR 2 <| bD [0, 0] 2 0 [] [8, 9] <| zDNSSR 8 <| bD [0, 0] 2 6 [(16, pT p), (17, iQ id)] [] <| pS 3 5 <| cG (d := 18) (α := Unit) (fun x_ => .tuple #[iQ (findP ds id), iQ (fndE ds id 5)]) (fun x_ => ((.cells p [iQ ((ds.length : Nat) : Int), .map (some mp)] 65 true) :: (.gen (mapE mp (pmsV (keysP (liveP ds))) true)) :: (.gen (allE 67 81 48 (liveP ds))) :: R)) (fun x_ => True) (fun w hT => (poolFind p mp ds id _ (R) _ w hT hok).mono fun e w' ⟨he_, ht_⟩ => ⟨(), he_, trivial, ht_⟩) ?_
  rintro ⟨⟩ -
  refine cM ?_
  refine bD [0, 0, 0, 0, 0] 8 0 [(11, iQ (fndE ds id 5))] [10, 15, 19, 20] <| zDNSR 2 <| rC 11 (iQ 5) rfl (congrArg (Value.int .i64) (fndE_no hf)) <| bD [0, 0] 2 0 [(22, .bool false)] [21] <| zDNFKNSR 8 <| bD [0, 0] 2 6 [(24, iQ W), (25, iQ H)] [] <| pS 3 5 <| cG (d := 26) (α := Nat × Nat × Nat) (fun x_ => .tuple #[pT x_.1, iQ 0]) (fun x_ => ((.cells x_.1 [iQ W, iQ H, sL x_.2.1 x_.2.2 x_.2.2] 81 true) :: (.gen (rowE (some ⟨x_.2.1, 0, none⟩) x_.2.1 x_.2.2 x_.2.2 48 1 (cV (List.replicate x_.2.2 0)) true)) :: (.cells p [iQ ((ds.length : Nat) : Int), .map (some mp)] 65 true) :: (.gen (mapE mp (pmsV (keysP (liveP ds))) true)) :: (.gen (allE 67 81 48 (liveP ds))) :: R)) (fun x_ => (x_.2.2 : Int) = W * H) (fun w hT => (imgNew W H w hgood).mono fun e w' ⟨b_, r_, n_, he_, hn_, hi_⟩ => ⟨(b_, r_, n_), he_, hn_, hT.addImg hi_⟩) ?_
  rintro ⟨b2, r2, n2⟩ hn2
  replace hn2 : (n2 : Int) = W * H := hn2
  refine cM ?_
  refine bD [0, 0, 0, 0, 0] 8 0 [(12, pT b2), (13, iQ 0)] [23, 27, 28] <| zDNSSR 2 <| bD [0, 0] 2 0 [(30, .bool false)] [29] <| zDNFKNSR 5 <| bD [0, 0, 0, 2, 0] 5 0 [(14, iQ ((ds.length : Nat) : Int))] [32, 33, 34, 35] <| zDNSR 8 <| bD [0, 0, 0, 2, 0] 5 3 [(36, pT p), (40, iQ (IntKind.i64.wrap (((ds.length : Nat) : Int) + 1)))] [37, 38, 39] <| wI 40 (((ds.length : Nat) : Int) + 1) <| bZ [0, 0, 2] 8 0 [(0, pT p), (1, iQ id), (12, pT b2), (14, iQ ((ds.length : Nat) : Int))] ((.cells b2 [iQ W, iQ H, sL r2 n2 n2] 81 true) :: (oE r2 n2 n2 48 1 (cV (List.replicate n2 0))) :: (.cells p [iQ (((ds.length : Nat) : Int) + 1), .map (some mp)] 65 true) :: (.gen (mapE mp (pmsV (keysP (liveP ds))) true)) :: (.gen (allE 67 81 48 (liveP ds))) :: R) <| zDNSR 10 <| bW [0, 0, 0, 2, 0, 0, 0, 0, 0] 9 1 (fun b3 => [(14, iQ ((ds.length : Nat) : Int)), (46, .map (some mp)), (47, iQ ((ds.length : Nat) : Int)), (51, pT b3)]) (fun b3 => ((.cells b3 [iQ id, .bool true, pT b2, iQ 0] 67 true) :: (.cells b2 [iQ W, iQ H, sL r2 n2 n2] 81 true) :: (oE r2 n2 n2 48 1 (cV (List.replicate n2 0))) :: (.cells p [iQ (((ds.length : Nat) : Int) + 1), .map (some mp)] 65 true) :: (.gen (mapE mp (pmsV (keysP (liveP ds))) true)) :: (.gen (allE 67 81 48 (liveP ds))) :: R)) [14, 46, 47, 51] fun b3 => ?_
  refine pS 10 0 <| sem_stepU (Instr.mapUpdate 63 (.map (some mp)) (iQ ((ds.length : Nat) : Int)) (pT b3)) (fun _ => ((.cells b3 [iQ id, .bool true, pT b2, iQ 0] 67 true) :: (.cells b2 [iQ W, iQ H, sL r2 n2 n2] 81 true) :: (oE r2 n2 n2 48 1 (cV (List.replicate n2 0))) :: (.cells p [iQ (((ds.length : Nat) : Int) + 1), .map (some mp)] 65 true) :: (.gen (mapE mp (mput (pmsV (keysP (liveP ds))) ((ds.length : Nat) : Int) (pT b3)) true)) :: (.gen (allE 67 81 48 (liveP ds))) :: R)) (fun _ => True) (by kernel_rfl) (fun w hT => run_update (kt := 3) (et := 68) (kf := .i64) hT (i := 4) rfl (by kernel_rfl) (by kernel_rfl) ((ds.length : Nat) : Int) (pT b3)) (fun _ _ => ?_)
  refine cM ?_
  refine zDNSR 3 <| cont_entEq 4 (.gen (mapE mp (mput (pmsV (keysP (liveP ds))) ((ds.length : Nat) : Int) (pT b3)) true)) (.gen (mapE mp (pmsV (keysP (liveP (ds ++ [(newP ((ds.length : Nat) : Int) b3 id b2 W H r2 n2)])))) true)) rfl (congrArg (fun m_ => Ent.gen (mapE mp m_ true)) (keys_push (x := (newP ((ds.length : Nat) : Int) b3 id b2 W H r2 n2)) hok rfl rfl)) ?_
  refine cont_norm [(14, iQ ((ds.length : Nat) : Int)), (46, .map (some mp)), (47, iQ ((ds.length : Nat) : Int)), (51, pT b3)] ((.cells b3 [iQ id, .bool true, pT b2, iQ 0] 67 true) :: (.cells b2 [iQ W, iQ H, sL r2 n2 n2] 81 true) :: (oE r2 n2 n2 48 1 (cV (List.replicate n2 0))) :: (.cells p [iQ (((ds ++ [(newP ((ds.length : Nat) : Int) b3 id b2 W H r2 n2)]).length : Nat) : Int), .map (some mp)] 65 true) :: (.gen (mapE mp (pmsV (keysP (liveP (ds ++ [(newP ((ds.length : Nat) : Int) b3 id b2 W H r2 n2)])))) true)) :: (.gen (allE 67 81 48 (liveP ds))) :: R) (by kernel_rfl) (congrArg (fun c_ : List Value => (((.cells b3 [iQ id, .bool true, pT b2, iQ 0] 67 true) :: (.cells b2 [iQ W, iQ H, sL r2 n2 n2] 81 true) :: (oE r2 n2 n2 48 1 (cV (List.replicate n2 0))) :: (.cells p c_ 65 true) :: (.gen (mapE mp (pmsV (keysP (liveP (ds ++ [(newP ((ds.length : Nat) : Int) b3 id b2 W H r2 n2)])))) true)) :: (.gen (allE 67 81 48 (liveP ds))) :: R) : List Ent)) (by rw [List.length_append, List.length_singleton]; rfl)) ?_
  refine cM ?_
  refine cM ?_
  refine cont_putB 2 (newP ((ds.length : Nat) : Int) b3 id b2 W H r2 n2) (liveP ds) (liveP (ds ++ [(newP ((ds.length : Nat) : Int) b3 id b2 W H r2 n2)])) rfl (perm_snoc rfl) ?_
  refine nL [(14, iQ ((ds.length : Nat) : Int)), (46, .map (some mp)), (47, iQ ((ds.length : Nat) : Int)), (51, pT b3)] ?_
  refine bS [0, 0, 0] 3 0 [(8, iQ ((ds.length : Nat) : Int)), (9, iQ 0)] <| zDNr <| rB rfl 0 0 (iQ ((ds.length : Nat) : Int)) (iQ 0) fun w hT => ?_
  exact ⟨_, _, _, _, rfl, hn2, hT⟩
theorem poolWriteN (p mp : Nat) (ds : List PB) (id a b c d : Int) (A : Option Addr) (n cap : Nat) (B : Int) (R : List Ent) (w0 w : World) (hT0 : Tab w0 w ((.cells p [iQ ((ds.length : Nat) : Int), .map (some mp)] 65 true) :: (.gen (mapE mp (pmsV (keysP (liveP ds))) true)) :: (.gen (allE 67 81 48 (liveP ds))) :: R)) (hok : PoolOk ds B) (hf : findP ds id = -1) :
    Calls Try.prog 15 #[pT p, iQ id, .agg #[iQ a, iQ b, iQ c, iQ d], .slice A n cap] w fun e w' => e = .returned (iQ 5) ∧ Tab w0 w' ((.cells p [iQ ((ds.length : Nat) : Int), .map (some mp)] 65 true) :: (.gen (mapE mp (pmsV (keysP (liveP ds))) true)) :: (.gen (allE 67 81 48 (liveP ds))) :: R) := by
  refine enterB 44 [(0, pT p), (1, iQ id), (2, .agg #[iQ a, iQ b, iQ c, iQ d]), (3, .slice A n cap)] ((.cells p [iQ ((ds.length : Nat) : Int), .map (some mp)] 65 true) :: (.gen (mapE mp (pmsV (keysP (liveP ds))) true)) :: (.gen (allE 67 81 48 (liveP ds))) :: R) Try.func15 rfl Try.ntmps15 rfl (by kernel_rfl) hT0 ?_
  refine zSR 2 <| bW [0, 0] 2 0 (fun b1 => [(0, pT p), (1, iQ id), (3, .slice A n cap), (6, pT b1)]) (fun b1 => ((.cells b1 [iQ a, iQ b, iQ c, iQ d] 37 true) :: (.cells p [iQ ((ds.length : Nat) : Int), .map (some mp)] 65 true) :: (.gen (mapE mp (pmsV (keysP (liveP ds))) true)) :: (.gen (allE 67 81 48 (liveP ds))) :: R)) [0, 1, 3, 6] fun b1 => ?_
  refine zDNSR 8 <| bD [0, 0] 2 6 [(12, pT p), (13, iQ id)] [] <| pS 3 5 <| cont_pickT [1, 2, 3, 0] [.cells b1 [iQ a, iQ b, iQ c, iQ d] 37 true, .cells p [iQ ((ds.length : Nat) : Int), .map (some mp)] 65 true, .gen (mapE mp (pmsV (keysP (liveP ds))) true), .gen (allE 67 81 48 (liveP ds))] [.cells p [iQ ((ds.length : Nat) : Int), .map (some mp)] 65 true, .gen (mapE mp (pmsV (keysP (liveP ds))) true), .gen (allE 67 81 48 (liveP ds)), .cells b1 [iQ a, iQ b, iQ c, iQ d] 37 true] R ((.cells p [iQ ((ds.length : Nat) : Int), .map (some mp)] 65 true) :: (.gen (mapE mp (pmsV (keysP (liveP ds))) true)) :: (.gen (allE 67 81 48 (liveP ds))) :: (.cells b1 [iQ a, iQ b, iQ c, iQ d] 37 true) :: R) rfl rfl rfl 4 rfl (by decide) ?_
  refine cG (d := 14) (α := Unit) (fun x_ => .tuple #[iQ (findP ds id), iQ (fndE ds id 5)]) (fun x_ => ((.cells p [iQ ((ds.length : Nat) : Int), .map (some mp)] 65 true) :: (.gen (mapE mp (pmsV (keysP (liveP ds))) true)) :: (.gen (allE 67 81 48 (liveP ds))) :: (.cells b1 [iQ a, iQ b, iQ c, iQ d] 37 true) :: R)) (fun x_ => True) (fun w hT => (poolFind p mp ds id _ ((.cells b1 [iQ a, iQ b, iQ c, iQ d] 37 true) :: R) _ w hT hok).mono fun e w' ⟨he_, ht_⟩ => ⟨(), he_, trivial, ht_⟩) ?_
  rintro ⟨⟩ -
  refine cont_pickT [3, 0, 1, 2] [.cells p [iQ ((ds.length : Nat) : Int), .map (some mp)] 65 true, .gen (mapE mp (pmsV (keysP (liveP ds))) true), .gen (allE 67 81 48 (liveP ds)), .cells b1 [iQ a, iQ b, iQ c, iQ d] 37 true] [.cells b1 [iQ a, iQ b, iQ c, iQ d] 37 true, .cells p [iQ ((ds.length : Nat) : Int), .map (some mp)] 65 true, .gen (mapE mp (pmsV (keysP (liveP ds))) true), .gen (allE 67 81 48 (liveP ds))] R ((.cells b1 [iQ a, iQ b, iQ c, iQ d] 37 true) :: (.cells p [iQ ((ds.length : Nat) : Int), .map (some mp)] 65 true) :: (.gen (mapE mp (pmsV (keysP (liveP ds))) true)) :: (.gen (allE 67 81 48 (liveP ds))) :: R) rfl rfl rfl 4 rfl (by decide) ?_
  refine cM ?_
  refine bD [0, 0, 0, 0, 0] 8 0 [(9, iQ (findP ds id)), (10, iQ (fndE ds id 5))] [11, 15, 16] <| zDN <| cSq <| cont_block <| zSR 3 <| rC 10 (iQ 5) rfl (congrArg (Value.int .i64) (fndE_no hf)) <| bD [0, 0, 0] 3 0 [(17, .bool true)] [18, 19] <| zDN <| cTr rfl <| zSR 2 <| bS [0, 0] 2 0 [(8, iQ 5)] <| fG 0 <| zDNr <| blk_ret <| then_ret ?_
  refine rA rfl 0 (iQ 5) fun w hT => ?_
  exact ⟨rfl, hT⟩
theorem poolWriteB (p mp : Nat) (ds : List PB) (id a b c d : Int) (A : Option Addr) (n cap : Nat) (ix : Nat) (x : PB) (B : Int) (R : List Ent) (w0 w : World) (hT0 : Tab w0 w ((.cells p [iQ ((ds.length : Nat) : Int), .map (some mp)] 65 true) :: (.gen (mapE mp (pmsV (keysP (liveP ds))) true)) :: (.gen (allE 67 81 48 (liveP ds))) :: R)) (hok : PoolOk ds B) (hix : ix < ds.length) (hx : x = dget ds ix) (hal : x.al = true) (hfk : findP ds id = (ix : Int)) (hz : 0 < x.hd) :
    Calls Try.prog 15 #[pT p, iQ id, .agg #[iQ a, iQ b, iQ c, iQ d], .slice A n cap] w fun e w' => e = .returned (iQ 8) ∧ Tab w0 w' ((.cells p [iQ ((ds.length : Nat) : Int), .map (some mp)] 65 true) :: (.gen (mapE mp (pmsV (keysP (liveP ds))) true)) :: (.gen (allE 67 81 48 (liveP ds))) :: R) := by
  refine enterB 44 [(0, pT p), (1, iQ id), (2, .agg #[iQ a, iQ b, iQ c, iQ d]), (3, .slice A n cap)] ((.cells p [iQ ((ds.length : Nat) : Int), .map (some mp)] 65 true) :: (.gen (mapE mp (pmsV (keysP (liveP ds))) true)) :: (.gen (allE 67 81 48 (liveP ds))) :: R) Try.func15 rfl Try.ntmps15 rfl (by kernel_rfl) hT0 ?_
  refine zSR 2 <| bW [0, 0] 2 0 (fun b1 => [(0, pT p), (1, iQ id), (3, .slice A n cap), (6, pT b1)]) (fun b1 => ((.cells b1 [iQ a, iQ b, iQ c, iQ d] 37 true) :: (.cells p [iQ ((ds.length : Nat) : Int), .map (some mp)] 65 true) :: (.gen (mapE mp (pmsV (keysP (liveP ds))) true)) :: (.gen (allE 67 81 48 (liveP ds))) :: R)) [0, 1, 3, 6] fun b1 => ?_
  refine zDNSR 8 <| bD [0, 0] 2 6 [(12, pT p), (13, iQ id)] [] <| pS 3 5 <| cont_pickT [1, 2, 3, 0] [.cells b1 [iQ a, iQ b, iQ c, iQ d] 37 true, .cells p [iQ ((ds.length : Nat) : Int), .map (some mp)] 65 true, .gen (mapE mp (pmsV (keysP (liveP ds))) true), .gen (allE 67 81 48 (liveP ds))] [.cells p [iQ ((ds.length : Nat) : Int), .map (some mp)] 65 true, .gen (mapE mp (pmsV (keysP (liveP ds))) true), .gen (allE 67 81 48 (liveP ds)), .cells b1 [iQ a, iQ b, iQ c, iQ d] 37 true] R ((.cells p [iQ ((ds.length : Nat) : Int), .map (some mp)] 65 true) :: (.gen (mapE mp (pmsV (keysP (liveP ds))) true)) :: (.gen (allE 67 81 48 (liveP ds))) :: (.cells b1 [iQ a, iQ b, iQ c, iQ d] 37 true) :: R) rfl rfl rfl 4 rfl (by decide) ?_
  refine cG (d := 14) (α := Unit) (fun x_ => .tuple #[iQ (findP ds id), iQ (fndE ds id 5)]) (fun x_ => ((.cells p [iQ ((ds.length : Nat) : Int), .map (some mp)] 65 true) :: (.gen (mapE mp (pmsV (keysP (liveP ds))) true)) :: (.gen (allE 67 81 48 (liveP ds))) :: (.cells b1 [iQ a, iQ b, iQ c, iQ d] 37 true) :: R)) (fun x_ => True) (fun w hT => (poolFind p mp ds id _ ((.cells b1 [iQ a, iQ b, iQ c, iQ d] 37 true) :: R) _ w hT hok).mono fun e w' ⟨he_, ht_⟩ => ⟨(), he_, trivial, ht_⟩) ?_
  rintro ⟨⟩ -
  refine cont_pickT [3, 0, 1, 2] [.cells p [iQ ((ds.length : Nat) : Int), .map (some mp)] 65 true, .gen (mapE mp (pmsV (keysP (liveP ds))) true), .gen (allE 67 81 48 (liveP ds)), .cells b1 [iQ a, iQ b, iQ c, iQ d] 37 true] [.cells b1 [iQ a, iQ b, iQ c, iQ d] 37 true, .cells p [iQ ((ds.length : Nat) : Int), .map (some mp)] 65 true, .gen (mapE mp (pmsV (keysP (liveP ds))) true), .gen (allE 67 81 48 (liveP ds))] R ((.cells b1 [iQ a, iQ b, iQ c, iQ d] 37 true) :: (.cells p [iQ ((ds.length : Nat) : Int), .map (some mp)] 65 true) :: (.gen (mapE mp (pmsV (keysP (liveP ds))) true)) :: (.gen (allE 67 81 48 (liveP ds))) :: R) rfl rfl rfl 4 rfl (by decide) ?_
  refine cM ?_
  refine bD [0, 0, 0, 0, 0] 8 0 [(9, iQ (findP ds id)), (10, iQ (fndE ds id 5))] [11, 15, 16] <| zDN <| cSq <| cont_block <| zSR 3 <| rC 9 (iQ ((ix : Nat) : Int)) rfl (congrArg (Value.int .i64) hfk) <| rC 10 (iQ 0) rfl (congrArg (Value.int .i64) (fndE_yes (by omega))) <| bD [0, 0, 0] 3 0 [(17, .bool false)] [18, 19] <| zDN <| cFa rfl <| zSR 11 <| cont_takeB 3 x (restP ds ix) rfl (takeP hix hx hal) ?_
  refine cM ?_
  have hhd := hok.hd _ (dget_mem hix)
  rw [← hx] at hhd
  refine bD [0, 0, 0, 4, 0] 5 6 [(25, .map (some mp)), (26, iQ ((ix : Nat) : Int))] [22, 23, 24] <| pS 6 5 <| sS 27 (Instr.lookup 63 (.map (some mp)) (iQ ((ix : Nat) : Int)) false) (pT x.b) (fun w hT => (run_lookup (z := .pointer none) (hT.ok 5 _ rfl) (kt := 3) (et := 68) (kf := .i64) (by kernel_rfl) (by kernel_rfl) (by kernel_rfl) ((ix : Nat) : Int)).trans (by rw [mget_yes hok hix hx hal]; rfl)) <| bD [0, 0, 0, 0, 0] 11 0 [(21, .bool (decide (x.hd > 0)))] [28, 29, 30, 31] <| zDN <| rC 21 (.bool true) rfl (congrArg Value.bool (decide_eq_true (by omega))) <| cTr rfl <| zSR 1 <| bS [0] 1 0 [(8, iQ 8)] <| fG 3 <| zDNr <| blk_ret <| then_ret <| cM ?_
  refine cont_putB 2 x (restP ds ix) (liveP ds) rfl (putP hix hx hal) ?_
  refine cM ?_
  refine rA rfl 0 (iQ 8) fun w hT => ?_
  exact ⟨rfl, hT⟩
theorem keysIter0 (kb mp : Nat) (es : Array MapEntry) (ck : Nat) (l : PmL) (hMF : MapFP es ck l) (w0 : World) {β : Type} (Inv : List Int → β → Prop) (Tr : β → List Ent) (Jx : World → Prop) (l_ : Nat) (e1 e2 : Ent) (w : World) (b0 : β) (hJx : ∀ w w', Jx w → Below w.heap.size w w' → Jx w') (hY : ∀ (pre : List Int) (x : Int) (b : β) W1 z, (z.wr = true → z.own = true) → Inv pre b → (pre ++ [x]).length ≤ l.length → Tab w0 W1 (z :: e1 :: e2 :: (.ro kb [.map (some mp)] 63) :: (roObjE mp (.map es ck)) :: (Tr b)) → YieldAt Fence.wide 0 Try.prog l_ #[iQ x] W1 fun e W' => (e = .returned (.bool true) ∧ ∃ b', Inv (pre ++ [x]) b' ∧ Tab w0 W' (z :: e1 :: e2 :: (.ro kb [.map (some mp)] 63) :: (roObjE mp (.map es ck)) :: (Tr b'))) ∨ (e = .returned (.bool false) ∧ Jx W')) (h0 : Inv [] b0) (hT0 : Tab w0 w (e1 :: e2 :: (.ro kb [.map (some mp)] 63) :: (roObjE mp (.map es ck)) :: (Tr b0))) :
    Calls Try.prog 40 #[.func (.yield l_) #[] #[], pT kb] w fun e W' => (∃ v, e = .returned v) ∧ ((∃ xs_ b', xs_.Perm (l.map Prod.fst) ∧ Inv xs_ b' ∧ Tab w0 W' (e1 :: e2 :: (.ro kb [.map (some mp)] 63) :: (roObjE mp (.map es ck)) :: (Tr b'))) ∨ Jx W') := by
  refine enterI 14 [(0, .func (.yield l_) #[] #[]), (1, pT kb)] (e1 :: e2 :: (.ro kb [.map (some mp)] 63) :: (roObjE mp (.map es ck)) :: (Tr b0)) Try.func40 rfl Try.ntmps40 rfl (by kernel_rfl) hT0 (fun _ h_ => by simp at h_) ?_
  refine mcont_seq ?_
  refine mcont_region 2 rfl (by kernel_rfl) ?_
  refine bD [2] 1 1 [(4, .map (some mp))] [] <| pS 2 0 <| sem_rangeP 5 (m := 3) (t := 63) (k := 3) (e := 68) (by kernel_rfl) (by kernel_rfl) ⟨_, rfl, fun _ h_ => h_⟩ (fun ri => ?_)
  refine cM ?_
  refine zDN <| mcont_block ?_
  refine mcont_loop (α := Array Nat × PmL × β) (fun x_ : Array Nat × PmL × β => IterPP es l x_.1 x_.2.1 ∧ Inv (x_.2.1.map Prod.fst) x_.2.2) (fun x_ : Array Nat × PmL × β => [(0, .func (.yield l_) #[] #[]), (5, pT ri)]) (fun x_ : Array Nat × PmL × β => ((objE ri (.mapIter (some mp) ck x_.1 ck)) :: e1 :: e2 :: (.ro kb [.map (some mp)] 63) :: (roObjE mp (.map es ck)) :: (Tr x_.2.2))) (fun x_ : Array Nat × PmL × β => l.length - x_.2.1.length) (#[], [], b0) (show IterPP es l (#[]) ([]) ∧ Inv (([]).map Prod.fst) (b0) from ⟨IterPP.start hMF, h0⟩) (by kernel_rfl) (by kernel_rfl) ?_
  rintro ⟨sn, dn, b⟩ hinv1_
  replace hinv1_ : IterPP es l sn dn ∧ Inv (dn.map Prod.fst) b := hinv1_
  refine cM ?_
  obtain ⟨hIP, hI⟩ := hinv1_
  have hil := hIP.len
  refine mcont_seq ?_
  refine mcont_region 2 rfl (by kernel_rfl) ?_
  refine pS 1 1 <| sem_nextP 6 (j := 0) (m := 4) (ty := 0) (by kernel_rfl) rfl ⟨_, rfl, fun _ h_ => h_⟩ hMF hIP (fun hpm => ?_) (fun xk_ vk_ sn2 hxm hIP2 hls => ?_)
  ·
    refine bD [0] 2 0 [(7, .bool false)] [] <| zDN <| mcont_seq ?_
    refine mcont_false rfl ?_
    refine mcont_exit ?_
    refine then_exit <| then_exit <| blk_exit ?_
    refine ret_none (.inr rfl) rfl (fun w hT => ?_)
    exact ⟨⟨_, rfl⟩, .inl ⟨dn.map Prod.fst, b, hpm.map _, hI, hT.drop (fun _ => rfl)⟩⟩
  ·
    refine cM ?_
    refine bD [0] 2 0 [(7, .bool true)] [] <| zDN <| mcont_seq ?_
    refine mcont_true rfl ?_
    refine mcont_skip ?_
    refine zN <| mcont_block ?_
    refine mcont_seq ?_
    refine mcont_region 3 rfl (by kernel_rfl) ?_
    refine pS 1 2 <| sS 8 (Instr.entry (pT ri)) (.tuple #[iQ xk_, pT vk_]) (fun w hT => run_entryP (hT.ok 0 _ rfl) (hT.ok 4 _ rfl) hMF hls) <| bD [0, 0] 3 0 [(3, iQ xk_)] [9] <| zDN <| mcont_seq ?_
    refine icont_region 4 rfl ?_
    refine pli_ops 2 2 2 rfl rfl (by kernel_rfl) ?_
    refine bD [0, 0] 2 0 [(10, .func (.yield l_) #[] #[]), (11, iQ xk_)] [] <| zDN <| pli_yield 12 3 1 rfl rfl (by kernel_rfl) (by kernel_rfl) (R := fun v_ w_ => (v_ = .bool true ∧ ∃ b_, Inv (dn.map Prod.fst ++ [xk_]) b_ ∧ Tab w0 w_ ((objE ri (.mapIter (some mp) ck sn2 ck)) :: e1 :: e2 :: (.ro kb [.map (some mp)] 63) :: (roObjE mp (.map es ck)) :: (Tr b_))) ∨ (v_ = .bool false ∧ Jx w_)) (fun w_ hT_ => YieldAt.weaken (hY (dn.map Prod.fst) xk_ b w_ _ (fun _ => rfl) hI (by have h_ := hIP2.len; rw [List.length_append, List.length_singleton] at h_; rw [List.length_append, List.length_map, List.length_singleton]; exact h_) hT_) (fun e_ w_ h_ => by rcases h_ with ⟨rfl, hh_⟩ | ⟨rfl, hh_⟩; exact ⟨_, rfl, .inl ⟨rfl, hh_⟩⟩; exact ⟨_, rfl, .inr ⟨rfl, hh_⟩⟩)) ?_
    rintro a_ w_ v_ ha_ hf_ (⟨rfl, b, hI, hT_⟩ | ⟨rfl, hJ⟩)
    ·
      refine Cont.go ?_ ha_ hf_ hT_
      refine cM ?_
      refine pli_ops 1 0 4 rfl rfl (by kernel_rfl) ?_
      refine bD [0] 4 0 [(13, .bool false)] [] <| zDN <| pli_done ?_
      refine zN <| mcont_false rfl ?_
      refine mcont_skip ?_
      refine blk_normal <| zN <| cA (sn2, dn ++ [(xk_, vk_)], b) (show IterPP es l (sn2) (dn ++ [(xk_, vk_)]) ∧ Inv ((dn ++ [(xk_, vk_)]).map Prod.fst) (b) from ⟨hIP2, by rw [List.map_append]; exact hI⟩) (show l.length - (dn ++ [(xk_, vk_)]).length < l.length - dn.length from by have h_ := hIP2.len; rw [List.length_append, List.length_singleton] at h_ ⊢; omega)
    ·
      refine Cont.go ?_ ha_ hf_ (Tab.start w_)
      refine cM ?_
      refine pli_ops 1 0 4 rfl rfl (by kernel_rfl) ?_
      refine bD [0] 4 0 [(13, .bool true)] [] <| zDN <| pli_done ?_
      refine zN <| mcont_true rfl ?_
      refine mcont_ret ?_
      refine blk_ret <| then_ret <| blk_ret ?_
      refine ret_none (.inl rfl) rfl (fun w hT => ?_)
      exact ⟨⟨_, rfl⟩, .inr (hJx _ _ hJ (hT.toBelow (fun i e h => by simp at h)))⟩
theorem keysIter (kb mp : Nat) (es : Array MapEntry) (ck : Nat) (l : PmL) (hMF : MapFP es ck l) (w0 : World) : IterC Try.prog 40 #[pT kb] (fun x_ : Int => #[iQ x_]) w0 [.ro kb [.map (some mp)] 63, roObjE mp (.map es ck)] (fun _ => []) (fun xs_ => xs_.Perm (l.map Prod.fst)) (fun p_ => p_.length ≤ l.length) :=
  fun Inv Tr Jx l_ e1 e2 W1 b0 hJx hY h0 hT => keysIter0 kb mp es ck l hMF w0 Inv Tr Jx l_ e1 e2 W1 b0 hJx hY h0 hT
theorem appSeq (kb mp : Nat) (es : Array MapEntry) (ck : Nat) (l : PmL) (w : World) (hT0 : Tab w w [.ro kb [.map (some mp)] 63, roObjE mp (.map es ck)]) (hMF : MapFP es ck l) (hlb : l.length ≤ 1000000) :
    Calls Try.prog 50 #[.slice none 0 0, .func (.func 40) #[] #[pT kb]] w fun e w' => ∃ (A_ : Option Addr) (g_ k_ cp_ : Nat) (xs_ : List Int), e = .returned (.slice A_ k_ cp_) ∧ xs_.Perm (l.map Prod.fst) ∧ Tab w w' [.gen (rowE (A_) g_ k_ cp_ 3 1 (iV xs_) true)] := by
  refine enterM 13 [(0, .slice none 0 0), (1, .func (.func 40) #[] #[pT kb])] [.ro kb [.map (some mp)] 63, roObjE mp (.map es ck)] Try.func50 rfl Try.ntmps50 rfl (by kernel_rfl) hT0 ?_
  refine zSR 2 <| bW [0, 0] 2 0 (fun b1 => [(1, .func (.func 40) #[] #[pT kb]), (2, pT b1)]) (fun b1 => [.cells b1 [.slice none 0 0] 22 true, .ro kb [.map (some mp)] 63, roObjE mp (.map es ck)]) [1, 2] fun b1 => ?_
  refine zDNSSR 1 <| bD [0] 1 0 [(6, .func (.func 40) #[] #[pT kb])] [] <| zDN <| cont_block <| cont_nilrow 3 1 ?_
  refine cM ?_
  refine cont_rowEq (k := .i64) 0 ([]) (([] : List Int)) rfl rfl ?_
  refine cont_pick [2, 3, 0, 1] [.ro kb [.map (some mp)] 63, roObjE mp (.map es ck), .gen (rowE (none) 0 0 0 3 1 (iV ([] : List Int)) true), .cells b1 [.slice none 0 0] 22 true] (by decide) rfl rfl ?_
  refine cont_rangeFunc (X := Int) (β := Option Addr × Nat × Nat × Nat × List Int) (γ := Unit) (gf := 40) (lb := #[pT kb]) (fun z_ : Int => #[iQ z_]) [.ro kb [.map (some mp)] 63, roObjE mp (.map es ck)] (fun z_ : Int => []) (fun xs_ => xs_.Perm (l.map Prod.fst)) (fun xs_ => xs_.length ≤ l.length) (fun (pre : List (Int)) (x_ : Option Addr × Nat × Nat × Nat × List Int) => x_.2.2.2.2 = pre) (fun x_ : Option Addr × Nat × Nat × Nat × List Int => [.gen (rowE (x_.1) x_.2.1 x_.2.2.1 x_.2.2.2.1 3 1 (iV x_.2.2.2.2) true), .cells b1 [.slice x_.1 x_.2.2.1 x_.2.2.2.1] 22 true]) (fun (_ : Code) (_ : Unit) => False) (fun x_ : Unit => []) (none, 0, 0, 0, ([] : List Int)) rfl (fun _ _ => rfl) (fun _ => rfl) (by kernel_rfl) (keysIter kb mp es ck l hMF _) rfl rfl ?_ ?_ ?_ ?_
  ·
    rintro l_ z3_ e3_ e3b_ e3q_ pre x ⟨A9, g9, k9, c9, xs9⟩ B_ hz_ hinv4_ hsp_ hB_
    replace hinv4_ : xs9 = pre := hinv4_
    replace hsp_ : (pre ++ [(x)]).length ≤ l.length := hsp_
    refine cM ?_
    refine mcont_region 1 rfl (by kernel_rfl) ?_
    refine bD [0] 1 0 [(5, iQ x)] [] <| zDN <| hB_ _ [z3_] [e3q_, .ro kb [.map (some mp)] 63, roObjE mp (.map es ck), .gen (rowE (A9) g9 k9 c9 3 1 (iV xs9) true), .cells b1 [.slice A9 k9 c9] 22 true] ?_
    refine cM ?_
    have hxs : xs9 = pre := hinv4_
    rw [List.length_append, List.length_singleton, ← hxs] at hsp_
    refine mcont_block ?_
    refine mcont_region 5 rfl (by kernel_rfl) ?_
    refine bW [6, 0, 0] 3 2 (fun b5 => [(2, pT b1), (8, .slice A9 k9 c9), (10, sL b5 1 1)]) (fun b5 => [.cells b5 [iQ x] 3 true, z3_, e3b_, e3q_, .ro kb [.map (some mp)] 63, roObjE mp (.map es ck), .gen (rowE (A9) g9 k9 c9 3 1 (iV xs9) true), .cells b1 [.slice A9 k9 c9] 22 true]) [2, 8, 10] fun b5 => ?_
    refine fI 6 k9 A9 g9 c9 xs9 rfl fun hr6_a hr6_l hr6_c hr6_m => ?_
    refine pS 4 1 <| sSW (α := Option Addr × Nat × Nat) 11 (Builtin.append_ #[22, 22] 22 #[.slice A9 k9 c9, sL b5 1 1]) (fun x_ => .slice x_.1 (k9 + 1) x_.2.2) (fun x_ => [.cells b5 [iQ x] 3 true, z3_, e3b_, e3q_, .ro kb [.map (some mp)] 63, roObjE mp (.map es ck), .gen (rowE (x_.1) x_.2.1 (k9 + 1) x_.2.2 3 1 (iV (xs9 ++ [x])) true), .cells b1 [.slice A9 k9 c9] 22 true]) (fun _ => True) (by kernel_rfl) (fun w hT => append_own (n' := (k9 + 1)) (z := iQ 0) hT (i := 6) (bytes := 8) rfl (by kernel_rfl) (by kernel_rfl) rfl (by decide) (by decide) (Rd.ofCells (vals := ivals .i64 [x]) (hT.ok 0 _ rfl) rfl rfl) (ivals_one .i64 [x]) (by omega) (ivals_append .i64 xs9 [x]) rfl) ?_
    rintro ⟨A7, g7, cp7⟩ -
    refine cM ?_
    refine fI 6 (k9 + 1) A7 g7 cp7 (xs9 ++ [x]) rfl fun hr8_a hr8_l hr8_c hr8_m => ?_
    refine bZ [7] 5 0 [] [.cells b5 [iQ x] 3 true, z3_, e3b_, e3q_, .ro kb [.map (some mp)] 63, roObjE mp (.map es ck), .gen (rowE (A7) g7 (k9 + 1) cp7 3 1 (iV (xs9 ++ [x])) true), .cells b1 [.slice A7 (k9 + 1) cp7] 22 true] <| fG 0 <| cDn <| blk_normal ?_
    refine rq_next (A7, g7, (k9 + 1), cp7, xs9 ++ [x]) (show (xs9 ++ [x]) = (pre ++ [x]) from (by rw [hxs])) rfl
  ·
    rintro D10_ xs_ ⟨A9, g9, k9, c9, xs9⟩ hS_ hinv9_
    replace hinv9_ : xs9 = xs_ := hinv9_
    replace hS_ : xs_.Perm (l.map Prod.fst) := hS_
    refine cM ?_
    have hxs : xs9 = xs_ := hinv9_
    refine blk_normal <| zN <| zSR 2 <| bS [4, 0] 2 0 [(4, .slice A9 k9 c9)] <| fG 4 <| zDNr <| mark_end 0 rfl (.inl rfl) ?_
    refine cM ?_
    refine rA rfl 0 (.slice A9 k9 c9) fun w hT => ?_
    replace hT := hT.erase 2 (fun e h hw => by cases h; first | rfl | cases hw)
    replace hT := hT.erase 1 (fun e h hw => by cases h; first | rfl | cases hw)
    replace hT := hT.erase 0 (fun e h hw => by cases h; first | rfl | cases hw)
    exact ⟨_, _, _, _, xs9, rfl, by rw [hxs]; exact hS_, hT⟩
  ·
    intro D_  c_ h_; exact h_.elim
  ·
    intro D_ id_ c_ h_; exact h_.elim
theorem collect12 (kb mp : Nat) (es : Array MapEntry) (ck : Nat) (l : PmL) (w : World) (hT0 : Tab w w [.ro kb [.map (some mp)] 63, roObjE mp (.map es ck)]) (hMF : MapFP es ck l) (hlb : l.length ≤ 1000000) :
    Calls Try.prog 38 #[.func (.func 40) #[] #[pT kb]] w fun e w' => ∃ (A_ : Option Addr) (g_ k_ cp_ : Nat) (xs_ : List Int), e = .returned (.slice A_ k_ cp_) ∧ xs_.Perm (l.map Prod.fst) ∧ Tab w w' [.gen (rowE (A_) g_ k_ cp_ 3 1 (iV xs_) true)] := by
  refine eN [(0, .func (.func 40) #[] #[pT kb])] Try.func38 Try.ntmps38 rfl hT0 ?_
  refine zSR 1 <| bD [0] 1 0 [] [2] <| zDNSR 3 <| bS [0] 1 2 [(3, .func (.func 40) #[] #[pT kb])] <| pS 2 1 <| cG (d := 4) (α := Option Addr × Nat × Nat × Nat × List Int) (fun x_ => .slice x_.1 x_.2.2.1 x_.2.2.2.1) (fun x_ => [.gen (rowE (x_.1) x_.2.1 x_.2.2.1 x_.2.2.2.1 3 1 (iV x_.2.2.2.2) true), .ro kb [.map (some mp)] 63, roObjE mp (.map es ck)]) (fun x_ => x_.2.2.2.2.Perm (l.map Prod.fst)) (fun w hT => (appSeq kb mp es ck l w (hT.viewRo (.cons (i := 0) rfl Vw.ro (.cons (i := 1) rfl Vw.roObj .nil)) rfl) hMF (by omega)).mono fun e w' ⟨A1, g2, k3, cp4, xs5, he_, hf_, ht_⟩ => ⟨(A1, g2, k3, cp4, xs5), he_, hf_, hT.news ht_ rfl⟩) ?_
  rintro ⟨A1, g2, k3, cp4, xs5⟩ hf6_
  replace hf6_ : xs5.Perm (l.map Prod.fst) := hf6_
  refine cM ?_
  refine fI 0 k3 A1 g2 cp4 xs5 rfl fun hr7_a hr7_l hr7_c hr7_m => ?_
  refine bS [0] 3 0 [(2, .slice A1 k3 cp4)] <| zDNr <| rA rfl 0 (.slice A1 k3 cp4) fun w hT => ?_
  replace hT := hT.erase 2 (fun e h hw => by cases h; first | rfl | cases hw)
  replace hT := hT.erase 1 (fun e h hw => by cases h; first | rfl | cases hw)
  exact ⟨_, _, _, _, _, rfl, hf6_, hT⟩
theorem sorted12 (kb mp : Nat) (es : Array MapEntry) (ck : Nat) (l : PmL) (w : World) (hT0 : Tab w w [.ro kb [.map (some mp)] 63, roObjE mp (.map es ck)]) (hMF : MapFP es ck l) (hlb : l.length ≤ 1000000) :
    Calls Try.prog 25 #[.func (.func 40) #[] #[pT kb]] w fun e w' => ∃ (A_ : Option Addr) (g_ k_ cp_ : Nat), e = .returned (.slice A_ k_ cp_) ∧ Tab w w' [.gen (rowE (A_) g_ k_ cp_ 3 1 (iV (sortL (l.map Prod.fst))) true)] := by
  refine eN [(0, .func (.func 40) #[] #[pT kb])] Try.func25 Try.ntmps25 rfl hT0 ?_
  refine zSR 1 <| bD [0] 1 0 [] [2] <| zDNSR 3 <| bS [0] 1 2 [(4, .func (.func 40) #[] #[pT kb])] <| pS 2 1 <| cG (d := 5) (α := Option Addr × Nat × Nat × Nat × List Int) (fun x_ => .slice x_.1 x_.2.2.1 x_.2.2.2.1) (fun x_ => [.gen (rowE (x_.1) x_.2.1 x_.2.2.1 x_.2.2.2.1 3 1 (iV x_.2.2.2.2) true), .ro kb [.map (some mp)] 63, roObjE mp (.map es ck)]) (fun x_ => x_.2.2.2.2.Perm (l.map Prod.fst)) (fun w hT => (collect12 kb mp es ck l w (hT.viewRo (.cons (i := 0) rfl Vw.ro (.cons (i := 1) rfl Vw.roObj .nil)) rfl) hMF (by omega)).mono fun e w' ⟨A1, g2, k3, cp4, xs5, he_, hf_, ht_⟩ => ⟨(A1, g2, k3, cp4, xs5), he_, hf_, hT.news ht_ rfl⟩) ?_
  rintro ⟨A1, g2, k3, cp4, xs5⟩ hf6_
  replace hf6_ : xs5.Perm (l.map Prod.fst) := hf6_
  refine cM ?_
  refine fI 0 k3 A1 g2 cp4 xs5 rfl fun hr7_a hr7_l hr7_c hr7_m => ?_
  refine bS [0] 3 0 [(3, .slice A1 k3 cp4)] <| zDNSR 2 ?_
  have hpl9 := hf6_.length_eq
  rw [List.length_map] at hpl9
  refine bD [0] 1 1 [(6, .slice A1 k3 cp4)] [] <| pS 2 0 <| cG (d := 7) (α := Unit) (fun _ => .tuple #[]) (fun _ => [.gen (rowE (A1) g2 k3 cp4 3 1 (iV (sortL xs5)) true), .ro kb [.map (some mp)] 63, roObjE mp (.map es ck)]) (fun _ => True) (fun w hT => (sortRow A1 g2 k3 cp4 xs5 w (hT.view (.cons (i := 0) rfl Vw.row .nil) (by decide)) (by omega)).mono fun e w' ⟨he_, ht_⟩ => ⟨(), he_, trivial, hT.merge (N := []) (s := [0]) ht_ (.cons (i := 0) rfl Mg.row .nil) (by decide) (fun i e h => by simp at h)⟩) (fun _ _ => ?_)
  refine zDNSR 2 <| bS [0, 0] 2 0 [(2, .slice A1 k3 cp4)] <| zDNr <| rA rfl 0 (.slice A1 k3 cp4) fun w hT => ?_
  replace hT := hT.erase 2 (fun e h hw => by cases h; first | rfl | cases hw)
  replace hT := hT.erase 1 (fun e h hw => by cases h; first | rfl | cases hw)
  rw [sortL_perm hf6_] at hT
  exact ⟨_, _, _, _, rfl, hT⟩
theorem keysFn (mp : Nat) (w : World) :
    Calls Try.prog 26 #[.map (some mp)] w fun e w' => ∃ kb : Nat, e = .returned (.func (.func 40) #[] #[pT kb]) ∧ Tab w w' [.cells kb [.map (some mp)] 63 true] := by
  refine eN [(0, .map (some mp))] Try.func26 Try.ntmps26 rfl (Tab.start w) ?_
  refine zSR 2 <| bW [0, 0] 2 0 (fun b1 => [(1, pT b1)]) (fun b1 => [.cells b1 [.map (some mp)] 63 true]) [1] fun b1 => ?_
  refine zDNSR 2 <| bS [0, 0] 2 0 [(2, .func (.func 40) #[] #[pT b1])] <| zDNr <| rA rfl 0 (.func (.func 40) #[] #[pT b1]) fun w hT => ?_
  exact ⟨_, rfl, hT⟩
theorem poolThere (p mp : Nat) (ds : List PB) (R : List Ent) (w0 w : World) (hT0 : Tab w0 w ((.cells p [iQ ((ds.length : Nat) : Int), .map (some mp)] 65 true) :: (.gen (mapE mp (pmsV (keysP (liveP ds))) true)) :: (.gen (allE 67 81 48 (liveP ds))) :: R)) (hlb : ds.length ≤ 1000000) :
    Calls Try.prog 12 #[pT p] w fun e w' => ∃ (A_ : Option Addr) (g_ k_ cp_ : Nat), e = .returned (.slice A_ k_ cp_) ∧ Tab w0 w' ((.gen (rowE (A_) g_ k_ cp_ 3 1 (iV (sortL ((keysP (liveP ds)).map Prod.fst))) true)) :: (.cells p [iQ ((ds.length : Nat) : Int), .map (some mp)] 65 true) :: (.gen (mapE mp (pmsV (keysP (liveP ds))) true)) :: (.gen (allE 67 81 48 (liveP ds))) :: R) := by
  have hlb2 : (keysP (liveP ds)).length ≤ 1000000 := by unfold keysP liveP; rw [List.length_map]; exact Nat.le_trans (List.length_filter_le _ _) hlb
  refine enterB 9 [(0, pT p)] ((.cells p [iQ ((ds.length : Nat) : Int), .map (some mp)] 65 true) :: (.gen (mapE mp (pmsV (keysP (liveP ds))) true)) :: (.gen (allE 67 81 48 (liveP ds))) :: R) Try.func12 rfl Try.ntmps12 rfl (by kernel_rfl) hT0 ?_
  refine zSR 1 <| bD [0] 1 0 [] [2] <| zDNSR 7 <| cont_openMapP 1 (l := keysP (liveP ds)) rfl (fun es ck hMF => ?_)
  refine cM ?_
  refine bS [0, 0, 0, 0] 4 3 [(6, .map (some mp))] <| pS 5 2 <| cG (d := 7) (α := Nat) (fun x_ => .func (.func 40) #[] #[pT x_]) (fun x_ => ((.cells x_ [.map (some mp)] 63 true) :: (.cells p [iQ ((ds.length : Nat) : Int), .map (some mp)] 65 true) :: (objE mp (.map es ck)) :: (.gen (allE 67 81 48 (liveP ds))) :: R)) (fun x_ => True) (fun w hT => (keysFn mp w).mono fun e w' ⟨kb1, he_, ht_⟩ => ⟨kb1, he_, trivial, hT.news ht_ rfl⟩) ?_
  rintro kb1 hf2_
  refine cM ?_
  refine pS 6 1 <| cG (d := 8) (α := Option Addr × Nat × Nat × Nat) (fun x_ => .slice x_.1 x_.2.2.1 x_.2.2.2) (fun x_ => ((.gen (rowE (x_.1) x_.2.1 x_.2.2.1 x_.2.2.2 3 1 (iV (sortL ((keysP (liveP ds)).map Prod.fst))) true)) :: (.cells kb1 [.map (some mp)] 63 true) :: (.cells p [iQ ((ds.length : Nat) : Int), .map (some mp)] 65 true) :: (objE mp (.map es ck)) :: (.gen (allE 67 81 48 (liveP ds))) :: R)) (fun x_ => True) (fun w hT => (sorted12 kb1 mp es ck (keysP (liveP ds)) w (hT.viewRo (.cons (i := 0) rfl Vw.roc (.cons (i := 2) rfl Vw.objRo .nil)) rfl) hMF (by omega)).mono fun e w' ⟨A3, g4, k5, cp6, he_, ht_⟩ => ⟨(A3, g4, k5, cp6), he_, trivial, hT.news ht_ rfl⟩) ?_
  rintro ⟨A3, g4, k5, cp6⟩ hf7_
  refine cM ?_
  refine fI 0 k5 A3 g4 cp6 (sortL ((keysP (liveP ds)).map Prod.fst)) rfl fun hr8_a hr8_l hr8_c hr8_m => ?_
  refine bS [0] 7 0 [(2, .slice A3 k5 cp6)] <| fG 1 <| zDNr <| cont_closeMapP 2 (l := keysP (liveP ds)) rfl hMF ?_
  refine cM ?_
  refine rA rfl 0 (.slice A3 k5 cp6) fun w hT => ?_
  exact ⟨_, _, _, _, rfl, hT⟩
end Go.Proofs.Ytkfdmfclndaanaa
namespace Go.Proofs.Ytkfdmfclndaanaa
open Go Go.RowKit
theorem run_sliceArr {P : Program} {t e : TypeId} {g N sz : Nat} (hu : P.underlying t = some (.array N e)) (hi : (P.info? e).map (·.size) = some sz) (w : World) :
    (Instr.sliceAt t (.pointer (some ⟨g, 0, none⟩)) none none none).run P w = .ok (.slice (some ⟨g, 0, none⟩) N N) w := by
  have h1 : P.arrayLen t = N := by simp [Program.arrayLen, hu]
  have h2 : P.elem t = e := by simp [Program.elem, hu]
  obtain ⟨i, hi1, hi2⟩ := Option.map_eq_some_iff.1 hi
  rw [run_sliceAt_array_all w t ⟨g, 0, none⟩ (by rw [h1, h2]; exact hu), h1, h2]
  have ha : (⟨g, 0, none⟩ : Addr).add 0 = ⟨g, 0, none⟩ := by unfold Addr.add; split <;> simp_all
  simp [slicedAt, sizeOf, typeInfo, hi1, Sem.run_bind, ha]
theorem keysRow_len {ds : List PB} {k : Nat} (h : (sortL ((keysP (liveP ds)).map Prod.fst)).length = k) : (liveP ds).length = k := by
  rw [sortL_length, List.length_map] at h
  unfold keysP at h
  rwa [List.length_map] at h
def oneP (b : Nat) (id : Int) (m : Nat) (W H : Int) (q n : Nat) (hd : Int) (nm : Bool) : PB := ⟨0, b, id, nm, hd, m, W, H, q, n, List.replicate n 0⟩
theorem one_ok {b : Nat} {id : Int} {m : Nat} {W H : Int} {q n : Nat} {hd : Int} {nm : Bool} (hn : (n : Int) = W * H) (hg : 1 ≤ W ∧ W ≤ 256 ∧ 1 ≤ H ∧ H ≤ 256) (hh : 0 ≤ hd ∧ hd ≤ 9) : PoolOk [oneP b id m W H q n hd nm] 9 := by
  refine ⟨fun i hi => ?_, fun x hx y hy _ _ _ => ?_, fun x hx => ?_, fun x hx => ?_, fun x hx => ?_⟩
  · have : i = 0 := by simp at hi; omega
    subst this; rfl
  · rw [List.mem_singleton.1 hx, List.mem_singleton.1 hy]
  · rw [List.mem_singleton.1 hx]; exact imgOk_new hg hn
  · rw [List.mem_singleton.1 hx]; exact AllMay.rep n
  · rw [List.mem_singleton.1 hx]; exact hh
theorem one_al {b : Nat} {id : Int} {m : Nat} {W H : Int} {q n : Nat} {hd : Int} {nm : Bool} (h : nm = true ∨ 0 < hd) : (oneP b id m W H q n hd nm).al = true := by
  unfold PB.al oneP
  rcases h with h | h
  · simp [h]
  · simp [h]
theorem one_find {b : Nat} {id : Int} {m : Nat} {W H : Int} {q n : Nat} {hd : Int} : findP [oneP b id m W H q n hd true] id = ((0 : Nat) : Int) := by
  unfold findP hitB oneP
  simp
theorem one_few {x : PB} : (liveP [x]).length ≤ 1 := by
  unfold liveP; exact List.length_filter_le _ _
end Go.Proofs.Ytkfdmfclndaanaa
namespace Go.Proofs.Ytkfdmfclndaanaa
open Go Go.RowKit
set_option maxRecDepth 100000
set_option maxHeartbeats 8000000
theorem lives12 (w : World) :
    Calls Try.prog 13 #[] w fun e w' => e = .returned (.bool true) ∧ Below w.heap.size w w' := by
 refine eN [] Try.func13 Try.ntmps13 rfl (Tab.start w) ?_
 refine zSR 1 <| bS [0] 1 0 [] <| zDNSR 2 <| pS 1 1 <| cG (d := 7) (α := Nat × Nat) (fun x_ => .pointer (pB x_.1)) (fun x_ => [.cells x_.1 [iq ((([] : List PB).length : Nat) : Int), .map (some x_.2)] 65 true, .gen (mapE x_.2 (pmsV (keysP (liveP ([] : List PB)))) true), .gen (allE 67 81 48 (liveP ([] : List PB)))]) (fun x_ => True) (fun w hT => (poolNew  w).mono fun e w' ⟨p1, mp2, he_, ht_⟩ => ⟨(p1, mp2), he_, trivial, hT.news ht_ rfl⟩) ?_
 rintro ⟨p1, mp2⟩ hf3_
 refine bS [0] 2 0 [(1, .pointer (pB p1))] <| zDNSSR 2 <| bD [0, 0] 2 0 [(9, .bool false)] [8] <| zDNFKNSR 7 <| bD [0] 1 6 [(11, .pointer (pB p1))] [] <| pS 2 5 <| cG (d := 12) (α := Nat × Nat × Nat × Nat) (fun x_ => .tuple #[iq 0, iq 0]) (fun x_ => [.cells p1 [iq (((([] : List PB) ++ [newP ((([] : List PB).length : Nat) : Int) x_.1 5 x_.2.1 2 2 x_.2.2.1 x_.2.2.2]).length : Nat) : Int), .map (some mp2)] 65 true, .gen (mapE mp2 (pmsV (keysP (liveP (([] : List PB) ++ [newP ((([] : List PB).length : Nat) : Int) x_.1 5 x_.2.1 2 2 x_.2.2.1 x_.2.2.2])))) true), .gen (allE 67 81 48 (liveP (([] : List PB) ++ [newP ((([] : List PB).length : Nat) : Int) x_.1 5 x_.2.1 2 2 x_.2.2.1 x_.2.2.2])))]) (fun x_ => (x_.2.2.2 : Int) = 2 * 2) (fun w hT => (poolMakeY p1 mp2 ([] : List PB) 5 2 2 _ [] _ w hT (PoolOk.nil 0) rfl (by omega) (by decide)).mono fun e w' ⟨b4_, m5_, q6_, n7_, he_, hf_, ht_⟩ => ⟨(b4_, m5_, q6_, n7_), he_, hf_, ht_⟩) ?_
 rintro ⟨b4, m5, q6, n7⟩ hf8_
 replace hf8_ : (n7 : Int) = 2 * 2 := hf8_
 refine bD [0, 0, 0, 0, 0] 7 0 [(2, iq 0)] [3, 10, 13, 14] <| zDNSR 3 <| bD [0, 0] 2 1 [(15, .pointer (pB p1)), (16, iq 0)] [] <| pS 3 0 <| cG (d := 17) (α := Unit) (fun x_ => iq 0) (fun x_ => [.cells p1 [iq ((([oneP b4 5 m5 2 2 q6 n7 0 true].set 0 (PB.hold (oneP b4 5 m5 2 2 q6 n7 0 true))).length : Nat) : Int), .map (some mp2)] 65 true, .gen (mapE mp2 (pmsV (keysP (liveP ([oneP b4 5 m5 2 2 q6 n7 0 true].set 0 (PB.hold (oneP b4 5 m5 2 2 q6 n7 0 true)))))) true), .gen (allE 67 81 48 (liveP ([oneP b4 5 m5 2 2 q6 n7 0 true].set 0 (PB.hold (oneP b4 5 m5 2 2 q6 n7 0 true)))))]) (fun x_ => True) (fun w hT => (poolHoldY p1 mp2 [oneP b4 5 m5 2 2 q6 n7 0 true] 0 (oneP b4 5 m5 2 2 q6 n7 0 true) 9 [] _ w hT (one_ok hf8_ (by decide) (by omega)) (by decide) Nat.zero_lt_one rfl (one_al (.inl rfl))).mono fun e w' ⟨he_, ht_⟩ => ⟨(), he_, trivial, ht_⟩) ?_
 rintro ⟨⟩ -
 refine zDNSR 5 <| bW [0, 0, 0] 3 2 (fun b10 => [(1, .pointer (pB p1)), (2, iq 0), (18, .pointer (pB p1)), (19, .agg #[iq 0, iq 0, iq 1, iq 1]), (20, .slice (pB b10) 4 4)]) (fun b10 => [.cells b10 [.int .u8 0, .int .u8 0, .int .u8 0, .int .u8 0] 5 true, .cells p1 [iq (([oneP b4 5 m5 2 2 q6 n7 1 true].length : Nat) : Int), .map (some mp2)] 65 true, .gen (mapE mp2 (pmsV (keysP (liveP [oneP b4 5 m5 2 2 q6 n7 1 true]))) true), .gen (allE 67 81 48 (liveP [oneP b4 5 m5 2 2 q6 n7 1 true]))]) [1, 2, 18, 19, 20] fun b10 => ?_
 refine pS 4 1 <| cont_pick [1, 2, 3, 0] [.cells p1 [iq (([oneP b4 5 m5 2 2 q6 n7 1 true].length : Nat) : Int), .map (some mp2)] 65 true, .gen (mapE mp2 (pmsV (keysP (liveP [oneP b4 5 m5 2 2 q6 n7 1 true]))) true), .gen (allE 67 81 48 (liveP [oneP b4 5 m5 2 2 q6 n7 1 true])), .cells b10 [.int .u8 0, .int .u8 0, .int .u8 0, .int .u8 0] 5 true] (by decide) rfl rfl ?_
 refine cG (d := 21) (α := Unit) (fun x_ => iq 8) (fun x_ => [.cells p1 [iq (([oneP b4 5 m5 2 2 q6 n7 1 true].length : Nat) : Int), .map (some mp2)] 65 true, .gen (mapE mp2 (pmsV (keysP (liveP [oneP b4 5 m5 2 2 q6 n7 1 true]))) true), .gen (allE 67 81 48 (liveP [oneP b4 5 m5 2 2 q6 n7 1 true])), .cells b10 [.int .u8 0, .int .u8 0, .int .u8 0, .int .u8 0] 5 true]) (fun x_ => True) (fun w hT => (poolWriteB p1 mp2 [oneP b4 5 m5 2 2 q6 n7 1 true] 5 0 0 1 1 (pB b10) 4 4 0 (oneP b4 5 m5 2 2 q6 n7 1 true) 9 [.cells b10 [.int .u8 0, .int .u8 0, .int .u8 0, .int .u8 0] 5 true] _ w hT (one_ok hf8_ (by decide) (by omega)) Nat.zero_lt_one rfl (one_al (.inl rfl)) one_find (by show 0 < 1; omega)).mono fun e w' ⟨he_, ht_⟩ => ⟨(), he_, trivial, ht_⟩) ?_
 rintro ⟨⟩ -
 refine cont_pick [3, 0, 1, 2] [.cells b10 [.int .u8 0, .int .u8 0, .int .u8 0, .int .u8 0] 5 true, .cells p1 [iq (([oneP b4 5 m5 2 2 q6 n7 1 true].length : Nat) : Int), .map (some mp2)] 65 true, .gen (mapE mp2 (pmsV (keysP (liveP [oneP b4 5 m5 2 2 q6 n7 1 true]))) true), .gen (allE 67 81 48 (liveP [oneP b4 5 m5 2 2 q6 n7 1 true]))] (by decide) rfl rfl ?_
 refine bD [0] 5 0 [(4, iq 8)] [] <| fG 0 <| zDNSR 8 <| bD [0, 0] 2 6 [(23, .pointer (pB p1)), (24, iq 0)] [] <| pS 3 5 <| cG (d := 25) (α := Unit) (fun x_ => .tuple #[iq 5, .bool (1 - 1 == 0)]) (fun x_ => [.cells p1 [iq ((([oneP b4 5 m5 2 2 q6 n7 1 true].set 0 (PB.less (oneP b4 5 m5 2 2 q6 n7 1 true))).length : Nat) : Int), .map (some mp2)] 65 true, .gen (mapE mp2 (pmsV (keysP (liveP ([oneP b4 5 m5 2 2 q6 n7 1 true].set 0 (PB.less (oneP b4 5 m5 2 2 q6 n7 1 true)))))) true), .gen (allE 67 81 48 (liveP ([oneP b4 5 m5 2 2 q6 n7 1 true].set 0 (PB.less (oneP b4 5 m5 2 2 q6 n7 1 true)))))]) (fun x_ => True) (fun w hT => (poolLetY p1 mp2 [oneP b4 5 m5 2 2 q6 n7 1 true] 0 (oneP b4 5 m5 2 2 q6 n7 1 true) 9 [] _ w hT (one_ok hf8_ (by decide) (by omega)) (by decide) Nat.zero_lt_one rfl (one_al (.inl rfl)) (by show 0 < 1; omega)).mono fun e w' ⟨he_, ht_⟩ => ⟨(), he_, trivial, ht_⟩) ?_
 rintro ⟨⟩ -
 refine bD [0, 0, 0, 0, 0] 8 0 [(5, iq 5), (6, .bool (1 - 1 == 0))] [22, 26, 27] <| fG 0 <| zDNSR 10 <| bS [0, 0, 0, 0, 0, 0, 0, 0, 0, 0] 10 0 [(0, .bool (1 - 1 == 0))] <| zDNr <| rA rfl 0 (.bool (1 - 1 == 0)) fun w hT => ?_
 exact ⟨rfl, hT.post rfl⟩
end Go.Proofs.Ytkfdmfclndaanaa
