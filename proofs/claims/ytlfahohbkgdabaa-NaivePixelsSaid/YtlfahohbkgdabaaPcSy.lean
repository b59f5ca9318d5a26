/- The symbolic executor, second part: control, calls, results, regions that draw their order. Generic in the program. -/
import Derived.Test.YtlfahohbkgdabaaPcSx
import Derived.Deep.LoopGhost
import Derived.Tactics
set_option linter.unusedVariables false
set_option linter.unusedSimpArgs false
namespace Go.Proofs.Ytlfahohbkgdabaa
open Go Go.RowKit

section
variable {dfs : List Deferred} {P : Program} {Q : Exit → Act → World → Prop} {n : Nat} {w0 : World} {L : List (Nat × Value)} {T : List Ent}

theorem enter_lk {args : Array Value} {k : Nat} (hL : (L.map fun p => args[p.1]?) = (L.map fun p => some p.2)) : ∀ d v, lk L d = some v → (args ++ Array.replicate k undef)[d]? = some v := by
  intro d v hv
  have key : args[d]? = some v := by
    induction L with
    | nil => simp [lk] at hv
    | cons p r ih =>
      obtain ⟨d', v'⟩ := p
      simp only [List.map_cons, List.cons.injEq] at hL
      simp only [lk] at hv
      cases hbq : Nat.beq d' d with
      | true =>
        simp only [hbq, cond_true, Option.some.injEq] at hv
        subst hv
        have := Nat.eq_of_beq_eq_true hbq
        subst this
        exact hL.1
      | false =>
        simp only [hbq, cond_false] at hv
        exact ih hL.2 hv
  have hlt := (Array.getElem?_eq_some_iff.1 key).1
  show (args ++ _)[d]? = some v
  rw [Array.getElem?_append_left hlt]
  exact key

theorem enter {f : FuncId} {fn : Func} {c : Code} {args : Array Value} {w : World} {R : Ending → World → Prop} (n : Nat) (L : List (Nat × Value)) (T : List Ent) (hf : P.funcs[f]? = some fn) (hb : fn.body = some c) (hn : fn.ntmps = n) (hsz : Nat.ble args.size n = true)
    (hL : (L.map fun p => args[p.1]?) = (L.map fun p => some p.2)) (hT : Tab w w T) (h : Cont [] (c.wp P (bodyPost P fn R)) n w L T) : Calls P f args w R := by
  subst hn
  refine calls_of_wp hf hb (h _ _ rfl ⟨?_, ?_⟩ hT)
  · have := Nat.le_of_ble_eq_true hsz
    simp; omega
  · exact enter_lk hL

theorem cont_seq {x y : Code} (h : Cont dfs (x.wp P (Exit.then (y.wp P Q) Q)) n w0 L T) : Cont dfs ((Code.seq x y).wp P Q) n w0 L T :=
  fun a w ha hf hT => wp_seq (h a w ha hf hT)
theorem cont_region {id : Nat} {ops : Array Oper} (k : Nat) (hk : ops.size = k) (h : Cont dfs (PL P ops Q 0 k) n w0 L T) : Cont dfs ((Code.region id ops false).wp P Q) n w0 L T :=
  fun a w ha hf hT => wp_region (by
    have := h a w ha hf hT
    unfold PL at this
    rw [List.range_eq_range', hk]; exact this)
theorem cont_done {ops : Array Oper} {i : Nat} (h : Cont dfs (Q .normal) n w0 L T) : Cont dfs (PL P ops Q i 0) n w0 L T :=
  fun a w ha hf hT => by
    have := h a w ha hf hT
    simpa [PL, wpOps] using this
theorem then_normal {K : Act → World → Prop} (h : Cont dfs K n w0 L T) : Cont dfs (Exit.then K Q .normal) n w0 L T := h
theorem then_ret {K : Act → World → Prop} (h : Cont dfs (Q .ret) n w0 L T) : Cont dfs (Exit.then K Q .ret) n w0 L T := h
theorem then_exit {K : Act → World → Prop} {id : Nat} (h : Cont dfs (Q (.exit id)) n w0 L T) : Cont dfs (Exit.then K Q (.exit id)) n w0 L T := h
theorem blk_normal {id : Nat} (h : Cont dfs (Q .normal) n w0 L T) : Cont dfs (Exit.inBlock id Q .normal) n w0 L T := h
theorem blk_ret {id : Nat} (h : Cont dfs (Q .ret) n w0 L T) : Cont dfs (Exit.inBlock id Q .ret) n w0 L T := h
theorem blk_exit {id : Nat} (h : Cont dfs (Q .normal) n w0 L T) : Cont dfs (Exit.inBlock id Q (.exit id)) n w0 L T :=
  fun a w ha hf hT => by
    show (if id = id then Q .normal a w else Q (.exit id) a w)
    rw [if_pos rfl]; exact h a w ha hf hT
theorem cont_skip (h : Cont dfs (Q .normal) n w0 L T) : Cont dfs (Code.skip.wp P Q) n w0 L T := fun a w ha hf hT => wp_skip (h a w ha hf hT)
theorem cont_ret (h : Cont dfs (Q .ret) n w0 L T) : Cont dfs (Code.ret.wp P Q) n w0 L T := fun a w ha hf hT => wp_ret (h a w ha hf hT)
theorem cont_exit {id : Nat} (h : Cont dfs (Q (.exit id)) n w0 L T) : Cont dfs ((Code.exit id).wp P Q) n w0 L T := fun a w ha hf hT => wp_exit (h a w ha hf hT)
theorem cont_block {id : Nat} {c : Code} (h : Cont dfs (c.wp P (Exit.inBlock id Q)) n w0 L T) : Cont dfs ((Code.block id c).wp P Q) n w0 L T := fun a w ha hf hT => wp_block (h a w ha hf hT)

def knownB (L : List (Nat × Value)) (x : Operand) : Option Value :=
  match x with
  | .tmp t => lk L t
  | .const v => some v
  | _ => none
theorem knownB_eval {a : Act} (hf : FrOk n a.tmps L) {x : Operand} {v : Value} (h : knownB L x = some v) : a.eval x = v := by
  cases x with
  | tmp t =>
    have := hf.at_ t v h
    simp [Act.eval, Array.getD_eq_getD_getElem?, this]
  | const u => simpa [knownB, Act.eval] using h
  | global g => simp [knownB] at h
  | func f => simp [knownB] at h
theorem cont_true {c : Operand} {x y : Code} (hc : knownB L c = some (.bool true)) (h : Cont dfs (x.wp P Q) n w0 L T) : Cont dfs ((Code.cond c x y).wp P Q) n w0 L T :=
  fun a w ha hf hT => wp_cond_true (knownB_eval hf hc) (h a w ha hf hT)
theorem cont_false {c : Operand} {x y : Code} (hc : knownB L c = some (.bool false)) (h : Cont dfs (y.wp P Q) n w0 L T) : Cont dfs ((Code.cond c x y).wp P Q) n w0 L T :=
  fun a w ha hf hT => wp_cond_false (knownB_eval hf hc) (h a w ha hf hT)

/-- A slot that holds a Bool: both cases. -/
theorem cont_split {K : Act → World → Prop} (s : Nat) (b : Bool) (hs : lk L s = some (.bool b)) (ht : b = true → Cont dfs K n w0 ((s, .bool true) :: L) T) (hf : b = false → Cont dfs K n w0 ((s, .bool false) :: L) T) : Cont dfs K n w0 L T := by
  have frok : ∀ tmps, FrOk n tmps L → FrOk n tmps ((s, .bool b) :: L) := fun tmps h => ⟨h.size, fun d v hv => by
    simp only [lk] at hv
    cases hb : Nat.beq s d with
    | true =>
      simp only [hb, cond_true, Option.some.injEq] at hv
      subst hv
      have := Nat.eq_of_beq_eq_true hb
      subst this
      exact h.at_ _ _ hs
    | false =>
      simp only [hb, cond_false] at hv
      exact h.at_ _ _ hv⟩
  intro a w ha hfr hT
  cases b with
  | true => exact ht rfl a w ha (frok _ hfr) hT
  | false => exact hf rfl a w ha (frok _ hfr) hT
/-- A known slot, said otherwise. -/
theorem cont_recast {K : Act → World → Prop} (s : Nat) (v v' : Value) (hs : lk L s = some v) (hv : v = v') (h : Cont dfs K n w0 ((s, v') :: L) T) : Cont dfs K n w0 L T := by
  subst hv
  intro a w ha hfr hT
  refine h a w ha ⟨hfr.size, fun d u hu => ?_⟩ hT
  simp only [lk] at hu
  cases hb : Nat.beq s d with
  | true =>
    simp only [hb, cond_true, Option.some.injEq] at hu
    subst hu
    have := Nat.eq_of_beq_eq_true hb
    subst this
    exact hfr.at_ _ _ hs
  | false =>
    simp only [hb, cond_false] at hu
    exact hfr.at_ _ _ hu

/-! ### Loops -/
/-- What a round must come to. -/
def Again (dfs : List Deferred) {α : Type} (Inv : α → Prop) (Lf : α → List (Nat × Value)) (Tf : α → List Ent) (m : α → Nat) (n : Nat) (w0 : World) (x : α) : Act → World → Prop :=
  fun a w => ∃ y, Inv y ∧ m y < m x ∧ a.defers = dfs ∧ FrOk n a.tmps (Lf y) ∧ Tab w0 w (Tf y)

theorem cont_loop {α : Type} {body : Code} (Inv : α → Prop) (Lf : α → List (Nat × Value)) (Tf : α → List Ent) (m : α → Nat) (x0 : α) (hinv : Inv x0)
    (hL : ((Lf x0).map fun p => lk L p.1) = ((Lf x0).map fun p => some p.2)) (hTf : Tf x0 = T)
    (round : ∀ x, Inv x → Cont dfs (body.wp P (Exit.then (Again dfs Inv Lf Tf m n w0 x) Q)) n w0 (Lf x) (Tf x)) : Cont dfs ((Code.loop body).wp P Q) n w0 L T := by
  subst hTf
  intro a w ha hf hT
  refine wp_loop_ghost (fun k a' w' => ∃ x, m x = k ∧ Inv x ∧ a'.defers = dfs ∧ FrOk n a'.tmps (Lf x) ∧ Tab w0 w' (Tf x)) (m x0) ⟨x0, rfl, hinv, ha, hf.prune hL, hT⟩ ?_
  rintro k a' w' ⟨x, rfl, hx, ha', hf', hT'⟩
  refine Code.wp_mono (fun e a'' w'' h => ?_) (round x hx a' w' ha' hf' hT')
  cases e with
  | normal =>
    obtain ⟨y, h1, h2, h3, h4, h5⟩ := h
    exact ⟨m y, h2, y, rfl, h1, h3, h4, h5⟩
  | _ => exact h

theorem cont_again {α : Type} {Inv : α → Prop} {Lf : α → List (Nat × Value)} {Tf : α → List Ent} {m : α → Nat} {x : α} (y : α) (hinv : Inv y) (hm : m y < m x) (hL : ((Lf y).map fun p => lk L p.1) = ((Lf y).map fun p => some p.2)) (hT : Tf y = T) : Cont dfs (Again dfs Inv Lf Tf m n w0 x) n w0 L T := by
  subst hT
  exact fun a w ha hf hT => ⟨y, hinv, hm, ha, hf.prune hL, hT⟩

/-- The same slots and the same table in other words. -/
theorem cont_norm {K : Act → World → Prop} (L' : List (Nat × Value)) (T' : List Ent) (hL : (L'.map fun p => lk L p.1) = (L'.map fun p => some p.2)) (hT : T = T') (h : Cont dfs K n w0 L' T') : Cont dfs K n w0 L T := by
  subst hT
  exact fun a w ha hf hT => h a w ha (hf.prune hL) hT

/-! ### The end -/
def resE (P : Program) (L : List (Nat × Value)) : ResultVar → Sem Value
  | .tmp t => match lk L t with
    | some v => .pure v
    | none => stuck "a slot that is not known"
  | .cell a t => match lk L a with
    | some v => do loadVar t (← asAddr v)
    | none => stuck "a slot that is not known"
def resT (tmps : Array Value) : ResultVar → Sem Value
  | .tmp t => pure (tmps.getD t undef)
  | .cell a t => do loadVar t (← asAddr (tmps.getD a undef))
theorem resE_run {tmps : Array Value} (hf : FrOk n tmps L) (r : ResultVar) (h : Nat) (x : Value) (E : List (Nat × Nat)) (hs : semRead P (resE P L r) h T = some (x, E)) : resE P L r = resT tmps r := by
  cases r with
  | tmp t =>
    simp only [resE] at hs ⊢
    cases hl : lk L t with
    | none => rw [hl] at hs; simp [stuck, semRead] at hs
    | some v =>
      have := hf.at_ t v hl
      simp only [resT, Array.getD_eq_getD_getElem?, this, Option.getD_some]
      rfl
  | cell a t =>
    simp only [resE] at hs ⊢
    cases hl : lk L a with
    | none => rw [hl] at hs; simp [stuck, semRead] at hs
    | some v =>
      have := hf.at_ a v hl
      simp only [resT, Array.getD_eq_getD_getElem?, this, Option.getD_some]

def readB (P : Program) (L : List (Nat × Value)) (T : List Ent) (r : ResultVar) (h : Nat) : Option (Value × List (Nat × Nat)) := semRead P (resE P L r) h T
def readO (r : Value × List (Nat × Nat)) : Value × List Nat := (r.1, r.2.map Prod.fst)
def readW (v : Value) (r : Value × List (Nat × Nat)) : Value × List Nat := (v, r.2.map Prod.snd)

theorem readB_run {w : World} {tmps : Array Value} (hf : FrOk n tmps L) (hT : Tab w0 w T) {r : ResultVar} {h : Nat} {v : Value} (h1 : (readB P L T r h).isSome = true) (h2 : (readB P L T r h).map readO = (readB P L T r h).map (readW v)) : (resT tmps r).run P w = .ok v w := by
  obtain ⟨⟨x, E⟩, hr⟩ := Option.isSome_iff_exists.1 h1
  rw [hr] at h2
  simp only [Option.map_some, Option.some.injEq, readO, readW, Prod.mk.injEq] at h2
  obtain ⟨rfl, hE⟩ := h2
  rw [← resE_run (P := P) hf r h _ E hr]
  exact semRead_sound P _ h T w hT.ok _ E hr hE

theorem results_eq (fn : Func) (tmps : Array Value) : results fn tmps = (do let vs ← fn.results.mapM (resT tmps); pure (if h : vs.size = 1 then vs[0] else .tuple vs)) := by
  unfold results
  have : (fun x => match x with
    | ResultVar.tmp t => (pure (tmps.getD t undef) : Sem Value)
    | .cell a t => do loadVar t (← asAddr (tmps.getD a undef))) = resT tmps := by
    funext r; cases r <;> rfl
  rw [← this]
  rfl
theorem results_one {fn : Func} {r : ResultVar} (h : fn.results = #[r]) {tmps : Array Value} {w : World} {v : Value} (hr : (resT tmps r).run P w = .ok v w) : (results fn tmps).run P w = .ok v w := by
  rw [results_eq, h]
  simp [Sem.run_bind, hr]
theorem results_two {fn : Func} {r s : ResultVar} (h : fn.results = #[r, s]) {tmps : Array Value} {w : World} {v u : Value} (hr : (resT tmps r).run P w = .ok v w) (hs : (resT tmps s).run P w = .ok u w) : (results fn tmps).run P w = .ok (.tuple #[v, u]) w := by
  rw [results_eq, h]
  simp [Sem.run_bind, hr, hs]
theorem results_three {fn : Func} {r s q : ResultVar} (h : fn.results = #[r, s, q]) {tmps : Array Value} {w : World} {v u x : Value} (hr : (resT tmps r).run P w = .ok v w) (hs : (resT tmps s).run P w = .ok u w) (hq : (resT tmps q).run P w = .ok x w) : (results fn tmps).run P w = .ok (.tuple #[v, u, x]) w := by
  rw [results_eq, h]
  simp [Sem.run_bind, hr, hs, hq]

theorem ret_one {fn : Func} {R : Ending → World → Prop} {e : Exit} (he : e = .ret ∨ e = .normal) {r : ResultVar} (hres : fn.results = #[r]) (h : Nat) (v : Value) (h1 : (readB P L T r h).isSome = true) (h2 : (readB P L T r h).map readO = (readB P L T r h).map (readW v))
    (hR : ∀ w, Tab w0 w T → R (.returned v) w) : Cont [] (bodyPost P fn R e) n w0 L T := by
  intro a w ha hf hT
  have := results_one hres (readB_run hf hT h1 h2)
  rcases he with rfl | rfl <;> exact ⟨ha, _, this, hR w hT⟩
theorem ret_two {fn : Func} {R : Ending → World → Prop} {e : Exit} (he : e = .ret ∨ e = .normal) {r s : ResultVar} (hres : fn.results = #[r, s]) (h g : Nat) (v u : Value) (h1 : (readB P L T r h).isSome = true) (h2 : (readB P L T r h).map readO = (readB P L T r h).map (readW v)) (g1 : (readB P L T s g).isSome = true) (g2 : (readB P L T s g).map readO = (readB P L T s g).map (readW u))
    (hR : ∀ w, Tab w0 w T → R (.returned (.tuple #[v, u])) w) : Cont [] (bodyPost P fn R e) n w0 L T := by
  intro a w ha hf hT
  have := results_two hres (readB_run hf hT h1 h2) (readB_run hf hT g1 g2)
  rcases he with rfl | rfl <;> exact ⟨ha, _, this, hR w hT⟩
theorem ret_three {fn : Func} {R : Ending → World → Prop} {e : Exit} (he : e = .ret ∨ e = .normal) {r s q : ResultVar} (hres : fn.results = #[r, s, q]) (h g f : Nat) (v u x : Value) (h1 : (readB P L T r h).isSome = true) (h2 : (readB P L T r h).map readO = (readB P L T r h).map (readW v)) (g1 : (readB P L T s g).isSome = true) (g2 : (readB P L T s g).map readO = (readB P L T s g).map (readW u)) (f1 : (readB P L T q f).isSome = true) (f2 : (readB P L T q f).map readO = (readB P L T q f).map (readW x))
    (hR : ∀ w, Tab w0 w T → R (.returned (.tuple #[v, u, x])) w) : Cont [] (bodyPost P fn R e) n w0 L T := by
  intro a w ha hf hT
  have := results_three hres (readB_run hf hT h1 h2) (readB_run hf hT g1 g2) (readB_run hf hT f1 f2)
  rcases he with rfl | rfl <;> exact ⟨ha, _, this, hR w hT⟩
/-! ### Calls -/
/-- The operation, without the world: what it comes to. -/
def semPure {α : Type} (P : Program) : Sem α → Option α
  | .pure x => some x
  | .program k => semPure P (k P)
  | .mark _ k => semPure P k
  | _ => none
theorem semPure_sound {α : Type} (P : Program) (s : Sem α) : ∀ x, semPure P s = some x → ∀ w, s.run P w = .ok x w := by
  induction s with
  | pure y => intro x h w; simp only [semPure, Option.some.injEq] at h; subst h; rfl
  | program k ih => intro x h w; simp only [semPure] at h; have := ih P x h w; simp only [Sem.run]; exact this
  | mark mk k ih => intro x h w; simp only [semPure] at h; have := ih x h w; simp only [Sem.run]; exact this
  | load md a k ih => intro x h; simp [semPure] at h
  | store md a v k ih => intro x h; simp [semPure] at h
  | new o k ih => intro x h; simp [semPure] at h
  | shape r k ih => intro x h; simp [semPure] at h
  | freeze a n k ih => intro x h; simp [semPure] at h
  | frozen a k ih => intro x h; simp [semPure] at h
  | getObj r k ih => intro x h; simp [semPure] at h
  | setObj r o k ih => intro x h; simp [semPure] at h
  | choose q k ih => intro x h; simp [semPure] at h
  | sys c k ih => intro x h; simp [semPure] at h
  | halt h' => intro x h; simp [semPure] at h

/-- A call that is wanted: where its result goes, the function, the arguments. -/
def callB (P : Program) (ops : Array Oper) (n i : Nat) (L : List (Nat × Value)) : Option (Option Tmp × FuncId × Array Value) :=
  match ops[i]? with
  | none => none
  | some o =>
    match wantB ops o L with
    | some true =>
      bif knows L o then
        match semPure P (execOp (evL L) o) with
        | some (.enter f args) =>
          match o.dst with
          | none => some (none, f, args)
          | some d => bif Nat.blt d n then some (some d, f, args) else none
        | _ => none
      else none
    | _ => none

def putD (dst : Option Tmp) (v : Value) (L : List (Nat × Value)) : List (Nat × Value) :=
  match dst with
  | none => L
  | some d => (d, v) :: L

theorem call_core {ops : Array Oper} {i : Nat} {K : Act → World → Prop} {dst : Option Tmp} {f : FuncId} {args : Array Value} (H : callB P ops n i L = some (dst, f, args))
    (hc : ∀ w, Tab w0 w T → Calls P f args w fun e w' => ∃ v T', e = .returned v ∧ Tab w0 w' T' ∧ Cont dfs K n w0 (putD dst v L) T') : Cont dfs (wpOp P ops Q i K) n w0 L T := by
  intro a w ha hf hT
  unfold callB at H
  unfold wpOp
  split at H
  · cases H
  · rename_i o ho
    simp only [ho]
    split at H
    · rename_i hw
      have hw' := wantB_sound hf hw
      simp only [hw', if_true]
      cases hkn : knows L o with
      | false => simp [hkn] at H
      | true =>
        simp only [hkn, cond_true] at H
        refine .inl ?_
        unfold Oper.wp
        rw [execOp_evL hf hkn]
        split at H
        · rename_i f' args' hp
          rw [semPure_sound P _ _ hp w]
          have hd : o.dst = dst ∧ f' = f ∧ args' = args ∧ (∀ d, dst = some d → d < n) := by
            cases hdst : o.dst with
            | none => simp only [hdst, Option.some.injEq, Prod.mk.injEq] at H; obtain ⟨rfl, rfl, rfl⟩ := H; exact ⟨rfl, rfl, rfl, fun d h => by cases h⟩
            | some d =>
              simp only [hdst] at H
              cases hb : Nat.blt d n with
              | false => simp [hb] at H
              | true =>
                simp only [hb, cond_true, Option.some.injEq, Prod.mk.injEq] at H
                obtain ⟨rfl, rfl, rfl⟩ := H
                exact ⟨rfl, rfl, rfl, fun d' h => by cases h; simpa using hb⟩
          obtain ⟨hd1, rfl, rfl, hd4⟩ := hd
          refine (hc w hT).mono ?_
          rintro e w' ⟨v, T', rfl, hT', hK⟩
          show K (a.put o.dst v) w'
          refine hK _ _ (by rw [put_defers]; exact ha) ?_ hT'
          rw [hd1]
          cases dst with
          | none => exact hf
          | some d => exact hf.put (hd4 d rfl) v
        · cases H
    · cases H

/-- A call that makes memory at most, and gives a value that is known. -/
theorem call_pure {ops : Array Oper} {i : Nat} {K : Act → World → Prop} {d : Tmp} {f : FuncId} {args : Array Value} (v : Value) (H : callB P ops n i L = some (some d, f, args))
    (hc : ∀ w, Tab w0 w T → Calls P f args w fun e w' => e = .returned v ∧ Below w.heap.size w w') (hk : Cont dfs K n w0 ((d, v) :: L) T) : Cont dfs (wpOp P ops Q i K) n w0 L T :=
  call_core H fun w hT => (hc w hT).mono fun e w' ⟨he, hb⟩ => ⟨v, T, he, hT.below hb, hk⟩
theorem call_gen {ops : Array Oper} {i : Nat} {K : Act → World → Prop} {d : Tmp} {f : FuncId} {args : Array Value} {α : Type} (v : α → Value) (T' : α → List Ent) (G : α → Prop) (H : callB P ops n i L = some (some d, f, args))
    (hc : ∀ w, Tab w0 w T → Calls P f args w fun e w' => ∃ x, e = .returned (v x) ∧ G x ∧ Tab w0 w' (T' x)) (hk : ∀ x, G x → Cont dfs K n w0 ((d, v x) :: L) (T' x)) : Cont dfs (wpOp P ops Q i K) n w0 L T :=
  call_core H fun w hT => (hc w hT).mono fun e w' ⟨x, he, hg, hT'⟩ => ⟨v x, T' x, he, hT', hk x hg⟩
theorem pl_step {ops : Array Oper} {i k : Nat} (i' k' : Nat) (hi : i' = i + 1) (hkk : k = k' + 1) (h : Cont dfs (wpOp P ops Q i (PL P ops Q i' k')) n w0 L T) : Cont dfs (PL P ops Q i k) n w0 L T := by
  subst hi; subst hkk
  intro a w ha hf hT
  rw [PL_succ]
  exact h a w ha hf hT

/-! ### A single operation by the table -/
theorem one_step {ops : Array Oper} {i : Nat} {K : Act → World → Prop} (h : Nat) (L' : List (Nat × Value)) (T' : List Ent)
    (h1 : (stepB P ops n i h [] L T).isSome = true)
    (h2 : (stepB P ops n i h [] L T).map (outB (L'.map Prod.fst)) = (stepB P ops n i h [] L T).map (wishB (L'.map Prod.snd) T'))
    (hk : Cont dfs K n w0 L' T') : Cont dfs (wpOp P ops Q i K) n w0 L T := by
  intro a w ha hf hT
  obtain ⟨⟨L1, T1, fs1, E1⟩, hr⟩ := Option.isSome_iff_exists.1 h1
  rw [hr] at h2
  simp only [Option.map_some, Option.some.injEq, outB, wishB, Prod.mk.injEq] at h2
  obtain ⟨hL, hTT, _, hE⟩ := h2
  refine stepB_sound (m := 0) ha hf hT (by simpa using hr) hE (fun a' w' m' ha' hf' hT' _ => hk a' w' ha' (hf'.prune ?_) (hTT ▸ hT'))
  simpa [List.map_map, Function.comp_def] using hL
theorem one_step1 {ops : Array Oper} {i : Nat} {K : Act → World → Prop} (h : Nat) (L' : Nat → List (Nat × Value)) (T' : Nat → List Ent)
    (h1 : ∀ b, (stepB P ops n i h [b] L T).isSome = true)
    (h2 : ∀ b, (stepB P ops n i h [b] L T).map (outB ((L' b).map Prod.fst)) = (stepB P ops n i h [b] L T).map (wishB ((L' b).map Prod.snd) (T' b)))
    (hk : ∀ b, Cont dfs K n w0 (L' b) (T' b)) : Cont dfs (wpOp P ops Q i K) n w0 L T := by
  intro a w ha hf hT
  have h1 := h1 w.heap.size
  have h2 := h2 w.heap.size
  obtain ⟨⟨L1, T1, fs1, E1⟩, hr⟩ := Option.isSome_iff_exists.1 h1
  rw [hr] at h2
  simp only [Option.map_some, Option.some.injEq, outB, wishB, Prod.mk.injEq] at h2
  obtain ⟨hL, hTT, _, hE⟩ := h2
  refine stepB_sound (m := 1) ha hf hT (by simpa using hr) hE (fun a' w' m' ha' hf' hT' _ => hk w.heap.size a' w' ha' (hf'.prune ?_) (hTT ▸ hT'))
  simpa [List.map_map, Function.comp_def] using hL

/-! ### A region that draws its order -/
def marked (m : Nat) (l : List Nat) : Array Bool := l.foldr (fun i a => a.setIfInBounds i true) (Array.replicate m false)
def AH (P : Program) (ops : Array Oper) (Q : Exit → Act → World → Prop) (S : World → Prop) (m fuel : Nat) (l : List Nat) : Act → World → Prop := wpAnyH P .any ops Q S fuel (marked m l)
def triv : Ent := .gen { blk := fun _ => False, wr := false, own := false, ok := fun _ => True, stable := fun _ _ _ _ => trivial, inb := fun _ _ _ h => h.elim }
def dropT (ds : List Nat) (T : List Ent) : List Ent := ds.foldl (fun T i => T.set i triv) T
def PanicOk (Q : Exit → Act → World → Prop) : Prop := ∀ c a d v w, Q (.panic c) (a.put d v) w → Q (.panic c) a w
theorem pok_body {fn : Func} {R : Ending → World → Prop} : PanicOk (bodyPost P fn R) := fun c a d v w h => by
  simp only [bodyPost, put_defers] at h ⊢; exact h
theorem pok_then {K : Act → World → Prop} (h : PanicOk Q) : PanicOk (Exit.then K Q) := fun c a d v w hh => h c a d v w hh
theorem pok_blk {id : Nat} (h : PanicOk Q) : PanicOk (Exit.inBlock id Q) := fun c a d v w hh => h c a d v w hh

theorem known_triv {w : World} {T : List Ent} (h : Known w T) (i : Nat) : Known w (T.set i triv) := by
  intro j e hj
  rcases getElem?_set_cases _ _ _ _ _ hj with ⟨_, rfl⟩ | ⟨_, hj⟩
  · trivial
  · exact h j e hj
theorem known_dropT {w : World} : ∀ (ds : List Nat) (T : List Ent), Known w T → Known w (dropT ds T) := by
  intro ds
  induction ds with
  | nil => intro T h; exact h
  | cons d ds ih => intro T h; exact ih _ (known_triv h d)
theorem known_drop {w : World} {T : List Ent} (s : Nat) (h : Known w T) : Known w (T.drop s) := by
  intro i e hi
  rw [List.getElem?_drop] at hi
  exact h _ e hi

theorem drawn_enter {id : Nat} {ops : Array Oper} (m : Nat) (ds : List Nat) (hm : ops.size = m) (hmix : P.follows .mixedOrders = true) (h : Cont dfs (AH P ops Q (fun w => Known w (dropT ds T)) m m []) n w0 L T) : Cont dfs ((Code.region id ops true).wp P Q) n w0 L T := by
  intro a w ha hf hT
  refine wp_region_held hmix (S := fun w => Known w (dropT ds T)) ?_
  have := h a w.drew ha hf hT.drew
  unfold AH marked at this
  rw [hm]
  exact this

def runT (P : Program) (ops : Array Oper) (n m : Nat) (T0 : List Ent) : List (Nat × Nat) → List Nat → List (Nat × Value) → Option (List (Nat × Value) × List (Nat × Nat))
  | [], _, L => some (L, [])
  | (i, h) :: r, l, L =>
    match ops[i]? with
    | none => none
    | some o =>
      bif Region.free .any ops (marked m l) i && (Region.ready .any ops (marked m l)).contains i then
        match wantB ops o L with
        | some true =>
          bif knows L o then
            match semRead P (execOp (evL L) o) h T0 with
            | some (.value v, E) => (putL n o.dst v L).bind fun L' => (runT P ops n m T0 r (i :: l) L').map fun x => (x.1, E ++ x.2)
            | _ => none
          else none
        | some false => (putL n o.dst undef L).bind fun L' => (runT P ops n m T0 r (i :: l) L')
        | none => none
      else none

def markT (st : List (Nat × Nat)) (l : List Nat) : List Nat := (st.map Prod.fst).reverse ++ l

theorem runT_sound {ops : Array Oper} {m fuel : Nat} {T0 : List Ent} (hns : Region.noSelect ops = true) (hpo : PanicOk Q) : ∀ (st : List (Nat × Nat)) (l : List Nat) (L L' : List (Nat × Value)) (E : List (Nat × Nat)) (a : Act) (w : World),
    a.defers = dfs → FrOk n a.tmps L → Known w T0 → runT P ops n m T0 st l L = some (L', E) → eqs E →
    (∀ a', a'.defers = dfs → FrOk n a'.tmps L' → AH P ops Q (fun w => Known w T0) m fuel (markT st l) a' w) → AH P ops Q (fun w => Known w T0) m (st.length + fuel) l a w := by
  intro st
  induction st with
  | nil =>
    intro l L L' E a w ha hf hT hr hE hK
    simp only [runT, Option.some.injEq, Prod.mk.injEq] at hr
    obtain ⟨rfl, rfl⟩ := hr
    have := hK a ha hf
    simpa [markT] using this
  | cons p st ih =>
    obtain ⟨i, h⟩ := p
    intro l L L' E a w ha hf hT hr hE hK
    have ef : ((i, h) :: st).length + fuel = (st.length + fuel) + 1 := by simp; omega
    rw [ef]
    simp only [runT] at hr
    split at hr
    · cases hr
    · rename_i o ho
      cases hfr : (Region.free .any ops (marked m l) i && (Region.ready .any ops (marked m l)).contains i) with
      | false => simp only [hfr, cond_false] at hr; cases hr
      | true =>
        simp only [hfr, cond_true] at hr
        simp only [Bool.and_eq_true] at hfr
        split at hr
        · rename_i hw
          cases hkn : knows L o with
          | false => simp [hkn] at hr
          | true =>
            simp only [hkn, cond_true] at hr
            split at hr
            · rename_i v E1 hs
              simp only [Option.bind_eq_some_iff, Option.map_eq_some_iff, Prod.mk.injEq] at hr
              obtain ⟨L1, hL1, ⟨L2, E2⟩, hr, rfl, rfl⟩ := hr
              obtain ⟨hE1, hE2⟩ := eqs_append hE
              refine wpAnyH_take (i := i) (oi := o) (v := v) ho hns hfr.1 hfr.2 (fun c a' w' hq => hpo c a' _ _ w' hq) (.inl ⟨wantB_sound hf hw, fun w' hw' => ?_⟩) hT ?_
              · rw [execOp_evL hf hkn]
                exact semRead_sound P _ h T0 w' hw' _ E1 hs hE1
              · refine ih (i :: l) L1 _ _ (a.put o.dst v) w (by rw [put_defers]; exact ha) (putL_sound hf hL1) hT hr hE2 (fun a' ha' hf' => ?_)
                have := hK a' ha' hf'
                simpa [markT] using this
            · cases hr
        · rename_i hw
          simp only [Option.bind_eq_some_iff] at hr
          obtain ⟨L1, hL1, hr⟩ := hr
          refine wpAnyH_take (i := i) (oi := o) (v := undef) ho hns hfr.1 hfr.2 (fun c a' w' hq => hpo c a' _ _ w' hq) (.inr ⟨wantB_sound hf hw, rfl⟩) hT ?_
          refine ih (i :: l) L1 _ _ (a.put o.dst undef) w (by rw [put_defers]; exact ha) (putL_sound hf hL1) hT hr hE (fun a' ha' hf' => ?_)
          have := hK a' ha' hf'
          simpa [markT] using this
        · cases hr

def outT (keys : List Nat) (r : List (Nat × Value) × List (Nat × Nat)) : List (Option Value) × List Nat := (keys.map (lk r.1), r.2.map Prod.fst)
def wishT (vals : List Value) (r : List (Nat × Value) × List (Nat × Nat)) : List (Option Value) × List Nat := (vals.map some, r.2.map Prod.snd)

/-- S holds by the table: what stands behind the first s entries, but for those that the region writes. -/
theorem takes {ops : Array Oper} {m fuel : Nat} {l : List Nat} {T0 : List Ent} (s : Nat) (ds : List Nat) (st : List (Nat × Nat)) (fuel' : Nat) (l' : List Nat) (L' : List (Nat × Value)) (hns : Region.noSelect ops = true) (hpo : PanicOk Q)
    (hS : dropT ds (T.drop s) = T0) (hfu : fuel = st.length + fuel') (hl : markT st l = l')
    (h1 : (runT P ops n m T0 st l L).isSome = true)
    (h2 : (runT P ops n m T0 st l L).map (outT (L'.map Prod.fst)) = (runT P ops n m T0 st l L).map (wishT (L'.map Prod.snd)))
    (hk : Cont dfs (AH P ops Q (fun w => Known w T0) m fuel' l') n w0 L' T) : Cont dfs (AH P ops Q (fun w => Known w T0) m fuel l) n w0 L T := by
  subst hfu; subst hl
  intro a w ha hf hT
  obtain ⟨⟨L1, E1⟩, hr⟩ := Option.isSome_iff_exists.1 h1
  rw [hr] at h2
  simp only [Option.map_some, Option.some.injEq, outT, wishT, Prod.mk.injEq] at h2
  obtain ⟨hL, hE⟩ := h2
  have hkn : Known w T0 := by rw [← hS]; exact known_dropT ds _ (known_drop s hT.ok)
  refine runT_sound hns hpo st l L L1 E1 a w ha hf hkn hr hE (fun a' ha' hf' => hk a' w ha' (hf'.prune ?_) hT)
  simpa [List.map_map, Function.comp_def] using hL

theorem drawn_one {ops : Array Oper} {m fuel : Nat} {l : List Nat} {S : World → Prop} (i fuel' : Nat) (hf : fuel = fuel' + 1) (hr : Region.ready .any ops (marked m l) = [i])
    (h : Cont dfs (wpOp P ops Q i (fun a w => S w ∧ AH P ops Q S m fuel' (i :: l) a w)) n w0 L T) : Cont dfs (AH P ops Q S m fuel l) n w0 L T := by
  subst hf
  intro a w ha hfr hT
  refine wpAnyH_all hr (by simp) (fun j hj => ?_)
  have hji : j = i := by simpa using hj
  subst hji
  exact h a w ha hfr hT
theorem drawn_two {ops : Array Oper} {m fuel : Nat} {l : List Nat} {S : World → Prop} (i j fuel' : Nat) (hf : fuel = fuel' + 1) (hr : Region.ready .any ops (marked m l) = [i, j])
    (h : Cont dfs (wpOp P ops Q i (fun a w => S w ∧ AH P ops Q S m fuel' (i :: l) a w)) n w0 L T)
    (h' : Cont dfs (wpOp P ops Q j (fun a w => S w ∧ AH P ops Q S m fuel' (j :: l) a w)) n w0 L T) : Cont dfs (AH P ops Q S m fuel l) n w0 L T := by
  subst hf
  intro a w ha hfr hT
  refine wpAnyH_all hr (by simp) (fun q hq => ?_)
  simp only [List.mem_cons, List.not_mem_nil, or_false] at hq
  rcases hq with rfl | rfl
  · exact h a w ha hfr hT
  · exact h' a w ha hfr hT
theorem drawn_next {K : Act → World → Prop} {T0 : List Ent} (s : Nat) (ds : List Nat) (hS : dropT ds (T.drop s) = T0) (h : Cont dfs K n w0 L T) : Cont dfs (fun a w => Known w T0 ∧ K a w) n w0 L T := by
  intro a w ha hf hT
  exact ⟨by rw [← hS]; exact known_dropT ds _ (known_drop s hT.ok), h a w ha hf hT⟩
theorem drawn_done {ops : Array Oper} {m fuel : Nat} {l : List Nat} {S : World → Prop} (hr : Region.ready .any ops (marked m l) = []) (h : Cont dfs (Q .normal) n w0 L T) : Cont dfs (AH P ops Q S m fuel l) n w0 L T :=
  fun a w ha hf hT => wpAnyH_done hr (h a w ha hf hT) fuel

end
end Go.Proofs.Ytlfahohbkgdabaa

