/- A yield inside a region whose operations come in any order: the yield, and the one operation behind it, come last. -/
import Derived.Test.YtlfahohbkgdabaaRf
set_option linter.unusedVariables false
set_option linter.unusedSimpArgs false
namespace Go.Proofs.Ytlfahohbkgdabaa
open Go Go.RowKit

/-- The operation y waits for itself. -/
def holdOps (ops : Array Oper) (y : Nat) : Array Oper := ops.modify y fun o => { o with after := o.after.push ⟨y, .data⟩ }
theorem hold_get (ops : Array Oper) (y i : Nat) : (holdOps ops y)[i]? = (ops[i]?).map fun o => if i = y then { o with after := o.after.push ⟨y, .data⟩ } else o := by
  unfold holdOps
  rw [Array.getElem?_modify]
  by_cases h : y = i
  · subst h; simp
  · have h' : ¬ i = y := fun e => h e.symm
    simp [h, h']
theorem hold_size (ops : Array Oper) (y : Nat) : (holdOps ops y).size = ops.size := by unfold holdOps; exact Array.size_modify ..
theorem hold_yielded (ops : Array Oper) (y : Nat) : yielded (holdOps ops y) = yielded ops := by
  funext tmps j
  unfold yielded
  rw [hold_get]
  cases ops[j]? with
  | none => rfl
  | some o =>
    simp only [Option.map_some, Option.bind_some]
    by_cases h : j = y
    · rw [if_pos h]
    · rw [if_neg h]
theorem wpOp_hold {P : Program} {ops : Array Oper} {Q : Exit → Act → World → Prop} {y i : Nat} {K : Act → World → Prop} {a : Act} {w : World} : wpOp P (holdOps ops y) Q i K a w = wpOp P ops Q i K a w := by
  unfold wpOp
  rw [hold_get, hold_yielded]
  cases ops[i]? with
  | none => rfl
  | some o =>
    simp only [Option.map_some]
    by_cases h : i = y
    · rw [if_pos h]; rfl
    · rw [if_neg h]
theorem wpOps_hold {P : Program} {ops : Array Oper} {Q : Exit → Act → World → Prop} {y : Nat} : ∀ (l : List Nat) (a : Act) (w : World), wpOps P (holdOps ops y) Q l a w → wpOps P ops Q l a w := by
  intro l
  induction l with
  | nil => intro a w h; exact h
  | cons i l ih =>
    intro a w h
    rw [wpOps_cons] at h ⊢
    rw [wpOp_hold] at h
    exact wpOp_mono (fun a' w' h' => ih a' w' h') h

/-! ### Which operations may come -/
theorem mem_ready {ops : Array Oper} {listed : Array Bool} {i : Nat} : i ∈ Region.ready .any ops listed ↔ i < ops.size ∧ listed.getD i true = false ∧ ∃ o, ops[i]? = some o ∧ ∀ e ∈ o.after, Region.binds .any e = true → listed.getD e.on false = true := by
  unfold Region.ready
  rw [List.mem_filter, List.mem_range, Bool.and_eq_true, Bool.not_eq_true']
  refine and_congr_right fun _ => and_congr_right fun _ => ?_
  cases h : ops[i]? with
  | none => simp
  | some o =>
    simp only [Option.map_some, Option.getD_some, Option.some.injEq, exists_eq_left']
    rw [Array.all_eq_true']
    refine forall_congr' fun e => forall_congr' fun he => ?_
    cases Region.binds .any e <;> simp
def depOf (ops : Array Oper) (i j : Nat) : Bool := ((ops[i]?).map fun o => o.after.any fun e => Region.binds .any e && e.on == j).getD false
theorem depOf_iff {ops : Array Oper} {i j : Nat} : depOf ops i j = true ↔ ∃ o, ops[i]? = some o ∧ ∃ e ∈ o.after, Region.binds .any e = true ∧ e.on = j := by
  unfold depOf
  cases h : ops[i]? with
  | none => simp
  | some o =>
    simp only [Option.map_some, Option.getD_some, Option.some.injEq, exists_eq_left']
    rw [Array.any_eq_true']
    simp
theorem ready_dep {ops : Array Oper} {listed : Array Bool} {i : Nat} (h : i ∈ Region.ready .any ops listed) (j : Nat) (hd : depOf ops i j = true) : listed.getD j false = true := by
  obtain ⟨_, _, o, ho, hall⟩ := mem_ready.1 h
  obtain ⟨o', ho', e, he, hb, rfl⟩ := depOf_iff.1 hd
  rw [ho] at ho'; cases ho'
  exact hall e he hb
theorem ready_of {ops : Array Oper} {listed : Array Bool} {i : Nat} (hi : i < ops.size) (hl : listed.getD i true = false) (h : ∀ j, depOf ops i j = true → listed.getD j false = true) : i ∈ Region.ready .any ops listed := by
  refine mem_ready.2 ⟨hi, hl, ops[i], Array.getElem?_eq_getElem hi, fun e he hb => h _ (depOf_iff.2 ⟨ops[i], Array.getElem?_eq_getElem hi, e, he, hb, rfl⟩)⟩
/-- Each of c is waited for by one that came before it. -/
def certOk (ops : Array Oper) : List Nat → List Nat → Bool
  | _, [] => true
  | got, j :: c => (got.any fun i => depOf ops i j) && certOk ops (j :: got) c
def ClosedL (ops : Array Oper) (listed : Array Bool) : Prop := ∀ i j, depOf ops i j = true → listed.getD i false = true → listed.getD j false = true
theorem cert_listed {ops : Array Oper} {listed : Array Bool} (hc : ClosedL ops listed) : ∀ (c got : List Nat), (∀ i ∈ got, ∀ j, depOf ops i j = true → listed.getD j false = true) → certOk ops got c = true → ∀ j ∈ c, listed.getD j false = true := by
  intro c
  induction c with
  | nil => intro got _ _ j hj; cases hj
  | cons k c ih =>
    intro got hg hk j hj
    rw [certOk, Bool.and_eq_true] at hk
    obtain ⟨i, hi, hd⟩ := List.any_eq_true.1 hk.1
    have hkl := hg i hi k hd
    rcases List.mem_cons.1 hj with rfl | hj
    · exact hkl
    · refine ih (k :: got) (fun i' hi' j' hd' => ?_) hk.2 j hj
      rcases List.mem_cons.1 hi' with rfl | hi'
      · exact hc _ _ hd' hkl
      · exact hg i' hi' j' hd'
def lowOk (ops : Array Oper) : Bool := (List.range ops.size).all fun i => ((ops[i]?).map fun o => o.after.all fun e => !Region.binds .any e || Nat.blt e.on i).getD false
theorem low_of {ops : Array Oper} (h : lowOk ops = true) {i j : Nat} (hd : depOf ops i j = true) : j < i := by
  obtain ⟨o, ho, e, he, hb, rfl⟩ := depOf_iff.1 hd
  have hi : i < ops.size := (Array.getElem?_eq_some_iff.1 ho).1
  have := List.all_eq_true.1 h i (List.mem_range.2 hi)
  rw [ho] at this
  simp only [Option.map_some, Option.getD_some] at this
  have h2 := (Array.all_eq_true'.1 this) e he
  rw [hb] at h2
  exact Nat.le_of_ble_eq_true (by simpa [Nat.blt] using h2)
def yOk (ops : Array Oper) (y : Nat) (c : List Nat) : Bool := ops.size == y + 2 && lowOk ops && certOk ops [y] c && (List.range y).all (fun i => c.contains i) && depOf ops (y + 1) y

/-! ### The orders of a region whose yield comes last but one -/
theorem go_succ (ops : Array Oper) (f t : Nat) (listed : Array Bool) (acc : List Nat) : Region.linearise.go .any ops (f + 1) t listed acc = match (Region.ready .any ops listed)[t % (Region.ready .any ops listed).length]? with
    | some i => Region.linearise.go .any ops f (t / (Region.ready .any ops listed).length) (listed.setIfInBounds i true) (i :: acc)
    | none => acc.reverse := rfl
theorem go_pick {ops : Array Oper} {f t i : Nat} {listed : Array Bool} (h : (Region.ready .any ops listed)[t % (Region.ready .any ops listed).length]? = some i) : Region.linearise.go .any ops (f + 1) t listed [] = i :: Region.linearise.go .any ops f (t / (Region.ready .any ops listed).length) (listed.setIfInBounds i true) [] := by
  rw [go_succ, h]
  simp only []
  rw [linearise_go_acc]; rfl
theorem go_one {ops : Array Oper} {f t i : Nat} {listed : Array Bool} (h : Region.ready .any ops listed = [i]) : Region.linearise.go .any ops (f + 1) t listed [] = i :: Region.linearise.go .any ops f t (listed.setIfInBounds i true) [] := by
  have h1 : (Region.ready .any ops listed)[t % (Region.ready .any ops listed).length]? = some i := by rw [h]; simp [Nat.mod_one]
  rw [go_pick h1, h]; simp
theorem go_nil {ops : Array Oper} {f t : Nat} {listed : Array Bool} (h : Region.ready .any ops listed = []) : Region.linearise.go .any ops f t listed [] = [] := by
  cases f with
  | zero => rfl
  | succ f => rw [go_succ, h]; rfl
theorem getD_in {listed : Array Bool} {i : Nat} (h : i < listed.size) (d : Bool) : listed.getD i d = listed[i] := by simp [Array.getD, h]
theorem getD_any {listed : Array Bool} {i : Nat} (h : i < listed.size) (d e : Bool) : listed.getD i d = listed.getD i e := by rw [getD_in h, getD_in h]
theorem getD_set {listed : Array Bool} {i j : Nat} (hj : j < listed.size) (d : Bool) : (listed.setIfInBounds i true).getD j d = if i = j then true else listed.getD j d := by
  rw [getD_in (by simpa using hj), getD_in hj]
  rw [Array.getElem_setIfInBounds]
theorem count_strike {listed : Array Bool} {i f : Nat} (hi : i < listed.size) (h : listed.getD i true = false) (hc : listed.toList.count false = f + 1) : (listed.setIfInBounds i true).toList.count false = f := by
  have h1 : listed.toList[i]'(by simpa using hi) = false := by rw [getD_in hi] at h; simpa using h
  rw [Array.toList_setIfInBounds, List.count_set (by simpa using hi), h1, hc]
  simp
theorem ready_hold {ops : Array Oper} {listed : Array Bool} {y : Nat} (hy : y < ops.size) (hs : listed.size = ops.size) (hl : listed.getD y true = false) (hn : y ∉ Region.ready .any ops listed) : Region.ready .any (holdOps ops y) listed = Region.ready .any ops listed := by
  have hsame : ∀ i, (i ∈ Region.ready .any (holdOps ops y) listed ↔ i ∈ Region.ready .any ops listed) := by
    intro i
    by_cases e : i = y
    · subst e
      refine ⟨fun h => ?_, fun h => absurd h hn⟩
      obtain ⟨_, _, o, ho, hall⟩ := mem_ready.1 h
      rw [hold_get] at ho
      obtain ⟨o0, ho0, rfl⟩ := Option.map_eq_some_iff.1 ho
      rw [if_pos rfl] at hall
      have this : listed.getD i false = true := hall ⟨i, .data⟩ (by simp) rfl
      rw [getD_any (by omega) false true, hl] at this
      cases this
    · rw [mem_ready, mem_ready, hold_size, hold_get]
      refine and_congr_right fun _ => and_congr_right fun _ => ?_
      cases ops[i]? with
      | none => simp
      | some o => simp [e]
  unfold Region.ready
  rw [hold_size]
  refine List.filter_congr fun i hi => ?_
  have h1 := hsame i
  unfold Region.ready at h1
  rw [hold_size, List.mem_filter, List.mem_filter] at h1
  rw [Bool.eq_iff_iff]
  exact ⟨fun h => (h1.1 ⟨hi, h⟩).2, fun h => (h1.2 ⟨hi, h⟩).2⟩
theorem ready_some {ops : Array Oper} {listed : Array Bool} (hlow : lowOk ops = true) (hs : listed.size = ops.size) : ∀ (i : Nat), i < ops.size → listed.getD i true = false → Region.ready .any ops listed ≠ [] := by
  intro i
  induction i using Nat.strongRecOn with
  | _ i ih =>
    intro hi hl hnil
    by_cases h : ∀ j, depOf ops i j = true → listed.getD j false = true
    · have := ready_of hi hl h
      rw [hnil] at this; cases this
    · obtain ⟨j, hj⟩ := Classical.not_forall.1 h
      obtain ⟨hd, hj2⟩ := Classical.not_imp.1 hj
      have hlt := low_of hlow hd
      exact ih j hlt (by omega) (by rw [getD_any (by omega) true false]; simpa using hj2) hnil
theorem nodup_single {l : List Nat} {y : Nat} (hn : l.Nodup) (hy : y ∈ l) (h : ∀ i ∈ l, i = y) : l = [y] := by
  cases l with
  | nil => cases hy
  | cons a l =>
    have ha := h a (List.mem_cons_self ..)
    subst ha
    cases l with
    | nil => rfl
    | cons b l =>
      have hb := h b (by simp)
      rw [List.nodup_cons] at hn
      exact absurd (by simp [hb]) hn.1
theorem order_split {ops : Array Oper} {y : Nat} {c : List Nat} (hk : yOk ops y c = true) : ∀ (f t : Nat) (listed : Array Bool), listed.size = y + 2 → listed.toList.count false = f → ClosedL ops listed → listed.getD y true = false → listed.getD (y + 1) true = false →
    ∃ t', Region.linearise.go .any ops f t listed [] = Region.linearise.go .any (holdOps ops y) f t' listed [] ++ [y, y + 1] := by
  unfold yOk at hk
  simp only [Bool.and_eq_true, beq_iff_eq] at hk
  obtain ⟨⟨⟨⟨hsz, hlow⟩, hcert⟩, hcov⟩, hdep⟩ := hk
  intro f
  induction f with
  | zero =>
    intro t listed hs hc _ hy _
    have : false ∈ listed.toList := by
      rw [getD_in (by omega)] at hy
      rw [← hy]; simp
    have := List.count_pos_iff.2 this
    omega
  | succ f ih =>
    intro t listed hs hc hcl hy hz
    have hyf : listed.getD y false = false := by rw [getD_any (by omega) false true]; exact hy
    by_cases hyr : y ∈ Region.ready .any ops listed
    · have hpre : ∀ i, i < y → listed.getD i false = true := fun i hi => cert_listed hcl c [y] (fun i' hi' j' hd' => by
        have : i' = y := by simpa using hi'
        subst this; exact ready_dep hyr j' hd') hcert i (by have := List.all_eq_true.1 hcov i (List.mem_range.2 hi); simpa using this)
      have hl : listed.toList = List.replicate y true ++ [false, false] := by
        refine List.ext_getElem (by simp [hs]) fun i h1 h2 => ?_
        have hi : i < listed.size := by simpa using h1
        rw [Array.getElem_toList]
        rcases Nat.lt_or_ge i y with h3 | h3
        · have := hpre i h3
          rw [getD_in hi] at this
          rw [this, List.getElem_append_left (by simpa using h3)]; simp
        · rw [List.getElem_append_right (by simpa using h3)]
          rcases (show i = y ∨ i = y + 1 by omega) with rfl | rfl
          · rw [getD_in hi] at hy; rw [hy]; simp
          · rw [getD_in hi] at hz; rw [hz]; simp
      have hf : f = 1 := by
        rw [hl] at hc
        simp [List.count_replicate] at hc
        omega
      subst hf
      have hlt : ∀ i, i ∈ Region.ready .any ops listed → i = y := fun i hi => by
        obtain ⟨h1, h2, _⟩ := mem_ready.1 hi
        rcases Nat.lt_or_ge i y with h3 | h3
        · have := hpre i h3
          rw [getD_any (by omega) false true, h2] at this; cases this
        · rcases (show i = y ∨ i = y + 1 by omega) with e | e
          · exact e
          · subst e
            have := ready_dep hi y hdep
            rw [hyf] at this; cases this
      have hnod : (Region.ready .any ops listed).Nodup := List.Nodup.sublist List.filter_sublist List.nodup_range
      have hr1 : Region.ready .any ops listed = [y] := nodup_single hnod hyr hlt
      have hs2 : (listed.setIfInBounds y true).size = y + 2 := by simpa using hs
      have hr2 : Region.ready .any ops (listed.setIfInBounds y true) = [y + 1] := by
        refine nodup_single (List.Nodup.sublist List.filter_sublist List.nodup_range) ?_ fun i hi => ?_
        · refine ready_of (by omega) (by rw [getD_set (by omega), if_neg (by omega)]; exact hz) fun j hd => ?_
          have := low_of hlow hd
          rw [getD_set (by omega)]
          by_cases e : y = j
          · rw [if_pos e]
          · rw [if_neg e]; exact hpre j (by omega)
        · obtain ⟨h1, h2, _⟩ := mem_ready.1 hi
          rw [getD_set (by omega)] at h2
          by_cases e : y = i
          · rw [if_pos e] at h2; cases h2
          · rw [if_neg e] at h2
            rcases Nat.lt_or_ge i y with h3 | h3
            · have := hpre i h3
              rw [getD_any (by omega) false true, h2] at this; cases this
            · omega
      have hr3 : Region.ready .any (holdOps ops y) listed = [] := by
        refine List.eq_nil_iff_forall_not_mem.2 fun i hi => ?_
        obtain ⟨h1, h2, o, ho, hall⟩ := mem_ready.1 hi
        rw [hold_size] at h1
        rcases Nat.lt_or_ge i y with h3 | h3
        · have := hpre i h3
          rw [getD_any (by omega) false true, h2] at this; cases this
        · rw [hold_get] at ho
          obtain ⟨o0, ho0, rfl⟩ := Option.map_eq_some_iff.1 ho
          rcases (show i = y ∨ i = y + 1 by omega) with e | e
          · rw [if_pos e] at hall
            have this : listed.getD y false = true := hall ⟨y, .data⟩ (by simp) rfl
            rw [hyf] at this; cases this
          · rw [if_neg (by omega)] at hall
            subst e
            obtain ⟨o', ho', e', he', hb', heq⟩ := depOf_iff.1 hdep
            rw [ho0] at ho'; cases ho'
            have := hall e' he' hb'
            rw [heq, hyf] at this; cases this
      refine ⟨0, ?_⟩
      rw [go_nil hr3, go_one hr1, go_one hr2]; rfl
    · have hrs := ready_hold (by omega) (by omega) hy hyr
      have hne := ready_some hlow (by omega) y (by omega) hy
      have hpos : 0 < (Region.ready .any ops listed).length := List.length_pos_iff.2 hne
      obtain ⟨i, hi⟩ : ∃ i, (Region.ready .any ops listed)[t % (Region.ready .any ops listed).length]? = some i := ⟨_, List.getElem?_eq_getElem (Nat.mod_lt _ hpos)⟩
      have him : i ∈ Region.ready .any ops listed := List.mem_of_getElem? hi
      obtain ⟨h1, h2, _⟩ := mem_ready.1 him
      have hiy : i ≠ y := fun e => hyr (e ▸ him)
      have hiz : i ≠ y + 1 := fun e => by
        subst e
        have := ready_dep him y hdep
        rw [hyf] at this; cases this
      obtain ⟨t', ht'⟩ := ih (t / (Region.ready .any ops listed).length) (listed.setIfInBounds i true) (by simpa using hs) (count_strike (by omega) h2 hc) (fun a b hd ha => by
          have hb := low_of hlow hd
          have has : a < ops.size := by
            obtain ⟨o, ho, _⟩ := depOf_iff.1 hd
            exact (Array.getElem?_eq_some_iff.1 ho).1
          rw [getD_set (by omega)] at ha ⊢
          by_cases e : i = a
          · subst e
            by_cases e2 : i = b
            · rw [if_pos e2]
            · rw [if_neg e2]; exact ready_dep him b hd
          · rw [if_neg e] at ha
            by_cases e2 : i = b
            · rw [if_pos e2]
            · rw [if_neg e2]; exact hcl a b hd ha) (by rw [getD_set (by omega), if_neg hiy]; exact hy) (by rw [getD_set (by omega), if_neg hiz]; exact hz)
      refine ⟨t' * (Region.ready .any ops listed).length + t % (Region.ready .any ops listed).length, ?_⟩
      have hm := Nat.mod_lt t hpos
      have hmod : (t' * (Region.ready .any ops listed).length + t % (Region.ready .any ops listed).length) % (Region.ready .any ops listed).length = t % (Region.ready .any ops listed).length := by rw [Nat.add_comm, Nat.add_mul_mod_self_right, Nat.mod_mod]
      have hdiv : (t' * (Region.ready .any ops listed).length + t % (Region.ready .any ops listed).length) / (Region.ready .any ops listed).length = t' := by
        rw [Nat.add_comm, Nat.add_mul_div_right _ _ hpos, Nat.div_eq_of_lt hm, Nat.zero_add]
      rw [go_pick hi, go_pick (ops := holdOps ops y) (i := i) (by rw [hrs, hmod]; exact hi), hrs, hdiv, ht']
      rfl
theorem idrawn_enter {P : Program} {dfs : List Deferred} {n : Nat} {w0 : World} {L : List (Nat × Value)} {T : List Ent} {Q : Exit → Act → World → Prop} {id : Nat} {ops : Array Oper} (m y : Nat) (c ds : List Nat) (hm : ops.size = m) (hmix : P.follows .mixedOrders = true) (hops : noDef ops = true) (hy : yOk ops y c = true)
    (h : Cont dfs (AH P (holdOps ops y) (Exit.then (PLI P ops Q y 2) Q) (fun w => Known w (dropT ds T)) m m []) n w0 L T) : Cont dfs ((Mode.fence P).wp (Code.region id ops true) Q) n w0 L T := by
  intro a w ha hf hT hlo
  refine wpIn_region_draw fun t => ?_
  simp only [Region.schedule, hmix, Bool.true_or, if_true]
  have := h a w.drew ha hf hT.drew
  unfold AH marked at this
  subst hm
  have hsz : ops.size = y + 2 := by
    unfold yOk at hy
    simp only [Bool.and_eq_true, beq_iff_eq] at hy
    exact hy.1.1.1.1
  have hrep : ∀ i, i < ops.size → (Array.replicate ops.size false).getD i true = false := fun i hi => by rw [getD_in (by simpa using hi)]; simp
  obtain ⟨t', ht'⟩ := order_split hy ops.size t (Array.replicate ops.size false) (by simpa using hsz) (by simp) (fun i j hd hi => by
    have his : i < ops.size := by
      obtain ⟨o, ho, _⟩ := depOf_iff.1 hd
      exact (Array.getElem?_eq_some_iff.1 ho).1
    rw [getD_any (by simpa using his) false true, hrep i his] at hi; cases hi) (hrep y (by omega)) (hrep (y + 1) (by omega))
  have e := wpAny_sound ops.size t' _ a _ (wpAny_of_held _ _ _ _ this)
  have e1 := wpOps_hold _ _ _ e
  have e2 := ops_in open_wide hops hlo [y, y + 1] (fun a' w' (hh : PLI P ops Q y 2 a' w') => hh hlo) _ a _ e1
  show wpOpsIn Fence.wide 0 P ops Q (Region.linearise.go .any ops ops.size t (Array.replicate ops.size false) []) a w.drew
  rw [ht']
  exact e2
end Go.Proofs.Ytlfahohbkgdabaa
