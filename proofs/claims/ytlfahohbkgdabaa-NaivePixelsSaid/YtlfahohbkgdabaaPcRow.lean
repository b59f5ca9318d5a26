/- From the reading of a law's arguments to the words of the walks, and back. -/
import Derived.Test.YtlfahohbkgdabaaPcIm
import Derived.Test.YtlfahohbkgdabaaRows
import Derived.ProofKit
import Derived.OpenShut
import Derived.Carry
import Derived.ChangeSame
import Derived.ChangeSlices
import Derived.Deep.Slices
import Derived.Deep.Fields
import Derived.Lib.SmallJoins
set_option linter.unusedVariables false
set_option linter.unusedSimpArgs false
namespace Go.Proofs.Ytlfahohbkgdabaa
open Go.ChangeShapes Go.WideShapes Go.ChangeAt Go.RowKit Go.Deep

theorem own0 : ownKnob Try.prog.godebug = none := by kernel_rfl
theorem laidOut0 : laidOutB Try.prog = true := by kernel_rfl

section
variable {H : Type} {enc : TypeId × Value → H} {P : Program}
theorem post_below {f : Func} {s : ChangeSpec} {apart fresh handsOn again : Bool} {W W' : World} {args : Array Value} {v : Value} {ds gs : List (DataW H)} {before pa pv : List MemPlace}
    (hW : DataW.Whole enc P f.params.toList s.vars apart W args.toList ds gs before)
    (hres : ∀ (b : Nat) (sp : Nat → Bool) (hd : Bool), DataW.TrodAll enc P W' b sp hd f.resultTypes.toList (v.resultList f.resultTypes.size) (s.fn H (ds ++ gs)).results [])
    (hargs : ∀ sp : Nat → Bool, (∀ p ∈ before, sp p.block = true) → DataW.TrodAll enc P W' 0 sp true f.params.toList args.toList (s.fn H (ds ++ gs)).args pa)
    (hvars : ∀ sp : Nat → Bool, (∀ p ∈ before, sp p.block = true) → DataW.TrodVars enc P W' sp s.vars (s.fn H (ds ++ gs)).vars pv)
    (hps : before = pa ++ pv) (hb : Below W.heap.size W W')
    (hok : ∀ (j : Nat) (t : TypeId) (r : Value), f.resultTypes[j]? = some t → (v.resultList f.resultTypes.size)[j]? = some r → Value.okWide P W' .any 0 t r) :
    s.post enc P f apart fresh handsOn again W args v W' := by
  have hlt : ∀ p ∈ before, p.block < W.heap.size := fun p hp => hW.lt p hp
  have hold : ∀ p ∈ before, (fun b => decide (b < W.heap.size)) p.block = true := fun p hp => by simpa using hlt p hp
  refine ⟨ds, gs, before, [], pa, pv, hW, hres _ _ _, hargs _ hold, hvars _ hold, World.keptBut_mono (fun p hp => ⟨hp, ?_⟩) (hb.frame (· ∈ before)), fun _ => ?_⟩
  · rw [hps, List.mem_append] at hp
    exact Or.inr hp
  · obtain ⟨_, _, _, _, _, hz, hn⟩ := hW
    refine ⟨hok, _, _, ([] ++ pa) ++ pv, ⟨[] ++ pa, pv, trodAll_append (hargs _ (fun _ _ => rfl)) (hres _ _ _), hvars _ (fun _ _ => rfl), rfl, ?_, ?_⟩, ?_⟩
    · intro b off hp
      have hin : MemPlace.cell b off ∈ before := by rw [hps]; simpa using hp
      rw [hb.frozen (hlt _ hin)]
      exact hz b off hin
    · intro ha
      have := hn ha
      rw [hps] at this
      simpa using this
    · intro p hp _
      rw [hps]
      simpa using hp

/-- An argument reads behind the call as it did, whatever may be spared. -/
theorem trod_keeps {t : TypeId} (hl : laidOutB P = true) (hr : P.readableRec t = true) (hrow : t < P.types.size) {W W' : World} {v : Value} {d : DataW H} {ps : List MemPlace}
    (h : DataW.Trod enc P W 0 (fun _ => true) true t v d ps) (hb : Below W.heap.size W W') (hlt : ∀ x ∈ ps, x.block < W.heap.size) (sp : Nat → Bool) (hsp : ∀ p ∈ ps, sp p.block = true) : DataW.Trod enc P W' 0 sp true t v d ps :=
  WideElems.Trod_stays hl hr hrow h (fun x hx => hb.same (hlt x hx)) hsp
end

theorem addr_split {a : Addr} (h : a.spot = none) (j : Nat) : a.add j = ⟨a.block, a.off + j, none⟩ := by
  cases a with
  | mk b o s =>
    simp only at h
    subst h
    unfold Addr.add
    split <;> simp_all
theorem spot_of_cell {W : World} {a : Addr} {v : Value} (h : W.cell? a = some v) : a.spot = none := by
  unfold World.cell? at h
  split at h
  · split at h
    · cases h
    · rename_i hs; simpa using hs
  · cases h
/-- A field of a struct that came in. -/
theorem trod_sub {H : Type} {enc : TypeId × Value → H} {P : Program} {W : World} {t ty : TypeId} {fs : Array Field} {i fuel : Nat} {f : Field} {cs cs' : List Value} {x : DataW H × List MemPlace} (ht : P.underlying t = some (.struct fs))
    (h : DataW.trod enc P W 0 (fun _ => true) true fuel t cs = some x) (hf : fs[i]? = some f) (hty : f.type = ty) (e : (cs.drop f.offset).take (P.cellsOf f.type) = cs') : ∃ (n : Nat) (y : DataW H × List MemPlace), DataW.trod enc P W 0 (fun _ => true) true n ty cs' = some y := by
  obtain ⟨xs, n, _, _, _, hlen, hg⟩ := DataW.trod_struct ht h
  have h1 := hg i f hf
  rw [e, hty] at h1
  have hi : i < xs.length := by rw [hlen]; exact (Array.getElem?_eq_some_iff.1 hf).1
  rw [List.getElem?_eq_getElem hi] at h1
  exact ⟨n, _, h1⟩
theorem open_intC {H : Type} {enc : TypeId × Value → H} {P : Program} {W : World} {t : TypeId} {k : IntKind} {c : Value} {n : Nat} {x : DataW H × List MemPlace} (ht : P.underlying t = some (.int k)) (h : DataW.trod enc P W 0 (fun _ => true) true n t [c] = some x) : ∃ a : Int, c = .int k a ∧ (Lit.int k a).wf = true := by
  obtain ⟨a, e, _, w⟩ := DataW.trod_int ht h
  exact ⟨a, by simpa using e, w⟩
theorem open_boolC {H : Type} {enc : TypeId × Value → H} {P : Program} {W : World} {t : TypeId} {c : Value} {n : Nat} {x : DataW H × List MemPlace} (ht : P.underlying t = some .bool) (h : DataW.trod enc P W 0 (fun _ => true) true n t [c] = some x) : ∃ b : Bool, c = .bool b := by
  obtain ⟨b, e, _⟩ := DataW.trod_bool ht h
  exact ⟨b, by simpa using e⟩
theorem open_numsC {H : Type} {enc : TypeId × Value → H} {P : Program} {W : World} {t e : TypeId} {k : IntKind} {c : Value} {fuel : Nat} {x : DataW H × List MemPlace} (ht : P.underlying t = some (.slice e)) (he : P.underlying e = some (.int k)) (hc : P.cellsOf e = 1)
    (hf : DataW.trod enc P W 0 (fun _ => true) true fuel t [c] = some x) :
    ∃ (A : Option Addr) (g o n cap : Nat) (xs : List Int), c = .slice A n cap ∧ Rd W A g o n 1 (ivals k xs) ∧ xs.length = n ∧ n ≤ cap ∧ cap ≤ maxLen ∧ (∀ x ∈ xs, (Lit.int k x).wf = true) := by
  rcases open_ints ht he hc hf with ⟨h1, _⟩ | ⟨ad, len', cap', zs, h1, _, hle, hm, hlen, _, hcell, hwf⟩
  · simp only [List.cons.injEq, and_true] at h1
    exact ⟨none, 0, 0, 0, 0, [], h1, ⟨rfl, fun h => by omega, fun j v hj => by simp [ivals] at hj⟩, rfl, Nat.le_refl _, by unfold maxLen; omega, fun x hx => by cases hx⟩
  · simp only [List.cons.injEq, and_true] at h1
    simp only [if_true] at hlen
    have hsp : 0 < len' → ad.spot = none := fun hp => by
      have := hcell 0 (by omega)
      have h0 : ad.add 0 = ad := by simp [Addr.add]
      rw [h0] at this
      exact spot_of_cell this
    refine ⟨some ad, ad.block, ad.off, len', cap', zs.take len', h1, ⟨by simp [ivals]; omega, fun hp => ?_, fun j v hj => ?_⟩, by simp; omega, hle, hm, fun x hx => hwf x (List.mem_of_mem_take hx)⟩
    · have := hsp hp
      cases ad with
      | mk b o s => simp only at this; subst this; rfl
    · have hjl : j < (ivals k (zs.take len')).length := (List.getElem?_eq_some_iff.1 hj).1
      rw [ivals_length, List.length_take] at hjl
      have hg := ivals_get (k := k) (xs := zs.take len') (j := j) (by rw [List.length_take]; exact hjl)
      rw [hg] at hj
      cases hj
      have hc1 := hcell j (by omega)
      rw [addr_split (hsp (by omega))] at hc1
      rw [hc1]
      congr 2
      simp only [List.getD_eq_getElem?_getD]
      rw [List.getElem?_take, if_pos (by omega)]
end Go.Proofs.Ytlfahohbkgdabaa

