/- The symbolic executor: slices that grow (append), that are copied over (copy), and facts of the table. Generic in the program. -/
import Derived.Test.YtlfahohbkgdabaaPcVw
import Derived.Maps.AppendAt
import Derived.Laws.CopyRow
set_option linter.unusedVariables false
set_option linter.unusedSimpArgs false
namespace Go.Proofs.Ytlfahohbkgdabaa
open Go Go.RowKit
variable {dfs : List Deferred}

section
variable {P : Program}
theorem cont_fact {K : Act → World → Prop} {n : Nat} {w0 : World} {L : List (Tmp × Value)} {T : List Ent} {F : Prop} (h : ∀ w, Tab w0 w T → F) (hk : F → Cont dfs K n w0 L T) : Cont dfs K n w0 L T :=
  fun a w ha hf hT => hk (h w hT) a w ha hf hT
theorem Tab.fresh {w0 w : World} {T : List Ent} (hT : Tab w0 w T) (e : Ent) (hok : e.ok w) (hb : ∀ k, ¬ e.blk k) : Tab w0 w (e :: T) :=
  hT.push rfl rfl rfl (Nat.le_refl _) (fun _ _ => rfl) hok (fun k hk => absurd hk (hb k))
/-- A slice that is nil, as a row of the call's own. -/
theorem cont_nilrow {K : Act → World → Prop} {n : Nat} {w0 : World} {L : List (Tmp × Value)} {T : List Ent} (e : TypeId) (sz : Nat) (hk : Cont dfs K n w0 L (.gen (rowE none 0 0 0 e sz [] true) :: T)) : Cont dfs K n w0 L T :=
  fun a w ha hf hT => hk a w ha hf (hT.fresh _ (show Row w none 0 0 0 e sz [] from ⟨⟨by simp, .inl ⟨rfl, rfl⟩⟩, fun h => by omega, fun a ha => by cases ha⟩) (fun k hk => hk.2 rfl))
theorem Row.ofCells {w : World} {b n sz : Nat} {cs : List Value} {e : TypeId} (h : w.heap[b]? = some (.cells cs.toArray e (0, 0))) (hl : cs.length = n * sz) (hn : n ≤ maxLen) : Row w (some ⟨b, 0, none⟩) b n n e sz cs :=
  ⟨⟨hl, .inr ⟨b, n, cs.toArray, rfl, Nat.zero_le _, h, Nat.le_refl _, hn, by simp [hl], by simp [← hl]⟩⟩, fun _ => rfl, fun a ha => by cases ha; rfl⟩
theorem Rd.ofCells {w : World} {b m sz : Nat} {cs vals : List Value} {e : TypeId} (h : w.heap[b]? = some (.cells cs.toArray e (0, 0))) (hv : cs = vals) (hl : cs.length = m * sz) : Rd w (some ⟨b, 0, none⟩) b 0 m sz vals := by
  subst hv
  refine ⟨hl, fun _ => rfl, fun j v hj => ?_⟩
  simp only [Nat.zero_add]
  simp [World.cell?, h, hj]
theorem ivals_append (k : IntKind) (xs ys : List Int) : ivals k xs ++ ivals k ys = ivals k (xs ++ ys) := by simp [ivals]
theorem ivals_one (k : IntKind) (xs : List Int) : ∀ u ∈ ivals k xs, u.oneCell' = true := by
  intro u hu
  obtain ⟨x, _, rfl⟩ := List.mem_map.1 hu
  rfl
theorem addr_add (b o j : Nat) : (⟨b, o, none⟩ : Addr).add j = ⟨b, o + j, none⟩ := by unfold Addr.add; split <;> simp_all

theorem append_own {w0 w : World} {T : List Ent} (hT : Tab w0 w T) {t ty e : TypeId} {A : Option Addr} {i g n cap sz bytes n' : Nat} {vals vals' news : List Value} {z : Value} (hi : T[i]? = some (.gen (rowE A g n cap e sz vals true)))
    (ht : P.underlying t = some (.slice e)) (hinf : (P.info? e).map (fun i => (i.zero, i.size, i.bytes)) = some (some z, sz, bytes)) (hzs : z.cells.size = sz) (hsz : 0 < sz) (hby : 0 < bytes)
    {SA : Option Addr} {sg so m sc : Nat} (hsrc : Rd w SA sg so m sz news) (h1 : ∀ u ∈ news, u.oneCell' = true) (hb : (n + m) * bytes ≤ 140737488355328) (hv : vals ++ news = vals') (hn' : n' = n + m) :
    ∃ (x : Option Addr × Nat × Nat) (w' : World), (Builtin.append_ #[t, t] ty #[.slice A n cap, .slice SA m sc]).run P w = .ok (.slice x.1 n' x.2.2) w' ∧ True ∧ Tab w0 w' (T.set i (.gen (rowE x.1 x.2.1 n' x.2.2 e sz vals' true))) := by
  subst hv hn'
  have hrow : Row w A g n cap e sz vals := hT.ok i _ hi
  obtain ⟨inf, hinf1, hinf2⟩ := Option.map_eq_some_iff.1 hinf
  simp only [Prod.mk.injEq] at hinf2
  obtain ⟨hz, hs, hbt⟩ := hinf2
  by_cases hm : m = 0
  · subst hm
    have hnil : news = [] := List.length_eq_zero_iff.1 (by have := hsrc.len; simpa using this)
    subst hnil
    refine ⟨(A, g, cap), w, ?_, trivial, ?_⟩
    · have hle : n ≤ cap := hrow.capLe
      cases A <;> cases SA <;> simp [Builtin.append_, run_underlying ht, sizeOf, typeInfo, hinf1, Builtin.lenOf, hle, Builtin.firstCells, storeCells, loadCells, loadCellsFrom]
    · simp only [List.append_nil, Nat.add_zero]
      have : T.set i (.gen (rowE A g n cap e sz vals true)) = T := by
        obtain ⟨hlt, he⟩ := List.getElem?_eq_some_iff.1 hi
        rw [← he]
        exact List.set_getElem_self hlt
      rw [this]; exact hT
  · have hSA := hsrc.at_ (by omega)
    subst hSA
    have hml : n + m ≤ maxLen := by
      have h2 : (n + m) * 1 ≤ (n + m) * bytes := Nat.mul_le_mul_left _ hby
      unfold maxLen; omega
    obtain ⟨v', w', hr, hown, hg, _, hat⟩ := run_append_own_at (P := P) w 0 t ty e inf z sz bytes ht hinf1 hz hs hbt hzs hsz (.slice A n cap) n vals hrow.own ⟨sg, so, none⟩ m sc news hsrc.len (fun j u hj => by rw [addr_add]; exact hsrc.cell j u hj) h1 hml hb (Nat.zero_le _)
    rcases hown.2 with ⟨hv0, h0⟩ | ⟨g', cap', cur, hv', _, hg', hle, hcm, hcs, htk⟩
    · omega
    · subst hv'
      refine ⟨(some ⟨g', 0, none⟩, g', cap'), w', hr, trivial, ?_⟩
      have hwhere : (k : Nat) → k = g' → (k = g ∧ A ≠ none) ∨ w.heap.size ≤ k := by
        intro k hk
        subst hk
        rcases hat with hat | hat
        · left
          cases A with
          | none => simp [Value.ownBlock] at hat
          | some a =>
            have := hrow.spot a rfl
            subst this
            simp [Value.ownBlock] at hat
            exact ⟨hat, by simp⟩
        · right
          simp [Value.ownBlock] at hat
          omega
      refine hT.replace (e := .gen (rowE A g n cap e sz vals true)) (e' := .gen (rowE (some ⟨g', 0, none⟩) g' (n + m) cap' e sz (vals ++ news) true)) hi rfl rfl id (fun k hk => hwhere k hk.1) (fun k _ hk hlt => ?_) hg.os hg.tape hg.output hg.size (fun k hk hne => ?_) ?_
      · have := hT.own i _ hi rfl k hk
        omega
      · refine hg.block k hk (fun hek => hne ?_)
        cases A with
        | none => simp [Value.ownBlock] at hek
        | some a =>
          have := hrow.spot a rfl
          subst this
          simp [Value.ownBlock] at hek
          exact ⟨hek, by simp⟩
      · exact ⟨hown, fun _ => rfl, fun a ha => by cases ha; rfl⟩

theorem Row.facts {w : World} {A : Option Addr} {g n cap : Nat} {e : TypeId} {k : IntKind} {xs : List Int} (h : Row w A g n cap e 1 (ivals k xs)) : (0 < n → A = some ⟨g, 0, none⟩) ∧ xs.length = n ∧ n ≤ cap ∧ cap ≤ maxLen := by
  refine ⟨h.at_, ?_, h.capLe, ?_⟩
  · have := h.own.1; rw [ivals_length] at this; omega
  · rcases h.own.2 with ⟨h1, _⟩ | ⟨g', cap', cur, hv, _, _, _, hm, _⟩
    · cases h1; unfold maxLen; omega
    · cases hv; exact hm
theorem Rd.flen {w : World} {A : Option Addr} {g o n : Nat} {k : IntKind} {xs : List Int} (h : Rd w A g o n 1 (ivals k xs)) : xs.length = n := by
  have := h.len; rw [ivals_length] at this; omega
theorem Rd.facts {w : World} {A : Option Addr} {g o n : Nat} {k : IntKind} {xs : List Int} (h : Rd w A g o n 1 (ivals k xs)) : (0 < n → A = some ⟨g, o, none⟩) ∧ xs.length = n := ⟨h.at_, h.flen⟩
/-- A part of a row, read. -/
theorem Rd.sub {w : World} {g o n cap : Nat} {k : IntKind} {xs : List Int} {A : Option Addr} (h : Rd w A g o n 1 (ivals k xs)) {J m : Nat} (hJ : J + m ≤ n) (hc : n ≤ cap) : Rd w (sliceA g o J cap 1) g (o + J * 1) m 1 (ivals k ((xs.drop J).take m)) := by
  have hl : xs.length = n := by have := h.len; rw [ivals_length] at this; omega
  refine ⟨by rw [ivals_length, List.length_take, List.length_drop]; omega, fun hm => sliceA_pos (by omega), fun j v hj => ?_⟩
  have hjm : j < m := by
    have := (List.getElem?_eq_some_iff.1 hj).1
    rw [ivals_length, List.length_take, List.length_drop] at this
    omega
  rw [show o + J * 1 + j = o + (J + j) by omega]
  refine h.cell (J + j) v ?_
  rw [← hj]
  simp only [ivals, List.getElem?_map, List.getElem?_take, if_pos hjm, List.getElem?_drop]
theorem Row.sub {w : World} {g n cap : Nat} {e : TypeId} {k : IntKind} {xs : List Int} {A : Option Addr} (h : Row w A g n cap e 1 (ivals k xs)) {J m : Nat} (hJ : J + m ≤ n) : Rd w (sliceA g 0 J cap 1) g (0 + J * 1) m 1 (ivals k ((xs.drop J).take m)) :=
  Rd.sub h.rd hJ h.capLe
end
end Go.Proofs.Ytlfahohbkgdabaa

