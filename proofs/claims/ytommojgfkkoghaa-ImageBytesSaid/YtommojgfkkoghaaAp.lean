/- The symbolic executor: slices that grow (append), that are copied over (copy), and facts of the table. Generic in the program. -/
import Derived.Test.YtommojgfkkoghaaVw
import Derived.Maps.AppendAt
import Derived.Laws.CopyRow
set_option linter.unusedVariables false
set_option linter.unusedSimpArgs false
namespace Go.Proofs.Ytommojgfkkoghaa
open Go Go.RowKit
variable {dfs : List Deferred}

section
variable {P : Program}
theorem cont_fact {K : Act → World → Prop} {n : Nat} {w0 : World} {L : List (Tmp × Value)} {T : List Ent} {F : Prop} (h : ∀ w, Tab w0 w T → F) (hk : F → Cont dfs K n w0 L T) : Cont dfs K n w0 L T :=
  fun a w ha hf hT => hk (h w hT) a w ha hf hT
theorem Tab.fresh {w0 w : World} {T : List Ent} (hT : Tab w0 w T) (e : Ent) (hok : e.ok w) (hb : ∀ k, ¬ e.blk k) : Tab w0 w (e :: T) :=
  hT.push rfl rfl rfl (Nat.le_refl _) (fun _ _ => rfl) hok (fun k hk => absurd hk (hb k))
/-- A slice that is nil, as a row of the call's own. -/
theorem cont_nilrow {K : Act → World → Prop} {n : Nat} {w0 : World} {L : List (Tmp × Value)} {T : List Ent} (e : TypeId) (sz : Nat) (hk : Cont dfs K n w0 L (.gen (rowE none 0 0 0 e sz [] true) :: T)) : Cont dfs K n w0 L T :=
  fun a w ha hf hT => hk a w ha hf (hT.fresh _ (show Row w none 0 0 0 e sz [] from ⟨⟨by simp, .inl ⟨rfl, rfl⟩⟩, fun h => by omega, fun a ha => by cases ha⟩) (fun k hk => hk.2 rfl))
theorem Row.ofCells {w : World} {b n sz : Nat} {cs : List Value} {e : TypeId} (h : w.heap[b]? = some (.cells cs.toArray e (0, 0))) (hl : cs.length = n * sz) (hn : n ≤ maxLen) : Row w (some ⟨b, 0, none⟩) b n n e sz cs :=
  ⟨⟨hl, .inr ⟨b, n, cs.toArray, rfl, Nat.zero_le _, h, Nat.le_refl _, hn, by simp [hl], by simp [← hl]⟩⟩, fun _ => rfl, fun a ha => by cases ha; rfl⟩
/-- A block of cells, as a row. -/
theorem cont_asRow {K : Act → World → Prop} {n' : Nat} {w0 : World} {L : List (Tmp × Value)} {T : List Ent} (i n sz : Nat) {b : Nat} {cs vals : List Value} {e : TypeId} {own : Bool} (hi : T[i]? = some (.cells b cs e own)) (hv : cs = vals) (hl : cs.length = n * sz) (hn : n ≤ maxLen)
    (hk : Cont dfs K n' w0 L (T.set i (.gen (rowE (some ⟨b, 0, none⟩) b n n e sz vals own)))) : Cont dfs K n' w0 L T := by
  subst hv
  intro a w ha hf hT
  refine hk a w ha hf ?_
  have hok : w.heap[b]? = some (.cells cs.toArray e (0, 0)) := hT.ok i _ hi
  exact hT.replace (e := .cells b cs e own) (e' := .gen (rowE (some ⟨b, 0, none⟩) b n n e sz cs own)) hi rfl rfl id (fun k hk => .inl hk.1) (fun k _ hk _ => ⟨hk, by simp⟩) rfl rfl rfl (Nat.le_refl _) (fun _ _ _ => rfl) (Row.ofCells hok hl hn)
theorem Rd.ofCells {w : World} {b m sz : Nat} {cs vals : List Value} {e : TypeId} (h : w.heap[b]? = some (.cells cs.toArray e (0, 0))) (hv : cs = vals) (hl : cs.length = m * sz) : Rd w (some ⟨b, 0, none⟩) b 0 m sz vals := by
  subst hv
  refine ⟨hl, fun _ => rfl, fun j v hj => ?_⟩
  simp only [Nat.zero_add]
  simp [World.cell?, h, hj]
theorem ivals_append (k : IntKind) (xs ys : List Int) : ivals k xs ++ ivals k ys = ivals k (xs ++ ys) := by simp [ivals]
theorem ivals_one (k : IntKind) (xs : List Int) : ∀ u ∈ ivals k xs, u.oneCell' = true := by
  intro u hu
  obtain ⟨x, _, rfl⟩ := List.mem_map.1 hu
  rfl
theorem addr_add (b o j : Nat) : (⟨b, o, none⟩ : Addr).add j = ⟨b, o + j, none⟩ := by unfold Addr.add; split <;> simp_all

theorem append_own {w0 w : World} {T : List Ent} (hT : Tab w0 w T) {t ty e : TypeId} {A : Option Addr} {i g n cap sz bytes n' : Nat} {vals vals' news : List Value} {z : Value} (hi : T[i]? = some (.gen (rowE A g n cap e sz vals true)))
    (ht : P.underlying t = some (.slice e)) (hinf : (P.info? e).map (fun i => (i.zero, i.size, i.bytes)) = some (some z, sz, bytes)) (hzs : z.cells.size = sz) (hsz : 0 < sz) (hby : 0 < bytes)
    {SA : Option Addr} {sg so m sc : Nat} (hsrc : Rd w SA sg so m sz news) (h1 : ∀ u ∈ news, u.oneCell' = true) (hb : (n + m) * bytes ≤ 140737488355328) (hv : vals ++ news = vals') (hn' : n' = n + m) :
    ∃ (x : Option Addr × Nat × Nat) (w' : World), (Builtin.append_ #[t, t] ty #[.slice A n cap, .slice SA m sc]).run P w = .ok (.slice x.1 n' x.2.2) w' ∧ True ∧ Tab w0 w' (T.set i (.gen (rowE x.1 x.2.1 n' x.2.2 e sz vals' true))) := by
  subst hv hn'
  have hrow : Row w A g n cap e sz vals := hT.ok i _ hi
  obtain ⟨inf, hinf1, hinf2⟩ := Option.map_eq_some_iff.1 hinf
  simp only [Prod.mk.injEq] at hinf2
  obtain ⟨hz, hs, hbt⟩ := hinf2
  by_cases hm : m = 0
  · subst hm
    have hnil : news = [] := List.length_eq_zero_iff.1 (by have := hsrc.len; simpa using this)
    subst hnil
    refine ⟨(A, g, cap), w, ?_, trivial, ?_⟩
    · have hle : n ≤ cap := hrow.capLe
      cases A <;> cases SA <;> simp [Builtin.append_, run_underlying ht, sizeOf, typeInfo, hinf1, Builtin.lenOf, hle, Builtin.firstCells, storeCells, loadCells, loadCellsFrom]
    · simp only [List.append_nil, Nat.add_zero]
      have : T.set i (.gen (rowE A g n cap e sz vals true)) = T := by
        obtain ⟨hlt, he⟩ := List.getElem?_eq_some_iff.1 hi
        rw [← he]
        exact List.set_getElem_self hlt
      rw [this]; exact hT
  · have hSA := hsrc.at_ (by omega)
    subst hSA
    have hml : n + m ≤ maxLen := by
      have h2 : (n + m) * 1 ≤ (n + m) * bytes := Nat.mul_le_mul_left _ hby
      unfold maxLen; omega
    obtain ⟨v', w', hr, hown, hg, _, hat⟩ := run_append_own_at (P := P) w 0 t ty e inf z sz bytes ht hinf1 hz hs hbt hzs hsz (.slice A n cap) n vals hrow.own ⟨sg, so, none⟩ m sc news hsrc.len (fun j u hj => by rw [addr_add]; exact hsrc.cell j u hj) h1 hml hb (Nat.zero_le _)
    rcases hown.2 with ⟨hv0, h0⟩ | ⟨g', cap', cur, hv', _, hg', hle, hcm, hcs, htk⟩
    · omega
    · subst hv'
      refine ⟨(some ⟨g', 0, none⟩, g', cap'), w', hr, trivial, ?_⟩
      have hwhere : (k : Nat) → k = g' → (k = g ∧ A ≠ none) ∨ w.heap.size ≤ k := by
        intro k hk
        subst hk
        rcases hat with hat | hat
        · left
          cases A with
          | none => simp [Value.ownBlock] at hat
          | some a =>
            have := hrow.spot a rfl
            subst this
            simp [Value.ownBlock] at hat
            exact ⟨hat, by simp⟩
        · right
          simp [Value.ownBlock] at hat
          omega
      refine hT.replace (e := .gen (rowE A g n cap e sz vals true)) (e' := .gen (rowE (some ⟨g', 0, none⟩) g' (n + m) cap' e sz (vals ++ news) true)) hi rfl rfl id (fun k hk => hwhere k hk.1) (fun k _ hk hlt => ?_) hg.os hg.tape hg.output hg.size (fun k hk hne => ?_) ?_
      · have := hT.own i _ hi rfl k hk
        omega
      · refine hg.block k hk (fun hek => hne ?_)
        cases A with
        | none => simp [Value.ownBlock] at hek
        | some a =>
          have := hrow.spot a rfl
          subst this
          simp [Value.ownBlock] at hek
          exact ⟨hek, by simp⟩
      · exact ⟨hown, fun _ => rfl, fun a ha => by cases ha; rfl⟩

/-- copy: m numbers of a row that is read over dl numbers of a row from o on. -/
theorem copy_row {w0 w : World} {T : List Ent} (hT : Tab w0 w T) {dT sT ty e : TypeId} {i g n cap o dl dc : Nat} {k : IntKind} {xs ys : List Int} {own : Bool} {A SA : Option Addr} {sg so m sc : Nat} (hi : T[i]? = some (.gen (rowE (some ⟨g, 0, none⟩) g n cap e 1 (ivals k xs) own)))
    (hu : P.underlying dT = some (.slice e)) (hs : (P.info? e).map (·.size) = some 1) (hA : 0 < dl → A = some ⟨g, o, none⟩) (hfit : o + dl ≤ n) (hsrc : Rd w SA sg so m 1 (ivals k ys)) {xs' : List Int} (hx : xs.take o ++ ys.take (min m dl) ++ xs.drop (o + min m dl) = xs') :
    ∃ (x : Unit) (w' : World), (Builtin.copy_ #[dT, sT] ty #[.slice A dl dc, .slice SA m sc]).run P w = .ok (.int .i64 (min m dl : Nat)) w' ∧ True ∧ Tab w0 w' (T.set i (.gen (rowE (some ⟨g, 0, none⟩) g n cap e 1 (ivals k xs') own))) := by
  subst hx
  have hrow : Row w (some ⟨g, 0, none⟩) g n cap e 1 (ivals k xs) := hT.ok i _ hi
  have hxl : xs.length = n := by have := hrow.own.1; rw [ivals_length] at this; omega
  have hyl : ys.length = m := by have := hsrc.len; rw [ivals_length] at this; omega
  by_cases h0 : min m dl = 0
  · refine ⟨(), w, ?_, trivial, ?_⟩
    · rw [h0]
      exact run_copy_none (P := P) w dT sT ty e A SA dl dc m sc hu hs h0
    · rw [h0, List.take_zero, List.append_nil, Nat.add_zero, List.take_append_drop]
      have : T.set i (.gen (rowE (some ⟨g, 0, none⟩) g n cap e 1 (ivals k xs) own)) = T := by
        obtain ⟨hlt, he⟩ := List.getElem?_eq_some_iff.1 hi
        rw [← he]
        exact List.set_getElem_self hlt
      rw [this]; exact hT
  · have hd : 0 < dl := by omega
    have hm : 0 < m := by omega
    have hAA := hA hd
    have hSA := hsrc.at_ hm
    subst hAA hSA
    rcases hrow.own.2 with ⟨h, _⟩ | ⟨g', cap', cur, hv, _, hg, hle, hcm, hcs, htk⟩
    · cases h
    cases hv
    simp only [Nat.mul_one] at hcs htk
    have hcl : (ivals k (ys.take (min m dl))).length = Nat.min m dl := by rw [ivals_length, List.length_take]; simp only [Nat.min_def] at *; split <;> split <;> omega
    have hmin : Nat.min m dl = min m dl := rfl
    have hr := run_copy_row (P := P) w dT sT ty e g o dl dc ⟨sg, so, none⟩ m sc cur e (ivals k (ys.take (min m dl))) hu hs hg hcl (fun j v hj => by
      rw [addr_add]
      refine hsrc.cell j v ?_
      rw [← hj]
      have hjl : j < (ivals k (ys.take (min m dl))).length := (List.getElem?_eq_some_iff.1 hj).1
      rw [hcl, hmin] at hjl
      simp only [ivals, List.getElem?_map, List.getElem?_take, if_pos hjl]) (by rw [hcl, hmin]; omega) (ivals_one _ _)
    rw [hcl] at hr
    refine ⟨(), _, hr, trivial, ?_⟩
    have hsz : min m dl ≤ dl := Nat.min_le_right _ _
    refine hT.replace (e := .gen (rowE (some ⟨g, 0, none⟩) g n cap e 1 (ivals k xs) own)) (e' := .gen (rowE (some ⟨g, 0, none⟩) g n cap e 1 _ own)) hi rfl rfl id (fun k hk => .inl hk) (fun k _ hk _ => hk) rfl rfl rfl (by simp) (fun q hq hne => setRow_other w g q _ (fun he => hne ⟨he, by simp⟩)) ?_
    refine ⟨⟨?_, .inr ⟨g, cap, _, rfl, Nat.zero_le _, setRow_heap w g cur _ e _ hg, hle, hcm, ?_, ?_⟩⟩, fun _ => rfl, fun a ha => by cases ha; rfl⟩
    · rw [ivals_length]
      simp only [List.length_append, List.length_take, List.length_drop, hxl, hyl]
      omega
    · simp only [List.size_toArray, List.length_append, List.length_take, List.length_drop, Array.length_toList, hcl, hmin]
      omega
    · simp only [Nat.mul_one]
      rw [hmin]
      apply List.ext_getElem?
      intro j
      have htk' : ∀ j, j < n → cur.toList[j]? = (ivals k xs)[j]? := fun j hj => by rw [← htk, List.getElem?_take, if_pos hj]
      have e2 : ivals k (xs.take o ++ ys.take (min m dl) ++ xs.drop (o + min m dl)) = (ivals k xs).take o ++ ivals k (ys.take (min m dl)) ++ (ivals k xs).drop (o + min m dl) := by simp [ivals, List.map_take, List.map_drop]
      rw [e2]
      by_cases hjn : j < n
      · rw [List.getElem?_take, if_pos hjn]
        rw [List.getElem?_append, List.getElem?_append, List.getElem?_append, List.getElem?_append]
        have la : ((cur.toList.take o).length = o) := by simp; omega
        have lb : (((ivals k xs).take o).length = o) := by simp [ivals_length, hxl]; omega
        have lc : ((ivals k (ys.take (min m dl))).length = min m dl) := hcl
        simp only [List.length_append, la, lb, lc]
        split
        · split
          · rw [List.getElem?_take, List.getElem?_take, if_pos (by omega), if_pos (by omega)]
            exact htk' j hjn
          · rfl
        · rw [List.getElem?_drop, List.getElem?_drop]
          exact htk' _ (by omega)
      · rw [List.getElem?_take, if_neg hjn]
        symm
        apply List.getElem?_eq_none
        simp only [List.length_append, List.length_take, List.length_drop, ivals_length, hxl, hcl, hmin]
        omega
theorem copyN {s : Sem Value} {w : World} {v : Value} {Q : World → Prop} (h : ∃ (x : Unit) (w' : World), s.run P w = .ok v w' ∧ True ∧ Q w') : ∃ (x : Unit) (w' : World), (∃ v, s.run P w = .ok v w') ∧ True ∧ Q w' :=
  let ⟨x, w', h1, _, h2⟩ := h; ⟨x, w', ⟨v, h1⟩, trivial, h2⟩
theorem Row.facts {w : World} {A : Option Addr} {g n cap : Nat} {e : TypeId} {k : IntKind} {xs : List Int} (h : Row w A g n cap e 1 (ivals k xs)) : (0 < n → A = some ⟨g, 0, none⟩) ∧ xs.length = n ∧ n ≤ cap ∧ cap ≤ maxLen := by
  refine ⟨h.at_, ?_, h.capLe, ?_⟩
  · have := h.own.1; rw [ivals_length] at this; omega
  · rcases h.own.2 with ⟨h1, _⟩ | ⟨g', cap', cur, hv, _, _, _, hm, _⟩
    · cases h1; unfold maxLen; omega
    · cases hv; exact hm
theorem Rd.flen {w : World} {A : Option Addr} {g o n : Nat} {k : IntKind} {xs : List Int} (h : Rd w A g o n 1 (ivals k xs)) : xs.length = n := by
  have := h.len; rw [ivals_length] at this; omega
theorem Rd.facts {w : World} {A : Option Addr} {g o n : Nat} {k : IntKind} {xs : List Int} (h : Rd w A g o n 1 (ivals k xs)) : (0 < n → A = some ⟨g, o, none⟩) ∧ xs.length = n := ⟨h.at_, h.flen⟩
theorem list_eq_getD {xs ys : List Int} {n : Nat} (hx : xs.length = n) (hy : ys.length = n) (h : ∀ j, j < n → xs.getD j 0 = ys.getD j 0) : xs = ys := by
  apply List.ext_getElem?
  intro j
  by_cases hj : j < n
  · have := h j hj
    rw [List.getD_eq_getElem?_getD, List.getD_eq_getElem?_getD, List.getElem?_eq_getElem (by omega), List.getElem?_eq_getElem (by omega)] at this
    rw [List.getElem?_eq_getElem (by omega), List.getElem?_eq_getElem (by omega)]
    simpa using this
  · rw [List.getElem?_eq_none (by omega), List.getElem?_eq_none (by omega)]
/-- A part of a row, read. -/
theorem Rd.sub {w : World} {g o n cap : Nat} {k : IntKind} {xs : List Int} {A : Option Addr} (h : Rd w A g o n 1 (ivals k xs)) {J m : Nat} (hJ : J + m ≤ n) (hc : n ≤ cap) : Rd w (sliceA g o J cap 1) g (o + J * 1) m 1 (ivals k ((xs.drop J).take m)) := by
  have hl : xs.length = n := by have := h.len; rw [ivals_length] at this; omega
  refine ⟨by rw [ivals_length, List.length_take, List.length_drop]; omega, fun hm => sliceA_pos (by omega), fun j v hj => ?_⟩
  have hjm : j < m := by
    have := (List.getElem?_eq_some_iff.1 hj).1
    rw [ivals_length, List.length_take, List.length_drop] at this
    omega
  rw [show o + J * 1 + j = o + (J + j) by omega]
  refine h.cell (J + j) v ?_
  rw [← hj]
  simp only [ivals, List.getElem?_map, List.getElem?_take, if_pos hjm, List.getElem?_drop]
theorem Row.sub {w : World} {g n cap : Nat} {e : TypeId} {k : IntKind} {xs : List Int} {A : Option Addr} (h : Row w A g n cap e 1 (ivals k xs)) {J m : Nat} (hJ : J + m ≤ n) : Rd w (sliceA g 0 J cap 1) g (0 + J * 1) m 1 (ivals k ((xs.drop J).take m)) :=
  Rd.sub h.rd hJ h.capLe
theorem Vw.rdSub {A : Option Addr} {g o n cap : Nat} {k : IntKind} {xs : List Int} {J m : Nat} (hc : n ≤ cap) (hJ : J + m ≤ n) : Vw (.gen (rdE A g o n 1 (ivals k xs))) (.gen (rdE (sliceA g o J cap 1) g (o + J * 1) m 1 (ivals k ((xs.drop J).take m)))) :=
  ⟨fun _ h => Rd.sub h hJ hc, fun w h k' hk => by
    obtain ⟨h1, h2⟩ := hk
    exact ⟨h1, fun hx => h2 (by
      have hn : xs = [] := by simpa [ivals] using hx
      subst hn; simp [ivals])⟩, id, rfl⟩
theorem Vw.rowSub {A : Option Addr} {g n cap : Nat} {e : TypeId} {k : IntKind} {xs : List Int} {o' : Bool} {J m : Nat} (hJ : J + m ≤ n) : Vw (.gen (rowE A g n cap e 1 (ivals k xs) o')) (.gen (rdE (sliceA g 0 J cap 1) g (0 + J * 1) m 1 (ivals k ((xs.drop J).take m)))) :=
  ⟨fun _ h => Row.sub h hJ, fun w h k' hk => by
    have hr : Row w A g n cap e 1 (ivals k xs) := h
    obtain ⟨h1, h2⟩ := hk
    refine ⟨h1, fun hA => h2 ?_⟩
    obtain ⟨f1, f2, f3, f4⟩ := hr.facts
    have h0 : n = 0 := by
      rcases Nat.eq_zero_or_pos n with h | h
      · exact h
      · have := f1 h; rw [hA] at this; cases this
    have hm : m = 0 := by omega
    subst hm; simp [ivals], fun _ => rfl, rfl⟩
end
end Go.Proofs.Ytommojgfkkoghaa
