/- How many points have each color: a map of counts, in plain words; a map that was ranged over is a map again. -/
import Derived.Test.YtlfahohbkgdabaaRu
import Derived.Test.YtlfahohbkgdabaaRw
set_option linter.unusedVariables false
set_option linter.unusedSimpArgs false
namespace Go.Proofs.Ytlfahohbkgdabaa
open Go Go.RowKit
variable {dfs : List Deferred}
theorem cont_closeMapU {K : Act → World → Prop} {n : Nat} {w0 : World} {L : List (Tmp × Value)} {T : List Ent} (i : Nat) {b ck : Nat} {es : Array MapEntry} {l : IL} (hi : T[i]? = some (roObjE b (.map es ck))) (hF : MapFU es ck l) (h : Cont dfs K n w0 L (T.set i (.gen (mapRU b (imsV l))))) : Cont dfs K n w0 L T := by
  intro a w ha hf hT
  have hk : w.heap[b]? = some (.map es ck) := hT.ok i _ hi
  refine h a w ha hf (hT.swapRo hi rfl rfl rfl (fun k hk => hk) (show MapAtU w b (imsV l) from ⟨es, ck, hk, ?_, hF.lt, hF.nd⟩))
  have := hF.kv
  unfold kvOf at this
  rw [this]
  unfold imsV
  rw [List.map_map]; rfl
theorem iput_key {y x u : Int} : ∀ l : IL, y ∈ (iput l x u).map (·.1) ↔ y = x ∨ y ∈ l.map (·.1) := by
  intro l
  induction l with
  | nil => simp [iput]
  | cons p r ih =>
    obtain ⟨k, v⟩ := p
    simp only [iput]
    by_cases h : x = k
    · subst h; simp
    · rw [if_neg h]; simp only [List.map_cons, List.mem_cons, ih]
      constructor
      · rintro (h1 | h1 | h1) <;> simp [h1]
      · rintro (h1 | h1 | h1) <;> simp [h1]
theorem iput_nodup {x u : Int} : ∀ {l : IL}, (l.map (·.1)).Nodup → ((iput l x u).map (·.1)).Nodup := by
  intro l
  induction l with
  | nil => intro _; simp [iput]
  | cons p r ih =>
    obtain ⟨k, v⟩ := p
    intro hn
    simp only [List.map_cons, List.nodup_cons] at hn
    simp only [iput]
    by_cases h : x = k
    · subst h; rw [if_pos rfl]; simp only [List.map_cons, List.nodup_cons]; exact hn
    · rw [if_neg h]; simp only [List.map_cons, List.nodup_cons]
      exact ⟨fun hm => by rcases (iput_key r).1 hm with h1 | h1; exact h h1.symm; exact hn.1 h1, ih hn.2⟩
theorem iput_mem {x u : Int} {p : Int × Int} : ∀ {l : IL}, (l.map (·.1)).Nodup → p ∈ iput l x u → p = (x, u) ∨ (p ∈ l ∧ p.1 ≠ x) := by
  intro l
  induction l with
  | nil => intro _ h; exact .inl (by simpa [iput] using h)
  | cons q r ih =>
    obtain ⟨k, v⟩ := q
    intro hn h
    simp only [List.map_cons, List.nodup_cons] at hn
    simp only [iput] at h
    by_cases hk : x = k
    · subst hk
      rw [if_pos rfl] at h
      rcases List.mem_cons.1 h with h | h
      · exact .inl h
      · refine .inr ⟨List.mem_cons_of_mem _ h, fun he => hn.1 ?_⟩
        rw [← he]; exact List.mem_map.2 ⟨p, h, rfl⟩
    · rw [if_neg hk] at h
      rcases List.mem_cons.1 h with h | h
      · exact .inr ⟨by rw [h]; exact List.mem_cons_self, by rw [h]; exact fun he => hk he.symm⟩
      · rcases ih hn.2 h with h | ⟨h1, h2⟩
        · exact .inl h
        · exact .inr ⟨List.mem_cons_of_mem _ h1, h2⟩
def sumL : IL → Int
  | [] => 0
  | p :: r => p.2 + sumL r
theorem sumL_append (a b : IL) : sumL (a ++ b) = sumL a + sumL b := by
  induction a with
  | nil => simp [sumL]
  | cons p r ih => simp only [List.cons_append, sumL, ih]; omega
theorem sumL_perm {a b : IL} (h : a.Perm b) : sumL a = sumL b := by
  induction h with
  | nil => rfl
  | cons x _ ih => simp only [sumL, ih]
  | swap x y l => simp only [sumL]; omega
  | trans _ _ h1 h2 => exact h1.trans h2
theorem iput_sum {x : Int} : ∀ l : IL, sumL (iput l x (kindL l x + 1)) = sumL l + 1 := by
  intro l
  induction l with
  | nil => simp [iput, sumL, kindL, iget]
  | cons q r ih =>
    obtain ⟨k, v⟩ := q
    by_cases hk : x = k
    · subst hk; simp only [iput, if_true, sumL, kindL, iget, Option.getD_some]; omega
    · have e : kindL ((k, v) :: r) x = kindL r x := by simp only [kindL, iget]; rw [if_neg hk]
      rw [e]
      simp only [iput, if_neg hk, sumL, ih]; omega
theorem iget_memN {x v : Int} : ∀ {l : IL}, (l.map (·.1)).Nodup → (x, v) ∈ l → iget l x = some v := by
  intro l
  induction l with
  | nil => intro _ h; cases h
  | cons q r ih =>
    obtain ⟨k, u⟩ := q
    intro hn h
    simp only [List.map_cons, List.nodup_cons] at hn
    rcases List.mem_cons.1 h with h | h
    · cases h; simp [iget]
    · have : x ≠ k := fun he => hn.1 (he ▸ List.mem_map.2 ⟨_, h, rfl⟩)
      simp only [iget, if_neg this]
      exact ih hn.2 h
/-- A map that tells of colors how many there are. -/
structure CntM (l : IL) (xs : List Int) : Prop where
  get : ∀ c, kindL l c = ((xs.count c : Nat) : Int)
  nd : (l.map (·.1)).Nodup
  pos : ∀ p ∈ l, 1 ≤ p.2
  sum : sumL l = (xs.length : Int)
theorem CntM.nil : CntM [] [] := ⟨fun c => by simp [kindL, iget], by simp, fun p hp => (List.not_mem_nil hp).elim, by simp [sumL]⟩
theorem CntM.step {l : IL} {xs : List Int} (h : CntM l xs) (c : Int) : CntM (iput l c (kindL l c + 1)) (xs ++ [c]) := by
  refine ⟨fun d => ?_, iput_nodup h.nd, fun p hp => ?_, ?_⟩
  · have hk : kindL (iput l c (kindL l c + 1)) d = if d = c then kindL l c + 1 else kindL l d := by
      unfold kindL; rw [iget_put]; split <;> rfl
    rw [hk, List.count_append]
    have hg := h.get d
    by_cases hd : d = c
    · subst hd
      rw [if_pos rfl, hg]
      simp
    · rw [if_neg hd, hg]
      have : List.count d [c] = 0 := by simp [List.count_cons, Ne.symm hd]
      omega
  · rcases iput_mem h.nd hp with rfl | ⟨h1, _⟩
    · have := h.get c; show 1 ≤ kindL l c + 1; omega
    · exact h.pos p h1
  · rw [iput_sum, h.sum, List.length_append]; simp
theorem CntM.mem {l : IL} {xs : List Int} (h : CntM l xs) {c v : Int} (hm : (c, v) ∈ l) : 1 ≤ v ∧ v = ((xs.count c : Nat) : Int) := by
  refine ⟨h.pos _ hm, ?_⟩
  rw [← h.get c]
  unfold kindL
  rw [iget_memN h.nd hm]; rfl
theorem take_getD {xs : List Int} {i : Nat} (h : i < xs.length) : xs.take (i + 1) = xs.take i ++ [xs.getD i 0] := by
  rw [List.take_add_one, List.getD_eq_getElem?_getD, List.getElem?_eq_getElem h]; rfl
theorem count_take {xs : List Int} {i : Nat} {c : Int} (h : i < xs.length) : (xs.take (i + 1)).count c = (xs.take i).count c + if xs.getD i 0 = c then 1 else 0 := by
  rw [take_getD h, List.count_append]
  congr 1
  simp only [List.count_cons, List.count_nil, Nat.zero_add, beq_iff_eq]
def cntI (px : List Int) (c : Int) : Int := ((px.count c : Nat) : Int)
theorem CntM.next {l : IL} {px : List Int} {i : Nat} {c : Int} (h : CntM l (px.take i)) (hi : i < px.length) (hc : c = px.getD i 0) : CntM (iput l c (kindL l c + 1)) (px.take (i + 1)) := by
  rw [take_getD hi, ← hc]; exact h.step c
theorem CntM.bd {l : IL} {xs : List Int} {n : Nat} (h : CntM l xs) (hn : xs.length ≤ n) (c : Int) : 0 ≤ kindL l c ∧ kindL l c ≤ (n : Int) := by
  rw [h.get c]
  have := List.count_le_length (a := c) (l := xs)
  omega
theorem rowL_at {Wn k j : Nat} {px : List Int} (hj : j < Wn) : (rowL Wn px ((k : Nat) : Int)).getD j 0 = px.getD (k * Wn + j) 0 := by
  unfold rowL
  rw [List.getD_eq_getElem?_getD, List.getElem?_take, if_pos hj, List.getElem?_drop, Int.toNat_natCast, ← List.getD_eq_getElem?_getD]
theorem sumL_snoc (l : IL) (x v : Int) : sumL (l ++ [(x, v)]) = sumL l + v := by rw [sumL_append]; simp [sumL]
theorem sumL_le {l m : IL} (h : ∀ p ∈ m, 0 ≤ p.2) : ∀ {d : IL}, (d ++ l).Perm m → 0 ≤ sumL d ∧ sumL d ≤ sumL m := by
  intro d hp
  have nn : ∀ a : IL, (∀ p ∈ a, 0 ≤ p.2) → 0 ≤ sumL a := by
    intro a
    induction a with
    | nil => intro _; exact Int.le_refl 0
    | cons p r ih => intro ha; simp only [sumL]; have := ha p (by simp); have := ih (fun q hq => ha q (by simp [hq])); omega
  have h1 := nn d (fun p hq => h p (hp.mem_iff.1 (by simp [hq])))
  have h2 := nn l (fun p hq => h p (hp.mem_iff.1 (by simp [hq])))
  have h3 := sumL_perm hp
  rw [sumL_append] at h3
  omega
theorem IterPU.sum {es : Array MapEntry} {l : IL} {sn : Array Nat} {dn : IL} {xs : List Int} (h : IterPU es l sn dn) (hc : CntM l xs) : 0 ≤ sumL dn ∧ sumL dn ≤ (xs.length : Int) := by
  obtain ⟨lf, _, h2⟩ := h.left
  rw [← hc.sum]
  exact sumL_le (fun p hp => by have := hc.pos p hp; omega) h2
/-- A map of one color alone. -/
theorem CntM.one {l : IL} {xs : List Int} (h : CntM l xs) {c : Int} (hx : ∀ x ∈ xs, x = c) (h0 : 0 < xs.length) : l.length = 1 ∧ kindL l c = (xs.length : Int) := by
  have hc : xs.count c = xs.length := List.count_eq_length.2 (fun x hx' => (hx x hx').symm)
  have hk : kindL l c = (xs.length : Int) := by rw [h.get c, hc]
  refine ⟨?_, hk⟩
  have hall : ∀ p ∈ l, p.1 = c := by
    intro p hp
    have := h.mem (c := p.1) (v := p.2) hp
    have h1 : 0 < xs.count p.1 := by omega
    exact hx _ (List.count_pos_iff.1 h1)
  match l, h.nd, hall, hk with
  | [], _, _, hk => simp [kindL, iget] at hk; omega
  | [p], _, _, _ => rfl
  | p :: q :: r, hn, hall, _ =>
    have h1 := hall p (by simp)
    have h2 := hall q (by simp)
    simp only [List.map_cons, List.nodup_cons, List.mem_cons] at hn
    exact (hn.1 (.inl (h1.trans h2.symm))).elim
end Go.Proofs.Ytlfahohbkgdabaa
