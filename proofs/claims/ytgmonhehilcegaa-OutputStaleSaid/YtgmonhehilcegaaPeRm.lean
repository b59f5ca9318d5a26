/- Which lists are regions, by the document's words: step by step. -/
import Derived.Test.YtgmonhehilcegaaPeRe
set_option linter.unusedVariables false
set_option linter.unusedSimpArgs false
namespace Go.Proofs.Ytgmonhehilcegaa
open Go Go.RowKit

def sameY (p r : Rect) : Prop := p.y0 = r.y0 ∧ p.y1 = r.y1
instance (p r : Rect) : Decidable (sameY p r) := inferInstanceAs (Decidable (_ ∧ _))
def fromOf (l : List Rect) : Nat → Nat
  | 0 => 0
  | i + 1 => if i = 0 then 0 else if sameY (rget l (i - 1)) (rget l i) then fromOf l i else i
def part (l : List Rect) (a b : Nat) : List Rect := (l.drop a).take (b - a)
structure EndOf (l : List Rect) (i e : Nat) : Prop where
  lt : i < e
  le : e ≤ l.length
  same : ∀ j, i ≤ j → j < e → sameY (rget l j) (rget l i)
  stop : e < l.length → ¬ sameY (rget l e) (rget l i)
structure OkAt (l : List Rect) (i : Nat) : Prop where
  ne : emptyR (rget l i) = false
  on : 0 < i → sameY (rget l (i - 1)) (rget l i) → (rget l (i - 1)).x1 < (rget l i).x0
  next : 0 < i → ¬ sameY (rget l (i - 1)) (rget l i) → (rget l (i - 1)).y1 ≤ (rget l i).y0
  apart : 0 < i → ¬ sameY (rget l (i - 1)) (rget l i) → (rget l (i - 1)).y1 = (rget l i).y0 → ∀ e, EndOf l i e → eqF span1 (part l (fromOf l i) i) (part l i e) = false
theorem EndOf.unique {l : List Rect} {i e e' : Nat} (h : EndOf l i e) (h' : EndOf l i e') : e = e' := by
  rcases Nat.lt_trichotomy e e' with a | a | a
  · exact absurd (h'.same e (Nat.le_of_lt h.lt) a) (h.stop (by have := h'.le; omega))
  · exact a
  · exact absurd (h.same e' (Nat.le_of_lt h'.lt) a) (h'.stop (by have := h.le; omega))
theorem bandR_mem {y y' : Int} {sp : Spans} {r : Rect} (h : r ∈ bandR y y' sp) : r.y0 = y ∧ r.y1 = y' ∧ ∃ s ∈ sp, r = spR y y' s := by
  unfold bandR at h
  rw [List.mem_reverse, List.mem_map] at h
  obtain ⟨s, hs, rfl⟩ := h
  exact ⟨rfl, rfl, s, hs, rfl⟩
theorem bandR_cons (y y' : Int) (s : Run Unit) (sp : Spans) : bandR y y' (s :: sp) = bandR y y' sp ++ [spR y y' s] := by simp [bandR]
theorem rget_take {l : List Rect} {i j : Nat} (h : j < i) : rget (l.take i) j = rget l j := by
  unfold rget
  rw [List.getD_eq_getElem?_getD, List.getD_eq_getElem?_getD, List.getElem?_take, if_pos h]
theorem rget_app_left {a b : List Rect} {j : Nat} (h : j < a.length) : rget (a ++ b) j = rget a j := by rw [rget_append, if_pos h]
theorem rget_app_right {a b : List Rect} {j : Nat} (h : a.length ≤ j) : rget (a ++ b) j = rget b (j - a.length) := by rw [rget_append, if_neg (by omega)]

/-! ### The words hold: it is a region -/
structure Pref (l : List Rect) (i : Nat) (t : Bands) (y y' : Int) (sp : Spans) : Prop where
  ok : BandsOk t
  runs : RunsOk sp
  ne : sp ≠ []
  lt : y < y'
  eq : l.take i = flatR t ++ bandR y y' sp
  frm : fromOf l i = (flatR t).length
  sep : ∀ c u, t = c :: u → c.2.1 ≤ y ∧ (c.2.1 = y → ∀ e, EndOf l (flatR t).length e → eqF span1 (bandR c.1 c.2.1 c.2.2) (part l (flatR t).length e) = false)
theorem Pref.len {l : List Rect} {i : Nat} {t : Bands} {y y' : Int} {sp : Spans} (h : Pref l i t y y' sp) (hi : i ≤ l.length) : i = (flatR t).length + sp.length ∧ 0 < sp.length := by
  have := congrArg List.length h.eq
  rw [List.length_take, List.length_append, bandR_length] at this
  have : 0 < sp.length := by cases e : sp with
    | nil => exact absurd e h.ne
    | cons _ _ => simp
  omega
theorem Pref.inb {l : List Rect} {i : Nat} {t : Bands} {y y' : Int} {sp : Spans} (h : Pref l i t y y' sp) (hi : i ≤ l.length) {j : Nat} (h1 : (flatR t).length ≤ j) (h2 : j < i) : (rget l j).y0 = y ∧ (rget l j).y1 = y' := by
  have hl := h.len hi
  rw [← rget_take h2, h.eq, rget_app_right h1]
  have := bandR_mem (rget_mem (l := bandR y y' sp) (i := j - (flatR t).length) (by rw [bandR_length]; omega))
  exact ⟨this.1, this.2.1⟩
theorem Pref.partEq {l : List Rect} {i : Nat} {t : Bands} {y y' : Int} {sp : Spans} (h : Pref l i t y y' sp) (hi : i ≤ l.length) : part l (flatR t).length i = bandR y y' sp := by
  unfold part
  have e : (l.take i).drop (flatR t).length = bandR y y' sp := by rw [h.eq, List.drop_left]
  rw [← e, List.drop_take]
theorem Pref.endOf {l : List Rect} {i : Nat} {t : Bands} {y y' : Int} {sp : Spans} (h : Pref l i t y y' sp) (hi : i ≤ l.length) (hs : i < l.length → ¬ sameY (rget l (i - 1)) (rget l i)) : EndOf l (flatR t).length i := by
  have hl := h.len hi
  have h0 := h.inb hi (Nat.le_refl _) (by omega)
  refine ⟨by omega, hi, fun j h1 h2 => ?_, fun hlt hsame => hs hlt ?_⟩
  · have := h.inb hi h1 h2
    exact ⟨this.1.trans h0.1.symm, this.2.trans h0.2.symm⟩
  · have h1 := h.inb hi (j := i - 1) (by omega) (by omega)
    exact ⟨h1.1.trans (h0.1.symm.trans hsame.1.symm), h1.2.trans (h0.2.symm.trans hsame.2.symm)⟩
/-- A band that has come to its end is one of the bands. -/
theorem Pref.close {l : List Rect} {i : Nat} {t : Bands} {y y' : Int} {sp : Spans} (h : Pref l i t y y' sp) (hi : i ≤ l.length) (hs : i < l.length → ¬ sameY (rget l (i - 1)) (rget l i)) : BandsOk ((y, y', sp) :: t) := by
  refine ⟨⟨h.lt, ?_, h.ok.runs⟩, fun b hb => ?_⟩
  · cases t with
    | nil => trivial
    | cons c u =>
      obtain ⟨h1, h2⟩ := h.sep c u rfl
      refine ⟨h1, fun he hsp => ?_⟩
      have := h2 he i (h.endOf hi hs)
      rw [h.partEq hi, eqF_span, decide_eq_false_iff_not] at this
      exact this hsp
  · rcases List.mem_cons.1 hb with rfl | hb
    · exact ⟨h.runs, h.ne⟩
    · exact h.ok.each b hb
theorem pref_step {l : List Rect} {i : Nat} {t : Bands} {y y' : Int} {sp : Spans} (h : Pref l i t y y' sp) (hi : i < l.length) (ho : OkAt l i) : ∃ t y y' sp, Pref l (i + 1) t y y' sp := by
  have hl := h.len (Nat.le_of_lt hi)
  have hne := emptyB_false.1 ho.ne
  have hlast := h.inb (Nat.le_of_lt hi) (j := i - 1) (by omega) (by omega)
  have hx1 : ∀ s u, sp = s :: u → (rget l (i - 1)).x1 = s.2.1 := by
    intro s u e
    rw [← rget_take (l := l) (i := i) (j := i - 1) (by omega), h.eq, e, bandR_cons, ← List.append_assoc, rget_app_right (by rw [List.length_append, bandR_length]; rw [e] at hl; simp only [List.length_cons] at hl; omega)]
    rw [List.length_append, bandR_length, show i - 1 - ((flatR t).length + u.length) = 0 by rw [e] at hl; simp only [List.length_cons] at hl; omega]
    rfl
  by_cases hs : sameY (rget l (i - 1)) (rget l i)
  · have hy : (rget l i).y0 = y ∧ (rget l i).y1 = y' := ⟨hs.1.symm.trans hlast.1, hs.2.symm.trans hlast.2⟩
    refine ⟨t, y, y', ((rget l i).x0, (rget l i).x1, ()) :: sp, h.ok, ⟨hne.1, ?_, h.runs⟩, by simp, h.lt, ?_, ?_, h.sep⟩
    · cases e : sp with
      | nil => trivial
      | cons s u =>
        have := ho.on (by omega) hs
        rw [hx1 s u e] at this
        exact ⟨Int.le_of_lt this, fun he => by simp only at he; omega⟩
    · rw [take_succ_rget hi, h.eq, bandR_cons, List.append_assoc]
      congr 2
      unfold spR
      rw [← hy.1, ← hy.2]
    · rw [fromOf, if_neg (by omega), if_pos hs]; exact h.frm
  · have hb := h.close (Nat.le_of_lt hi) (fun _ => hs)
    have hnx := ho.next (by omega) hs
    refine ⟨(y, y', sp) :: t, (rget l i).y0, (rget l i).y1, [((rget l i).x0, (rget l i).x1, ())], hb, ⟨hne.1, trivial, trivial⟩, by simp, hne.2, ?_, ?_, ?_⟩
    · rw [take_succ_rget hi, flatR, h.eq]
      rfl
    · rw [fromOf, if_neg (by omega), if_neg hs, flatR, List.length_append, bandR_length]; show i = (flatR t).length + sp.length; omega
    · intro c u e
      cases e
      refine ⟨by simp only; rw [← hlast.2]; exact hnx, fun he e hE => ?_⟩
      simp only at he
      have hlen : (flatR ((y, y', sp) :: t)).length = i := by rw [flatR, List.length_append, bandR_length]; show (flatR t).length + sp.length = i; omega
      rw [hlen] at hE ⊢
      have := ho.apart (by omega) hs (by rw [hlast.2]; exact he) e hE
      rw [h.frm, h.partEq (Nat.le_of_lt hi)] at this
      exact this
theorem may_to {l : List Rect} (h : ∀ i, i < l.length → OkAt l i) : ∃ F, IsReg l F := by
  by_cases hl : l.length = 0
  · have : l = [] := List.length_eq_zero_iff.1 hl
    subst this
    exact ⟨_, nil_isReg⟩
  · have h0 := h 0 (by omega)
    have hne := emptyB_false.1 h0.ne
    have key : ∀ i, i + 1 ≤ l.length → ∃ t y y' sp, Pref l (i + 1) t y y' sp := by
      intro i
      induction i with
      | zero =>
        intro hi
        refine ⟨[], (rget l 0).y0, (rget l 0).y1, [((rget l 0).x0, (rget l 0).x1, ())], ⟨trivial, fun b hb => by cases hb⟩, ⟨hne.1, trivial, trivial⟩, by simp, hne.2, ?_, rfl, fun c u e => by cases e⟩
        rw [take_succ_rget hi]; rfl
      | succ i ih =>
        intro hi
        obtain ⟨t, y, y', sp, hp⟩ := ih (by omega)
        exact pref_step hp (by omega) (h (i + 1) (by omega))
    obtain ⟨t, y, y', sp, hp⟩ := key (l.length - 1) (by omega)
    rw [show l.length - 1 + 1 = l.length by omega] at hp
    have hb := hp.close (Nat.le_refl _) (fun hlt => by omega)
    have e := hp.eq
    rw [List.take_length] at e
    exact ⟨_, (y, y', sp) :: t, hb, e, fun x y => rfl⟩

/-! ### A region: the words hold -/
theorem flatR_append (u t : Bands) : flatR (u ++ t) = flatR t ++ flatR u := by
  induction u with
  | nil => simp [flatR]
  | cons c u ih => rw [List.cons_append, flatR, ih, flatR, List.append_assoc]
theorem flatR_at : ∀ {bs : Bands} {i : Nat}, i < (flatR bs).length → ∃ u b t k, bs = u ++ b :: t ∧ i = (flatR t).length + k ∧ k < b.2.2.length := by
  intro bs
  induction bs with
  | nil => intro i h; simp [flatR] at h
  | cons c r ih =>
    intro i h
    rw [flatR, List.length_append, bandR_length] at h
    by_cases hi : i < (flatR r).length
    · obtain ⟨u, b, t, k, e, h1, h2⟩ := ih hi
      exact ⟨c :: u, b, t, k, by rw [e]; rfl, h1, h2⟩
    · exact ⟨[], c, r, i - (flatR r).length, rfl, by omega, by omega⟩
theorem RunsOk.append {β : Type} {u t : List (Run β)} (h : RunsOk (u ++ t)) : RunsOk t := by
  induction u with
  | nil => exact h
  | cons c u ih => exact ih h.tail
theorem band_rise {y y' : Int} : ∀ {sp : Spans}, RunsOk sp → ∀ k, k + 1 < sp.length → (rget (bandR y y' sp) k).x1 < (rget (bandR y y' sp) (k + 1)).x0 := by
  intro sp
  induction sp with
  | nil => intro _ k h; simp at h
  | cons s u ih =>
    intro h k hk
    simp only [List.length_cons] at hk
    rw [bandR_cons]
    by_cases hlt : k + 1 < u.length
    · rw [rget_app_left (by rw [bandR_length]; omega), rget_app_left (by rw [bandR_length]; omega)]
      exact ih h.tail k hlt
    · have hu : k + 1 = u.length := by omega
      rw [rget_app_left (by rw [bandR_length]; omega), rget_app_right (by rw [bandR_length]; omega), bandR_length, hu, Nat.sub_self]
      cases u with
      | nil => simp at hu
      | cons q v =>
        simp only [List.length_cons] at hu
        rw [bandR_cons, rget_app_right (by rw [bandR_length]; omega), bandR_length, show k - v.length = 0 by omega]
        obtain ⟨_, ⟨h1, h2⟩, _⟩ := h
        show q.2.1 < s.1
        rcases Int.lt_or_eq_of_le h1 with h3 | h3
        · exact h3
        · exact absurd rfl (h2 h3)
structure Place (bs : Bands) (i : Nat) (u : Bands) (b : Run Spans) (t : Bands) (k : Nat) : Prop where
  eq : bs = u ++ b :: t
  i_ : i = (flatR t).length + k
  k_ : k < b.2.2.length
theorem Place.get {bs : Bands} {i : Nat} {u : Bands} {b : Run Spans} {t : Bands} {k : Nat} (h : Place bs i u b t k) : rget (flatR bs) i = rget (bandR b.1 b.2.1 b.2.2) k := by
  rw [h.eq, flatR_append, flatR, List.append_assoc, rget_app_right (by have := h.i_; omega), rget_app_left (by rw [bandR_length]; have := h.i_; have := h.k_; omega)]
  congr 1
  have := h.i_; omega
theorem Place.y {bs : Bands} {i : Nat} {u : Bands} {b : Run Spans} {t : Bands} {k : Nat} (h : Place bs i u b t k) : (rget (flatR bs) i).y0 = b.1 ∧ (rget (flatR bs) i).y1 = b.2.1 := by
  rw [h.get]
  have := bandR_mem (rget_mem (l := bandR b.1 b.2.1 b.2.2) (i := k) (by rw [bandR_length]; exact h.k_))
  exact ⟨this.1, this.2.1⟩
theorem from_place {bs : Bands} (hb : BandsOk bs) {u : Bands} {b : Run Spans} {t : Bands} (e : bs = u ++ b :: t) : ∀ k, 0 < k → k ≤ b.2.2.length → fromOf (flatR bs) ((flatR t).length + k) = (flatR t).length := by
  intro k
  induction k with
  | zero => intro h; omega
  | succ k ih =>
    intro _ hk
    have hp : Place bs ((flatR t).length + k) u b t k := ⟨e, rfl, by omega⟩
    rw [show (flatR t).length + (k + 1) = ((flatR t).length + k) + 1 by omega, fromOf]
    by_cases h0 : (flatR t).length + k = 0
    · rw [if_pos h0]; omega
    · rw [if_neg h0]
      by_cases hk0 : k = 0
      · subst hk0
        -- the band before
        cases t with
        | nil => simp [flatR] at h0
        | cons c t' =>
          have hc : 0 < c.2.2.length := by
            have := (hb.each c (by rw [e]; simp)).2
            cases h : c.2.2 with
            | nil => exact absurd h this
            | cons _ _ => simp
          have hq : Place bs ((flatR (c :: t')).length + 0 - 1) (u ++ [b]) c t' (c.2.2.length - 1) := ⟨by rw [e]; simp, by rw [flatR, List.length_append, bandR_length]; omega, by omega⟩
          have y1 := hq.y
          have y2 := hp.y
          have hr : RunsOk (b :: c :: t') := RunsOk.append (u := u) (by rw [← e]; exact hb.runs)
          have h1 := hr.2.1.1
          have h2 := hr.tail.1
          rw [if_neg (fun hs => by have := hs.1; rw [y1.1, y2.1] at this; omega)]
          omega
      · have hq : Place bs ((flatR t).length + k - 1) u b t (k - 1) := ⟨e, by omega, by omega⟩
        have y1 := hq.y
        have y2 := hp.y
        rw [if_pos ⟨y1.1.trans y2.1.symm, y1.2.trans y2.2.symm⟩]
        exact ih (by omega) (by omega)
theorem may_from {l : List Rect} {F : Int → Int → Bool} (h : IsReg l F) : ∀ i, i < l.length → OkAt l i := by
  obtain ⟨bs, hb, rfl, _⟩ := h
  intro i hi
  obtain ⟨u, b, t, k, e, h1, h2⟩ := flatR_at hi
  have hp : Place bs i u b t k := ⟨e, h1, h2⟩
  have hbm : b ∈ bs := by rw [e]; simp
  have hev := hb.each b hbm
  have hlt := hb.runs.lt b hbm
  have hr : RunsOk (b :: t) := RunsOk.append (u := u) (by rw [← e]; exact hb.runs)
  have hy := hp.y
  have prev : 0 < i → (0 < k ∧ Place bs (i - 1) u b t (k - 1)) ∨ (k = 0 ∧ ∃ c t', t = c :: t' ∧ 0 < c.2.2.length ∧ Place bs (i - 1) (u ++ [b]) c t' (c.2.2.length - 1)) := by
    intro hi0
    by_cases hk : 0 < k
    · exact .inl ⟨hk, e, by omega, by omega⟩
    · have hk0 : k = 0 := by omega
      subst hk0
      right
      refine ⟨rfl, ?_⟩
      cases t with
      | nil => simp [flatR] at h1; omega
      | cons c t' =>
        have hc : 0 < c.2.2.length := by
          have := (hb.each c (by rw [e]; simp)).2
          cases h : c.2.2 with
          | nil => exact absurd h this
          | cons _ _ => simp
        exact ⟨c, t', rfl, hc, by rw [e]; simp, by rw [h1, flatR, List.length_append, bandR_length]; omega, by omega⟩
  refine ⟨?_, fun h0 hs => ?_, fun h0 hs => ?_, fun h0 hs ht e' hE => ?_⟩
  · rw [hp.get]
    obtain ⟨_, _, s, hs, er⟩ := bandR_mem (rget_mem (l := bandR b.1 b.2.1 b.2.2) (i := k) (by rw [bandR_length]; exact h2))
    rw [er]
    exact emptyB_false.2 ⟨hev.1.lt s hs, hlt⟩
  · rcases prev h0 with ⟨hk, hq⟩ | ⟨hk, c, t', rfl, hc, hq⟩
    · rw [hq.get, hp.get]
      have := band_rise (y := b.1) (y' := b.2.1) hev.1 (k - 1) (by omega)
      rwa [show k - 1 + 1 = k by omega] at this
    · exfalso
      have y1 := hq.y
      have h3 := hr.2.1.1
      have h4 := hr.tail.1
      have := hs.1
      rw [y1.1, hy.1] at this
      omega
  · rcases prev h0 with ⟨hk, hq⟩ | ⟨hk, c, t', rfl, hc, hq⟩
    · have y1 := hq.y
      exact absurd ⟨y1.1.trans hy.1.symm, y1.2.trans hy.2.symm⟩ hs
    · have y1 := hq.y
      rw [y1.2, hy.1]
      exact hr.2.1.1
  · rcases prev h0 with ⟨hk, hq⟩ | ⟨hk, c, t', rfl, hc, hq⟩
    · have y1 := hq.y
      exact absurd ⟨y1.1.trans hy.1.symm, y1.2.trans hy.2.symm⟩ hs
    · have y1 := hq.y
      rw [y1.2, hy.1] at ht
      subst hk
      have hne := hr.2.1.2 ht
      have hf := from_place hb (u := u ++ [b]) (b := c) (t := t') (by rw [e]; simp) c.2.2.length hc (Nat.le_refl _)
      have hi2 : i = (flatR t').length + c.2.2.length := by rw [h1, flatR, List.length_append, bandR_length]; omega
      rw [← hi2] at hf
      have hE2 : EndOf (flatR bs) i (i + b.2.2.length) := by
        have hlen : (flatR bs).length = (flatR (c :: t')).length + b.2.2.length + (flatR u).length := by rw [e, flatR_append, flatR, List.length_append, List.length_append, bandR_length]
        refine ⟨by omega, by omega, fun j h5 h6 => ?_, fun h5 hsame => ?_⟩
        · have hj : Place bs j u b (c :: t') (j - i) := ⟨e, by omega, by omega⟩
          exact ⟨hj.y.1.trans hy.1.symm, hj.y.2.trans hy.2.symm⟩
        · obtain ⟨u2, b2, t2, k2, e2, h7, h8⟩ := flatR_at h5
          have hj : Place bs (i + b.2.2.length) u2 b2 t2 k2 := ⟨e2, h7, h8⟩
          -- what stands behind b is in a band above it
          have hmem : rget (flatR bs) (i + b.2.2.length) ∈ flatR u := by
            rw [e, flatR_append, flatR, List.append_assoc, rget_app_right (by omega), rget_app_right (by rw [bandR_length]; omega)]
            exact rget_mem (by rw [bandR_length]; omega)
          obtain ⟨d, hd, s, hs2, er⟩ := flatR_mem hmem
          obtain ⟨u3, u4, e3⟩ := List.append_of_mem hd
          have hr2 : RunsOk (d :: (u4 ++ b :: c :: t')) := RunsOk.append (u := u3) (by rw [e, e3] at hb; simpa using hb.runs)
          have h9 := hr2.below b (by simp)
          have := hsame.1
          rw [er, hy.1] at this
          simp only at this
          omega
      have he : e' = i + b.2.2.length := hE.unique hE2
      subst he
      rw [hf]
      have p1 : part (flatR bs) (flatR t').length i = bandR c.1 c.2.1 c.2.2 := by
        unfold part
        rw [e, flatR_append, flatR, flatR, List.append_assoc, List.append_assoc, List.drop_left]
        exact List.take_left' (by rw [bandR_length]; omega)
      have p2 : part (flatR bs) i (i + b.2.2.length) = bandR b.1 b.2.1 b.2.2 := by
        unfold part
        have : i = (flatR (c :: t')).length := by omega
        rw [e, flatR_append, flatR, List.append_assoc, this, List.drop_left]
        exact List.take_left' (by rw [bandR_length]; omega)
      rw [p1, p2, eqF_span]
      exact decide_eq_false hne
theorem may_iff (l : List Rect) : (∀ i, i < l.length → OkAt l i) ↔ l = canR l := by
  constructor
  · intro h
    obtain ⟨F, hF⟩ := may_to h
    exact hF.self.unique (canR_isReg l)
  · intro h
    refine may_from (F := hasL l) ?_
    conv => enter [1]; rw [h]
    exact canR_isReg l
theorem canR_small {l : List Rect} (h : l.length ≤ 14) : (canR l).length ≤ 784 := by
  have h1 := ysP_length l []
  have h2 := mgSt_length (al := fun a b _ => alikeL a b) (own := fun i => bandP orB l [] ((ysP l []).getD i 0) ((ysP l []).getD (i + 1) 0)) (ys := ysP l []) (m := 2 * (l.length + 0)) (fun i => bandP_length orB l [] _ _) ((ysP l []).length - 1)
  simp only [List.length_nil] at h1
  have h3 : ((ysP l []).length - 1) * (2 * (l.length + 0)) ≤ 28 * 28 := Nat.mul_le_mul (by omega) (by omega)
  unfold canR regM mgL
  rw [List.length_append]
  omega
end Go.Proofs.Ytgmonhehilcegaa

