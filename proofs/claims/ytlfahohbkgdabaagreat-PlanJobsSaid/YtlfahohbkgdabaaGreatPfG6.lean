/- Texts of this proof's own, put together: what each holds is told ahead of it. -/
import Derived.Test.YtlfahohbkgdabaaGreatPfG5
import Derived.Test.YtlfahohbkgdabaaGreatPfG1
import Derived.Test.YtlfahohbkgdabaaGreatPfG3
import Derived.LaidEqlPtr
import Derived.Test.YtlfahohbkgdabaaGreatProg
import Derived.Test.YtlfahohbkgdabaaGreatPfG0
import Derived.Maps.RangeRun
set_option linter.unusedSimpArgs false
set_option linter.unusedVariables false
namespace Go.Proofs.YtlfahohbkgdabaaGreat
open Go Go.RowKit
def sameY (p r : Rect) : Prop := p.y0 = r.y0 ∧ p.y1 = r.y1
instance (p r : Rect) : Decidable (sameY p r) := inferInstanceAs (Decidable (_ ∧ _))
def fromOf (l : List Rect) : Nat → Nat
  | 0 => 0
  | i + 1 => if i = 0 then 0 else if sameY (rget l (i - 1)) (rget l i) then fromOf l i else i
def part (l : List Rect) (a b : Nat) : List Rect := (l.drop a).take (b - a)
structure EndOf (l : List Rect) (i e : Nat) : Prop where
  lt : i < e
  le : e ≤ l.length
  same : ∀ j, i ≤ j → j < e → sameY (rget l j) (rget l i)
  stop : e < l.length → ¬ sameY (rget l e) (rget l i)
structure OkAt (l : List Rect) (i : Nat) : Prop where
  ne : emptyR (rget l i) = false
  on : 0 < i → sameY (rget l (i - 1)) (rget l i) → (rget l (i - 1)).x1 < (rget l i).x0
  next : 0 < i → ¬ sameY (rget l (i - 1)) (rget l i) → (rget l (i - 1)).y1 ≤ (rget l i).y0
  apart : 0 < i → ¬ sameY (rget l (i - 1)) (rget l i) → (rget l (i - 1)).y1 = (rget l i).y0 → ∀ e, EndOf l i e → eqF span1 (part l (fromOf l i) i) (part l i e) = false
theorem EndOf.unique {l : List Rect} {i e e' : Nat} (h : EndOf l i e) (h' : EndOf l i e') : e = e' := by
  rcases Nat.lt_trichotomy e e' with a | a | a
  · exact absurd (h'.same e (Nat.le_of_lt h.lt) a) (h.stop (by have := h'.le; omega))
  · exact a
  · exact absurd (h.same e' (Nat.le_of_lt h'.lt) a) (h'.stop (by have := h.le; omega))
theorem bandR_mem {y y' : Int} {sp : Spans} {r : Rect} (h : r ∈ bandR y y' sp) : r.y0 = y ∧ r.y1 = y' ∧ ∃ s ∈ sp, r = spR y y' s := by
  unfold bandR at h
  rw [List.mem_reverse, List.mem_map] at h
  obtain ⟨s, hs, rfl⟩ := h
  exact ⟨rfl, rfl, s, hs, rfl⟩
theorem bandR_cons (y y' : Int) (s : Run Unit) (sp : Spans) : bandR y y' (s :: sp) = bandR y y' sp ++ [spR y y' s] := by simp [bandR]
theorem rget_take {l : List Rect} {i j : Nat} (h : j < i) : rget (l.take i) j = rget l j := by
  unfold rget
  rw [List.getD_eq_getElem?_getD, List.getD_eq_getElem?_getD, List.getElem?_take, if_pos h]
theorem rget_app_left {a b : List Rect} {j : Nat} (h : j < a.length) : rget (a ++ b) j = rget a j := by rw [rget_append, if_pos h]
theorem rget_app_right {a b : List Rect} {j : Nat} (h : a.length ≤ j) : rget (a ++ b) j = rget b (j - a.length) := by rw [rget_append, if_neg (by omega)]
structure Pref (l : List Rect) (i : Nat) (t : Bands) (y y' : Int) (sp : Spans) : Prop where
  ok : BandsOk t
  runs : RunsOk sp
  ne : sp ≠ []
  lt : y < y'
  eq : l.take i = flatR t ++ bandR y y' sp
  frm : fromOf l i = (flatR t).length
  sep : ∀ c u, t = c :: u → c.2.1 ≤ y ∧ (c.2.1 = y → ∀ e, EndOf l (flatR t).length e → eqF span1 (bandR c.1 c.2.1 c.2.2) (part l (flatR t).length e) = false)
theorem Pref.len {l : List Rect} {i : Nat} {t : Bands} {y y' : Int} {sp : Spans} (h : Pref l i t y y' sp) (hi : i ≤ l.length) : i = (flatR t).length + sp.length ∧ 0 < sp.length := by
  have := congrArg List.length h.eq
  rw [List.length_take, List.length_append, bandR_length] at this
  have : 0 < sp.length := by cases e : sp with
    | nil => exact absurd e h.ne
    | cons _ _ => simp
  omega
theorem Pref.inb {l : List Rect} {i : Nat} {t : Bands} {y y' : Int} {sp : Spans} (h : Pref l i t y y' sp) (hi : i ≤ l.length) {j : Nat} (h1 : (flatR t).length ≤ j) (h2 : j < i) : (rget l j).y0 = y ∧ (rget l j).y1 = y' := by
  have hl := h.len hi
  rw [← rget_take h2, h.eq, rget_app_right h1]
  have := bandR_mem (rget_mem (l := bandR y y' sp) (i := j - (flatR t).length) (by rw [bandR_length]; omega))
  exact ⟨this.1, this.2.1⟩
theorem Pref.partEq {l : List Rect} {i : Nat} {t : Bands} {y y' : Int} {sp : Spans} (h : Pref l i t y y' sp) (hi : i ≤ l.length) : part l (flatR t).length i = bandR y y' sp := by
  unfold part
  have e : (l.take i).drop (flatR t).length = bandR y y' sp := by rw [h.eq, List.drop_left]
  rw [← e, List.drop_take]
theorem Pref.endOf {l : List Rect} {i : Nat} {t : Bands} {y y' : Int} {sp : Spans} (h : Pref l i t y y' sp) (hi : i ≤ l.length) (hs : i < l.length → ¬ sameY (rget l (i - 1)) (rget l i)) : EndOf l (flatR t).length i := by
  have hl := h.len hi
  have h0 := h.inb hi (Nat.le_refl _) (by omega)
  refine ⟨by omega, hi, fun j h1 h2 => ?_, fun hlt hsame => hs hlt ?_⟩
  · have := h.inb hi h1 h2
    exact ⟨this.1.trans h0.1.symm, this.2.trans h0.2.symm⟩
  · have h1 := h.inb hi (j := i - 1) (by omega) (by omega)
    exact ⟨h1.1.trans (h0.1.symm.trans hsame.1.symm), h1.2.trans (h0.2.symm.trans hsame.2.symm)⟩
theorem Pref.close {l : List Rect} {i : Nat} {t : Bands} {y y' : Int} {sp : Spans} (h : Pref l i t y y' sp) (hi : i ≤ l.length) (hs : i < l.length → ¬ sameY (rget l (i - 1)) (rget l i)) : BandsOk ((y, y', sp) :: t) := by
  refine ⟨⟨h.lt, ?_, h.ok.runs⟩, fun b hb => ?_⟩
  · cases t with
    | nil => trivial
    | cons c u =>
      obtain ⟨h1, h2⟩ := h.sep c u rfl
      refine ⟨h1, fun he hsp => ?_⟩
      have := h2 he i (h.endOf hi hs)
      rw [h.partEq hi, eqF_span, decide_eq_false_iff_not] at this
      exact this hsp
  · rcases List.mem_cons.1 hb with rfl | hb
    · exact ⟨h.runs, h.ne⟩
    · exact h.ok.each b hb
theorem pref_step {l : List Rect} {i : Nat} {t : Bands} {y y' : Int} {sp : Spans} (h : Pref l i t y y' sp) (hi : i < l.length) (ho : OkAt l i) : ∃ t y y' sp, Pref l (i + 1) t y y' sp := by
  have hl := h.len (Nat.le_of_lt hi)
  have hne := emptyB_false.1 ho.ne
  have hlast := h.inb (Nat.le_of_lt hi) (j := i - 1) (by omega) (by omega)
  have hx1 : ∀ s u, sp = s :: u → (rget l (i - 1)).x1 = s.2.1 := by
    intro s u e
    rw [← rget_take (l := l) (i := i) (j := i - 1) (by omega), h.eq, e, bandR_cons, ← List.append_assoc, rget_app_right (by rw [List.length_append, bandR_length]; rw [e] at hl; simp only [List.length_cons] at hl; omega)]
    rw [List.length_append, bandR_length, show i - 1 - ((flatR t).length + u.length) = 0 by rw [e] at hl; simp only [List.length_cons] at hl; omega]
    rfl
  by_cases hs : sameY (rget l (i - 1)) (rget l i)
  · have hy : (rget l i).y0 = y ∧ (rget l i).y1 = y' := ⟨hs.1.symm.trans hlast.1, hs.2.symm.trans hlast.2⟩
    refine ⟨t, y, y', ((rget l i).x0, (rget l i).x1, ()) :: sp, h.ok, ⟨hne.1, ?_, h.runs⟩, by simp, h.lt, ?_, ?_, h.sep⟩
    · cases e : sp with
      | nil => trivial
      | cons s u =>
        have := ho.on (by omega) hs
        rw [hx1 s u e] at this
        exact ⟨Int.le_of_lt this, fun he => by simp only at he; omega⟩
    · rw [take_succ_rget hi, h.eq, bandR_cons, List.append_assoc]
      congr 2
      unfold spR
      rw [← hy.1, ← hy.2]
    · rw [fromOf, if_neg (by omega), if_pos hs]; exact h.frm
  · have hb := h.close (Nat.le_of_lt hi) (fun _ => hs)
    have hnx := ho.next (by omega) hs
    refine ⟨(y, y', sp) :: t, (rget l i).y0, (rget l i).y1, [((rget l i).x0, (rget l i).x1, ())], hb, ⟨hne.1, trivial, trivial⟩, by simp, hne.2, ?_, ?_, ?_⟩
    · rw [take_succ_rget hi, flatR, h.eq]
      rfl
    · rw [fromOf, if_neg (by omega), if_neg hs, flatR, List.length_append, bandR_length]; show i = (flatR t).length + sp.length; omega
    · intro c u e
      cases e
      refine ⟨by simp only; rw [← hlast.2]; exact hnx, fun he e hE => ?_⟩
      simp only at he
      have hlen : (flatR ((y, y', sp) :: t)).length = i := by rw [flatR, List.length_append, bandR_length]; show (flatR t).length + sp.length = i; omega
      rw [hlen] at hE ⊢
      have := ho.apart (by omega) hs (by rw [hlast.2]; exact he) e hE
      rw [h.frm, h.partEq (Nat.le_of_lt hi)] at this
      exact this
theorem may_to {l : List Rect} (h : ∀ i, i < l.length → OkAt l i) : ∃ F, IsReg l F := by
  by_cases hl : l.length = 0
  · have : l = [] := List.length_eq_zero_iff.1 hl
    subst this
    exact ⟨_, nil_isReg⟩
  · have h0 := h 0 (by omega)
    have hne := emptyB_false.1 h0.ne
    have key : ∀ i, i + 1 ≤ l.length → ∃ t y y' sp, Pref l (i + 1) t y y' sp := by
      intro i
      induction i with
      | zero =>
        intro hi
        refine ⟨[], (rget l 0).y0, (rget l 0).y1, [((rget l 0).x0, (rget l 0).x1, ())], ⟨trivial, fun b hb => by cases hb⟩, ⟨hne.1, trivial, trivial⟩, by simp, hne.2, ?_, rfl, fun c u e => by cases e⟩
        rw [take_succ_rget hi]; rfl
      | succ i ih =>
        intro hi
        obtain ⟨t, y, y', sp, hp⟩ := ih (by omega)
        exact pref_step hp (by omega) (h (i + 1) (by omega))
    obtain ⟨t, y, y', sp, hp⟩ := key (l.length - 1) (by omega)
    rw [show l.length - 1 + 1 = l.length by omega] at hp
    have hb := hp.close (Nat.le_refl _) (fun hlt => by omega)
    have e := hp.eq
    rw [List.take_length] at e
    exact ⟨_, (y, y', sp) :: t, hb, e, fun x y => rfl⟩
theorem flatR_append (u t : Bands) : flatR (u ++ t) = flatR t ++ flatR u := by
  induction u with
  | nil => simp [flatR]
  | cons c u ih => rw [List.cons_append, flatR, ih, flatR, List.append_assoc]
theorem flatR_at : ∀ {bs : Bands} {i : Nat}, i < (flatR bs).length → ∃ u b t k, bs = u ++ b :: t ∧ i = (flatR t).length + k ∧ k < b.2.2.length := by
  intro bs
  induction bs with
  | nil => intro i h; simp [flatR] at h
  | cons c r ih =>
    intro i h
    rw [flatR, List.length_append, bandR_length] at h
    by_cases hi : i < (flatR r).length
    · obtain ⟨u, b, t, k, e, h1, h2⟩ := ih hi
      exact ⟨c :: u, b, t, k, by rw [e]; rfl, h1, h2⟩
    · exact ⟨[], c, r, i - (flatR r).length, rfl, by omega, by omega⟩
theorem RunsOk.append {β : Type} {u t : List (Run β)} (h : RunsOk (u ++ t)) : RunsOk t := by
  induction u with
  | nil => exact h
  | cons c u ih => exact ih h.tail
theorem band_rise {y y' : Int} : ∀ {sp : Spans}, RunsOk sp → ∀ k, k + 1 < sp.length → (rget (bandR y y' sp) k).x1 < (rget (bandR y y' sp) (k + 1)).x0 := by
  intro sp
  induction sp with
  | nil => intro _ k h; simp at h
  | cons s u ih =>
    intro h k hk
    simp only [List.length_cons] at hk
    rw [bandR_cons]
    by_cases hlt : k + 1 < u.length
    · rw [rget_app_left (by rw [bandR_length]; omega), rget_app_left (by rw [bandR_length]; omega)]
      exact ih h.tail k hlt
    · have hu : k + 1 = u.length := by omega
      rw [rget_app_left (by rw [bandR_length]; omega), rget_app_right (by rw [bandR_length]; omega), bandR_length, hu, Nat.sub_self]
      cases u with
      | nil => simp at hu
      | cons q v =>
        simp only [List.length_cons] at hu
        rw [bandR_cons, rget_app_right (by rw [bandR_length]; omega), bandR_length, show k - v.length = 0 by omega]
        obtain ⟨_, ⟨h1, h2⟩, _⟩ := h
        show q.2.1 < s.1
        rcases Int.lt_or_eq_of_le h1 with h3 | h3
        · exact h3
        · exact absurd rfl (h2 h3)
structure Place (bs : Bands) (i : Nat) (u : Bands) (b : Run Spans) (t : Bands) (k : Nat) : Prop where
  eq : bs = u ++ b :: t
  i_ : i = (flatR t).length + k
  k_ : k < b.2.2.length
theorem Place.get {bs : Bands} {i : Nat} {u : Bands} {b : Run Spans} {t : Bands} {k : Nat} (h : Place bs i u b t k) : rget (flatR bs) i = rget (bandR b.1 b.2.1 b.2.2) k := by
  rw [h.eq, flatR_append, flatR, List.append_assoc, rget_app_right (by have := h.i_; omega), rget_app_left (by rw [bandR_length]; have := h.i_; have := h.k_; omega)]
  congr 1
  have := h.i_; omega
theorem Place.y {bs : Bands} {i : Nat} {u : Bands} {b : Run Spans} {t : Bands} {k : Nat} (h : Place bs i u b t k) : (rget (flatR bs) i).y0 = b.1 ∧ (rget (flatR bs) i).y1 = b.2.1 := by
  rw [h.get]
  have := bandR_mem (rget_mem (l := bandR b.1 b.2.1 b.2.2) (i := k) (by rw [bandR_length]; exact h.k_))
  exact ⟨this.1, this.2.1⟩
theorem from_place {bs : Bands} (hb : BandsOk bs) {u : Bands} {b : Run Spans} {t : Bands} (e : bs = u ++ b :: t) : ∀ k, 0 < k → k ≤ b.2.2.length → fromOf (flatR bs) ((flatR t).length + k) = (flatR t).length := by
  intro k
  induction k with
  | zero => intro h; omega
  | succ k ih =>
    intro _ hk
    have hp : Place bs ((flatR t).length + k) u b t k := ⟨e, rfl, by omega⟩
    rw [show (flatR t).length + (k + 1) = ((flatR t).length + k) + 1 by omega, fromOf]
    by_cases h0 : (flatR t).length + k = 0
    · rw [if_pos h0]; omega
    · rw [if_neg h0]
      by_cases hk0 : k = 0
      · subst hk0
        -- the band before
        cases t with
        | nil => simp [flatR] at h0
        | cons c t' =>
          have hc : 0 < c.2.2.length := by
            have := (hb.each c (by rw [e]; simp)).2
            cases h : c.2.2 with
            | nil => exact absurd h this
            | cons _ _ => simp
          have hq : Place bs ((flatR (c :: t')).length + 0 - 1) (u ++ [b]) c t' (c.2.2.length - 1) := ⟨by rw [e]; simp, by rw [flatR, List.length_append, bandR_length]; omega, by omega⟩
          have y1 := hq.y
          have y2 := hp.y
          have hr : RunsOk (b :: c :: t') := RunsOk.append (u := u) (by rw [← e]; exact hb.runs)
          have h1 := hr.2.1.1
          have h2 := hr.tail.1
          rw [if_neg (fun hs => by have := hs.1; rw [y1.1, y2.1] at this; omega)]
          omega
      · have hq : Place bs ((flatR t).length + k - 1) u b t (k - 1) := ⟨e, by omega, by omega⟩
        have y1 := hq.y
        have y2 := hp.y
        rw [if_pos ⟨y1.1.trans y2.1.symm, y1.2.trans y2.2.symm⟩]
        exact ih (by omega) (by omega)
theorem may_from {l : List Rect} {F : Int → Int → Bool} (h : IsReg l F) : ∀ i, i < l.length → OkAt l i := by
  obtain ⟨bs, hb, rfl, _⟩ := h
  intro i hi
  obtain ⟨u, b, t, k, e, h1, h2⟩ := flatR_at hi
  have hp : Place bs i u b t k := ⟨e, h1, h2⟩
  have hbm : b ∈ bs := by rw [e]; simp
  have hev := hb.each b hbm
  have hlt := hb.runs.lt b hbm
  have hr : RunsOk (b :: t) := RunsOk.append (u := u) (by rw [← e]; exact hb.runs)
  have hy := hp.y
  have prev : 0 < i → (0 < k ∧ Place bs (i - 1) u b t (k - 1)) ∨ (k = 0 ∧ ∃ c t', t = c :: t' ∧ 0 < c.2.2.length ∧ Place bs (i - 1) (u ++ [b]) c t' (c.2.2.length - 1)) := by
    intro hi0
    by_cases hk : 0 < k
    · exact .inl ⟨hk, e, by omega, by omega⟩
    · have hk0 : k = 0 := by omega
      subst hk0
      right
      refine ⟨rfl, ?_⟩
      cases t with
      | nil => simp [flatR] at h1; omega
      | cons c t' =>
        have hc : 0 < c.2.2.length := by
          have := (hb.each c (by rw [e]; simp)).2
          cases h : c.2.2 with
          | nil => exact absurd h this
          | cons _ _ => simp
        exact ⟨c, t', rfl, hc, by rw [e]; simp, by rw [h1, flatR, List.length_append, bandR_length]; omega, by omega⟩
  refine ⟨?_, fun h0 hs => ?_, fun h0 hs => ?_, fun h0 hs ht e' hE => ?_⟩
  · rw [hp.get]
    obtain ⟨_, _, s, hs, er⟩ := bandR_mem (rget_mem (l := bandR b.1 b.2.1 b.2.2) (i := k) (by rw [bandR_length]; exact h2))
    rw [er]
    exact emptyB_false.2 ⟨hev.1.lt s hs, hlt⟩
  · rcases prev h0 with ⟨hk, hq⟩ | ⟨hk, c, t', rfl, hc, hq⟩
    · rw [hq.get, hp.get]
      have := band_rise (y := b.1) (y' := b.2.1) hev.1 (k - 1) (by omega)
      rwa [show k - 1 + 1 = k by omega] at this
    · exfalso
      have y1 := hq.y
      have h3 := hr.2.1.1
      have h4 := hr.tail.1
      have := hs.1
      rw [y1.1, hy.1] at this
      omega
  · rcases prev h0 with ⟨hk, hq⟩ | ⟨hk, c, t', rfl, hc, hq⟩
    · have y1 := hq.y
      exact absurd ⟨y1.1.trans hy.1.symm, y1.2.trans hy.2.symm⟩ hs
    · have y1 := hq.y
      rw [y1.2, hy.1]
      exact hr.2.1.1
  · rcases prev h0 with ⟨hk, hq⟩ | ⟨hk, c, t', rfl, hc, hq⟩
    · have y1 := hq.y
      exact absurd ⟨y1.1.trans hy.1.symm, y1.2.trans hy.2.symm⟩ hs
    · have y1 := hq.y
      rw [y1.2, hy.1] at ht
      subst hk
      have hne := hr.2.1.2 ht
      have hf := from_place hb (u := u ++ [b]) (b := c) (t := t') (by rw [e]; simp) c.2.2.length hc (Nat.le_refl _)
      have hi2 : i = (flatR t').length + c.2.2.length := by rw [h1, flatR, List.length_append, bandR_length]; omega
      rw [← hi2] at hf
      have hE2 : EndOf (flatR bs) i (i + b.2.2.length) := by
        have hlen : (flatR bs).length = (flatR (c :: t')).length + b.2.2.length + (flatR u).length := by rw [e, flatR_append, flatR, List.length_append, List.length_append, bandR_length]
        refine ⟨by omega, by omega, fun j h5 h6 => ?_, fun h5 hsame => ?_⟩
        · have hj : Place bs j u b (c :: t') (j - i) := ⟨e, by omega, by omega⟩
          exact ⟨hj.y.1.trans hy.1.symm, hj.y.2.trans hy.2.symm⟩
        · obtain ⟨u2, b2, t2, k2, e2, h7, h8⟩ := flatR_at h5
          have hj : Place bs (i + b.2.2.length) u2 b2 t2 k2 := ⟨e2, h7, h8⟩
          -- what stands behind b is in a band above it
          have hmem : rget (flatR bs) (i + b.2.2.length) ∈ flatR u := by
            rw [e, flatR_append, flatR, List.append_assoc, rget_app_right (by omega), rget_app_right (by rw [bandR_length]; omega)]
            exact rget_mem (by rw [bandR_length]; omega)
          obtain ⟨d, hd, s, hs2, er⟩ := flatR_mem hmem
          obtain ⟨u3, u4, e3⟩ := List.append_of_mem hd
          have hr2 : RunsOk (d :: (u4 ++ b :: c :: t')) := RunsOk.append (u := u3) (by rw [e, e3] at hb; simpa using hb.runs)
          have h9 := hr2.below b (by simp)
          have := hsame.1
          rw [er, hy.1] at this
          simp only at this
          omega
      have he : e' = i + b.2.2.length := hE.unique hE2
      subst he
      rw [hf]
      have p1 : part (flatR bs) (flatR t').length i = bandR c.1 c.2.1 c.2.2 := by
        unfold part
        rw [e, flatR_append, flatR, flatR, List.append_assoc, List.append_assoc, List.drop_left]
        exact List.take_left' (by rw [bandR_length]; omega)
      have p2 : part (flatR bs) i (i + b.2.2.length) = bandR b.1 b.2.1 b.2.2 := by
        unfold part
        have : i = (flatR (c :: t')).length := by omega
        rw [e, flatR_append, flatR, List.append_assoc, this, List.drop_left]
        exact List.take_left' (by rw [bandR_length]; omega)
      rw [p1, p2, eqF_span]
      exact decide_eq_false hne
theorem may_iff (l : List Rect) : (∀ i, i < l.length → OkAt l i) ↔ l = canR l := by
  constructor
  · intro h
    obtain ⟨F, hF⟩ := may_to h
    exact hF.self.unique (canR_isReg l)
  · intro h
    refine may_from (F := hasL l) ?_
    conv => enter [1]; rw [h]
    exact canR_isReg l
theorem canR_small {l : List Rect} (h : l.length ≤ 14) : (canR l).length ≤ 784 := by
  have h1 := ysP_length l []
  have h2 := mgSt_length (al := fun a b _ => alikeL a b) (own := fun i => bandP orB l [] ((ysP l []).getD i 0) ((ysP l []).getD (i + 1) 0)) (ys := ysP l []) (m := 2 * (l.length + 0)) (fun i => bandP_length orB l [] _ _) ((ysP l []).length - 1)
  simp only [List.length_nil] at h1
  have h3 : ((ysP l []).length - 1) * (2 * (l.length + 0)) ≤ 28 * 28 := Nat.mul_le_mul (by omega) (by omega)
  unfold canR regM mgL
  rw [List.length_append]
  omega
end Go.Proofs.YtlfahohbkgdabaaGreat
namespace Go.Proofs.YtlfahohbkgdabaaGreat
open Go Go.RowKit
def rowP (y x : Int) (k : Nat) : List (Int × Int) := (List.range k).map fun i => (x + ((i : Nat) : Int), y)
def rectP (r : Rect) (j : Nat) : List (Int × Int) := (List.range j).flatMap fun q => rowP (r.y0 + ((q : Nat) : Int)) r.x0 (Int.toNat (r.x1 - r.x0))
def regP (l : List Rect) : List (Int × Int) := l.flatMap fun r => rectP r (Int.toNat (r.y1 - r.y0))
theorem rectP_succ (r : Rect) (j : Nat) : rectP r (j + 1) = rectP r j ++ rowP (r.y0 + ((j : Nat) : Int)) r.x0 (Int.toNat (r.x1 - r.x0)) := by simp [rectP, List.range_succ, List.flatMap_append]
theorem rowP_mem {y x : Int} {k : Nat} {p : Int × Int} : p ∈ rowP y x k ↔ p.2 = y ∧ x ≤ p.1 ∧ p.1 < x + ((k : Nat) : Int) := by
  unfold rowP
  rw [List.mem_map]
  constructor
  · rintro ⟨i, hi, rfl⟩
    have := List.mem_range.1 hi
    exact ⟨rfl, by simp only; omega, by simp only; omega⟩
  · rintro ⟨h1, h2, h3⟩
    exact ⟨Int.toNat (p.1 - x), List.mem_range.2 (by omega), Prod.ext (by simp only; omega) h1.symm⟩
theorem rectP_mem {r : Rect} {p : Int × Int} : p ∈ rectP r (Int.toNat (r.y1 - r.y0)) ↔ hasB r.x0 r.y0 r.x1 r.y1 p.1 p.2 = true := by
  unfold rectP
  rw [List.mem_flatMap, hasB_true]
  constructor
  · rintro ⟨q, hq, hp⟩
    have h1 := List.mem_range.1 hq
    obtain ⟨h2, h3, h4⟩ := rowP_mem.1 hp
    omega
  · rintro ⟨h1, h2, h3, h4⟩
    exact ⟨Int.toNat (p.2 - r.y0), List.mem_range.2 (by omega), rowP_mem.2 ⟨by omega, by omega, by omega⟩⟩
theorem regP_mem {l : List Rect} {p : Int × Int} : p ∈ regP l ↔ hasL l p.1 p.2 = true := by
  unfold regP hasL
  rw [List.mem_flatMap, List.any_eq_true]
  constructor
  · rintro ⟨r, hr, hp⟩; exact ⟨r, hr, rectP_mem.1 hp⟩
  · rintro ⟨r, hr, hp⟩; exact ⟨r, hr, rectP_mem.2 hp⟩
theorem rowP_nodup (y x : Int) (k : Nat) : (rowP y x k).Nodup := by
  unfold rowP
  refine List.pairwise_map.2 (List.Pairwise.imp ?_ (List.nodup_range (n := k)))
  intro a b hab h
  have := congrArg Prod.fst h
  simp only at this
  omega
theorem rectP_nodup (r : Rect) (j : Nat) : (rectP r j).Nodup := by
  unfold rectP
  refine List.pairwise_flatMap.2 ⟨fun q _ => rowP_nodup _ _ _, List.Pairwise.imp ?_ (List.nodup_range (n := j))⟩
  intro a b hab p hp q hq h
  have h1 := (rowP_mem.1 hp).1
  have h2 := (rowP_mem.1 hq).1
  rw [h] at h1
  omega
def DisR (r s : Rect) : Prop := ∀ x y, ¬ (hasB r.x0 r.y0 r.x1 r.y1 x y = true ∧ hasB s.x0 s.y0 s.x1 s.y1 x y = true)
theorem band_dis {y y' : Int} : ∀ {sp : Spans}, RunsOk sp → (bandR y y' sp).Pairwise DisR := by
  intro sp
  induction sp with
  | nil => intro _; exact List.Pairwise.nil
  | cons s sp ih =>
    intro h
    rw [bandR_cons]
    refine List.pairwise_append.2 ⟨ih h.tail, List.pairwise_singleton _ _, ?_⟩
    intro r hr q hq x z hh
    obtain ⟨_, _, u, hu, rfl⟩ := bandR_mem hr
    have hq : q = spR y y' s := by simpa using hq
    subst hq
    have h1 := hasB_true.1 hh.1
    have h2 := hasB_true.1 hh.2
    have := h.below u hu
    simp only [spR] at h1 h2
    omega
theorem flat_dis : ∀ {bs : Bands}, BandsOk bs → (flatR bs).Pairwise DisR := by
  intro bs h
  have hr := h.runs
  have he := h.each
  clear h
  induction bs with
  | nil => exact List.Pairwise.nil
  | cons b t ih =>
    rw [flatR]
    refine List.pairwise_append.2 ⟨ih hr.tail (fun c hc => he c (List.mem_cons_of_mem _ hc)), band_dis (he b (List.mem_cons_self ..)).1, ?_⟩
    intro r hr' q hq x z hh
    obtain ⟨c, hc, s, _, rfl⟩ := flatR_mem hr'
    obtain ⟨h3, _, _⟩ := bandR_mem hq
    have h1 := hasB_true.1 hh.1
    have h2 := hasB_true.1 hh.2
    have := hr.below c hc
    simp only at h1 h2
    omega
theorem regP_nodup {l : List Rect} {F : Int → Int → Bool} (h : IsReg l F) : (regP l).Nodup := by
  obtain ⟨bs, h1, rfl, _⟩ := h
  unfold regP
  refine List.pairwise_flatMap.2 ⟨fun r _ => rectP_nodup _ _, List.Pairwise.imp ?_ (flat_dis h1)⟩
  intro r s hd p hp q hq e
  subst e
  exact hd p.1 p.2 ⟨rectP_mem.1 hp, rectP_mem.1 hq⟩
end Go.Proofs.YtlfahohbkgdabaaGreat
namespace Go.Proofs.YtlfahohbkgdabaaGreat
open Go Go.RowKit
theorem pt_eq {W : Int} {p : Int × Int} {k : Nat} (h1 : 0 ≤ p.1) (h2 : p.1 < W) (h3 : 0 ≤ p.2) (e : (p.2 * W + p.1).toNat = k) : p = (((k : Nat) : Int) % W, ((k : Nat) : Int) / W) := by
  have h4 : 0 ≤ p.2 * W := Int.mul_nonneg h3 (by omega)
  have h5 : ((k : Nat) : Int) = p.1 + p.2 * W := by omega
  refine Prod.ext ?_ ?_
  · simp only; rw [h5, Int.add_mul_emod_self_right, Int.emod_eq_of_lt h1 h2]
  · simp only; rw [h5, Int.add_mul_ediv_right _ _ (by omega), Int.ediv_eq_zero_of_lt h1 h2]; omega
def OnImg (W H : Int) (R : List Rect) : Prop := ∀ x y, hasL R x y = true → 0 ≤ x ∧ x < W ∧ 0 ≤ y ∧ y < H
def cntL (W : Int) (n : Nat) (R : List Rect) : Nat := ((List.range n).filter fun k => hasL R (((k : Nat) : Int) % W) (((k : Nat) : Int) / W)).length
theorem cntL_le (W : Int) (n : Nat) (R : List Rect) : cntL W n R ≤ n := by
  have := List.length_filter_le (fun k => hasL R (((k : Nat) : Int) % W) (((k : Nat) : Int) / W)) (List.range n)
  simpa [cntL] using this
theorem nodup_len_le {α : Type} [DecidableEq α] : ∀ {a b : List α}, a.Nodup → (∀ x ∈ a, x ∈ b) → a.length ≤ b.length := by
  intro a
  induction a with
  | nil => intro b _ _; simp
  | cons x a ih =>
    intro b hn hs
    have hx : x ∈ b := hs x (List.mem_cons_self ..)
    have h1 := ih (b := b.erase x) (List.nodup_cons.1 hn).2 (fun y hy => by
      refine (List.mem_erase_of_ne ?_).2 (hs y (List.mem_cons_of_mem _ hy))
      intro e; subst e; exact (List.nodup_cons.1 hn).1 hy)
    have h2 := List.length_erase_of_mem hx
    have h3 := List.length_pos_of_mem hx
    simp only [List.length_cons]
    omega
theorem regP_len {W H : Int} {n : Nat} {R : List Rect} {F : Int → Int → Bool} (hR : IsReg R F) (hin : OnImg W H R) (hW : 1 ≤ W) (hn : (n : Int) = W * H) : (regP R).length = cntL W n R := by
  have e : cntL W n R = (((List.range n).filter fun k => hasL R (((k : Nat) : Int) % W) (((k : Nat) : Int) / W)).map fun k : Nat => ((((k : Nat) : Int) % W, ((k : Nat) : Int) / W) : Int × Int)).length := by simp [cntL]
  rw [e]
  refine Nat.le_antisymm (nodup_len_le (regP_nodup hR) ?_) (nodup_len_le ?_ ?_)
  · intro p hp
    have hh := regP_mem.1 hp
    obtain ⟨h1, h2, h3, h4⟩ := hin _ _ hh
    have h5 : 0 ≤ p.2 * W := Int.mul_nonneg h3 (by omega)
    have h6 : (p.2 + 1) * W ≤ H * W := Int.mul_le_mul_of_nonneg_right (by omega) (by omega)
    have h7 : (p.2 + 1) * W = p.2 * W + W := by rw [Int.add_mul]; omega
    have h8 : H * W = (n : Int) := by rw [hn, Int.mul_comm]
    have hp2 := pt_eq (k := (p.2 * W + p.1).toNat) h1 h2 h3 rfl
    refine List.mem_map.2 ⟨(p.2 * W + p.1).toNat, List.mem_filter.2 ⟨List.mem_range.2 (by omega), ?_⟩, hp2.symm⟩
    rw [← show p.1 = ((((p.2 * W + p.1).toNat : Nat) : Int) % W) from congrArg Prod.fst hp2, ← show p.2 = ((((p.2 * W + p.1).toNat : Nat) : Int) / W) from congrArg Prod.snd hp2]
    exact hh
  · refine List.pairwise_map.2 (List.Pairwise.imp ?_ (List.Pairwise.filter _ (List.nodup_range (n := n))))
    intro a b hab h
    have h1 := Int.emod_add_mul_ediv (a : Int) W
    have h2 := Int.emod_add_mul_ediv (b : Int) W
    have h3 := congrArg Prod.fst h
    have h4 := congrArg Prod.snd h
    simp only at h3 h4
    rw [h3, h4] at h1
    omega
  · intro p hp
    obtain ⟨k, hk, rfl⟩ := List.mem_map.1 hp
    exact regP_mem.2 (List.mem_filter.1 hk).2
theorem reg_in {R : List Rect} {F : Int → Int → Bool} {W H : Int} (hR : IsReg R F) (hin : OnImg W H R) : ∀ r ∈ R, 0 ≤ r.x0 ∧ r.x0 < r.x1 ∧ r.x1 ≤ W ∧ 0 ≤ r.y0 ∧ r.y0 < r.y1 ∧ r.y1 ≤ H := by
  intro r hr
  obtain ⟨bs, h1, e, _⟩ := hR
  subst e
  obtain ⟨b, hb, s, hs, rfl⟩ := flatR_mem hr
  have g1 := h1.runs.lt b hb
  have g2 := (h1.each b hb).1.lt s hs
  have k1 := hin s.1 b.1 (List.any_eq_true.2 ⟨_, hr, hasB_true.2 ⟨by simp only; omega, by simp only; omega, by simp only; omega, by simp only; omega⟩⟩)
  have k2 := hin (s.2.1 - 1) (b.2.1 - 1) (List.any_eq_true.2 ⟨_, hr, hasB_true.2 ⟨by simp only; omega, by simp only; omega, by simp only; omega, by simp only; omega⟩⟩)
  simp only
  omega
theorem onImg_can {W H : Int} {b : List Rect} (hb : OnImg W H b) : OnImg W H (canR b) := fun x y h => hb x y (by rw [← hasL_can]; exact h)
end Go.Proofs.YtlfahohbkgdabaaGreat
namespace Go.Proofs.YtlfahohbkgdabaaGreat
open Go Go.RowKit
set_option maxRecDepth 100000
set_option maxHeartbeats 8000000
theorem payWithin (Az : Option Addr) (gz oz nz capz : Nat) (xsz : List Rect) (a b c d : Int) (w : World) (hT0 : Tab w w [rD (Az) gz oz nz 4 (rvals xsz)]) (hnz : nz ≤ 200000) (hcz : (canR xsz).length ≤ 200000) :
    Calls Tryz.prog 85 #[.slice Az nz capz, .agg #[iQ a, iQ b, iQ c, iQ d]] w fun e w' => ∃ (A_ : Option Addr) (g_ k_ cp_ : Nat), e = .returned (.slice A_ k_ cp_) ∧ Tab w w' [.gen (rowE (A_) g_ k_ cp_ 32 4 (rvals (regM andB (canR xsz) (canR [(⟨a, b, c, d⟩ : Rect)]))) true)] := by
 obtain ⟨hraz, hrlz⟩ := Rd.factsR (hT0.ok 0 _ rfl)
 have hcb_ := canR_small (l := [(⟨a, b, c, d⟩ : Rect)]) (by simp)
 refine eN [(0, .slice Az nz capz), (1, .agg #[iq a, iq b, iq c, iq d])] Tryz.func85 Tryz.ntmps85 rfl hT0 ?_
 refine zSR 2 <| bW [0, 0] 2 0 (fun b1 => [(0, .slice Az nz capz), (3, .pointer (pB b1))]) (fun b1 => [.cells b1 [iq a, iq b, iq c, iq d] 32 true, rD (Az) gz oz nz 4 (rvals xsz)]) [0, 3] fun b1 => ?_
 refine zDNS <| drawn_enter 7 [] rfl (by kernel_rfl) ?_
 refine tD 0 [] [(0, 0), (2, 0)] 5 [2, 0] [(5, .slice Az nz capz), (7, .agg #[iq a, iq b, iq c, iq d])] [] <| drawn_two 1 3 4 rfl (by kernel_rfl) ?_ ?_
 ·
  refine cG (d := 6) (α := Option Addr × Nat × Nat × Nat) (fun x_ => .slice x_.1 x_.2.2.1 x_.2.2.2) (fun x_ => [.gen (rowE (x_.1) x_.2.1 x_.2.2.1 x_.2.2.2 32 4 (rvals (canR xsz)) true), .cells b1 [iq a, iq b, iq c, iq d] 32 true, rD (Az) gz oz nz 4 (rvals xsz)]) (fun x_ => True) (fun w hT => (regOf Az gz oz nz capz xsz w (hT.viewRo (.cons (i := 1) rfl Vw.rd .nil) rfl) (by omega)).mono fun e w' ⟨A2, g3, k4, cp5, he_, ht_⟩ => ⟨(A2, g3, k4, cp5), he_, trivial, hT.news ht_ rfl⟩) ?_
  rintro ⟨A2, g3, k4, cp5⟩ hf6_
  refine fR 0 k4 A2 g3 cp5 (canR xsz) rfl fun hr7_a hr7_l hr7_c hr7_m => ?_
  refine dX 1 [] <| dO 3 3 <| one_step1 0 (fun b8 => [(6, .slice A2 k4 cp5), (8, .slice (pB b8) 1 1)]) (fun b8 => [.cells b8 [iq a, iq b, iq c, iq d] 32 true, .gen (rowE (A2) g3 k4 cp5 32 4 (rvals (canR xsz)) true), .cells b1 [iq a, iq b, iq c, iq d] 32 true, rD (Az) gz oz nz 4 (rvals xsz)]) (fun b8 => by kernel_rfl) (fun b8 => by kernel_rfl) (fun b8 => ?_)
  refine dX 2 [] <| dO 4 2 <| cont_asRow 0 1 4 rfl (vals := rvals [(⟨a, b, c, d⟩ : Rect)]) rfl rfl (by decide) ?_
  refine cG (d := 9) (α := Option Addr × Nat × Nat × Nat) (fun x_ => .slice x_.1 x_.2.2.1 x_.2.2.2) (fun x_ => [.gen (rowE (x_.1) x_.2.1 x_.2.2.1 x_.2.2.2 32 4 (rvals (canR [(⟨a, b, c, d⟩ : Rect)])) true), .gen (rowE (pB b8) b8 1 1 32 4 (rvals [(⟨a, b, c, d⟩ : Rect)]) true), .gen (rowE (A2) g3 k4 cp5 32 4 (rvals (canR xsz)) true), .cells b1 [iq a, iq b, iq c, iq d] 32 true, rD (Az) gz oz nz 4 (rvals xsz)]) (fun x_ => True) (fun w hT => (regOf (pB b8) b8 0 1 1 [(⟨a, b, c, d⟩ : Rect)] w (hT.viewRo (.cons (i := 0) rfl Vw.rowRd .nil) rfl) (by omega)).mono fun e w' ⟨A9, g10, k11, cp12, he_, ht_⟩ => ⟨(A9, g10, k11, cp12), he_, trivial, hT.news ht_ rfl⟩) ?_
  rintro ⟨A9, g10, k11, cp12⟩ hf13_
  refine fR 0 k11 A9 g10 cp12 (canR [(⟨a, b, c, d⟩ : Rect)]) rfl fun hr14_a hr14_l hr14_c hr14_m => ?_
  refine dX 3 [] <| dO 5 1 <| cG (d := 10) (α := Option Addr × Nat × Nat × Nat) (fun x_ => .slice x_.1 x_.2.2.1 x_.2.2.2) (fun x_ => [.gen (rowE (x_.1) x_.2.1 x_.2.2.1 x_.2.2.2 32 4 (rvals (regM andB (canR xsz) (canR [(⟨a, b, c, d⟩ : Rect)]))) true), .gen (rowE (A9) g10 k11 cp12 32 4 (rvals (canR [(⟨a, b, c, d⟩ : Rect)])) true), .gen (rowE (pB b8) b8 1 1 32 4 (rvals [(⟨a, b, c, d⟩ : Rect)]) true), .gen (rowE (A2) g3 k4 cp5 32 4 (rvals (canR xsz)) true), .cells b1 [iq a, iq b, iq c, iq d] 32 true, rD (Az) gz oz nz 4 (rvals xsz)]) (fun x_ => True) (fun w hT => (regCut A2 g3 0 k4 cp5 (canR xsz) A9 g10 0 k11 cp12 (canR [(⟨a, b, c, d⟩ : Rect)]) w (hT.viewRo (.cons (i := 2) rfl Vw.rowRd (.cons (i := 0) rfl Vw.rowRd .nil)) rfl) (by omega)).mono fun e w' ⟨A15, g16, k17, cp18, he_, ht_⟩ => ⟨(A15, g16, k17, cp18), he_, trivial, hT.news ht_ rfl⟩) ?_
  rintro ⟨A15, g16, k17, cp18⟩ hf19_
  refine fR 0 k17 A15 g16 cp18 (regM andB (canR xsz) (canR [(⟨a, b, c, d⟩ : Rect)])) rfl fun hr20_a hr20_l hr20_c hr20_m => ?_
  refine dX 4 [] <| tD 4 [] [(6, 0)] 0 [6, 5, 4, 3, 1, 2, 0] [(4, .slice A15 k17 cp18)] [] <| dD <| zN <| cont_ret ?_
  refine rA rfl 0 (.slice A15 k17 cp18) fun w hT => ?_
  replace hT := hT.erase 5 (fun e h hw => by cases h; first | rfl | cases hw)
  replace hT := hT.erase 4 (fun e h hw => by cases h; first | rfl | cases hw)
  replace hT := hT.erase 3 (fun e h hw => by cases h; first | rfl | cases hw)
  replace hT := hT.erase 2 (fun e h hw => by cases h; first | rfl | cases hw)
  replace hT := hT.erase 1 (fun e h hw => by cases h; first | rfl | cases hw)
  exact ⟨_, _, _, _, rfl, hT⟩
 refine one_step1 0 (fun b21 => [(5, .slice Az nz capz), (8, .slice (pB b21) 1 1)]) (fun b21 => [.cells b21 [iq a, iq b, iq c, iq d] 32 true, .cells b1 [iq a, iq b, iq c, iq d] 32 true, rD (Az) gz oz nz 4 (rvals xsz)]) (fun b21 => by kernel_rfl) (fun b21 => by kernel_rfl) (fun b21 => ?_)
 refine dX 1 [] <| dO 1 3 <| cG (d := 6) (α := Option Addr × Nat × Nat × Nat) (fun x_ => .slice x_.1 x_.2.2.1 x_.2.2.2) (fun x_ => [.gen (rowE (x_.1) x_.2.1 x_.2.2.1 x_.2.2.2 32 4 (rvals (canR xsz)) true), .cells b21 [iq a, iq b, iq c, iq d] 32 true, .cells b1 [iq a, iq b, iq c, iq d] 32 true, rD (Az) gz oz nz 4 (rvals xsz)]) (fun x_ => True) (fun w hT => (regOf Az gz oz nz capz xsz w (hT.viewRo (.cons (i := 2) rfl Vw.rd .nil) rfl) (by omega)).mono fun e w' ⟨A22, g23, k24, cp25, he_, ht_⟩ => ⟨(A22, g23, k24, cp25), he_, trivial, hT.news ht_ rfl⟩) ?_
 rintro ⟨A22, g23, k24, cp25⟩ hf26_
 refine fR 0 k24 A22 g23 cp25 (canR xsz) rfl fun hr27_a hr27_l hr27_c hr27_m => ?_
 refine dX 2 [] <| dO 4 2 <| cont_asRow 1 1 4 rfl (vals := rvals [(⟨a, b, c, d⟩ : Rect)]) rfl rfl (by decide) ?_
 refine cG (d := 9) (α := Option Addr × Nat × Nat × Nat) (fun x_ => .slice x_.1 x_.2.2.1 x_.2.2.2) (fun x_ => [.gen (rowE (x_.1) x_.2.1 x_.2.2.1 x_.2.2.2 32 4 (rvals (canR [(⟨a, b, c, d⟩ : Rect)])) true), .gen (rowE (A22) g23 k24 cp25 32 4 (rvals (canR xsz)) true), .gen (rowE (pB b21) b21 1 1 32 4 (rvals [(⟨a, b, c, d⟩ : Rect)]) true), .cells b1 [iq a, iq b, iq c, iq d] 32 true, rD (Az) gz oz nz 4 (rvals xsz)]) (fun x_ => True) (fun w hT => (regOf (pB b21) b21 0 1 1 [(⟨a, b, c, d⟩ : Rect)] w (hT.viewRo (.cons (i := 1) rfl Vw.rowRd .nil) rfl) (by omega)).mono fun e w' ⟨A28, g29, k30, cp31, he_, ht_⟩ => ⟨(A28, g29, k30, cp31), he_, trivial, hT.news ht_ rfl⟩) ?_
 rintro ⟨A28, g29, k30, cp31⟩ hf32_
 refine fR 0 k30 A28 g29 cp31 (canR [(⟨a, b, c, d⟩ : Rect)]) rfl fun hr33_a hr33_l hr33_c hr33_m => ?_
 refine dX 3 [] <| dO 5 1 <| cG (d := 10) (α := Option Addr × Nat × Nat × Nat) (fun x_ => .slice x_.1 x_.2.2.1 x_.2.2.2) (fun x_ => [.gen (rowE (x_.1) x_.2.1 x_.2.2.1 x_.2.2.2 32 4 (rvals (regM andB (canR xsz) (canR [(⟨a, b, c, d⟩ : Rect)]))) true), .gen (rowE (A28) g29 k30 cp31 32 4 (rvals (canR [(⟨a, b, c, d⟩ : Rect)])) true), .gen (rowE (A22) g23 k24 cp25 32 4 (rvals (canR xsz)) true), .gen (rowE (pB b21) b21 1 1 32 4 (rvals [(⟨a, b, c, d⟩ : Rect)]) true), .cells b1 [iq a, iq b, iq c, iq d] 32 true, rD (Az) gz oz nz 4 (rvals xsz)]) (fun x_ => True) (fun w hT => (regCut A22 g23 0 k24 cp25 (canR xsz) A28 g29 0 k30 cp31 (canR [(⟨a, b, c, d⟩ : Rect)]) w (hT.viewRo (.cons (i := 1) rfl Vw.rowRd (.cons (i := 0) rfl Vw.rowRd .nil)) rfl) (by omega)).mono fun e w' ⟨A34, g35, k36, cp37, he_, ht_⟩ => ⟨(A34, g35, k36, cp37), he_, trivial, hT.news ht_ rfl⟩) ?_
 rintro ⟨A34, g35, k36, cp37⟩ hf38_
 refine fR 0 k36 A34 g35 cp37 (regM andB (canR xsz) (canR [(⟨a, b, c, d⟩ : Rect)])) rfl fun hr39_a hr39_l hr39_c hr39_m => ?_
 refine dX 4 [] <| tD 4 [] [(6, 0)] 0 [6, 5, 4, 1, 3, 2, 0] [(4, .slice A34 k36 cp37)] [] <| dD <| zN <| cont_ret ?_
 refine rA rfl 0 (.slice A34 k36 cp37) fun w hT => ?_
 replace hT := hT.erase 5 (fun e h hw => by cases h; first | rfl | cases hw)
 replace hT := hT.erase 4 (fun e h hw => by cases h; first | rfl | cases hw)
 replace hT := hT.erase 3 (fun e h hw => by cases h; first | rfl | cases hw)
 replace hT := hT.erase 2 (fun e h hw => by cases h; first | rfl | cases hw)
 replace hT := hT.erase 1 (fun e h hw => by cases h; first | rfl | cases hw)
 exact ⟨_, _, _, _, rfl, hT⟩
end Go.Proofs.YtlfahohbkgdabaaGreat
namespace Go.Proofs.YtlfahohbkgdabaaGreat
open Go Go.RowKit
end Go.Proofs.YtlfahohbkgdabaaGreat
namespace Go.Proofs.YtlfahohbkgdabaaGreat
open Go Go.RowKit
variable {dfs : List Deferred}
theorem can_one {r : Rect} (h : emptyR r = false) : canR [r] = [r] :=
  ((may_iff [r]).1 (fun i hi => by
    have : i = 0 := by simpa using hi
    subst this
    exact ⟨h, fun h0 => by omega, fun h0 => by omega, fun h0 => by omega⟩)).symm
end Go.Proofs.YtlfahohbkgdabaaGreat
namespace Go.Proofs.YtlfahohbkgdabaaGreat
open Go Go.RowKit
theorem ImgOk.get {W H : Int} {n : Nat} {px : List Int} (hok : ImgOk W H n px) {k : Nat} (hk : k < n) : InC (px.getD k 0) := by
  rw [List.getD_eq_getElem?_getD, List.getElem?_eq_getElem (by rw [hok.len]; exact hk)]
  exact hok.rng _ (List.getElem_mem _)
theorem rowP_length (y x : Int) (k : Nat) : (rowP y x k).length = k := by simp [rowP]
theorem rectP_length (r : Rect) (j : Nat) : (rectP r j).length = j * Int.toNat (r.x1 - r.x0) := by
  induction j with
  | zero => simp [rectP]
  | succ j ih => rw [rectP_succ, List.length_append, ih, rowP_length, Nat.succ_mul]
end Go.Proofs.YtlfahohbkgdabaaGreat
namespace Go.Proofs.YtlfahohbkgdabaaGreat
open Go Go.RowKit
theorem regP_area : ∀ {R : List Rect}, (∀ r ∈ R, emptyR r = false) → (((regP R).length : Nat) : Int) = areaL R := by
  intro R
  induction R with
  | nil => intro _; rfl
  | cons r R ih =>
    intro h
    have h1 := emptyB_false.1 (show emptyB r.x0 r.y0 r.x1 r.y1 = false from h r (List.mem_cons_self ..))
    have e : regP (r :: R) = rectP r (Int.toNat (r.y1 - r.y0)) ++ regP R := by simp [regP]
    have e2 : areaL (r :: R) = areaI r.x0 r.y0 r.x1 r.y1 + areaL R := by simp [areaL]
    rw [e, e2, List.length_append, Int.natCast_add, ih (fun q hq => h q (List.mem_cons_of_mem _ hq)), rectP_length]
    unfold areaI
    rw [if_neg (by rw [show emptyB r.x0 r.y0 r.x1 r.y1 = false from h r (List.mem_cons_self ..)]; simp), Int.natCast_mul, Int.toNat_of_nonneg (by omega), Int.toNat_of_nonneg (by omega), Int.mul_comm (r.y1 - r.y0)]
theorem reg_ne {R : List Rect} {F : Int → Int → Bool} {W H : Int} (hR : IsReg R F) (hin : OnImg W H R) : ∀ r ∈ R, emptyR r = false := fun r hr => by
  have := reg_in hR hin r hr
  exact emptyB_false.2 ⟨this.2.1, this.2.2.2.2.1⟩
theorem clear_area {W H : Int} {n : Nat} {R : List Rect} {F : Int → Int → Bool} (hR : IsReg R F) (hin : OnImg W H R) (hW : 1 ≤ W) (hn : (n : Int) = W * H) : areaL R = ((cntL W n R : Nat) : Int) := by
  rw [← regP_len hR hin hW hn, regP_area (reg_ne hR hin)]
end Go.Proofs.YtlfahohbkgdabaaGreat
namespace Go.Proofs.YtlfahohbkgdabaaGreat
open Go Go.RowKit
set_option maxRecDepth 100000
set_option maxHeartbeats 8000000
end Go.Proofs.YtlfahohbkgdabaaGreat
namespace Go.Proofs.YtlfahohbkgdabaaGreat
open Go Go.RowKit
def shQ (W H X Y s : Int) (r : Rect) : Rect := shwR W H X Y s r.x0 r.y0 r.x1 r.y1
theorem map_put {f : Rect → Rect} {R : List Rect} {i : Nat} (h : i < R.length) : (R.take i).map f ++ [(⟨(f (rget R i)).x0, (f (rget R i)).y0, (f (rget R i)).x1, (f (rget R i)).y1⟩ : Rect)] = (R.take (i + 1)).map f := by
  rw [take_succ_rget h, List.map_append]; rfl
theorem hasL_shown {W H X Y s : Int} (hs : 1 ≤ s ∧ s ≤ 8) (hX : -1000000 ≤ X ∧ X ≤ 1000000) (hY : -1000000 ≤ Y ∧ Y ≤ 1000000) (hw : 1 ≤ W ∧ W ≤ 256) (hh : 1 ≤ H ∧ H ≤ 256) (R : List Rect) (p q : Int) :
    hasL (R.map (shQ W H X Y s)) p q = (hasB 0 0 W H ((p - X) / s) ((q - Y) / s) && hasL R ((p - X) / s) ((q - Y) / s)) := by
  induction R with
  | nil => simp [hasL]
  | cons r R ih =>
    have e : hasL ((r :: R).map (shQ W H X Y s)) p q = (hasB (shQ W H X Y s r).x0 (shQ W H X Y s r).y0 (shQ W H X Y s r).x1 (shQ W H X Y s r).y1 p q || hasL (R.map (shQ W H X Y s)) p q) := by simp [hasL]
    have e2 : hasL (r :: R) ((p - X) / s) ((q - Y) / s) = (hasB r.x0 r.y0 r.x1 r.y1 ((p - X) / s) ((q - Y) / s) || hasL R ((p - X) / s) ((q - Y) / s)) := by simp [hasL]
    rw [e, e2, ih]
    unfold shQ
    rw [pcol_box hs hX hY hw hh]
    unfold pcolB
    cases hasB 0 0 W H ((p - X) / s) ((q - Y) / s) <;> simp
def placeP (W H X Y s : Int) (l : List Rect) (r : Rect) : List Rect := canR ((regM andB (canR l) (canR [r])).map (shQ W H X Y s))
theorem hasL_one (r : Rect) (x y : Int) : hasL [r] x y = hasB r.x0 r.y0 r.x1 r.y1 x y := by simp [hasL]
theorem hasL_place {W H X Y s : Int} (hs : 1 ≤ s ∧ s ≤ 8) (hX : -1000000 ≤ X ∧ X ≤ 1000000) (hY : -1000000 ≤ Y ∧ Y ≤ 1000000) (hw : 1 ≤ W ∧ W ≤ 256) (hh : 1 ≤ H ∧ H ≤ 256) (l : List Rect) (r : Rect) (p q : Int) :
    hasL (placeP W H X Y s l r) p q = (hasB 0 0 W H ((p - X) / s) ((q - Y) / s) && (hasB r.x0 r.y0 r.x1 r.y1 ((p - X) / s) ((q - Y) / s) && hasL l ((p - X) / s) ((q - Y) / s))) := by
  unfold placeP
  rw [hasL_can, hasL_shown hs hX hY hw hh, hasL_and, hasL_can, hasL_can, hasL_one]
  congr 1
  exact Bool.and_comm _ _
def plcL (W X Y s : Int) (B : Int → Int → Bool) (i : Nat) : List Rect := (List.range i).flatMap fun k => if B (((k : Nat) : Int) % W) (((k : Nat) : Int) / W) then [(⟨X + ((k : Nat) : Int) % W * s, Y + ((k : Nat) : Int) / W * s, X + ((k : Nat) : Int) % W * s + s, Y + ((k : Nat) : Int) / W * s + s⟩ : Rect)] else []
theorem plcL_zero (W X Y s : Int) (B : Int → Int → Bool) : plcL W X Y s B 0 = [] := rfl
theorem plcL_yes {W X Y s : Int} {B : Int → Int → Bool} {i : Nat} (h : B (((i : Nat) : Int) % W) (((i : Nat) : Int) / W) = true) : plcL W X Y s B i ++ [(⟨X + ((i : Nat) : Int) % W * s, Y + ((i : Nat) : Int) / W * s, X + ((i : Nat) : Int) % W * s + s, Y + ((i : Nat) : Int) / W * s + s⟩ : Rect)] = plcL W X Y s B (i + 1) := by
  simp [plcL, List.range_succ, List.flatMap_append, h]
theorem plcL_no {W X Y s : Int} {B : Int → Int → Bool} {i : Nat} (h : B (((i : Nat) : Int) % W) (((i : Nat) : Int) / W) = false) : plcL W X Y s B i = plcL W X Y s B (i + 1) := by
  simp [plcL, List.range_succ, List.flatMap_append, h]
theorem plcL_len (W X Y s : Int) (B : Int → Int → Bool) : ∀ i, (plcL W X Y s B i).length ≤ i := by
  intro i
  induction i with
  | zero => simp [plcL]
  | succ i ih =>
    cases h : B (((i : Nat) : Int) % W) (((i : Nat) : Int) / W) with
    | true => rw [← plcL_yes h, List.length_append]; simp; omega
    | false => rw [← plcL_no h]; omega
theorem cell_iff {u p X s : Int} (hs : 1 ≤ s) : (X + u * s ≤ p ∧ p < X + u * s + s) ↔ (p - X) / s = u := by
  have h1 := Int.mul_ediv_add_emod (p - X) s
  have h2 := Int.emod_nonneg (p - X) (show s ≠ 0 by omega)
  have h3 := Int.emod_lt_of_pos (p - X) (show 0 < s by omega)
  constructor
  · rintro ⟨a, b⟩
    refine Int.le_antisymm ?_ ?_
    · have := Int.ediv_lt_of_lt_mul (a := p - X) (b := u + 1) (c := s) (by omega) (by rw [Int.add_mul]; omega)
      omega
    · exact Int.le_ediv_of_mul_le (by omega) (by omega)
  · rintro rfl
    rw [Int.mul_comm] at h1
    omega
theorem hasL_plc {W H X Y s : Int} {n : Nat} {B : Int → Int → Bool} (hs : 1 ≤ s) (hW : 1 ≤ W) (hn : (n : Int) = W * H) (p q : Int) :
    hasL (plcL W X Y s B n) p q = (hasB 0 0 W H ((p - X) / s) ((q - Y) / s) && B ((p - X) / s) ((q - Y) / s)) := by
  rw [Bool.eq_iff_iff, Bool.and_eq_true]
  constructor
  · intro h
    obtain ⟨r, hr, hb⟩ := List.any_eq_true.1 h
    obtain ⟨k, hk, hr⟩ := List.mem_flatMap.1 hr
    have hk := List.mem_range.1 hk
    split at hr
    · rename_i hB
      have hr := List.mem_singleton.1 hr
      subst hr
      obtain ⟨h1, h2, h3, h4⟩ := hasB_true.1 hb
      simp only at h1 h2 h3 h4
      rw [(cell_iff hs).1 ⟨h1, h2⟩, (cell_iff hs).1 ⟨h3, h4⟩]
      exact ⟨in_box hW hn hk, hB⟩
    · cases hr
  · rintro ⟨h1, h2⟩
    obtain ⟨a0, a1, b0, b1⟩ := hasB_true.1 h1
    generalize hu : (p - X) / s = u at *
    generalize hv : (q - Y) / s = v at *
    have h5 : 0 ≤ v * W := Int.mul_nonneg b0 (by omega)
    have h6 : (v + 1) * W ≤ H * W := Int.mul_le_mul_of_nonneg_right (by omega) (by omega)
    have h7 : (v + 1) * W = v * W + W := by rw [Int.add_mul]; omega
    have h8 : H * W = (n : Int) := by rw [hn, Int.mul_comm]
    have hp := pt_eq (p := (u, v)) (k := (v * W + u).toNat) a0 a1 b0 rfl
    have e1 : u = (((v * W + u).toNat : Nat) : Int) % W := congrArg Prod.fst hp
    have e2 : v = (((v * W + u).toNat : Nat) : Int) / W := congrArg Prod.snd hp
    refine List.any_eq_true.2 ⟨⟨X + u * s, Y + v * s, X + u * s + s, Y + v * s + s⟩, List.mem_flatMap.2 ⟨(v * W + u).toNat, List.mem_range.2 (by omega), ?_⟩, hasB_true.2 ?_⟩
    · rw [← e1, ← e2, if_pos h2]; simp
    · have k1 := (cell_iff (X := X) hs).2 hu
      have k2 := (cell_iff (X := Y) hs).2 hv
      exact ⟨k1.1, k1.2, k2.1, k2.2⟩
def plcB (a b c d : Int) (l : List Rect) (x y : Int) : Bool := hasB a b c d x y && hasL l x y
theorem place_same {W H X Y s a b c d : Int} {n : Nat} (l : List Rect) (hs : 1 ≤ s ∧ s ≤ 8) (hX : -1000000 ≤ X ∧ X ≤ 1000000) (hY : -1000000 ≤ Y ∧ Y ≤ 1000000) (hw : 1 ≤ W ∧ W ≤ 256) (hh : 1 ≤ H ∧ H ≤ 256) (hn : (n : Int) = W * H) :
    placeP W H X Y s l ⟨a, b, c, d⟩ = canR (plcL W X Y s (plcB a b c d l) n) :=
  reg_ext (canR_isReg _) (canR_isReg _) (fun p q => by
    have h1 := hasL_place hs hX hY hw hh l ⟨a, b, c, d⟩ p q
    rw [show hasL (placeP W H X Y s l ⟨a, b, c, d⟩) p q = hasL ((regM andB (canR l) (canR [⟨a, b, c, d⟩])).map (shQ W H X Y s)) p q from hasL_can _ _ _] at h1
    rw [h1, hasL_plc hs.1 hw.1 hn]; rfl)
theorem areaL_ge : ∀ {R : List Rect}, (∀ r ∈ R, emptyR r = false) → ((R.length : Nat) : Int) ≤ areaL R := by
  intro R
  induction R with
  | nil => intro _; exact Int.le_refl _
  | cons r R ih =>
    intro h
    have h1 := emptyB_false.1 (show emptyB r.x0 r.y0 r.x1 r.y1 = false from h r (List.mem_cons_self ..))
    have e2 : areaL (r :: R) = areaI r.x0 r.y0 r.x1 r.y1 + areaL R := by simp [areaL]
    have := ih (fun q hq => h q (List.mem_cons_of_mem _ hq))
    have h3 : (1 : Int) * 1 ≤ (r.x1 - r.x0) * (r.y1 - r.y0) := Int.mul_le_mul (by omega) (by omega) (by omega) (by omega)
    rw [e2]
    unfold areaI
    rw [if_neg (by rw [show emptyB r.x0 r.y0 r.x1 r.y1 = false from h r (List.mem_cons_self ..)]; simp)]
    simp only [List.length_cons]
    omega
theorem reg_len_img {W H : Int} {n : Nat} {R : List Rect} {F : Int → Int → Bool} (hR : IsReg R F) (hin : OnImg W H R) (hW : 1 ≤ W) (hn : (n : Int) = W * H) : R.length ≤ n := by
  have h1 := areaL_ge (reg_ne hR hin)
  have h2 := clear_area hR hin hW hn
  have h3 := cntL_le W n R
  omega
theorem onImg_andl {W H : Int} {a : List Rect} (b : List Rect) (ha : OnImg W H a) : OnImg W H (regM andB a b) := fun x y h => ha x y (by rw [hasL_and] at h; exact (Bool.and_eq_true_iff.1 h).1)
theorem cell_bd {u s : Int} (h0 : 0 ≤ u) (h1 : u < 256) (hs : 1 ≤ s ∧ s ≤ 8) : 0 ≤ u * s ∧ u * s ≤ 2048 :=
  ⟨Int.mul_nonneg h0 (by omega), by have := Int.mul_le_mul (a := u) (b := s) (c := 256) (d := 8) (by omega) (by omega) (by omega) (by omega); omega⟩
theorem box_bd {W H : Int} {n i : Nat} (hw : 1 ≤ W ∧ W ≤ 256) (hh : 1 ≤ H ∧ H ≤ 256) (hn : (n : Int) = W * H) (hi : i < n) : 0 ≤ (i : Int) % W ∧ (i : Int) % W < 256 ∧ 0 ≤ (i : Int) / W ∧ (i : Int) / W < 256 := by
  obtain ⟨a, b, c, d⟩ := hasB_true.1 (in_box hw.1 hn hi)
  omega
theorem plcB_yes {a b c d : Int} {l : List Rect} {x y : Int} (h1 : hasB a b c d x y = true) (h2 : hasL l x y = true) : plcB a b c d l x y = true := by unfold plcB; rw [h1, h2]; rfl
theorem plcB_no {a b c d : Int} {l : List Rect} {x y : Int} (h : hasB a b c d x y = false ∨ hasL l x y = false) : plcB a b c d l x y = false := by
  unfold plcB
  rcases h with h | h <;> rw [h] <;> simp
theorem canR_lenB {l : List Rect} (h : l.length ≤ 262144) : (canR l).length ≤ 274877906944 := regM_length (a := l) (b := []) (by simpa using h)
theorem plc_lenB (W X Y s : Int) (B : Int → Int → Bool) {n : Nat} (h : n ≤ 262144) : (canR (plcL W X Y s B n)).length ≤ 274877906944 := canR_lenB (Nat.le_trans (plcL_len W X Y s B n) h)
end Go.Proofs.YtlfahohbkgdabaaGreat
namespace Go.Proofs.YtlfahohbkgdabaaGreat
open Go Go.RowKit
set_option maxRecDepth 100000
set_option maxHeartbeats 8000000
theorem payPlace (m : Nat) (W H : Int) (r n cap : Nat) (px : List Int) (X Y s al ca cb cc cd : Int) (Az : Option Addr) (gz oz nz capz : Nat) (xsz : List Rect) (w : World) (hT0 : Tab w w [.ro m [iQ W, iQ H, sL r n cap] 116, rD (some ⟨r, 0, none⟩) r 0 n 1 (cV px), rD (Az) gz oz nz 4 (rvals xsz)]) (R : List Rect) (hR : R = regM andB (canR xsz) (canR [(⟨ca, cb, cc, cd⟩ : Rect)])) (hcap : n ≤ cap) (hok : ImgOk W H n px) (hs : 1 ≤ s ∧ s ≤ 8) (hX : -1000000 ≤ X ∧ X ≤ 1000000) (hY : -1000000 ≤ Y ∧ Y ≤ 1000000) (hnz : nz ≤ 200000) (hcz : (canR xsz).length ≤ 200000) (hRl : R.length ≤ 200000) :
    Calls Tryz.prog 97 #[.agg #[pT m, iQ X, iQ Y, iQ s, iQ al, iQ ca, iQ cb, iQ cc, iQ cd], .slice Az nz capz] w fun e w' => ∃ (A_ : Option Addr) (g_ k_ cp_ : Nat), e = .returned (.slice A_ k_ cp_) ∧ Tab w w' [.gen (rowE (A_) g_ k_ cp_ 32 4 (rvals (canR (R.map (shQ W H X Y s)))) true)] := by
 have hw1 := hok.w1
 have hw2 := hok.w2
 have hh1 := hok.h1
 have hh2 := hok.h2
 have hnum := hok.num
 have hlen := hok.len
 have hle := hok.le
 obtain ⟨hraz, hrlz⟩ := Rd.factsR (hT0.ok 2 _ rfl)
 refine eN [(0, .agg #[.pointer (pB m), iq X, iq Y, iq s, iq al, iq ca, iq cb, iq cc, iq cd]), (1, .slice Az nz capz)] Tryz.func97 Tryz.ntmps97 rfl hT0 ?_
 refine zSR 2 <| bW [0, 0] 2 0 (fun b1 => [(1, .slice Az nz capz), (2, .pointer (pB b1))]) (fun b1 => [.cells b1 [.pointer (pB m), iq X, iq Y, iq s, iq al, iq ca, iq cb, iq cc, iq cd] 120 true, .ro m [iq W, iq H, .slice (pB r) n cap] 116, rD (pB r) r 0 n 1 (cV px), rD (Az) gz oz nz 4 (rvals xsz)]) [1, 2] fun b1 => ?_
 refine zDNSR 1 <| bD [0] 1 0 [(5, .slice none 0 0)] [] <| zDNSSR 6 <| bD [0, 0, 0] 3 3 [(10, .slice Az nz capz), (12, .agg #[iq ca, iq cb, iq cc, iq cd])] [11] <| pS 4 2 <| cG (d := 13) (α := Option Addr × Nat × Nat × Nat) (fun x_ => .slice x_.1 x_.2.2.1 x_.2.2.2) (fun x_ => [.gen (rowE (x_.1) x_.2.1 x_.2.2.1 x_.2.2.2 32 4 (rvals (regM andB (canR xsz) (canR [(⟨ca, cb, cc, cd⟩ : Rect)]))) true), .cells b1 [.pointer (pB m), iq X, iq Y, iq s, iq al, iq ca, iq cb, iq cc, iq cd] 120 true, .ro m [iq W, iq H, .slice (pB r) n cap] 116, rD (pB r) r 0 n 1 (cV px), rD (Az) gz oz nz 4 (rvals xsz)]) (fun x_ => True) (fun w hT => (payWithin Az gz oz nz capz xsz ca cb cc cd w (hT.viewRo (.cons (i := 3) rfl Vw.rd .nil) rfl) hnz hcz).mono fun e w' ⟨A2, g3, k4, cp5, he_, ht_⟩ => ⟨(A2, g3, k4, cp5), he_, trivial, hT.news ht_ rfl⟩) ?_
 rintro ⟨A2, g3, k4, cp5⟩ hf6_
 refine fR 0 k4 A2 g3 cp5 (regM andB (canR xsz) (canR [(⟨ca, cb, cc, cd⟩ : Rect)])) rfl fun hr7_a hr7_l hr7_c hr7_m => ?_
 refine bD [0, 0] 6 0 [(14, iq (k4 : Int)), (15, iq 0)] [] <| zDNB <| cont_rowEqR 0 (regM andB (canR xsz) (canR [(⟨ca, cb, cc, cd⟩ : Rect)])) (R) rfl hR.symm ?_
 refine fR 0 k4 A2 g3 cp5 R rfl fun hr8_a hr8_l hr8_c hr8_m => ?_
 refine cont_nilrow 32 4 ?_
 refine cont_rowEqR 0 ([]) ((R.take 0).map (shQ W H X Y s)) rfl rfl ?_
 refine cL (α := Nat × Option Addr × Nat × Nat) (fun x_ : Nat × Option Addr × Nat × Nat => x_.1 ≤ k4) (fun x_ : Nat × Option Addr × Nat × Nat => [(2, .pointer (pB b1)), (5, .slice x_.2.1 x_.1 x_.2.2.2), (13, .slice A2 k4 cp5), (14, iq (k4 : Int)), (15, iq ((x_.1 : Nat) : Int))]) (fun x_ : Nat × Option Addr × Nat × Nat => [.gen (rowE (x_.2.1) x_.2.2.1 x_.1 x_.2.2.2 32 4 (rvals ((R.take x_.1).map (shQ W H X Y s))) true), .gen (rowE (A2) g3 k4 cp5 32 4 (rvals R) true), .cells b1 [.pointer (pB m), iq X, iq Y, iq s, iq al, iq ca, iq cb, iq cc, iq cd] 120 true, .ro m [iq W, iq H, .slice (pB r) n cap] 116, rD (pB r) r 0 n 1 (cV px), rD (Az) gz oz nz 4 (rvals xsz)]) (fun x_ : Nat × Option Addr × Nat × Nat => k4 - x_.1) (0, none, 0, 0) (show (0) ≤ k4 from (by omega)) ?_
 rintro ⟨i, Aq, gq, cq⟩ hinv10_
 replace hinv10_ : i ≤ k4 := hinv10_
 have hi := hinv10_
 refine zSR 1 <| bD [0] 1 0 [(16, .bool (decide (((i : Nat) : Int) < (k4 : Int))))] [] <| zDNS <| sD 16 rfl (fun c11_ => ?_) fun c11_ => ?_
 ·
  refine zTKNSBSR 4 <| pS 1 3 <| rC 13 (.slice (pB g3) k4 cp5) rfl (by rw [hr8_a (by omega)]) <| sS 17 (Instr.indexAt 23 (.slice (pB g3) k4 cp5) (iq ((i : Nat) : Int))) (.pointer (some ⟨g3, (i : Nat) * 4, none⟩)) (fun w hT => rI 32 4 w) <| pS 2 2 <| sS 18 (Instr.loadAt 32 (.pointer (some ⟨g3, (i : Nat) * 4, none⟩))) (.agg #[iq ((rget R (i : Nat)).x0), iq ((rget R (i : Nat)).y0), iq ((rget R (i : Nat)).x1), iq ((rget R (i : Nat)).y1)]) (fun w hT => rM 4 (rcells (rget R (i : Nat))) (Rd.rect0 (Row.rd (hT.ok 1 _ rfl)) (by omega))) <| bW [0, 0] 4 0 (fun b12 => [(2, .pointer (pB b1)), (5, .slice Aq i cq), (7, .pointer (pB b12)), (13, .slice (pB g3) k4 cp5), (14, iq (k4 : Int)), (15, iq ((i : Nat) : Int))]) (fun b12 => [.cells b12 [iq ((rget R (i : Nat)).x0), iq ((rget R (i : Nat)).y0), iq ((rget R (i : Nat)).x1), iq ((rget R (i : Nat)).y1)] 32 true, .gen (rowE (Aq) gq i cq 32 4 (rvals ((R.take i).map (shQ W H X Y s))) true), .gen (rowE (A2) g3 k4 cp5 32 4 (rvals R) true), .cells b1 [.pointer (pB m), iq X, iq Y, iq s, iq al, iq ca, iq cb, iq cc, iq cd] 120 true, .ro m [iq W, iq H, .slice (pB r) n cap] 116, rD (pB r) r 0 n 1 (cV px), rD (Az) gz oz nz 4 (rvals xsz)]) [2, 5, 7, 13, 14, 15] fun b12 => ?_
  refine zDNSR 9 <| bD [3, 0] 2 7 [(20, .agg #[.pointer (pB m), iq X, iq Y, iq s, iq al, iq ca, iq cb, iq cc, iq cd]), (21, .agg #[iq ((rget R (i : Nat)).x0), iq ((rget R (i : Nat)).y0), iq ((rget R (i : Nat)).x1), iq ((rget R (i : Nat)).y1)])] [] <| fG 0 <| pS 3 6 <| cP 22 (.tuple #[.agg #[iq ((shwR W H X Y s ((rget R (i : Nat)).x0) ((rget R (i : Nat)).y0) ((rget R (i : Nat)).x1) ((rget R (i : Nat)).y1)).x0), iq ((shwR W H X Y s ((rget R (i : Nat)).x0) ((rget R (i : Nat)).y0) ((rget R (i : Nat)).x1) ((rget R (i : Nat)).y1)).y0), iq ((shwR W H X Y s ((rget R (i : Nat)).x0) ((rget R (i : Nat)).y0) ((rget R (i : Nat)).x1) ((rget R (i : Nat)).y1)).x1), iq ((shwR W H X Y s ((rget R (i : Nat)).x0) ((rget R (i : Nat)).y0) ((rget R (i : Nat)).x1) ((rget R (i : Nat)).y1)).y1)], .bool (shwB W H X Y s ((rget R (i : Nat)).x0) ((rget R (i : Nat)).y0) ((rget R (i : Nat)).x1) ((rget R (i : Nat)).y1))]) (fun w hT => layShown m W H r n cap px X Y s al ca cb cc cd ((rget R (i : Nat)).x0) ((rget R (i : Nat)).y0) ((rget R (i : Nat)).x1) ((rget R (i : Nat)).y1) w ⟨hT.ok 3 _ rfl, hT.ok 4 _ rfl, by omega⟩ hok) <| bW [0, 0, 0, 0, 0, 0] 9 0 (fun b13 => [(2, .pointer (pB b1)), (5, .slice Aq i cq), (8, .pointer (pB b13)), (13, .slice (pB g3) k4 cp5), (14, iq (k4 : Int)), (15, iq ((i : Nat) : Int))]) (fun b13 => [.cells b13 [iq ((shwR W H X Y s ((rget R (i : Nat)).x0) ((rget R (i : Nat)).y0) ((rget R (i : Nat)).x1) ((rget R (i : Nat)).y1)).x0), iq ((shwR W H X Y s ((rget R (i : Nat)).x0) ((rget R (i : Nat)).y0) ((rget R (i : Nat)).x1) ((rget R (i : Nat)).y1)).y0), iq ((shwR W H X Y s ((rget R (i : Nat)).x0) ((rget R (i : Nat)).y0) ((rget R (i : Nat)).x1) ((rget R (i : Nat)).y1)).x1), iq ((shwR W H X Y s ((rget R (i : Nat)).x0) ((rget R (i : Nat)).y0) ((rget R (i : Nat)).x1) ((rget R (i : Nat)).y1)).y1)] 32 true, .gen (rowE (Aq) gq i cq 32 4 (rvals ((R.take i).map (shQ W H X Y s))) true), .gen (rowE (A2) g3 k4 cp5 32 4 (rvals R) true), .cells b1 [.pointer (pB m), iq X, iq Y, iq s, iq al, iq ca, iq cb, iq cc, iq cd] 120 true, .ro m [iq W, iq H, .slice (pB r) n cap] 116, rD (pB r) r 0 n 1 (cV px), rD (Az) gz oz nz 4 (rvals xsz)]) [2, 5, 8, 13, 14, 15] fun b13 => ?_
  refine zDNR 5 <| bW [0, 0, 0] 3 2 (fun b14 => [(2, .pointer (pB b1)), (13, .slice (pB g3) k4 cp5), (14, iq (k4 : Int)), (15, iq ((i : Nat) : Int)), (25, .slice Aq i cq), (27, .slice (pB b14) 1 1)]) (fun b14 => [.cells b14 [iq ((shwR W H X Y s ((rget R (i : Nat)).x0) ((rget R (i : Nat)).y0) ((rget R (i : Nat)).x1) ((rget R (i : Nat)).y1)).x0), iq ((shwR W H X Y s ((rget R (i : Nat)).x0) ((rget R (i : Nat)).y0) ((rget R (i : Nat)).x1) ((rget R (i : Nat)).y1)).y0), iq ((shwR W H X Y s ((rget R (i : Nat)).x0) ((rget R (i : Nat)).y0) ((rget R (i : Nat)).x1) ((rget R (i : Nat)).y1)).x1), iq ((shwR W H X Y s ((rget R (i : Nat)).x0) ((rget R (i : Nat)).y0) ((rget R (i : Nat)).x1) ((rget R (i : Nat)).y1)).y1)] 32 true, .cells b13 [iq ((shwR W H X Y s ((rget R (i : Nat)).x0) ((rget R (i : Nat)).y0) ((rget R (i : Nat)).x1) ((rget R (i : Nat)).y1)).x0), iq ((shwR W H X Y s ((rget R (i : Nat)).x0) ((rget R (i : Nat)).y0) ((rget R (i : Nat)).x1) ((rget R (i : Nat)).y1)).y0), iq ((shwR W H X Y s ((rget R (i : Nat)).x0) ((rget R (i : Nat)).y0) ((rget R (i : Nat)).x1) ((rget R (i : Nat)).y1)).x1), iq ((shwR W H X Y s ((rget R (i : Nat)).x0) ((rget R (i : Nat)).y0) ((rget R (i : Nat)).x1) ((rget R (i : Nat)).y1)).y1)] 32 true, .gen (rowE (Aq) gq i cq 32 4 (rvals ((R.take i).map (shQ W H X Y s))) true), .gen (rowE (A2) g3 k4 cp5 32 4 (rvals R) true), .cells b1 [.pointer (pB m), iq X, iq Y, iq s, iq al, iq ca, iq cb, iq cc, iq cd] 120 true, .ro m [iq W, iq H, .slice (pB r) n cap] 116, rD (pB r) r 0 n 1 (cV px), rD (Az) gz oz nz 4 (rvals xsz)]) [2, 13, 14, 15, 25, 27] fun b14 => ?_
  refine fG 1 <| pS 4 1 <| sSW (α := Option Addr × Nat × Nat) 28 (Builtin.append_ #[23, 23] 23 #[.slice Aq i cq, .slice (pB b14) 1 1]) (fun x_ => .slice x_.1 (i + 1) x_.2.2) (fun x_ => [.cells b14 [iq ((shwR W H X Y s ((rget R (i : Nat)).x0) ((rget R (i : Nat)).y0) ((rget R (i : Nat)).x1) ((rget R (i : Nat)).y1)).x0), iq ((shwR W H X Y s ((rget R (i : Nat)).x0) ((rget R (i : Nat)).y0) ((rget R (i : Nat)).x1) ((rget R (i : Nat)).y1)).y0), iq ((shwR W H X Y s ((rget R (i : Nat)).x0) ((rget R (i : Nat)).y0) ((rget R (i : Nat)).x1) ((rget R (i : Nat)).y1)).x1), iq ((shwR W H X Y s ((rget R (i : Nat)).x0) ((rget R (i : Nat)).y0) ((rget R (i : Nat)).x1) ((rget R (i : Nat)).y1)).y1)] 32 true, .gen (rowE (x_.1) x_.2.1 (i + 1) x_.2.2 32 4 (rvals (((R.take i).map (shQ W H X Y s)) ++ [(⟨(shwR W H X Y s ((rget R (i : Nat)).x0) ((rget R (i : Nat)).y0) ((rget R (i : Nat)).x1) ((rget R (i : Nat)).y1)).x0, (shwR W H X Y s ((rget R (i : Nat)).x0) ((rget R (i : Nat)).y0) ((rget R (i : Nat)).x1) ((rget R (i : Nat)).y1)).y0, (shwR W H X Y s ((rget R (i : Nat)).x0) ((rget R (i : Nat)).y0) ((rget R (i : Nat)).x1) ((rget R (i : Nat)).y1)).x1, (shwR W H X Y s ((rget R (i : Nat)).x0) ((rget R (i : Nat)).y0) ((rget R (i : Nat)).x1) ((rget R (i : Nat)).y1)).y1⟩ : Rect)])) true), .gen (rowE (A2) g3 k4 cp5 32 4 (rvals R) true), .cells b1 [.pointer (pB m), iq X, iq Y, iq s, iq al, iq ca, iq cb, iq cc, iq cd] 120 true, .ro m [iq W, iq H, .slice (pB r) n cap] 116, rD (pB r) r 0 n 1 (cV px), rD (Az) gz oz nz 4 (rvals xsz)]) (fun _ => True) (by kernel_rfl) (fun w hT => append_own (n' := (i + 1)) (z := .agg #[iq 0, iq 0, iq 0, iq 0]) hT (i := 1) (bytes := 32) rfl (by kernel_rfl) (by kernel_rfl) rfl (by decide) (by decide) (Rd.ofCells (vals := rvals [(⟨(shwR W H X Y s ((rget R (i : Nat)).x0) ((rget R (i : Nat)).y0) ((rget R (i : Nat)).x1) ((rget R (i : Nat)).y1)).x0, (shwR W H X Y s ((rget R (i : Nat)).x0) ((rget R (i : Nat)).y0) ((rget R (i : Nat)).x1) ((rget R (i : Nat)).y1)).y0, (shwR W H X Y s ((rget R (i : Nat)).x0) ((rget R (i : Nat)).y0) ((rget R (i : Nat)).x1) ((rget R (i : Nat)).y1)).x1, (shwR W H X Y s ((rget R (i : Nat)).x0) ((rget R (i : Nat)).y0) ((rget R (i : Nat)).x1) ((rget R (i : Nat)).y1)).y1⟩ : Rect)]) (hT.ok 0 _ rfl) rfl rfl) (rvals_one [(⟨(shwR W H X Y s ((rget R (i : Nat)).x0) ((rget R (i : Nat)).y0) ((rget R (i : Nat)).x1) ((rget R (i : Nat)).y1)).x0, (shwR W H X Y s ((rget R (i : Nat)).x0) ((rget R (i : Nat)).y0) ((rget R (i : Nat)).x1) ((rget R (i : Nat)).y1)).y0, (shwR W H X Y s ((rget R (i : Nat)).x0) ((rget R (i : Nat)).y0) ((rget R (i : Nat)).x1) ((rget R (i : Nat)).y1)).x1, (shwR W H X Y s ((rget R (i : Nat)).x0) ((rget R (i : Nat)).y0) ((rget R (i : Nat)).x1) ((rget R (i : Nat)).y1)).y1⟩ : Rect)]) (by omega) (rvals_append ((R.take i).map (shQ W H X Y s)) [(⟨(shwR W H X Y s ((rget R (i : Nat)).x0) ((rget R (i : Nat)).y0) ((rget R (i : Nat)).x1) ((rget R (i : Nat)).y1)).x0, (shwR W H X Y s ((rget R (i : Nat)).x0) ((rget R (i : Nat)).y0) ((rget R (i : Nat)).x1) ((rget R (i : Nat)).y1)).y0, (shwR W H X Y s ((rget R (i : Nat)).x0) ((rget R (i : Nat)).y0) ((rget R (i : Nat)).x1) ((rget R (i : Nat)).y1)).x1, (shwR W H X Y s ((rget R (i : Nat)).x0) ((rget R (i : Nat)).y0) ((rget R (i : Nat)).x1) ((rget R (i : Nat)).y1)).y1⟩ : Rect)]) rfl) ?_
  rintro ⟨A15, g15, cp15⟩ -
  refine fR 1 (i + 1) A15 g15 cp15 (((R.take i).map (shQ W H X Y s)) ++ [(⟨(shwR W H X Y s ((rget R (i : Nat)).x0) ((rget R (i : Nat)).y0) ((rget R (i : Nat)).x1) ((rget R (i : Nat)).y1)).x0, (shwR W H X Y s ((rget R (i : Nat)).x0) ((rget R (i : Nat)).y0) ((rget R (i : Nat)).x1) ((rget R (i : Nat)).y1)).y0, (shwR W H X Y s ((rget R (i : Nat)).x0) ((rget R (i : Nat)).y0) ((rget R (i : Nat)).x1) ((rget R (i : Nat)).y1)).x1, (shwR W H X Y s ((rget R (i : Nat)).x0) ((rget R (i : Nat)).y0) ((rget R (i : Nat)).x1) ((rget R (i : Nat)).y1)).y1⟩ : Rect)]) rfl fun hr16_a hr16_l hr16_c hr16_m => ?_
  refine bD [0] 5 0 [(5, .slice A15 (i + 1) cp15)] [] <| fG 0 <| zDbNR 2 <| bD [0] 1 1 [(29, iq (IntKind.i64.wrap (((i : Nat) : Int) + 1)))] [] <| wI 29 (((i : Nat) : Int) + 1) <| bD [0] 2 0 [(15, iq (((i : Nat) : Int) + 1))] [] <| zDN <| rC 13 (.slice A2 k4 cp5) rfl (by rw [hr8_a (by omega)]) <| cont_rowEqR 0 (((R.take i).map (shQ W H X Y s)) ++ [(⟨(shwR W H X Y s ((rget R (i : Nat)).x0) ((rget R (i : Nat)).y0) ((rget R (i : Nat)).x1) ((rget R (i : Nat)).y1)).x0, (shwR W H X Y s ((rget R (i : Nat)).x0) ((rget R (i : Nat)).y0) ((rget R (i : Nat)).x1) ((rget R (i : Nat)).y1)).y0, (shwR W H X Y s ((rget R (i : Nat)).x0) ((rget R (i : Nat)).y0) ((rget R (i : Nat)).x1) ((rget R (i : Nat)).y1)).x1, (shwR W H X Y s ((rget R (i : Nat)).x0) ((rget R (i : Nat)).y0) ((rget R (i : Nat)).x1) ((rget R (i : Nat)).y1)).y1⟩ : Rect)]) ((R.take (i + 1)).map (shQ W H X Y s)) rfl (map_put (f := (shQ W H X Y s)) (by omega)) ?_
  refine cA (i + 1, A15, g15, cp15) (show (i + 1) ≤ k4 from (by omega))
 refine zFXxxeNSR 3 <| bS [0] 1 2 [(30, .slice Aq i cq)] <| fG 2 <| pS 2 1 <| cG (d := 31) (α := Option Addr × Nat × Nat × Nat) (fun x_ => .slice x_.1 x_.2.2.1 x_.2.2.2) (fun x_ => [.gen (rowE (x_.1) x_.2.1 x_.2.2.1 x_.2.2.2 32 4 (rvals (canR ((R.take i).map (shQ W H X Y s)))) true), .gen (rowE (Aq) gq i cq 32 4 (rvals ((R.take i).map (shQ W H X Y s))) true), .gen (rowE (A2) g3 k4 cp5 32 4 (rvals R) true), .ro m [iq W, iq H, .slice (pB r) n cap] 116, rD (pB r) r 0 n 1 (cV px), rD (Az) gz oz nz 4 (rvals xsz)]) (fun x_ => True) (fun w hT => (regOf Aq gq 0 i cq ((R.take i).map (shQ W H X Y s)) w (hT.viewRo (.cons (i := 0) rfl Vw.rowRd .nil) rfl) (by omega)).mono fun e w' ⟨A17, g18, k19, cp20, he_, ht_⟩ => ⟨(A17, g18, k19, cp20), he_, trivial, hT.news ht_ rfl⟩) ?_
 rintro ⟨A17, g18, k19, cp20⟩ hf21_
 refine fR 0 k19 A17 g18 cp20 (canR ((R.take i).map (shQ W H X Y s))) rfl fun hr22_a hr22_l hr22_c hr22_m => ?_
 refine bS [0] 3 0 [(4, .slice A17 k19 cp20)] <| zDNr <| rA rfl 0 (.slice A17 k19 cp20) fun w hT => ?_
 replace hT := hT.erase 5 (fun e h hw => by cases h; first | rfl | cases hw)
 replace hT := hT.erase 4 (fun e h hw => by cases h; first | rfl | cases hw)
 replace hT := hT.erase 3 (fun e h hw => by cases h; first | rfl | cases hw)
 replace hT := hT.erase 2 (fun e h hw => by cases h; first | rfl | cases hw)
 replace hT := hT.erase 1 (fun e h hw => by cases h; first | rfl | cases hw)
 have hik : i = R.length := by omega
 subst hik
 rw [List.take_length] at hT
 exact ⟨_, _, _, _, rfl, hT⟩
end Go.Proofs.YtlfahohbkgdabaaGreat
namespace Go.Proofs.YtlfahohbkgdabaaGreat
open Go Go.RowKit
set_option maxRecDepth 100000
set_option maxHeartbeats 8000000
end Go.Proofs.YtlfahohbkgdabaaGreat
namespace Go.Proofs.YtlfahohbkgdabaaGreat
open Go Go.RowKit
end Go.Proofs.YtlfahohbkgdabaaGreat
namespace Go.Proofs.YtlfahohbkgdabaaGreat
open Go Go.RowKit
end Go.Proofs.YtlfahohbkgdabaaGreat
namespace Go.Proofs.YtlfahohbkgdabaaGreat
open Go Go.RowKit
variable {dfs : List Deferred}
section
variable {P : Program}
end
end Go.Proofs.YtlfahohbkgdabaaGreat
namespace Go.Proofs.YtlfahohbkgdabaaGreat
open Go Go.RowKit
variable {P : Program} {dfs : List Deferred} {n : Nat} {w0 : World} {L : List (Tmp × Value)} {T : List Ent} {Q : Exit → Act → World → Prop}
end Go.Proofs.YtlfahohbkgdabaaGreat
namespace Go.Proofs.YtlfahohbkgdabaaGreat
open Go Go.RowKit
section
variable {P : Program}
end
end Go.Proofs.YtlfahohbkgdabaaGreat
namespace Go.Proofs.YtlfahohbkgdabaaGreat
open Go Go.RowKit
variable {P : Program} {dfs : List Deferred} {n : Nat} {w0 : World} {L : List (Tmp × Value)} {T : List Ent} {Q : Exit → Act → World → Prop}
end Go.Proofs.YtlfahohbkgdabaaGreat
namespace Go.Proofs.YtlfahohbkgdabaaGreat
open Go Go.RowKit
variable {dfs : List Deferred}
end Go.Proofs.YtlfahohbkgdabaaGreat
namespace Go.Proofs.YtlfahohbkgdabaaGreat
open Go Go.RowKit
section
variable {P : Program} {dfs : List Deferred} {Q : Exit → Act → World → Prop} {n : Nat} {w0 : World} {L : List (Nat × Value)} {T : List Ent}
end
end Go.Proofs.YtlfahohbkgdabaaGreat
namespace Go.Proofs.YtlfahohbkgdabaaGreat
open Go Go.RowKit
def BackP (n : Nat) (p : List Nat) : Prop := p = (List.range p.length).map (fun k => n - 1 - k) ∧ p.length ≤ n
theorem BackP.nil (n : Nat) : BackP n [] := ⟨rfl, Nat.zero_le _⟩
theorem BackP.step {n : Nat} {p : List Nat} (hp : BackP n p) {x : Nat} (hx : (x : Int) = (n : Int) - 1 - ((p.length : Nat) : Int)) : BackP n (p ++ [x]) := by
  refine ⟨?_, by rw [List.length_append, List.length_singleton]; omega⟩
  rw [List.length_append, List.length_singleton, List.range_succ, List.map_append, ← hp.1]
  have : x = n - 1 - p.length := by omega
  rw [this]; rfl
theorem BackP.last {n : Nat} {p : List Nat} {x : Nat} (hp : BackP n (p ++ [x])) : x = n - 1 - p.length ∧ p.length < n := by
  obtain ⟨h1, h2⟩ := hp
  rw [List.length_append, List.length_singleton] at h1 h2
  rw [List.range_succ, List.map_append] at h1
  have := List.append_inj_right h1 (by simp)
  simp at this
  exact ⟨this, h2⟩
structure RS where
  A : Option Addr
  g : Nat
  n : Nat
  cap : Nat
  xs : List Rect
def RS.nil : RS := ⟨none, 0, 0, 0, []⟩
instance : Inhabited RS := ⟨RS.nil⟩
def RS.cells (t : RS) : List Value := [.slice t.A t.n t.cap]
theorem RS.size (t : RS) : (RS.cells t).length = 1 := rfl
theorem RS.one : ∀ a : RS, ∀ u ∈ RS.cells a, u.oneCell' = true := by
  intro a u hu
  simp only [RS.cells, List.mem_cons, List.not_mem_nil, or_false] at hu
  rcases hu with rfl; rfl
theorem make_rowS {P : Program} {w0 w : World} {T : List Ent} (hT : Tab w0 w T) {t e : TypeId} {kl kc : IntKind} {bytes : Nat} (n : Nat) (ht : P.underlying t = some (.slice e)) (hi : (P.info? e).map (fun i => (i.zero, i.size, i.bytes)) = some (some (.slice none 0 0), 1, bytes)) (hb : bytes * n ≤ 281474976710656) (hn : n ≤ 9223372036854775807) :
    ∃ (x : Nat) (w' : World), (Instr.makeSlice t (.int kl (n : Int)) (.int kc (n : Int))).run P w = .ok (.slice (some ⟨x, 0, none⟩) n n) w' ∧ True ∧ Tab w0 w' (.gen (rowE (some ⟨x, 0, none⟩) x n n e 1 (dvals RS.cells (List.replicate n RS.nil)) true) :: T) := by
  obtain ⟨i, hi1, hi2⟩ := Option.map_eq_some_iff.1 hi
  simp only [Prod.mk.injEq] at hi2
  obtain ⟨hz, hs, hby⟩ := hi2
  obtain ⟨w', hr, hown, hg⟩ := run_make_full (P := P) w 0 t e i (.slice none 0 0) 1 ht hi1 hz hs kl kc n (by rw [hby]; exact hb) (by unfold maxLen; omega) (Nat.zero_le _)
  have hvals : (madeCells (Value.slice none 0 0).cells (n * 1)).toList = dvals RS.cells (List.replicate n RS.nil) := by
    have : (Value.slice none 0 0).cells = #[.slice none 0 0] := rfl
    rw [this, Nat.mul_one, toList_madeCells_one]
    clear hr hown hg hb hn
    induction n with
    | zero => rfl
    | succ n ih => rw [List.replicate_succ, List.replicate_succ, dvals, ← ih]; rfl
  rw [hvals] at hown
  refine ⟨w.heap.size, w', hr, trivial, ?_⟩
  have hbel : Below w.heap.size w w' := ⟨hg.os, hg.tape, hg.output, hg.size, fun k hk => hg.block k hk (by simp)⟩
  exact hT.addRow hbel ⟨hown, fun _ => rfl, fun a ha => by simpa using ha.symm⟩ (fun _ => Nat.le_refl _)
structure JS where
  i : Int
  a : Int
  b : Int
  c : Int
  d : Int
deriving DecidableEq
instance : Inhabited JS := ⟨⟨0, 0, 0, 0, 0⟩⟩
def JS.cells (t : JS) : List Value := [.int .i64 t.i, .int .i64 t.a, .int .i64 t.b, .int .i64 t.c, .int .i64 t.d]
theorem JS.size (t : JS) : (JS.cells t).length = 5 := rfl
theorem JS.one : ∀ a : JS, ∀ u ∈ JS.cells a, u.oneCell' = true := by
  intro a u hu
  simp only [JS.cells, List.mem_cons, List.not_mem_nil, or_false] at hu
  rcases hu with rfl | rfl | rfl | rfl | rfl <;> rfl
def JS.of (i : Int) (r : Rect) : JS := ⟨i, r.x0, r.y0, r.x1, r.y1⟩
theorem jobs_step {xs : List Rect} {i : Nat} (h : i < xs.length) (q : Int) : (xs.take i).map (JS.of q) ++ [(⟨q, (rget xs i).x0, (rget xs i).y0, (rget xs i).x1, (rget xs i).y1⟩ : JS)] = (xs.take (i + 1)).map (JS.of q) := by
  rw [take_succ_rget h, List.map_append]; rfl
theorem lives17_eq : regM andB (canR [(⟨0, 0, 4, 4⟩ : Rect)]) [(⟨0, 0, 4, 4⟩ : Rect)] = [(⟨0, 0, 4, 4⟩ : Rect)] := by
  unfold canR
  rw [← regD_eq (kf := orB) rfl, ← regD_eq (kf := andB) rfl]
  decide +kernel
end Go.Proofs.YtlfahohbkgdabaaGreat
namespace Go.Proofs.YtlfahohbkgdabaaGreat
open Go Go.RowKit
set_option maxRecDepth 100000
set_option maxHeartbeats 8000000
theorem backIter0 (kb : Nat) (A : Option Addr) (g o n cap : Nat) (its : List IT) (hn : n ≤ 100) (hra : 0 < n → A = some ⟨g, o, none⟩) (hrl : its.length = n) (w0 : World) {β : Type} (Inv : List Nat → β → Prop) (Tr : β → List Ent) (Jx : World → Prop) (l_ : Nat) (e1 e2 : Ent) (w : World) (b0 : β) (hJx : ∀ w w', Jx w → Below w.heap.size w w' → Jx w') (hY : ∀ (pre : List Nat) (x : Nat) (b : β) W1 z, (z.wr = true → z.own = true) → Inv pre b → BackP n (pre ++ [x]) → Tab w0 W1 (z :: e1 :: e2 :: (.ro kb [.slice A n cap] 26) :: (rD (A) g o n 14 (dvals IT.cells its)) :: (Tr b)) → YieldAt Fence.wide 0 Tryz.prog l_ #[iQ (x : Int), .agg #[iQ 0, iQ 0, .pointer (some ⟨(dget its x).b, 0, none⟩), iQ ((dget its x).t.X), iQ ((dget its x).t.Y), iQ ((dget its x).t.s), iQ ((dget its x).t.al), iQ ((dget its x).t.ca), iQ ((dget its x).t.cb), iQ ((dget its x).t.cc), iQ ((dget its x).t.cd), .slice ((dget its x).t.A) ((dget its x).t.k) ((dget its x).t.cp), .string ⟨#[]⟩, iQ 0]] W1 fun e W' => (e = .returned (.bool true) ∧ ∃ b', Inv (pre ++ [x]) b' ∧ Tab w0 W' (z :: e1 :: e2 :: (.ro kb [.slice A n cap] 26) :: (rD (A) g o n 14 (dvals IT.cells its)) :: (Tr b'))) ∨ (e = .returned (.bool false) ∧ Jx W')) (h0 : Inv [] b0) (hT0 : Tab w0 w (e1 :: e2 :: (.ro kb [.slice A n cap] 26) :: (rD (A) g o n 14 (dvals IT.cells its)) :: (Tr b0))) :
    Calls Tryz.prog 95 #[.func (.yield l_) #[] #[], pT kb] w fun e W' => (∃ v, e = .returned v) ∧ ((∃ xs_ b', (BackP n xs_ ∧ xs_.length = n) ∧ Inv xs_ b' ∧ Tab w0 W' (e1 :: e2 :: (.ro kb [.slice A n cap] 26) :: (rD (A) g o n 14 (dvals IT.cells its)) :: (Tr b'))) ∨ Jx W') := by
  refine enterI 19 [(0, .func (.yield l_) #[] #[]), (1, pT kb)] (e1 :: e2 :: (.ro kb [.slice A n cap] 26) :: (rD (A) g o n 14 (dvals IT.cells its)) :: (Tr b0)) Tryz.func95 rfl Tryz.ntmps95 rfl (by kernel_rfl) hT0 (fun _ h_ => by simp at h_) ?_
  refine mcont_seq ?_
  refine mcont_region 4 rfl (by kernel_rfl) ?_
  refine bD [2, 0, 0] 3 1 [(6, iQ (IntKind.i64.wrap ((n : Int) - 1)))] [4, 5] <| wI 6 ((n : Int) - 1) <| bD [0] 4 0 [(3, iQ ((n : Int) - 1))] [] <| zDN <| mcont_block ?_
  refine cont_nilrow 52 1 ?_
  refine cM ?_
  refine rC 3 (iQ ((n : Int) - 1 - ((([] : List Nat).length : Nat) : Int))) rfl (congrArg (Value.int .i64) (by simp)) <| mcont_loop (α := List Nat × β) (fun x_ : List Nat × β => BackP n x_.1 ∧ Inv x_.1 x_.2) (fun x_ : List Nat × β => [(0, .func (.yield l_) #[] #[]), (1, pT kb), (3, iQ ((n : Int) - 1 - ((x_.1.length : Nat) : Int)))]) (fun x_ : List Nat × β => ((.gen (rowE (none) 0 0 0 52 1 (ivals .u32 []) true)) :: e1 :: e2 :: (.ro kb [.slice A n cap] 26) :: (rD (A) g o n 14 (dvals IT.cells its)) :: (Tr x_.2))) (fun x_ : List Nat × β => n - x_.1.length) ([], b0) (show BackP n ([]) ∧ Inv ([]) (b0) from ⟨BackP.nil _, h0⟩) (by kernel_rfl) (by kernel_rfl) ?_
  rintro ⟨pre, b⟩ hinv2_
  replace hinv2_ : BackP n pre ∧ Inv pre b := hinv2_
  refine cM ?_
  obtain ⟨hP, hI⟩ := hinv2_
  have hpl := hP.2
  refine mcont_seq ?_
  refine mcont_seq ?_
  refine mcont_region 2 rfl (by kernel_rfl) ?_
  refine bD [0, 0] 2 0 [(8, .bool (decide (((n : Int) - 1 - ((pre.length : Nat) : Int)) ≥ 0)))] [7] <| zDN <| sD 8 rfl (fun c3_ => ?_) fun c3_ => ?_
  ·
    refine mcont_true rfl ?_
    refine mcont_skip ?_
    refine zN <| mcont_seq ?_
    refine mcont_block ?_
    refine mcont_seq ?_
    refine icont_region 8 rfl ?_
    refine pli_ops 6 2 6 rfl rfl (by kernel_rfl) ?_
    obtain ⟨x, hx⟩ : ∃ y_ : Nat, (y_ : Int) = (n : Int) - 1 - ((pre.length : Nat) : Int) := ⟨n - 1 - pre.length, by omega⟩
    refine rC 3 (iQ (x : Int)) rfl (congrArg (Value.int .i64) hx.symm) ?_
    have hP2 : BackP n (pre ++ [x]) := hP.step hx
    refine bD [0, 0, 3, 0] 4 2 [(11, .func (.yield l_) #[] #[]), (12, iQ (x : Int)), (13, .slice A n cap), (14, iQ (x : Int))] [] <| pS 5 1 <| rC 13 (.slice (some ⟨g, o, none⟩) n cap) rfl (by rw [hra (by omega)]) <| sS 15 (Instr.indexAt 26 (.slice (some ⟨g, o, none⟩) n cap) (iQ (x : Int))) (.pointer (some ⟨g, o + x * 14, none⟩)) (fun w hT => rI 94 14 w) <| pS 6 0 <| sS 16 (Instr.loadAt 94 (.pointer (some ⟨g, o + x * 14, none⟩))) (.agg #[iQ 0, iQ 0, .pointer (some ⟨(dget its x).b, 0, none⟩), iQ ((dget its x).t.X), iQ ((dget its x).t.Y), iQ ((dget its x).t.s), iQ ((dget its x).t.al), iQ ((dget its x).t.ca), iQ ((dget its x).t.cb), iQ ((dget its x).t.cc), iQ ((dget its x).t.cd), .slice ((dget its x).t.A) ((dget its x).t.k) ((dget its x).t.cp), .string ⟨#[]⟩, iQ 0]) (fun w hT => rM 14 ([iQ 0, iQ 0, .pointer (some ⟨(dget its x).b, 0, none⟩), iQ ((dget its x).t.X), iQ ((dget its x).t.Y), iQ ((dget its x).t.s), iQ ((dget its x).t.al), iQ ((dget its x).t.ca), iQ ((dget its x).t.cb), iQ ((dget its x).t.cc), iQ ((dget its x).t.cd), .slice ((dget its x).t.A) ((dget its x).t.k) ((dget its x).t.cp), .string ⟨#[]⟩, iQ 0]) (Rd.dcell IT.size (hT.ok 4 _ rfl) (by omega))) <| zDN <| pli_yield 17 7 1 rfl rfl (by kernel_rfl) (by kernel_rfl) (R := fun v_ w_ => (v_ = .bool true ∧ ∃ b_, Inv (pre ++ [x]) b_ ∧ Tab w0 w_ ((.gen (rowE (none) 0 0 0 52 1 (ivals .u32 []) true)) :: e1 :: e2 :: (.ro kb [.slice A n cap] 26) :: (rD (A) g o n 14 (dvals IT.cells its)) :: (Tr b_))) ∨ (v_ = .bool false ∧ Jx w_)) (fun w_ hT_ => YieldAt.weaken (hY pre x b w_ _ (fun _ => rfl) hI hP2 hT_) (fun e_ w_ h_ => by rcases h_ with ⟨rfl, hh_⟩ | ⟨rfl, hh_⟩; exact ⟨_, rfl, .inl ⟨rfl, hh_⟩⟩; exact ⟨_, rfl, .inr ⟨rfl, hh_⟩⟩)) ?_
    rintro a_ w_ v_ ha_ hf_ (⟨rfl, b, hI, hT_⟩ | ⟨rfl, hJ⟩)
    ·
      refine Cont.go ?_ ha_ hf_ hT_
      refine cM ?_
      refine pli_ops 1 0 8 rfl rfl (by kernel_rfl) ?_
      refine bD [0] 8 0 [(18, .bool false)] [] <| zDN <| pli_done ?_
      refine zN <| mcont_false rfl ?_
      refine mcont_skip ?_
      refine blk_normal <| zN <| mcont_region 3 rfl (by kernel_rfl) ?_
      refine bD [0, 0] 2 1 [(10, iQ (IntKind.i64.wrap ((x : Int) - 1)))] [9] <| wI 10 ((x : Int) - 1) <| bD [0] 3 0 [(3, iQ ((x : Int) - 1))] [] <| zDN <| rC 3 (iQ ((n : Int) - 1 - (((pre ++ [x]).length : Nat) : Int))) rfl (congrArg (Value.int .i64) (by rw [List.length_append, List.length_singleton]; omega)) <| cA (pre ++ [x], b) (show BackP n (pre ++ [x]) ∧ Inv (pre ++ [x]) (b) from ⟨hP2, hI⟩) (show n - (pre ++ [x]).length < n - pre.length from by rw [List.length_append, List.length_singleton]; omega)
    ·
      refine Cont.go ?_ ha_ hf_ (Tab.start w_)
      refine cM ?_
      refine pli_ops 1 0 8 rfl rfl (by kernel_rfl) ?_
      refine bD [0] 8 0 [(18, .bool true)] [] <| zDN <| pli_done ?_
      refine zN <| mcont_true rfl ?_
      refine mcont_ret ?_
      refine blk_ret <| then_ret <| then_ret <| blk_ret ?_
      refine ret_none (.inl rfl) rfl (fun w hT => ?_)
      exact ⟨⟨_, rfl⟩, .inr (hJx _ _ hJ (hT.toBelow (fun i e h => by simp at h)))⟩
  refine mcont_false rfl ?_
  refine mcont_exit ?_
  refine then_exit <| then_exit <| blk_exit ?_
  refine ret_none (.inr rfl) rfl (fun w hT => ?_)
  exact ⟨⟨_, rfl⟩, .inl ⟨pre, b, ⟨hP, by omega⟩, hI, hT.drop (fun _ => rfl)⟩⟩
theorem backIter (kb : Nat) (A : Option Addr) (g o n cap : Nat) (its : List IT) (hn : n ≤ 100) (hra : 0 < n → A = some ⟨g, o, none⟩) (hrl : its.length = n) (w0 : World) : IterC Tryz.prog 95 #[pT kb] (fun z_ : Nat => #[iQ (z_ : Int), .agg #[iQ 0, iQ 0, .pointer (some ⟨(dget its z_).b, 0, none⟩), iQ ((dget its z_).t.X), iQ ((dget its z_).t.Y), iQ ((dget its z_).t.s), iQ ((dget its z_).t.al), iQ ((dget its z_).t.ca), iQ ((dget its z_).t.cb), iQ ((dget its z_).t.cc), iQ ((dget its z_).t.cd), .slice ((dget its z_).t.A) ((dget its z_).t.k) ((dget its z_).t.cp), .string ⟨#[]⟩, iQ 0]]) w0 [.ro kb [.slice A n cap] 26, rD (A) g o n 14 (dvals IT.cells its)] (fun _ => []) (fun xs_ => BackP n xs_ ∧ xs_.length = n) (fun p_ => BackP n p_) :=
  fun Inv Tr Jx l e1 e2 W1 b0 hJx hY h0 hT => backIter0 kb A g o n cap its hn hra hrl w0 Inv Tr Jx l e1 e2 W1 b0 hJx hY h0 hT
theorem backOf (A : Option Addr) (n cap : Nat) (w : World) :
    Calls Tryz.prog 68 #[.slice A n cap] w fun e w' => ∃ kb : Nat, e = .returned (.func (.func 95) #[] #[pT kb]) ∧ Tab w w' [.cells kb [.slice A n cap] 26 true] := by
 refine eN [(0, .slice A n cap)] Tryz.func68 Tryz.ntmps68 rfl (Tab.start w) ?_
 refine zSR 2 <| bW [0, 0] 2 0 (fun b1 => [(1, .pointer (pB b1))]) (fun b1 => [.cells b1 [.slice A n cap] 26 true]) [1] fun b1 => ?_
 refine zDNSR 2 <| bS [0, 0] 2 0 [(2, .func (.func 95) #[] #[.pointer (pB b1)])] <| zDNr <| rA rfl 0 (.func (.func 95) #[] #[.pointer (pB b1)]) fun w hT => ?_
 exact ⟨_, rfl, hT⟩
theorem planjobs0 (A : Option Addr) (g o n cap : Nat) (xs : List Rect) (q : Int) (w : World) (hT0 : Tab w w [rD (A) g o n 4 (rvals xs)]) (hn : n ≤ 274877906944) :
    Calls Tryz.prog 39 #[.slice none 0 0, iQ q, .slice A n cap] w fun e w' => ∃ (A_ : Option Addr) (g_ cp_ : Nat), e = .returned (.slice A_ n cp_) ∧ Tab w w' [.gen (rowE (A_) g_ n cp_ 68 5 (dvals JS.cells (xs.map (JS.of q))) true)] := by
  obtain ⟨hra, hrl⟩ := Rd.factsR (hT0.ok 0 _ rfl)
  refine eN [(0, .slice none 0 0), (1, iQ q), (2, .slice A n cap)] Tryz.func39 Tryz.ntmps39 rfl hT0 ?_
  refine zSR 1 <| bD [0] 1 0 [] [6] <| zDNSSR 3 <| bD [0, 0, 0] 3 0 [(9, .slice A n cap), (10, iQ (n : Int)), (11, iQ 0)] [] <| zDNB <| cont_nilrow 68 5 ?_
  refine cM ?_
  refine cont_rowEqD (cel := JS.cells) (z := 5) 0 ([]) (((xs.take 0).map (JS.of q))) rfl rfl ?_
  refine cL (α := Nat × Option Addr × Nat × Nat) (fun x_ : Nat × Option Addr × Nat × Nat => x_.1 ≤ n) (fun x_ : Nat × Option Addr × Nat × Nat => [(0, .slice x_.2.1 x_.1 x_.2.2.2), (1, iQ q), (9, .slice A n cap), (10, iQ (n : Int)), (11, iQ (x_.1 : Int))]) (fun x_ : Nat × Option Addr × Nat × Nat => [.gen (rowE (x_.2.1) x_.2.2.1 x_.1 x_.2.2.2 68 5 (dvals JS.cells ((xs.take x_.1).map (JS.of q))) true), rD (A) g o n 4 (rvals xs)]) (fun x_ : Nat × Option Addr × Nat × Nat => n - x_.1) (0, none, 0, 0) (show (0) ≤ n from (by omega)) ?_
  rintro ⟨i, Ao, gw, co⟩ hinv2_
  replace hinv2_ : i ≤ n := hinv2_
  refine cM ?_
  have hi := hinv2_
  refine zSR 1 <| bD [0] 1 0 [(12, .bool (decide ((i : Int) < (n : Int))))] [] <| zDNS <| sD 12 rfl (fun c3_ => ?_) fun c3_ => ?_
  ·
    refine zTKNSBSR 4 <| pS 1 3 <| rC 9 (.slice (some ⟨g, o, none⟩) n cap) rfl (by rw [hra (by omega)]) <| sS 13 (Instr.indexAt 23 (.slice (some ⟨g, o, none⟩) n cap) (iQ (i : Int))) (.pointer (some ⟨g, o + i * 4, none⟩)) (fun w hT => rI 32 4 w) <| pS 2 2 <| sS 14 (Instr.loadAt 32 (.pointer (some ⟨g, o + i * 4, none⟩))) (.agg #[iQ ((rget xs i).x0), iQ ((rget xs i).y0), iQ ((rget xs i).x1), iQ ((rget xs i).y1)]) (fun w hT => rM 4 (rcells (rget xs i)) (Rd.rect (hT.ok 1 _ rfl) (by omega))) <| bW [0, 0] 4 0 (fun b4 => [(0, .slice Ao i co), (1, iQ q), (8, pT b4), (9, .slice (some ⟨g, o, none⟩) n cap), (10, iQ (n : Int)), (11, iQ (i : Int))]) (fun b4 => [.cells b4 [iQ ((rget xs i).x0), iQ ((rget xs i).y0), iQ ((rget xs i).x1), iQ ((rget xs i).y1)] 32 true, .gen (rowE (Ao) gw i co 68 5 (dvals JS.cells ((xs.take i).map (JS.of q))) true), rD (A) g o n 4 (rvals xs)]) [0, 1, 8, 9, 10, 11] fun b4 => ?_
    refine zDNR 7 <| bW [0, 0, 0, 0, 0] 5 2 (fun b5 => [(1, iQ q), (9, .slice (some ⟨g, o, none⟩) n cap), (10, iQ (n : Int)), (11, iQ (i : Int)), (15, .slice Ao i co), (19, sL b5 1 1)]) (fun b5 => [.cells b5 [iQ q, iQ ((rget xs i).x0), iQ ((rget xs i).y0), iQ ((rget xs i).x1), iQ ((rget xs i).y1)] 68 true, .cells b4 [iQ ((rget xs i).x0), iQ ((rget xs i).y0), iQ ((rget xs i).x1), iQ ((rget xs i).y1)] 32 true, .gen (rowE (Ao) gw i co 68 5 (dvals JS.cells ((xs.take i).map (JS.of q))) true), rD (A) g o n 4 (rvals xs)]) [1, 9, 10, 11, 15, 19] fun b5 => ?_
    refine fG 1 <| pS 6 1 <| sSW (α := Option Addr × Nat × Nat) 20 (Builtin.append_ #[36, 36] 36 #[.slice Ao i co, sL b5 1 1]) (fun x_ => .slice x_.1 (i + 1) x_.2.2) (fun x_ => [.cells b5 [iQ q, iQ ((rget xs i).x0), iQ ((rget xs i).y0), iQ ((rget xs i).x1), iQ ((rget xs i).y1)] 68 true, .gen (rowE (x_.1) x_.2.1 (i + 1) x_.2.2 68 5 (dvals JS.cells (((xs.take i).map (JS.of q)) ++ [(⟨q, (rget xs i).x0, (rget xs i).y0, (rget xs i).x1, (rget xs i).y1⟩ : JS)])) true), rD (A) g o n 4 (rvals xs)]) (fun _ => True) (by kernel_rfl) (fun w hT => append_own (n' := (i + 1)) (z := .agg #[iQ 0, iQ 0, iQ 0, iQ 0, iQ 0]) hT (i := 1) (bytes := 40) rfl (by kernel_rfl) (by kernel_rfl) rfl (by decide) (by decide) (Rd.ofCells (vals := dvals JS.cells [(⟨q, (rget xs i).x0, (rget xs i).y0, (rget xs i).x1, (rget xs i).y1⟩ : JS)]) (hT.ok 0 _ rfl) rfl rfl) (dvals_one JS.one [(⟨q, (rget xs i).x0, (rget xs i).y0, (rget xs i).x1, (rget xs i).y1⟩ : JS)]) (by omega) (dvals_append ((xs.take i).map (JS.of q)) [(⟨q, (rget xs i).x0, (rget xs i).y0, (rget xs i).x1, (rget xs i).y1⟩ : JS)]) rfl) ?_
    rintro ⟨A6, g6, cp6⟩ -
    refine cM ?_
    refine cont_fact (F := (0 < (i + 1) → (A6 : Option Addr) = some ⟨g6, 0, none⟩) ∧ (((xs.take i).map (JS.of q)) ++ [(⟨q, (rget xs i).x0, (rget xs i).y0, (rget xs i).x1, (rget xs i).y1⟩ : JS)]).length = (i + 1) ∧ (i + 1) ≤ cp6 ∧ cp6 ≤ maxLen) (fun w hT => Row.factsD JS.size (by decide) (hT.ok 1 _ rfl)) (fun hr7_ => ?_)
    obtain ⟨hr7_a, hr7_l, hr7_c, hr7_m⟩ := hr7_
    unfold maxLen at hr7_m
    refine bD [0] 7 0 [(0, .slice A6 (i + 1) cp6)] [] <| fG 0 <| zDbNR 2 <| bD [0] 1 1 [(21, iQ (IntKind.i64.wrap ((i : Int) + 1)))] [] <| wI 21 ((i : Int) + 1) <| bD [0] 2 0 [(11, iQ ((i : Int) + 1))] [] <| zDN <| rC 9 (.slice A n cap) rfl (by rw [hra (by omega)]) <| cont_rowEqD (cel := JS.cells) (z := 5) 0 (((xs.take i).map (JS.of q)) ++ [(⟨q, (rget xs i).x0, (rget xs i).y0, (rget xs i).x1, (rget xs i).y1⟩ : JS)]) (((xs.take (i + 1)).map (JS.of q))) rfl (jobs_step (by omega) q) ?_
    refine cA (i + 1, A6, g6, cp6) (show (i + 1) ≤ n from (by omega))
  refine zFXxxeNSR 2 <| bS [0, 0] 2 0 [(6, .slice Ao i co)] <| zDNr <| rA rfl 0 (.slice Ao i co) fun w hT => ?_
  replace hT := hT.erase 1 (fun e h hw => by cases h; first | rfl | cases hw)
  obtain rfl : i = n := by omega
  rw [List.take_of_length_le (by omega)] at hT
  exact ⟨_, _, _, rfl, hT⟩
theorem splitE (a b c d : Int) (w : World) :
    Calls Tryz.prog 38 #[.agg #[iQ 0, .slice none 0 0], .agg #[iQ a, iQ b, iQ c, iQ d]] w fun e w' => ∃ (r_ : Nat) (A_ : Option Addr) (g_ k_ cp_ : Nat), e = .returned (.tuple #[sL r_ 0 0, .slice A_ k_ cp_]) ∧ Tab w w' [.gen (rowE (A_) g_ k_ cp_ 32 4 (rvals (canR [(⟨a, b, c, d⟩ : Rect)])) true), oE r_ 0 0 23 1 (dvals RS.cells ([] : List RS))] := by
  refine enterM 39 [(0, .agg #[iQ 0, .slice none 0 0]), (1, .agg #[iQ a, iQ b, iQ c, iQ d])] [] Tryz.func38 rfl Tryz.ntmps38 rfl (by kernel_rfl) (Tab.start w) ?_
  refine zSR 4 <| batch2 [0, 0, 0, 0] 4 0 (fun b1 b2 => [(2, pT b1), (3, pT b2)]) (fun b1 b2 => [.cells b2 [iQ a, iQ b, iQ c, iQ d] 32 true, .cells b1 [iQ 0, .slice none 0 0] 28 true]) rfl rfl [2, 3] (fun _ _ => rfl) (fun b1 b2 => by kernel_rfl) (fun b1 b2 => by kernel_rfl) (fun b1 b2 => ?_)
  refine zDNSR 6 <| bD [0, 1, 0] 3 3 [(12, iQ 0)] [10, 11] <| pS 4 2 <| sSW 13 (Instr.makeSlice 44 (iQ 0) (iQ 0)) (fun r3 => sL r3 0 0) (fun r3 => [oE r3 0 0 23 1 (dvals RS.cells (List.replicate 0 RS.nil)), .cells b2 [iQ a, iQ b, iQ c, iQ d] 32 true, .cells b1 [iQ 0, .slice none 0 0] 28 true]) (fun _ => True) (by kernel_rfl) (fun w hT => make_rowS hT (bytes := 24) 0 (by kernel_rfl) (by kernel_rfl) (by omega) (by omega)) (fun r3 _ => ?_)
  refine bW [0, 0] 6 0 (fun b4 => [(2, pT b1), (3, pT b2), (6, pT b4)]) (fun b4 => [.cells b4 [sL r3 0 0] 44 true, oE r3 0 0 23 1 (dvals RS.cells (List.replicate 0 RS.nil)), .cells b2 [iQ a, iQ b, iQ c, iQ d] 32 true, .cells b1 [iQ 0, .slice none 0 0] 28 true]) [2, 3, 6] fun b4 => ?_
  refine zDNSR 5 <| bW [2, 0] 2 3 (fun b5 => [(2, pT b1), (6, pT b4), (15, sL b5 1 1)]) (fun b5 => [.cells b5 [iQ a, iQ b, iQ c, iQ d] 32 true, .cells b4 [sL r3 0 0] 44 true, oE r3 0 0 23 1 (dvals RS.cells (List.replicate 0 RS.nil)), .cells b2 [iQ a, iQ b, iQ c, iQ d] 32 true, .cells b1 [iQ 0, .slice none 0 0] 28 true]) [2, 6, 15] fun b5 => ?_
  refine fG 3 <| pS 3 2 <| cont_asRow 0 1 4 rfl (vals := rvals [(⟨a, b, c, d⟩ : Rect)]) rfl rfl (by decide) ?_
  refine cG (d := 16) (α := Option Addr × Nat × Nat × Nat) (fun x_ => .slice x_.1 x_.2.2.1 x_.2.2.2) (fun x_ => [.gen (rowE (x_.1) x_.2.1 x_.2.2.1 x_.2.2.2 32 4 (rvals (canR [(⟨a, b, c, d⟩ : Rect)])) true), oE b5 1 1 32 4 (rvals [(⟨a, b, c, d⟩ : Rect)]), .cells b4 [sL r3 0 0] 44 true, oE r3 0 0 23 1 (dvals RS.cells (List.replicate 0 RS.nil)), .cells b1 [iQ 0, .slice none 0 0] 28 true]) (fun x_ => True) (fun w hT => (regOf (some ⟨b5, 0, none⟩) b5 0 1 1 [(⟨a, b, c, d⟩ : Rect)] w (hT.viewRo (.cons (i := 0) rfl Vw.rowRd .nil) rfl) (by omega)).mono fun e w' ⟨A6, g7, k8, cp9, he_, ht_⟩ => ⟨(A6, g7, k8, cp9), he_, trivial, hT.news ht_ rfl⟩) ?_
  rintro ⟨A6, g7, k8, cp9⟩ hf10_
  refine cM ?_
  refine fR 0 k8 A6 g7 cp9 (canR [(⟨a, b, c, d⟩ : Rect)]) rfl fun hr11_a hr11_l hr11_c hr11_m => ?_
  refine bW [0, 0] 5 0 (fun b12 => [(2, pT b1), (6, pT b4), (7, pT b12)]) (fun b12 => [.cells b12 [.slice A6 k8 cp9] 23 true, .gen (rowE (A6) g7 k8 cp9 32 4 (rvals (canR [(⟨a, b, c, d⟩ : Rect)])) true), oE b5 1 1 32 4 (rvals [(⟨a, b, c, d⟩ : Rect)]), .cells b4 [sL r3 0 0] 44 true, oE r3 0 0 23 1 (dvals RS.cells (List.replicate 0 RS.nil)), .cells b1 [iQ 0, .slice none 0 0] 28 true]) [2, 6, 7] fun b12 => ?_
  refine zDNSSR 3 <| bD [0, 5] 2 1 [(18, .slice none 0 0)] [17] <| fG 5 <| pS 3 0 <| cG (d := 19) (α := Nat) (fun x_ => .func (.func 95) #[] #[pT x_]) (fun x_ => [.cells x_ [.slice none 0 0] 26 true, .cells b12 [.slice A6 k8 cp9] 23 true, .gen (rowE (A6) g7 k8 cp9 32 4 (rvals (canR [(⟨a, b, c, d⟩ : Rect)])) true), oE b5 1 1 32 4 (rvals [(⟨a, b, c, d⟩ : Rect)]), .cells b4 [sL r3 0 0] 44 true, oE r3 0 0 23 1 (dvals RS.cells (List.replicate 0 RS.nil))]) (fun x_ => True) (fun w hT => (backOf none 0 0 w).mono fun e w' ⟨kb13, he_, ht_⟩ => ⟨kb13, he_, trivial, hT.news ht_ rfl⟩) ?_
  rintro kb13 hf14_
  refine cM ?_
  refine zDNB <| cont_nilrow 94 14 ?_
  refine cM ?_
  refine cont_rowEqD (cel := IT.cells) (z := 14) 0 ([]) (([] : List IT)) rfl rfl ?_
  refine cont_weaken 1 (.ro kb13 [.slice none 0 0] 26) rfl rfl Vw.roc rfl ?_
  refine cM ?_
  refine cont_weaken 0 (rD (none) 0 0 0 14 (dvals IT.cells ([] : List IT))) rfl rfl Vw.rowRd rfl ?_
  refine cM ?_
  refine cont_pick [1, 0, 2, 3, 4, 5, 6] [.ro kb13 [.slice none 0 0] 26, rD (none) 0 0 0 14 (dvals IT.cells ([] : List IT)), .cells b12 [.slice A6 k8 cp9] 23 true, .gen (rowE (A6) g7 k8 cp9 32 4 (rvals (canR [(⟨a, b, c, d⟩ : Rect)])) true), oE b5 1 1 32 4 (rvals [(⟨a, b, c, d⟩ : Rect)]), .cells b4 [sL r3 0 0] 44 true, oE r3 0 0 23 1 (dvals RS.cells (List.replicate 0 RS.nil))] (by decide) rfl rfl ?_
  refine cont_rangeFunc (X := Nat) (β := Unit) (γ := Unit) (gf := 95) (lb := #[pT kb13]) (fun z_ : Nat => #[iQ (z_ : Int), .agg #[iQ 0, iQ 0, .pointer (some ⟨(dget ([] : List IT) z_).b, 0, none⟩), iQ ((dget ([] : List IT) z_).t.X), iQ ((dget ([] : List IT) z_).t.Y), iQ ((dget ([] : List IT) z_).t.s), iQ ((dget ([] : List IT) z_).t.al), iQ ((dget ([] : List IT) z_).t.ca), iQ ((dget ([] : List IT) z_).t.cb), iQ ((dget ([] : List IT) z_).t.cc), iQ ((dget ([] : List IT) z_).t.cd), .slice ((dget ([] : List IT) z_).t.A) ((dget ([] : List IT) z_).t.k) ((dget ([] : List IT) z_).t.cp), .string ⟨#[]⟩, iQ 0]]) [.ro kb13 [.slice none 0 0] 26, rD (none) 0 0 0 14 (dvals IT.cells ([] : List IT))] (fun z_ : Nat => []) (fun xs_ => BackP 0 xs_ ∧ xs_.length = 0) (fun xs_ => BackP 0 xs_) (fun (pre : List (Nat)) (x_ : Unit) => True) (fun x_ : Unit => [.cells b12 [.slice A6 k8 cp9] 23 true, .gen (rowE (A6) g7 k8 cp9 32 4 (rvals (canR [(⟨a, b, c, d⟩ : Rect)])) true), oE b5 1 1 32 4 (rvals [(⟨a, b, c, d⟩ : Rect)]), .cells b4 [sL r3 0 0] 44 true, oE r3 0 0 23 1 (dvals RS.cells (List.replicate 0 RS.nil))]) (fun (_ : Code) (_ : Unit) => False) (fun x_ : Unit => []) () rfl (fun _ _ => rfl) (fun _ => rfl) (by kernel_rfl) (backIter kb13 none 0 0 0 0 ([] : List IT) (by omega) (fun h_ => absurd h_ (by decide)) rfl _) trivial rfl ?_ ?_ ?_ ?_
  ·
    rintro l_ z16_ e16_ e16b_ e16q_ pre x ⟨⟩ B_ hz_ hinv17_ hsp_ hB_
    replace hinv17_ : True := hinv17_
    replace hsp_ : BackP 0 (pre ++ [(x)]) := hsp_
    exact absurd hsp_.last.2 (Nat.not_lt_zero _)
  ·
    rintro D19_ xs_ ⟨⟩ hS_ hinv18_
    replace hinv18_ : True := hinv18_
    replace hS_ : BackP 0 xs_ ∧ xs_.length = 0 := hS_
    refine cM ?_
    refine blk_normal <| zN <| cSq <| drawn_enter 4 [] rfl (by kernel_rfl) ?_
    refine tD 0 [] [(0, 6), (1, 3), (2, 0), (3, 0)] 0 [3, 2, 1, 0] [(4, sL r3 0 0), (5, .slice A6 k8 cp9)] [37, 38] ?_ (hpo := (pok_then pok_np))
    refine dD <| zN <| cont_ret <| mark_end 0 rfl (.inl rfl) ?_
    refine cM ?_
    refine rB rfl 0 0 (sL r3 0 0) (.slice A6 k8 cp9) fun w hT => ?_
    replace hT := hT.erase 6 (fun e h hw => by cases h; first | rfl | cases hw)
    replace hT := hT.erase 5 (fun e h hw => by cases h; first | rfl | cases hw)
    replace hT := hT.erase 3 (fun e h hw => by cases h; first | rfl | cases hw)
    replace hT := hT.erase 2 (fun e h hw => by cases h; first | rfl | cases hw)
    replace hT := hT.erase 1 (fun e h hw => by cases h; first | rfl | cases hw)
    replace hT := hT.erase 0 (fun e h hw => by cases h; first | rfl | cases hw)
    exact ⟨_, _, _, _, _, rfl, hT⟩
  ·
    intro D_  c_ h_; exact h_.elim
  ·
    intro D_ id_ c_ h_; exact h_.elim
theorem planJobsE (A : Option Addr) (g o n cap : Nat) (xs : List Rect) (a b c d : Int) (w : World) (hT0 : Tab w w [rD (A) g o n 4 (rvals xs)]) (hn : n ≤ 65536) :
    Calls Tryz.prog 13 #[.agg #[iQ 0, .slice none 0 0], .agg #[iQ a, iQ b, iQ c, iQ d], .slice A n cap] w fun e w' => ∃ (A_ : Option Addr) (g_ k_ cp_ : Nat), e = .returned (.slice A_ k_ cp_) ∧ Tab w w' [.gen (rowE (A_) g_ k_ cp_ 68 5 (dvals JS.cells ((regM andB (canR [(⟨a, b, c, d⟩ : Rect)]) xs).map (JS.of (-1)))) true)] := by
  obtain ⟨hra, hrl⟩ := Rd.factsR (hT0.ok 0 _ rfl)
  refine eN [(0, .agg #[iQ 0, .slice none 0 0]), (1, .agg #[iQ a, iQ b, iQ c, iQ d]), (2, .slice A n cap)] Tryz.func13 Tryz.ntmps13 rfl hT0 ?_
  refine zSR 3 <| batch2 [0, 0, 0] 3 0 (fun b1 b2 => [(2, .slice A n cap), (3, pT b1), (4, pT b2)]) (fun b1 b2 => [.cells b2 [iQ a, iQ b, iQ c, iQ d] 32 true, .cells b1 [iQ 0, .slice none 0 0] 28 true, rD (A) g o n 4 (rvals xs)]) rfl rfl [2, 3, 4] (fun _ _ => rfl) (fun b1 b2 => by kernel_rfl) (fun b1 b2 => by kernel_rfl) (fun b1 b2 => ?_)
  refine zDNSR 8 <| bD [1, 0] 2 6 [(13, .agg #[iQ 0, .slice none 0 0]), (14, .agg #[iQ a, iQ b, iQ c, iQ d])] [] <| fG 0 <| fG 0 <| pS 3 5 <| cG (d := 15) (α := Nat × Option Addr × Nat × Nat × Nat) (fun x_ => .tuple #[sL x_.1 0 0, .slice x_.2.1 x_.2.2.2.1 x_.2.2.2.2]) (fun x_ => [.gen (rowE (x_.2.1) x_.2.2.1 x_.2.2.2.1 x_.2.2.2.2 32 4 (rvals (canR [(⟨a, b, c, d⟩ : Rect)])) true), .gen (rowE (some ⟨x_.1, 0, none⟩) x_.1 0 0 23 1 (dvals RS.cells ([] : List RS)) true), rD (A) g o n 4 (rvals xs)]) (fun x_ => True) (fun w hT => (splitE a b c d w).mono fun e w' ⟨r3, A4, g5, k6, cp7, he_, ht_⟩ => ⟨(r3, A4, g5, k6, cp7), he_, trivial, hT.news ht_ rfl⟩) ?_
  rintro ⟨r3, A4, g5, k6, cp7⟩ hf8_
  refine cM ?_
  refine fR 0 k6 A4 g5 cp7 (canR [(⟨a, b, c, d⟩ : Rect)]) rfl fun hr9_a hr9_l hr9_c hr9_m => ?_
  have hcs_ : (canR [(⟨a, b, c, d⟩ : Rect)]).length ≤ 784 := canR_small (by simp)
  refine bD [0, 0, 0, 0, 0] 8 0 [(7, sL r3 0 0), (8, .slice A4 k6 cp7)] [12, 16, 17] <| zDNSR 5 <| bD [0, 0] 2 3 [(18, .slice A4 k6 cp7), (19, .slice A n cap)] [] <| pS 3 2 <| cG (d := 20) (α := Option Addr × Nat × Nat × Nat) (fun x_ => .slice x_.1 x_.2.2.1 x_.2.2.2) (fun x_ => [.gen (rowE (x_.1) x_.2.1 x_.2.2.1 x_.2.2.2 32 4 (rvals (regM andB (canR [(⟨a, b, c, d⟩ : Rect)]) xs)) true), .gen (rowE (A4) g5 k6 cp7 32 4 (rvals (canR [(⟨a, b, c, d⟩ : Rect)])) true), oE r3 0 0 23 1 (dvals RS.cells ([] : List RS)), rD (A) g o n 4 (rvals xs)]) (fun x_ => True) (fun w hT => (regCut A4 g5 0 k6 cp7 (canR [(⟨a, b, c, d⟩ : Rect)]) A g o n cap xs w (hT.viewRo (.cons (i := 0) rfl Vw.rowRd (.cons (i := 2) rfl Vw.rd .nil)) rfl) (by omega)).mono fun e w' ⟨A10, g11, k12, cp13, he_, ht_⟩ => ⟨(A10, g11, k12, cp13), he_, trivial, hT.news ht_ rfl⟩) ?_
  rintro ⟨A10, g11, k12, cp13⟩ hf14_
  refine cM ?_
  refine fR 0 k12 A10 g11 cp13 (regM andB (canR [(⟨a, b, c, d⟩ : Rect)]) xs) rfl fun hr15_a hr15_l hr15_c hr15_m => ?_
  have hrl9_ := regM_length (kf := andB) (a := (canR [(⟨a, b, c, d⟩ : Rect)])) (b := xs) (by omega)
  refine pS 4 1 <| cG (d := 21) (α := Option Addr × Nat × Nat) (fun x_ => .slice x_.1 k12 x_.2.2) (fun x_ => [.gen (rowE (x_.1) x_.2.1 k12 x_.2.2 68 5 (dvals JS.cells ((regM andB (canR [(⟨a, b, c, d⟩ : Rect)]) xs).map (JS.of (-1)))) true), .gen (rowE (A10) g11 k12 cp13 32 4 (rvals (regM andB (canR [(⟨a, b, c, d⟩ : Rect)]) xs)) true), .gen (rowE (A4) g5 k6 cp7 32 4 (rvals (canR [(⟨a, b, c, d⟩ : Rect)])) true), oE r3 0 0 23 1 (dvals RS.cells ([] : List RS)), rD (A) g o n 4 (rvals xs)]) (fun x_ => True) (fun w hT => (planjobs0 A10 g11 0 k12 cp13 (regM andB (canR [(⟨a, b, c, d⟩ : Rect)]) xs) (-1) w (hT.viewRo (.cons (i := 0) rfl Vw.rowRd .nil) rfl) (by omega)).mono fun e w' ⟨A16, g17, cp18, he_, ht_⟩ => ⟨(A16, g17, cp18), he_, trivial, hT.news ht_ rfl⟩) ?_
  rintro ⟨A16, g17, cp18⟩ hf19_
  refine cM ?_
  refine cont_fact (F := (0 < k12 → (A16 : Option Addr) = some ⟨g17, 0, none⟩) ∧ ((regM andB (canR [(⟨a, b, c, d⟩ : Rect)]) xs).map (JS.of (-1))).length = k12 ∧ k12 ≤ cp18 ∧ cp18 ≤ maxLen) (fun w hT => Row.factsD JS.size (by decide) (hT.ok 0 _ rfl)) (fun hr20_ => ?_)
  obtain ⟨hr20_a, hr20_l, hr20_c, hr20_m⟩ := hr20_
  unfold maxLen at hr20_m
  refine bD [0] 5 0 [(9, .slice A16 k12 cp18)] [] <| zDNSSR 3 <| bD [0, 0, 0] 3 0 [(22, sL r3 0 0), (23, iQ 0), (24, iQ 0)] [] <| zDNB <| cont_rounds 1 ?_
  refine cont_round 1 0 rfl ?_
  refine zSR 1 <| bD [0] 1 0 [(25, .bool false)] [] <| zDNS <| zFXxxeNSR 2 <| bS [0, 0] 2 0 [(6, .slice A16 k12 cp18)] <| zDNr <| rA rfl 0 (.slice A16 k12 cp18) fun w hT => ?_
  replace hT := hT.erase 4 (fun e h hw => by cases h; first | rfl | cases hw)
  replace hT := hT.erase 3 (fun e h hw => by cases h; first | rfl | cases hw)
  replace hT := hT.erase 2 (fun e h hw => by cases h; first | rfl | cases hw)
  replace hT := hT.erase 1 (fun e h hw => by cases h; first | rfl | cases hw)
  exact ⟨_, _, _, _, rfl, hT⟩
theorem lives17 (w : World) :
    Calls Tryz.prog 17 #[] w fun e w' => e = .returned (.bool true) ∧ Below w.heap.size w w' := by
  refine eN [] Tryz.func17 Tryz.ntmps17 rfl (Tab.start w) ?_
  refine zSR 1 <| bS [0] 1 0 [] <| zDNSR 3 <| bW [0, 0, 0] 3 0 (fun b1 => [(1, sL b1 1 1)]) (fun b1 => [.cells b1 [iQ 0, iQ 0, iQ 4, iQ 4] 32 true]) [1] fun b1 => ?_
  refine zDNSR 7 <| bD [0, 0, 0, 0, 0] 5 2 [(5, .agg #[iQ 0, .slice none 0 0]), (8, .agg #[iQ 0, iQ 0, iQ 4, iQ 4]), (9, sL b1 1 1)] [6, 7] <| pS 6 1 <| cont_asRow 0 1 4 rfl (vals := rvals [(⟨0, 0, 4, 4⟩ : Rect)]) rfl rfl (by decide) ?_
  refine cG (d := 10) (α := Option Addr × Nat × Nat × Nat) (fun x_ => .slice x_.1 x_.2.2.1 x_.2.2.2) (fun x_ => [.gen (rowE (x_.1) x_.2.1 x_.2.2.1 x_.2.2.2 68 5 (dvals JS.cells ((regM andB (canR [(⟨0, 0, 4, 4⟩ : Rect)]) [(⟨0, 0, 4, 4⟩ : Rect)]).map (JS.of (-1)))) true), oE b1 1 1 32 4 (rvals [(⟨0, 0, 4, 4⟩ : Rect)])]) (fun x_ => True) (fun w hT => (planJobsE (some ⟨b1, 0, none⟩) b1 0 1 1 [(⟨0, 0, 4, 4⟩ : Rect)] 0 0 4 4 w (hT.viewRo (.cons (i := 0) rfl Vw.rowRd .nil) rfl) (by omega)).mono fun e w' ⟨A2, g3, k4, cp5, he_, ht_⟩ => ⟨(A2, g3, k4, cp5), he_, trivial, hT.news ht_ rfl⟩) ?_
  rintro ⟨A2, g3, k4, cp5⟩ hf6_
  refine cM ?_
  refine cont_fact (F := (0 < k4 → (A2 : Option Addr) = some ⟨g3, 0, none⟩) ∧ ((regM andB (canR [(⟨0, 0, 4, 4⟩ : Rect)]) [(⟨0, 0, 4, 4⟩ : Rect)]).map (JS.of (-1))).length = k4 ∧ k4 ≤ cp5 ∧ cp5 ≤ maxLen) (fun w hT => Row.factsD JS.size (by decide) (hT.ok 0 _ rfl)) (fun hr7_ => ?_)
  obtain ⟨hr7_a, hr7_l, hr7_c, hr7_m⟩ := hr7_
  unfold maxLen at hr7_m
  refine bD [0] 7 0 [(2, .slice A2 k4 cp5)] [] <| zDNSSR 3 ?_
  have hLL : ((regM andB (canR [(⟨0, 0, 4, 4⟩ : Rect)]) [(⟨0, 0, 4, 4⟩ : Rect)]).map (JS.of (-1))) = [(⟨-1, 0, 0, 4, 4⟩ : JS)] := by rw [lives17_eq]; rfl
  obtain ⟨LJ, hLJ⟩ : ∃ y_ : List JS, y_ = [(⟨-1, 0, 0, 4, 4⟩ : JS)] := ⟨_, rfl⟩
  have hk9 : k4 = 1 := by rw [← hr7_l, hLL]; rfl
  have hlj : LJ.length = 1 := by rw [hLJ]; rfl
  refine cont_rowEqD (cel := JS.cells) (z := 5) 0 (((regM andB (canR [(⟨0, 0, 4, 4⟩ : Rect)]) [(⟨0, 0, 4, 4⟩ : Rect)]).map (JS.of (-1)))) (LJ) rfl (hLL.trans hLJ.symm) ?_
  refine bD [0, 0, 0] 3 0 [(13, .bool ((k4 : Int) != 1))] [11, 12] <| zDN <| rC 13 (.bool false) rfl (congrArg Value.bool (by rw [hk9]; decide)) <| cFa rfl <| cont_skip <| zN <| cSq <| drawn_enter 16 [] rfl (by kernel_rfl) ?_
  refine tD 0 [] [(0, 0)] 15 [0] [(14, .slice A2 k4 cp5)] [] <| rC 14 (sL g3 k4 cp5) rfl (by rw [hr7_a (by omega)]) <| sT 0 [] 1 14 15 (Instr.indexAt 36 (sL g3 k4 cp5) (iQ 0)) (.pointer (some ⟨g3, 0 * 5, none⟩)) (fun w hT => rI 68 5 w) <| tD 0 [] [(2, 0)] 13 [2, 1, 0] [(16, .pointer (some ⟨g3, 0 * 5, none⟩))] [] <| sT 0 [] 3 12 17 (Instr.loadAt 3 (.pointer (some ⟨g3, 0 * 5, none⟩))) (iQ ((dget LJ 0).i)) (fun w hT => rL (Rd.dcell1 JS.size (Row.rd (hT 0 _ rfl)) (by first | (show 0 < LJ.length; omega) | (show 0 < [(⟨0, 0, 4, 4⟩ : Rect)].length; decide)) 0 rfl)) <| tD 0 [] [(4, 0), (5, 0)] 10 [5, 4, 3, 2, 1, 0] [(19, .bool (((dget LJ 0).i) == (-1)))] [18] <| rC 19 (.bool true) rfl (congrArg Value.bool (by rw [hLJ]; decide)) <| tD 0 [] [(6, 0), (10, 0)] 8 [10, 6, 5, 4, 3, 2, 1, 0] [(20, .slice A2 k4 cp5), (24, sL b1 1 1)] [] <| rC 20 (sL g3 k4 cp5) rfl (by rw [hr7_a (by omega)]) <| sT 0 [] 7 7 21 (Instr.indexAt 36 (sL g3 k4 cp5) (iQ 0)) (.pointer (some ⟨g3, 0 * 5, none⟩)) (fun w hT => rI 68 5 w) <| tD 0 [] [(8, 0)] 6 [8, 7, 10, 6, 5, 4, 3, 2, 1, 0] [(22, .pointer (some ⟨g3, 0 * 5 + 1, none⟩))] [] <| sT 0 [] 9 5 23 (Instr.loadAt 32 (.pointer (some ⟨g3, 0 * 5 + 1, none⟩))) (.agg #[iQ ((dget LJ 0).a), iQ ((dget LJ 0).b), iQ ((dget LJ 0).c), iQ ((dget LJ 0).d)]) (fun w hT => rM 4 ([iQ ((dget LJ 0).a), iQ ((dget LJ 0).b), iQ ((dget LJ 0).c), iQ ((dget LJ 0).d)]) (Rd.dsub JS.size (Row.rd (hT 0 _ rfl)) (by first | (show 0 < LJ.length; omega) | (show 0 < [(⟨0, 0, 4, 4⟩ : Rect)].length; decide)) 1 4 rfl)) <| sT 0 [] 11 4 25 (Instr.indexAt 23 (sL b1 1 1) (iQ 0)) (.pointer (some ⟨b1, 0 * 4, none⟩)) (fun w hT => rI 32 4 w) <| sT 0 [] 12 3 26 (Instr.loadAt 32 (.pointer (some ⟨b1, 0 * 4, none⟩))) (.agg #[iQ ((rget [(⟨0, 0, 4, 4⟩ : Rect)] 0).x0), iQ ((rget [(⟨0, 0, 4, 4⟩ : Rect)] 0).y0), iQ ((rget [(⟨0, 0, 4, 4⟩ : Rect)] 0).x1), iQ ((rget [(⟨0, 0, 4, 4⟩ : Rect)] 0).y1)]) (fun w hT => rM 4 (rcells (rget [(⟨0, 0, 4, 4⟩ : Rect)] 0)) (Rd.rect0 (Row.rd (hT 1 _ rfl)) (by first | (show 0 < LJ.length; omega) | (show 0 < [(⟨0, 0, 4, 4⟩ : Rect)].length; decide)))) <| sT 0 [] 13 2 27 (bopS .eql 32 (.tmp 23) (.tmp 26) (.agg #[iQ ((dget LJ 0).a), iQ ((dget LJ 0).b), iQ ((dget LJ 0).c), iQ ((dget LJ 0).d)]) (.agg #[iQ ((rget [(⟨0, 0, 4, 4⟩ : Rect)] 0).x0), iQ ((rget [(⟨0, 0, 4, 4⟩ : Rect)] 0).y0), iQ ((rget [(⟨0, 0, 4, 4⟩ : Rect)] 0).x1), iQ ((rget [(⟨0, 0, 4, 4⟩ : Rect)] 0).y1)])) (.bool (eqInts [(dget LJ 0).a, (dget LJ 0).b, (dget LJ 0).c, (dget LJ 0).d] [(rget [(⟨0, 0, 4, 4⟩ : Rect)] 0).x0, (rget [(⟨0, 0, 4, 4⟩ : Rect)] 0).y0, (rget [(⟨0, 0, 4, 4⟩ : Rect)] 0).x1, (rget [(⟨0, 0, 4, 4⟩ : Rect)] 0).y1])) (fun w hT => run_eqS [(dget LJ 0).a, (dget LJ 0).b, (dget LJ 0).c, (dget LJ 0).d] [(rget [(⟨0, 0, 4, 4⟩ : Rect)] 0).x0, (rget [(⟨0, 0, 4, 4⟩ : Rect)] 0).y0, (rget [(⟨0, 0, 4, 4⟩ : Rect)] 0).x1, (rget [(⟨0, 0, 4, 4⟩ : Rect)] 0).y1] (by kernel_rfl) (by kernel_rfl) (by kernel_rfl) (by kernel_rfl) rfl rfl w) <| tD 0 [] [(14, 0), (15, 0)] 0 [15, 14, 13, 12, 11, 9, 8, 7, 10, 6, 5, 4, 3, 2, 1, 0] [(0, .bool (eqInts [(dget LJ 0).a, (dget LJ 0).b, (dget LJ 0).c, (dget LJ 0).d] [(rget [(⟨0, 0, 4, 4⟩ : Rect)] 0).x0, (rget [(⟨0, 0, 4, 4⟩ : Rect)] 0).y0, (rget [(⟨0, 0, 4, 4⟩ : Rect)] 0).x1, (rget [(⟨0, 0, 4, 4⟩ : Rect)] 0).y1]))] [28] <| dD <| zN <| cont_ret ?_
  refine rA rfl 0 (.bool (eqInts [(dget LJ 0).a, (dget LJ 0).b, (dget LJ 0).c, (dget LJ 0).d] [(rget [(⟨0, 0, 4, 4⟩ : Rect)] 0).x0, (rget [(⟨0, 0, 4, 4⟩ : Rect)] 0).y0, (rget [(⟨0, 0, 4, 4⟩ : Rect)] 0).x1, (rget [(⟨0, 0, 4, 4⟩ : Rect)] 0).y1])) fun w hT => ?_
  exact ⟨ret_bool (by rw [hLJ]; decide +kernel), hT.post rfl⟩
end Go.Proofs.YtlfahohbkgdabaaGreat
namespace Go.Proofs.YtlfahohbkgdabaaGreat
open Go Go.RowKit
theorem bands_inG {lo hi : Int} {bs : Bands} (h : BandsOk bs) (hb : ∀ x y, memB bs x y = true → lo ≤ x ∧ x < hi ∧ lo ≤ y ∧ y < hi) : ∀ b ∈ bs, (lo ≤ b.1 ∧ b.2.1 ≤ hi) ∧ ∀ s ∈ b.2.2, lo ≤ s.1 ∧ s.2.1 ≤ hi := by
  intro b hm
  obtain ⟨h1, h2⟩ := h.each b hm
  have hlt := h.runs.lt b hm
  have pt : ∀ s ∈ b.2.2, ∀ x y, b.1 ≤ y → y < b.2.1 → s.1 ≤ x → x < s.2.1 → lo ≤ x ∧ x < hi ∧ lo ≤ y ∧ y < hi := by
    intro s hs x y y0 y1 x0 x1
    refine hb x y ?_
    unfold memB
    rw [look_at h.runs b hm y y0 y1]
    simp only
    rw [look_at h1 s hs x x0 x1]; rfl
  have hspan : ∀ s ∈ b.2.2, lo ≤ s.1 ∧ s.2.1 ≤ hi := by
    intro s hs
    have hs1 := h1.lt s hs
    have a1 := pt s hs s.1 b.1 (by omega) hlt (by omega) hs1
    have a2 := pt s hs (s.2.1 - 1) b.1 (by omega) hlt (by omega) (by omega)
    omega
  refine ⟨?_, hspan⟩
  cases e : b.2.2 with
  | nil => exact absurd e h2
  | cons s t =>
    have hs : s ∈ b.2.2 := by rw [e]; simp
    have hs1 := h1.lt s hs
    have a1 := pt s hs s.1 b.1 (by omega) hlt (by omega) hs1
    have a2 := pt s hs s.1 (b.2.1 - 1) (by omega) (by omega) (by omega) hs1
    omega
theorem square_len {l : List Rect} {F : Int → Int → Bool} (h : IsReg l F) (hb : ∀ x y, hasL l x y = true → -8 ≤ x ∧ x < 72 ∧ -8 ≤ y ∧ y < 72) : l.length ≤ 6400 := by
  obtain ⟨bs, h1, rfl, h2⟩ := h
  have hin := bands_inG h1 (fun x y hm => hb x y (by rw [hasL_flat h1.runs]; exact hm))
  have e1 := runs_length (lo := -8) (hi := 72) h1.runs (fun r hr => (hin r hr).1) (by omega)
  have e2 : ∀ b ∈ bs, b.2.2.length ≤ 80 := fun b hm => by
    have := runs_length (lo := -8) (hi := 72) (h1.each b hm).1 (fun r hr => (hin b hm).2 r hr) (by omega)
    omega
  have e3 := flatR_length e2
  have e4 : bs.length * 80 ≤ 80 * 80 := Nat.mul_le_mul_right _ (by omega)
  omega
def hidP (W H X Y s al : Int) (op : List Rect) (r : Rect) : List Rect := if al = 255 then placeP W H X Y s op r else []
theorem hidP_yes {W H X Y s al : Int} {op : List Rect} {r : Rect} (h : al = 255) : hidP W H X Y s al op r = placeP W H X Y s op r := if_pos h
theorem hidP_no {W H X Y s al : Int} {op : List Rect} {r : Rect} (h : al ≠ 255) : hidP W H X Y s al op r = [] := if_neg h
def TS.hid (t : TS) : List Rect := hidP t.W t.H t.X t.Y t.s t.al t.op ⟨t.ca, t.cb, t.cc, t.cd⟩
def TS.bx (t : TS) : Rect := shwR t.W t.H t.X t.Y t.s t.ca t.cb t.cc t.cd
theorem div_in {W X s p : Int} (hs : 1 ≤ s ∧ s ≤ 3) (hX : -6 ≤ X ∧ X ≤ 17) (hW : W ≤ 16) (h : 0 ≤ (p - X) / s ∧ (p - X) / s < W) : -8 ≤ p ∧ p < 72 := by
  have : s = 1 ∨ s = 2 ∨ s = 3 := by omega
  rcases this with rfl | rfl | rfl <;> omega
theorem hid_len {t : TS} (h : TS.Ok t) : t.hid.length ≤ 6400 := by
  unfold TS.hid
  by_cases ha : t.al = 255
  · rw [hidP_yes ha]
    refine square_len (F := _) (canR_isReg _) (fun x y hh => ?_)
    have hw := h.img.w1; have hw2 := h.w16; have hh1 := h.img.h1; have hh2 := h.h16; have hx := h.x_; have hy := h.y_; have hs := h.s_
    have h9 : hasL (placeP t.W t.H t.X t.Y t.s t.op ⟨t.ca, t.cb, t.cc, t.cd⟩) x y = true := hh
    rw [hasL_place (by omega) (by omega) (by omega) (by omega) (by omega)] at h9
    have h2 := hasB_true.1 (Bool.and_eq_true_iff.1 h9).1
    have e1 := div_in (W := t.W) (X := t.X) (p := x) hs hx hw2 (by omega)
    have e2 := div_in (W := t.H) (X := t.Y) (p := y) hs hy hh2 (by omega)
    omega
  · rw [hidP_no ha]; simp
theorem op_len {t : TS} (h : TS.Ok t) : t.op.length ≤ 200000 ∧ (canR t.op).length ≤ 200000 ∧ (regM andB (canR t.op) (canR [(⟨t.ca, t.cb, t.cc, t.cd⟩ : Rect)])).length ≤ 200000 := by
  obtain ⟨l, ho, hl, hs⟩ := h.opq
  have hw := h.img.w1; have hh := h.img.h1; have hw2 := h.w16; have hh2 := h.h16; have hn := h.img.num; have hpl := h.img.len; have hnle := h.img.le
  have on0 : OnImg t.W t.H l := fun x y hx => by
    obtain ⟨r, hr, h1⟩ := hasL_true.1 hx
    obtain ⟨i, hi, rfl, _⟩ := hs r hr
    simp only at h1
    have h3 := hasB_true.1 (in_box hw hn (i := i) (by omega))
    omega
  have on1 : OnImg t.W t.H t.op := by rw [ho]; exact onImg_can on0
  have l1 : t.op.length ≤ t.n := by rw [ho]; exact reg_len_img (canR_isReg _) (onImg_can on0) hw hn
  have l2 := reg_len_img (canR_isReg t.op) (onImg_can on1) hw hn
  have l3 := reg_len_img (R := regM andB (canR t.op) (canR [(⟨t.ca, t.cb, t.cc, t.cd⟩ : Rect)])) (regM_isReg rfl _ _) (onImg_andl _ (onImg_can on1)) hw hn
  omega
def leftL (b : Rect) (l : List TS) : List Rect := l.foldr (fun t o => regM lessB o t.hid) (canR [b])
def seenL (b : Rect) (ts : List TS) (i : Nat) : List Rect := regM andB (leftL b (ts.drop (i + 1))) (canR [(dget ts i).bx])
theorem leftL_step {b : Rect} {ts : List TS} {i : Nat} (h : i < ts.length) : leftL b (ts.drop i) = regM lessB (leftL b (ts.drop (i + 1))) (dget ts i).hid := by
  rw [List.drop_eq_getElem_cons h]
  have : dget ts i = ts[i] := by unfold dget; rw [List.getD_eq_getElem?_getD, List.getElem?_eq_getElem h]; rfl
  rw [this]; rfl
theorem leftL_reg (b : Rect) (l : List TS) : IsReg (leftL b l) (hasL (leftL b l)) := by
  cases l with
  | nil => exact (canR_isReg [b]).self
  | cons t l => exact (regM_isReg (kf := lessB) rfl (leftL b l) t.hid).self
theorem leftL_has (b : Rect) (x y : Int) : ∀ l : List TS, hasL (leftL b l) x y = (hasB b.x0 b.y0 b.x1 b.y1 x y && !(l.any fun t => hasL t.hid x y)) := by
  intro l
  induction l with
  | nil => show hasL (canR [b]) x y = _; rw [hasL_can, hasL_one]; simp
  | cons t l ih => show hasL (regM lessB (leftL b l) t.hid) x y = _; rw [hasL_less, ih, List.any_cons]; cases hasL t.hid x y <;> cases hasB b.x0 b.y0 b.x1 b.y1 x y <;> simp
theorem leftL_on {W H : Int} (l : List TS) : OnImg W H (leftL ⟨0, 0, W, H⟩ l) := fun x y h => by
  rw [leftL_has] at h
  have := hasB_true.1 (Bool.and_eq_true_iff.1 h).1
  simp only at this
  omega
theorem leftL_len {W H : Int} (hW : 1 ≤ W ∧ W ≤ 256) (hH : 1 ≤ H ∧ H ≤ 256) (l : List TS) : (leftL ⟨0, 0, W, H⟩ l).length ≤ 65536 := by
  have h1 : W * H ≤ 256 * 256 := mul_le_of (by omega) (by omega) (by omega) (by omega)
  have h0 : 0 ≤ W * H := Int.mul_nonneg (by omega) (by omega)
  have := reg_len_img (n := (W * H).toNat) (leftL_reg ⟨0, 0, W, H⟩ l) (leftL_on l) hW.1 (by omega)
  omega
theorem seenL_len {W H : Int} (hW : 1 ≤ W ∧ W ≤ 256) (hH : 1 ≤ H ∧ H ≤ 256) (ts : List TS) (i : Nat) : (seenL ⟨0, 0, W, H⟩ ts i).length ≤ 65536 := by
  have h1 : W * H ≤ 256 * 256 := mul_le_of (by omega) (by omega) (by omega) (by omega)
  have h0 : 0 ≤ W * H := Int.mul_nonneg (by omega) (by omega)
  have := reg_len_img (R := seenL ⟨0, 0, W, H⟩ ts i) (n := (W * H).toNat) (regM_isReg rfl _ _) (onImg_andl _ (leftL_on _)) hW.1 (by omega)
  omega
def RS.rwG (t : RS) : GenEnt := rdE t.A t.g 0 t.n 4 (rvals t.xs)
def RS.rws (l : List RS) (i : Nat) : GenEnt := (dget l i).rwG
theorem RS.rws_app {l : List RS} {t : RS} {m : Nat} (h : l.length = m) : (∀ k, k < m → RS.rws (l ++ [t]) k = RS.rws l k) ∧ RS.rws (l ++ [t]) m = t.rwG :=
  ⟨fun k hk => by unfold RS.rws; rw [dget_app (by omega)], by unfold RS.rws; rw [dget_end h]⟩
def SeenOk (b : Rect) (ts : List TS) (n : Nat) (rs : List RS) : Prop := ∀ j, j < rs.length → (dget rs j).xs = seenL b ts (n - 1 - j)
theorem SeenOk.nil (b : Rect) (ts : List TS) (n : Nat) : SeenOk b ts n [] := fun j h => absurd h (Nat.not_lt_zero _)
theorem SeenOk.step {b : Rect} {ts : List TS} {n x : Nat} {rs : List RS} {r : RS} (h : SeenOk b ts n rs) (hx : x + 1 + rs.length = n) (hr : r.xs = seenL b ts x) : SeenOk b ts n (rs ++ [r]) := fun j hj => by
  rw [List.length_append, List.length_singleton] at hj
  by_cases hl : j < rs.length
  · rw [dget_app hl]; exact h j hl
  · have : j = rs.length := by omega
    subst this
    rw [dget_end rfl, hr, show n - 1 - rs.length = x by omega]
def seenR (n : Nat) (rs : List RS) : List RS := List.replicate (n - rs.length) RS.nil ++ rs.reverse
theorem seenR_nil (n : Nat) : seenR n [] = List.replicate n RS.nil := by simp [seenR]
theorem seenR_len {n : Nat} {rs : List RS} (h : rs.length ≤ n) : (seenR n rs).length = n := by simp [seenR]; omega
theorem seenR_all {n : Nat} {rs : List RS} (h : rs.length = n) : seenR n rs = rs.reverse := by simp [seenR, h]
theorem seenR_set {n x : Nat} {rs : List RS} {r : RS} (hx : x + 1 + rs.length = n) : (seenR n rs).set x r = seenR n (rs ++ [r]) := by
  unfold seenR
  rw [List.length_append, List.length_singleton, show n - rs.length = x + 1 by omega, show n - (rs.length + 1) = x by omega, List.reverse_append, List.replicate_succ', List.append_assoc, List.set_append_right _ _ (by simp)]
  simp
theorem dget_rev {rs : List RS} {i : Nat} (h : i < rs.length) : dget rs.reverse i = dget rs (rs.length - 1 - i) := by
  unfold dget
  rw [List.getD_eq_getElem?_getD, List.getD_eq_getElem?_getD, List.getElem?_reverse h]
theorem store_rowS {P : Program} {w0 w : World} {T : List Ent} (hT : Tab w0 w T) {t e : TypeId} {A : Option Addr} {i g n cap J : Nat} {xs : List RS} {own : Bool} (v : RS) (hi : T[i]? = some (.gen (rowE A g n cap e 1 (dvals RS.cells xs) own))) (hsz : (P.info? t).map (·.size) = some 1) (hJ : J < xs.length) :
    ∃ (x : Unit) (w' : World), (Instr.storeAt t (.pointer (some ⟨g, J, none⟩)) (.slice v.A v.n v.cap)).run P w = .ok () w' ∧ True ∧ Tab w0 w' (T.set i (.gen (rowE A g n cap e 1 (dvals RS.cells (xs.set J v)) own))) := by
  have hrow : Row w A g n cap e 1 (dvals RS.cells xs) := hT.ok i _ hi
  have hd : ∀ l : List RS, dvals RS.cells l = l.map (fun v => .slice v.A v.n v.cap) := fun l => by
    induction l with
    | nil => rfl
    | cons a l ih => rw [dvals, ih]; rfl
  have hlen : xs.length = n := by have := hrow.own.1; rw [hd, List.length_map] at this; omega
  have hn : 0 < n := by omega
  refine ⟨(), _, run_store1 hsz rfl (hrow.cell J (.slice xs[J].A xs[J].n xs[J].cap) (by rw [hd, List.getElem?_map, List.getElem?_eq_getElem hJ]; rfl)) (hrow.free hn J), trivial, ?_⟩
  have := hT.rowSet hi hn J (.slice v.A v.n v.cap)
  rw [hd, ← List.map_set (f := fun v : RS => Value.slice v.A v.n v.cap), ← hd] at this
  exact this
def BackI (its : List IT) (n : Nat) (p : List (Nat × IT)) : Prop := p = (List.range p.length).map (fun k => (n - 1 - k, dget its (n - 1 - k))) ∧ p.length ≤ n
theorem BackI.nil (its : List IT) (n : Nat) : BackI its n [] := ⟨rfl, Nat.zero_le _⟩
theorem BackI.step {its : List IT} {n : Nat} {p : List (Nat × IT)} (hp : BackI its n p) {x : Nat} (hx : (x : Int) = (n : Int) - 1 - ((p.length : Nat) : Int)) : BackI its n (p ++ [(x, dget its x)]) := by
  refine ⟨?_, by rw [List.length_append, List.length_singleton]; omega⟩
  rw [List.length_append, List.length_singleton, List.range_succ, List.map_append, ← hp.1]
  have : x = n - 1 - p.length := by omega
  rw [this]; rfl
theorem BackI.last {its : List IT} {n : Nat} {p : List (Nat × IT)} {x : Nat} {it : IT} (hp : BackI its n (p ++ [(x, it)])) : x + 1 + p.length = n ∧ it = dget its x := by
  obtain ⟨h1, h2⟩ := hp
  rw [List.length_append, List.length_singleton] at h1 h2
  rw [List.range_succ, List.map_append] at h1
  have := List.append_inj_right h1 (by simp)
  simp only [List.map_cons, List.map_nil, List.cons.injEq, Prod.mk.injEq, and_true] at this
  obtain ⟨e1, e2⟩ := this
  subst e1
  exact ⟨by omega, e2⟩
def lessL (o : List Rect) (l : List TS) : List Rect := l.foldl (fun o t => regM lessB o t.hid) o
theorem lessL_step {o : List Rect} {ts : List TS} {i j : Nat} (hi : i ≤ j) (h : j < ts.length) : regM lessB (lessL o ((ts.take j).drop i)) (dget ts j).hid = lessL o ((ts.take (j + 1)).drop i) := by
  have hd : dget ts j = ts[j] := by unfold dget; rw [List.getD_eq_getElem?_getD, List.getElem?_eq_getElem h]; rfl
  rw [List.take_add_one, List.getElem?_eq_getElem h, List.drop_append_of_le_length (by rw [List.length_take]; omega), hd]
  simp only [lessL, List.foldl_append, Option.toList_some, List.foldl_cons, List.foldl_nil]
theorem lessL_reg : ∀ (l : List TS) {o : List Rect}, IsReg o (hasL o) → IsReg (lessL o l) (hasL (lessL o l)) := by
  intro l
  induction l with
  | nil => intro o h; exact h
  | cons t l ih => intro o h; exact ih (regM_isReg (kf := lessB) rfl o t.hid).self
theorem lessL_has (x y : Int) : ∀ (l : List TS) (o : List Rect), hasL (lessL o l) x y = (hasL o x y && !(l.any fun t => hasL t.hid x y)) := by
  intro l
  induction l with
  | nil => intro o; simp [lessL]
  | cons t l ih =>
    intro o
    show hasL (lessL (regM lessB o t.hid) l) x y = _
    rw [ih, hasL_less, List.any_cons]
    cases hasL o x y <;> cases hasL t.hid x y <;> simp
theorem lessL_left (b : Rect) (l : List TS) : lessL (canR [b]) l = leftL b l :=
  reg_ext (lessL_reg l (canR_isReg [b]).self) (leftL_reg b l) (fun x y => by rw [lessL_has, leftL_has, hasL_can, hasL_one])
theorem lessL_seen (b : Rect) (ts : List TS) (i : Nat) : lessL (regM andB (canR [b]) (canR [(dget ts i).bx])) (ts.drop (i + 1)) = seenL b ts i :=
  reg_ext (lessL_reg _ (regM_isReg (kf := andB) rfl _ _).self) (regM_isReg (kf := andB) rfl (leftL b (ts.drop (i + 1))) (canR [(dget ts i).bx])).self (fun x y => by
    show _ = hasL (regM andB (leftL b (ts.drop (i + 1))) (canR [(dget ts i).bx])) x y
    rw [lessL_has, hasL_and, hasL_and, leftL_has, hasL_can, hasL_can, hasL_one]
    cases hasB b.x0 b.y0 b.x1 b.y1 x y <;> cases hasL [(dget ts i).bx] x y <;> simp)
theorem lessL_on {W H : Int} {o : List Rect} (l : List TS) (h : OnImg W H o) : OnImg W H (lessL o l) := fun x y hh => by
  rw [lessL_has] at hh
  exact h x y (Bool.and_eq_true_iff.1 hh).1
theorem lessL_len {W H : Int} (hW : 1 ≤ W ∧ W ≤ 256) (hH : 1 ≤ H ∧ H ≤ 256) {o : List Rect} (ho : IsReg o (hasL o)) (hon : OnImg W H o) (l : List TS) : (lessL o l).length ≤ 65536 := by
  have h1 : W * H ≤ 256 * 256 := mul_le_of (by omega) (by omega) (by omega) (by omega)
  have h0 : 0 ≤ W * H := Int.mul_nonneg (by omega) (by omega)
  have := reg_len_img (n := (W * H).toNat) (lessL_reg l ho) (lessL_on l hon) hW.1 (by omega)
  omega
theorem Rd.dcell1z {α : Type} [Inhabited α] {w : World} {A : Option Addr} {g n : Nat} {cel : α → List Value} {l : List α} (hz : ∀ a, (cel a).length = 1) (h : Rd w A g 0 n 1 (dvals cel l)) {i : Nat} (hi : i < l.length) {v : Value} (hv : (cel (dget l i))[0]? = some v) : w.cell? ⟨g, i, none⟩ = some v := by
  have h2 := Rd.dcell1 hz h hi 0 hv
  rw [show 0 + i * 1 + 0 = i by omega] at h2
  exact h2
end Go.Proofs.YtlfahohbkgdabaaGreat
