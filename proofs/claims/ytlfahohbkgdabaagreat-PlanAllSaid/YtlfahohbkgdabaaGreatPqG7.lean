/- Texts of this proof's own, put together: what each holds is told ahead of it. -/
import Derived.Test.YtlfahohbkgdabaaGreatPqG5
import Derived.Test.YtlfahohbkgdabaaGreatPqG2
import Derived.Test.YtlfahohbkgdabaaGreatPqG4
import Derived.Test.YtlfahohbkgdabaaGreatPqG6
import Derived.LaidEqlPtr
import Derived.Test.YtlfahohbkgdabaaGreatProg
import Derived.Test.YtlfahohbkgdabaaGreatPqG1
import Derived.Maps.RangeRun
set_option linter.unusedSimpArgs false
set_option linter.unusedVariables false
namespace Go.Proofs.YtlfahohbkgdabaaGreat
open Go Go.RowKit
def sameY (p r : Rect) : Prop := p.y0 = r.y0 ∧ p.y1 = r.y1
instance (p r : Rect) : Decidable (sameY p r) := inferInstanceAs (Decidable (_ ∧ _))
def fromOf (l : List Rect) : Nat → Nat
  | 0 => 0
  | i + 1 => if i = 0 then 0 else if sameY (rget l (i - 1)) (rget l i) then fromOf l i else i
def part (l : List Rect) (a b : Nat) : List Rect := (l.drop a).take (b - a)
structure EndOf (l : List Rect) (i e : Nat) : Prop where
  lt : i < e
  le : e ≤ l.length
  same : ∀ j, i ≤ j → j < e → sameY (rget l j) (rget l i)
  stop : e < l.length → ¬ sameY (rget l e) (rget l i)
structure OkAt (l : List Rect) (i : Nat) : Prop where
  ne : emptyR (rget l i) = false
  on : 0 < i → sameY (rget l (i - 1)) (rget l i) → (rget l (i - 1)).x1 < (rget l i).x0
  next : 0 < i → ¬ sameY (rget l (i - 1)) (rget l i) → (rget l (i - 1)).y1 ≤ (rget l i).y0
  apart : 0 < i → ¬ sameY (rget l (i - 1)) (rget l i) → (rget l (i - 1)).y1 = (rget l i).y0 → ∀ e, EndOf l i e → eqF span1 (part l (fromOf l i) i) (part l i e) = false
theorem EndOf.unique {l : List Rect} {i e e' : Nat} (h : EndOf l i e) (h' : EndOf l i e') : e = e' := by
  rcases Nat.lt_trichotomy e e' with a | a | a
  · exact absurd (h'.same e (Nat.le_of_lt h.lt) a) (h.stop (by have := h'.le; omega))
  · exact a
  · exact absurd (h.same e' (Nat.le_of_lt h'.lt) a) (h'.stop (by have := h.le; omega))
theorem bandR_mem {y y' : Int} {sp : Spans} {r : Rect} (h : r ∈ bandR y y' sp) : r.y0 = y ∧ r.y1 = y' ∧ ∃ s ∈ sp, r = spR y y' s := by
  unfold bandR at h
  rw [List.mem_reverse, List.mem_map] at h
  obtain ⟨s, hs, rfl⟩ := h
  exact ⟨rfl, rfl, s, hs, rfl⟩
theorem bandR_cons (y y' : Int) (s : Run Unit) (sp : Spans) : bandR y y' (s :: sp) = bandR y y' sp ++ [spR y y' s] := by simp [bandR]
theorem rget_take {l : List Rect} {i j : Nat} (h : j < i) : rget (l.take i) j = rget l j := by
  unfold rget
  rw [List.getD_eq_getElem?_getD, List.getD_eq_getElem?_getD, List.getElem?_take, if_pos h]
theorem rget_app_left {a b : List Rect} {j : Nat} (h : j < a.length) : rget (a ++ b) j = rget a j := by rw [rget_append, if_pos h]
theorem rget_app_right {a b : List Rect} {j : Nat} (h : a.length ≤ j) : rget (a ++ b) j = rget b (j - a.length) := by rw [rget_append, if_neg (by omega)]
structure Pref (l : List Rect) (i : Nat) (t : Bands) (y y' : Int) (sp : Spans) : Prop where
  ok : BandsOk t
  runs : RunsOk sp
  ne : sp ≠ []
  lt : y < y'
  eq : l.take i = flatR t ++ bandR y y' sp
  frm : fromOf l i = (flatR t).length
  sep : ∀ c u, t = c :: u → c.2.1 ≤ y ∧ (c.2.1 = y → ∀ e, EndOf l (flatR t).length e → eqF span1 (bandR c.1 c.2.1 c.2.2) (part l (flatR t).length e) = false)
theorem Pref.len {l : List Rect} {i : Nat} {t : Bands} {y y' : Int} {sp : Spans} (h : Pref l i t y y' sp) (hi : i ≤ l.length) : i = (flatR t).length + sp.length ∧ 0 < sp.length := by
  have := congrArg List.length h.eq
  rw [List.length_take, List.length_append, bandR_length] at this
  have : 0 < sp.length := by cases e : sp with
    | nil => exact absurd e h.ne
    | cons _ _ => simp
  omega
theorem Pref.inb {l : List Rect} {i : Nat} {t : Bands} {y y' : Int} {sp : Spans} (h : Pref l i t y y' sp) (hi : i ≤ l.length) {j : Nat} (h1 : (flatR t).length ≤ j) (h2 : j < i) : (rget l j).y0 = y ∧ (rget l j).y1 = y' := by
  have hl := h.len hi
  rw [← rget_take h2, h.eq, rget_app_right h1]
  have := bandR_mem (rget_mem (l := bandR y y' sp) (i := j - (flatR t).length) (by rw [bandR_length]; omega))
  exact ⟨this.1, this.2.1⟩
theorem Pref.partEq {l : List Rect} {i : Nat} {t : Bands} {y y' : Int} {sp : Spans} (h : Pref l i t y y' sp) (hi : i ≤ l.length) : part l (flatR t).length i = bandR y y' sp := by
  unfold part
  have e : (l.take i).drop (flatR t).length = bandR y y' sp := by rw [h.eq, List.drop_left]
  rw [← e, List.drop_take]
theorem Pref.endOf {l : List Rect} {i : Nat} {t : Bands} {y y' : Int} {sp : Spans} (h : Pref l i t y y' sp) (hi : i ≤ l.length) (hs : i < l.length → ¬ sameY (rget l (i - 1)) (rget l i)) : EndOf l (flatR t).length i := by
  have hl := h.len hi
  have h0 := h.inb hi (Nat.le_refl _) (by omega)
  refine ⟨by omega, hi, fun j h1 h2 => ?_, fun hlt hsame => hs hlt ?_⟩
  · have := h.inb hi h1 h2
    exact ⟨this.1.trans h0.1.symm, this.2.trans h0.2.symm⟩
  · have h1 := h.inb hi (j := i - 1) (by omega) (by omega)
    exact ⟨h1.1.trans (h0.1.symm.trans hsame.1.symm), h1.2.trans (h0.2.symm.trans hsame.2.symm)⟩
theorem Pref.close {l : List Rect} {i : Nat} {t : Bands} {y y' : Int} {sp : Spans} (h : Pref l i t y y' sp) (hi : i ≤ l.length) (hs : i < l.length → ¬ sameY (rget l (i - 1)) (rget l i)) : BandsOk ((y, y', sp) :: t) := by
  refine ⟨⟨h.lt, ?_, h.ok.runs⟩, fun b hb => ?_⟩
  · cases t with
    | nil => trivial
    | cons c u =>
      obtain ⟨h1, h2⟩ := h.sep c u rfl
      refine ⟨h1, fun he hsp => ?_⟩
      have := h2 he i (h.endOf hi hs)
      rw [h.partEq hi, eqF_span, decide_eq_false_iff_not] at this
      exact this hsp
  · rcases List.mem_cons.1 hb with rfl | hb
    · exact ⟨h.runs, h.ne⟩
    · exact h.ok.each b hb
theorem pref_step {l : List Rect} {i : Nat} {t : Bands} {y y' : Int} {sp : Spans} (h : Pref l i t y y' sp) (hi : i < l.length) (ho : OkAt l i) : ∃ t y y' sp, Pref l (i + 1) t y y' sp := by
  have hl := h.len (Nat.le_of_lt hi)
  have hne := emptyB_false.1 ho.ne
  have hlast := h.inb (Nat.le_of_lt hi) (j := i - 1) (by omega) (by omega)
  have hx1 : ∀ s u, sp = s :: u → (rget l (i - 1)).x1 = s.2.1 := by
    intro s u e
    rw [← rget_take (l := l) (i := i) (j := i - 1) (by omega), h.eq, e, bandR_cons, ← List.append_assoc, rget_app_right (by rw [List.length_append, bandR_length]; rw [e] at hl; simp only [List.length_cons] at hl; omega)]
    rw [List.length_append, bandR_length, show i - 1 - ((flatR t).length + u.length) = 0 by rw [e] at hl; simp only [List.length_cons] at hl; omega]
    rfl
  by_cases hs : sameY (rget l (i - 1)) (rget l i)
  · have hy : (rget l i).y0 = y ∧ (rget l i).y1 = y' := ⟨hs.1.symm.trans hlast.1, hs.2.symm.trans hlast.2⟩
    refine ⟨t, y, y', ((rget l i).x0, (rget l i).x1, ()) :: sp, h.ok, ⟨hne.1, ?_, h.runs⟩, by simp, h.lt, ?_, ?_, h.sep⟩
    · cases e : sp with
      | nil => trivial
      | cons s u =>
        have := ho.on (by omega) hs
        rw [hx1 s u e] at this
        exact ⟨Int.le_of_lt this, fun he => by simp only at he; omega⟩
    · rw [take_succ_rget hi, h.eq, bandR_cons, List.append_assoc]
      congr 2
      unfold spR
      rw [← hy.1, ← hy.2]
    · rw [fromOf, if_neg (by omega), if_pos hs]; exact h.frm
  · have hb := h.close (Nat.le_of_lt hi) (fun _ => hs)
    have hnx := ho.next (by omega) hs
    refine ⟨(y, y', sp) :: t, (rget l i).y0, (rget l i).y1, [((rget l i).x0, (rget l i).x1, ())], hb, ⟨hne.1, trivial, trivial⟩, by simp, hne.2, ?_, ?_, ?_⟩
    · rw [take_succ_rget hi, flatR, h.eq]
      rfl
    · rw [fromOf, if_neg (by omega), if_neg hs, flatR, List.length_append, bandR_length]; show i = (flatR t).length + sp.length; omega
    · intro c u e
      cases e
      refine ⟨by simp only; rw [← hlast.2]; exact hnx, fun he e hE => ?_⟩
      simp only at he
      have hlen : (flatR ((y, y', sp) :: t)).length = i := by rw [flatR, List.length_append, bandR_length]; show (flatR t).length + sp.length = i; omega
      rw [hlen] at hE ⊢
      have := ho.apart (by omega) hs (by rw [hlast.2]; exact he) e hE
      rw [h.frm, h.partEq (Nat.le_of_lt hi)] at this
      exact this
theorem may_to {l : List Rect} (h : ∀ i, i < l.length → OkAt l i) : ∃ F, IsReg l F := by
  by_cases hl : l.length = 0
  · have : l = [] := List.length_eq_zero_iff.1 hl
    subst this
    exact ⟨_, nil_isReg⟩
  · have h0 := h 0 (by omega)
    have hne := emptyB_false.1 h0.ne
    have key : ∀ i, i + 1 ≤ l.length → ∃ t y y' sp, Pref l (i + 1) t y y' sp := by
      intro i
      induction i with
      | zero =>
        intro hi
        refine ⟨[], (rget l 0).y0, (rget l 0).y1, [((rget l 0).x0, (rget l 0).x1, ())], ⟨trivial, fun b hb => by cases hb⟩, ⟨hne.1, trivial, trivial⟩, by simp, hne.2, ?_, rfl, fun c u e => by cases e⟩
        rw [take_succ_rget hi]; rfl
      | succ i ih =>
        intro hi
        obtain ⟨t, y, y', sp, hp⟩ := ih (by omega)
        exact pref_step hp (by omega) (h (i + 1) (by omega))
    obtain ⟨t, y, y', sp, hp⟩ := key (l.length - 1) (by omega)
    rw [show l.length - 1 + 1 = l.length by omega] at hp
    have hb := hp.close (Nat.le_refl _) (fun hlt => by omega)
    have e := hp.eq
    rw [List.take_length] at e
    exact ⟨_, (y, y', sp) :: t, hb, e, fun x y => rfl⟩
theorem flatR_append (u t : Bands) : flatR (u ++ t) = flatR t ++ flatR u := by
  induction u with
  | nil => simp [flatR]
  | cons c u ih => rw [List.cons_append, flatR, ih, flatR, List.append_assoc]
theorem flatR_at : ∀ {bs : Bands} {i : Nat}, i < (flatR bs).length → ∃ u b t k, bs = u ++ b :: t ∧ i = (flatR t).length + k ∧ k < b.2.2.length := by
  intro bs
  induction bs with
  | nil => intro i h; simp [flatR] at h
  | cons c r ih =>
    intro i h
    rw [flatR, List.length_append, bandR_length] at h
    by_cases hi : i < (flatR r).length
    · obtain ⟨u, b, t, k, e, h1, h2⟩ := ih hi
      exact ⟨c :: u, b, t, k, by rw [e]; rfl, h1, h2⟩
    · exact ⟨[], c, r, i - (flatR r).length, rfl, by omega, by omega⟩
theorem RunsOk.append {β : Type} {u t : List (Run β)} (h : RunsOk (u ++ t)) : RunsOk t := by
  induction u with
  | nil => exact h
  | cons c u ih => exact ih h.tail
theorem band_rise {y y' : Int} : ∀ {sp : Spans}, RunsOk sp → ∀ k, k + 1 < sp.length → (rget (bandR y y' sp) k).x1 < (rget (bandR y y' sp) (k + 1)).x0 := by
  intro sp
  induction sp with
  | nil => intro _ k h; simp at h
  | cons s u ih =>
    intro h k hk
    simp only [List.length_cons] at hk
    rw [bandR_cons]
    by_cases hlt : k + 1 < u.length
    · rw [rget_app_left (by rw [bandR_length]; omega), rget_app_left (by rw [bandR_length]; omega)]
      exact ih h.tail k hlt
    · have hu : k + 1 = u.length := by omega
      rw [rget_app_left (by rw [bandR_length]; omega), rget_app_right (by rw [bandR_length]; omega), bandR_length, hu, Nat.sub_self]
      cases u with
      | nil => simp at hu
      | cons q v =>
        simp only [List.length_cons] at hu
        rw [bandR_cons, rget_app_right (by rw [bandR_length]; omega), bandR_length, show k - v.length = 0 by omega]
        obtain ⟨_, ⟨h1, h2⟩, _⟩ := h
        show q.2.1 < s.1
        rcases Int.lt_or_eq_of_le h1 with h3 | h3
        · exact h3
        · exact absurd rfl (h2 h3)
structure Place (bs : Bands) (i : Nat) (u : Bands) (b : Run Spans) (t : Bands) (k : Nat) : Prop where
  eq : bs = u ++ b :: t
  i_ : i = (flatR t).length + k
  k_ : k < b.2.2.length
theorem Place.get {bs : Bands} {i : Nat} {u : Bands} {b : Run Spans} {t : Bands} {k : Nat} (h : Place bs i u b t k) : rget (flatR bs) i = rget (bandR b.1 b.2.1 b.2.2) k := by
  rw [h.eq, flatR_append, flatR, List.append_assoc, rget_app_right (by have := h.i_; omega), rget_app_left (by rw [bandR_length]; have := h.i_; have := h.k_; omega)]
  congr 1
  have := h.i_; omega
theorem Place.y {bs : Bands} {i : Nat} {u : Bands} {b : Run Spans} {t : Bands} {k : Nat} (h : Place bs i u b t k) : (rget (flatR bs) i).y0 = b.1 ∧ (rget (flatR bs) i).y1 = b.2.1 := by
  rw [h.get]
  have := bandR_mem (rget_mem (l := bandR b.1 b.2.1 b.2.2) (i := k) (by rw [bandR_length]; exact h.k_))
  exact ⟨this.1, this.2.1⟩
theorem from_place {bs : Bands} (hb : BandsOk bs) {u : Bands} {b : Run Spans} {t : Bands} (e : bs = u ++ b :: t) : ∀ k, 0 < k → k ≤ b.2.2.length → fromOf (flatR bs) ((flatR t).length + k) = (flatR t).length := by
  intro k
  induction k with
  | zero => intro h; omega
  | succ k ih =>
    intro _ hk
    have hp : Place bs ((flatR t).length + k) u b t k := ⟨e, rfl, by omega⟩
    rw [show (flatR t).length + (k + 1) = ((flatR t).length + k) + 1 by omega, fromOf]
    by_cases h0 : (flatR t).length + k = 0
    · rw [if_pos h0]; omega
    · rw [if_neg h0]
      by_cases hk0 : k = 0
      · subst hk0
        -- the band before
        cases t with
        | nil => simp [flatR] at h0
        | cons c t' =>
          have hc : 0 < c.2.2.length := by
            have := (hb.each c (by rw [e]; simp)).2
            cases h : c.2.2 with
            | nil => exact absurd h this
            | cons _ _ => simp
          have hq : Place bs ((flatR (c :: t')).length + 0 - 1) (u ++ [b]) c t' (c.2.2.length - 1) := ⟨by rw [e]; simp, by rw [flatR, List.length_append, bandR_length]; omega, by omega⟩
          have y1 := hq.y
          have y2 := hp.y
          have hr : RunsOk (b :: c :: t') := RunsOk.append (u := u) (by rw [← e]; exact hb.runs)
          have h1 := hr.2.1.1
          have h2 := hr.tail.1
          rw [if_neg (fun hs => by have := hs.1; rw [y1.1, y2.1] at this; omega)]
          omega
      · have hq : Place bs ((flatR t).length + k - 1) u b t (k - 1) := ⟨e, by omega, by omega⟩
        have y1 := hq.y
        have y2 := hp.y
        rw [if_pos ⟨y1.1.trans y2.1.symm, y1.2.trans y2.2.symm⟩]
        exact ih (by omega) (by omega)
theorem may_from {l : List Rect} {F : Int → Int → Bool} (h : IsReg l F) : ∀ i, i < l.length → OkAt l i := by
  obtain ⟨bs, hb, rfl, _⟩ := h
  intro i hi
  obtain ⟨u, b, t, k, e, h1, h2⟩ := flatR_at hi
  have hp : Place bs i u b t k := ⟨e, h1, h2⟩
  have hbm : b ∈ bs := by rw [e]; simp
  have hev := hb.each b hbm
  have hlt := hb.runs.lt b hbm
  have hr : RunsOk (b :: t) := RunsOk.append (u := u) (by rw [← e]; exact hb.runs)
  have hy := hp.y
  have prev : 0 < i → (0 < k ∧ Place bs (i - 1) u b t (k - 1)) ∨ (k = 0 ∧ ∃ c t', t = c :: t' ∧ 0 < c.2.2.length ∧ Place bs (i - 1) (u ++ [b]) c t' (c.2.2.length - 1)) := by
    intro hi0
    by_cases hk : 0 < k
    · exact .inl ⟨hk, e, by omega, by omega⟩
    · have hk0 : k = 0 := by omega
      subst hk0
      right
      refine ⟨rfl, ?_⟩
      cases t with
      | nil => simp [flatR] at h1; omega
      | cons c t' =>
        have hc : 0 < c.2.2.length := by
          have := (hb.each c (by rw [e]; simp)).2
          cases h : c.2.2 with
          | nil => exact absurd h this
          | cons _ _ => simp
        exact ⟨c, t', rfl, hc, by rw [e]; simp, by rw [h1, flatR, List.length_append, bandR_length]; omega, by omega⟩
  refine ⟨?_, fun h0 hs => ?_, fun h0 hs => ?_, fun h0 hs ht e' hE => ?_⟩
  · rw [hp.get]
    obtain ⟨_, _, s, hs, er⟩ := bandR_mem (rget_mem (l := bandR b.1 b.2.1 b.2.2) (i := k) (by rw [bandR_length]; exact h2))
    rw [er]
    exact emptyB_false.2 ⟨hev.1.lt s hs, hlt⟩
  · rcases prev h0 with ⟨hk, hq⟩ | ⟨hk, c, t', rfl, hc, hq⟩
    · rw [hq.get, hp.get]
      have := band_rise (y := b.1) (y' := b.2.1) hev.1 (k - 1) (by omega)
      rwa [show k - 1 + 1 = k by omega] at this
    · exfalso
      have y1 := hq.y
      have h3 := hr.2.1.1
      have h4 := hr.tail.1
      have := hs.1
      rw [y1.1, hy.1] at this
      omega
  · rcases prev h0 with ⟨hk, hq⟩ | ⟨hk, c, t', rfl, hc, hq⟩
    · have y1 := hq.y
      exact absurd ⟨y1.1.trans hy.1.symm, y1.2.trans hy.2.symm⟩ hs
    · have y1 := hq.y
      rw [y1.2, hy.1]
      exact hr.2.1.1
  · rcases prev h0 with ⟨hk, hq⟩ | ⟨hk, c, t', rfl, hc, hq⟩
    · have y1 := hq.y
      exact absurd ⟨y1.1.trans hy.1.symm, y1.2.trans hy.2.symm⟩ hs
    · have y1 := hq.y
      rw [y1.2, hy.1] at ht
      subst hk
      have hne := hr.2.1.2 ht
      have hf := from_place hb (u := u ++ [b]) (b := c) (t := t') (by rw [e]; simp) c.2.2.length hc (Nat.le_refl _)
      have hi2 : i = (flatR t').length + c.2.2.length := by rw [h1, flatR, List.length_append, bandR_length]; omega
      rw [← hi2] at hf
      have hE2 : EndOf (flatR bs) i (i + b.2.2.length) := by
        have hlen : (flatR bs).length = (flatR (c :: t')).length + b.2.2.length + (flatR u).length := by rw [e, flatR_append, flatR, List.length_append, List.length_append, bandR_length]
        refine ⟨by omega, by omega, fun j h5 h6 => ?_, fun h5 hsame => ?_⟩
        · have hj : Place bs j u b (c :: t') (j - i) := ⟨e, by omega, by omega⟩
          exact ⟨hj.y.1.trans hy.1.symm, hj.y.2.trans hy.2.symm⟩
        · obtain ⟨u2, b2, t2, k2, e2, h7, h8⟩ := flatR_at h5
          have hj : Place bs (i + b.2.2.length) u2 b2 t2 k2 := ⟨e2, h7, h8⟩
          -- what stands behind b is in a band above it
          have hmem : rget (flatR bs) (i + b.2.2.length) ∈ flatR u := by
            rw [e, flatR_append, flatR, List.append_assoc, rget_app_right (by omega), rget_app_right (by rw [bandR_length]; omega)]
            exact rget_mem (by rw [bandR_length]; omega)
          obtain ⟨d, hd, s, hs2, er⟩ := flatR_mem hmem
          obtain ⟨u3, u4, e3⟩ := List.append_of_mem hd
          have hr2 : RunsOk (d :: (u4 ++ b :: c :: t')) := RunsOk.append (u := u3) (by rw [e, e3] at hb; simpa using hb.runs)
          have h9 := hr2.below b (by simp)
          have := hsame.1
          rw [er, hy.1] at this
          simp only at this
          omega
      have he : e' = i + b.2.2.length := hE.unique hE2
      subst he
      rw [hf]
      have p1 : part (flatR bs) (flatR t').length i = bandR c.1 c.2.1 c.2.2 := by
        unfold part
        rw [e, flatR_append, flatR, flatR, List.append_assoc, List.append_assoc, List.drop_left]
        exact List.take_left' (by rw [bandR_length]; omega)
      have p2 : part (flatR bs) i (i + b.2.2.length) = bandR b.1 b.2.1 b.2.2 := by
        unfold part
        have : i = (flatR (c :: t')).length := by omega
        rw [e, flatR_append, flatR, List.append_assoc, this, List.drop_left]
        exact List.take_left' (by rw [bandR_length]; omega)
      rw [p1, p2, eqF_span]
      exact decide_eq_false hne
theorem may_iff (l : List Rect) : (∀ i, i < l.length → OkAt l i) ↔ l = canR l := by
  constructor
  · intro h
    obtain ⟨F, hF⟩ := may_to h
    exact hF.self.unique (canR_isReg l)
  · intro h
    refine may_from (F := hasL l) ?_
    conv => enter [1]; rw [h]
    exact canR_isReg l
theorem canR_small {l : List Rect} (h : l.length ≤ 14) : (canR l).length ≤ 784 := by
  have h1 := ysP_length l []
  have h2 := mgSt_length (al := fun a b _ => alikeL a b) (own := fun i => bandP orB l [] ((ysP l []).getD i 0) ((ysP l []).getD (i + 1) 0)) (ys := ysP l []) (m := 2 * (l.length + 0)) (fun i => bandP_length orB l [] _ _) ((ysP l []).length - 1)
  simp only [List.length_nil] at h1
  have h3 : ((ysP l []).length - 1) * (2 * (l.length + 0)) ≤ 28 * 28 := Nat.mul_le_mul (by omega) (by omega)
  unfold canR regM mgL
  rw [List.length_append]
  omega
end Go.Proofs.YtlfahohbkgdabaaGreat
namespace Go.Proofs.YtlfahohbkgdabaaGreat
open Go Go.RowKit
def rowP (y x : Int) (k : Nat) : List (Int × Int) := (List.range k).map fun i => (x + ((i : Nat) : Int), y)
def rectP (r : Rect) (j : Nat) : List (Int × Int) := (List.range j).flatMap fun q => rowP (r.y0 + ((q : Nat) : Int)) r.x0 (Int.toNat (r.x1 - r.x0))
def regP (l : List Rect) : List (Int × Int) := l.flatMap fun r => rectP r (Int.toNat (r.y1 - r.y0))
theorem rowP_succ (y x : Int) (k : Nat) : rowP y x (k + 1) = rowP y x k ++ [(x + ((k : Nat) : Int), y)] := by simp [rowP, List.range_succ]
theorem rectP_succ (r : Rect) (j : Nat) : rectP r (j + 1) = rectP r j ++ rowP (r.y0 + ((j : Nat) : Int)) r.x0 (Int.toNat (r.x1 - r.x0)) := by simp [rectP, List.range_succ, List.flatMap_append]
theorem regP_append (a b : List Rect) : regP (a ++ b) = regP a ++ regP b := by simp [regP]
theorem regP_one (r : Rect) : regP [r] = rectP r (Int.toNat (r.y1 - r.y0)) := by simp [regP]
theorem regP_take {l : List Rect} {i : Nat} (h : i < l.length) : regP (l.take (i + 1)) = regP (l.take i) ++ rectP (rget l i) (Int.toNat ((rget l i).y1 - (rget l i).y0)) := by
  rw [take_succ_rget h, regP_append, regP_one]
theorem prefix_range {α : Type} (f : Nat → List α) {j n : Nat} (h : j < n) : (List.range j).flatMap f ++ f j <+: (List.range n).flatMap f := by
  obtain ⟨d, rfl⟩ : ∃ d, n = (j + 1) + d := ⟨n - (j + 1), by omega⟩
  rw [List.range_add, List.flatMap_append, List.range_succ, List.flatMap_append]
  exact ⟨_, by simp; rfl⟩
theorem pts_pre {l : List Rect} {r : Rect} {i j k : Nat} (hi : i < l.length) (hr : rget l i = r) (hj : j < Int.toNat (r.y1 - r.y0)) (hk : k < Int.toNat (r.x1 - r.x0)) :
    (regP (l.take i) ++ rectP r j ++ rowP (r.y0 + ((j : Nat) : Int)) r.x0 k) ++ [(r.x0 + ((k : Nat) : Int), r.y0 + ((j : Nat) : Int))] <+: regP l := by
  subst hr
  have e1 : rowP ((rget l i).y0 + ((j : Nat) : Int)) (rget l i).x0 k ++ [((rget l i).x0 + ((k : Nat) : Int), (rget l i).y0 + ((j : Nat) : Int))] <+: rowP ((rget l i).y0 + ((j : Nat) : Int)) (rget l i).x0 (Int.toNat ((rget l i).x1 - (rget l i).x0)) := by
    rw [← rowP_succ]
    obtain ⟨d, hd⟩ : ∃ d, Int.toNat ((rget l i).x1 - (rget l i).x0) = (k + 1) + d := ⟨Int.toNat ((rget l i).x1 - (rget l i).x0) - (k + 1), by omega⟩
    unfold rowP
    rw [hd, show List.range (k + 1 + d) = List.range (k + 1) ++ (List.range d).map (k + 1 + ·) from List.range_add, List.map_append]
    exact ⟨_, rfl⟩
  have e2 : rectP (rget l i) j ++ rowP ((rget l i).y0 + ((j : Nat) : Int)) (rget l i).x0 (Int.toNat ((rget l i).x1 - (rget l i).x0)) <+: rectP (rget l i) (Int.toNat ((rget l i).y1 - (rget l i).y0)) := prefix_range _ hj
  have e3 : regP (l.take i) ++ rectP (rget l i) (Int.toNat ((rget l i).y1 - (rget l i).y0)) <+: regP l := by
    rw [← regP_take hi]
    refine ⟨regP (l.drop (i + 1)), ?_⟩
    rw [← regP_append, List.take_append_drop]
  obtain ⟨a, ha⟩ := e1
  obtain ⟨b, hb⟩ := e2
  obtain ⟨c, hc⟩ := e3
  exact ⟨a ++ b ++ c, by rw [← hc, ← hb, ← ha]; simp [List.append_assoc]⟩
theorem pts_row {l : List Rect} {r : Rect} {i j k : Nat} (hk : k = Int.toNat (r.x1 - r.x0)) : regP (l.take i) ++ rectP r j ++ rowP (r.y0 + ((j : Nat) : Int)) r.x0 k = regP (l.take i) ++ rectP r (j + 1) := by
  rw [rectP_succ, hk, List.append_assoc]
theorem pts_rect {l : List Rect} {r : Rect} {i j : Nat} (hi : i < l.length) (hr : rget l i = r) (hj : j = Int.toNat (r.y1 - r.y0)) : regP (l.take i) ++ rectP r j = regP (l.take (i + 1)) := by
  rw [regP_take hi, hr, hj]
theorem rowP_mem {y x : Int} {k : Nat} {p : Int × Int} : p ∈ rowP y x k ↔ p.2 = y ∧ x ≤ p.1 ∧ p.1 < x + ((k : Nat) : Int) := by
  unfold rowP
  rw [List.mem_map]
  constructor
  · rintro ⟨i, hi, rfl⟩
    have := List.mem_range.1 hi
    exact ⟨rfl, by simp only; omega, by simp only; omega⟩
  · rintro ⟨h1, h2, h3⟩
    exact ⟨Int.toNat (p.1 - x), List.mem_range.2 (by omega), Prod.ext (by simp only; omega) h1.symm⟩
theorem rectP_mem {r : Rect} {p : Int × Int} : p ∈ rectP r (Int.toNat (r.y1 - r.y0)) ↔ hasB r.x0 r.y0 r.x1 r.y1 p.1 p.2 = true := by
  unfold rectP
  rw [List.mem_flatMap, hasB_true]
  constructor
  · rintro ⟨q, hq, hp⟩
    have h1 := List.mem_range.1 hq
    obtain ⟨h2, h3, h4⟩ := rowP_mem.1 hp
    omega
  · rintro ⟨h1, h2, h3, h4⟩
    exact ⟨Int.toNat (p.2 - r.y0), List.mem_range.2 (by omega), rowP_mem.2 ⟨by omega, by omega, by omega⟩⟩
theorem regP_mem {l : List Rect} {p : Int × Int} : p ∈ regP l ↔ hasL l p.1 p.2 = true := by
  unfold regP hasL
  rw [List.mem_flatMap, List.any_eq_true]
  constructor
  · rintro ⟨r, hr, hp⟩; exact ⟨r, hr, rectP_mem.1 hp⟩
  · rintro ⟨r, hr, hp⟩; exact ⟨r, hr, rectP_mem.2 hp⟩
theorem rowP_nodup (y x : Int) (k : Nat) : (rowP y x k).Nodup := by
  unfold rowP
  refine List.pairwise_map.2 (List.Pairwise.imp ?_ (List.nodup_range (n := k)))
  intro a b hab h
  have := congrArg Prod.fst h
  simp only at this
  omega
theorem rectP_nodup (r : Rect) (j : Nat) : (rectP r j).Nodup := by
  unfold rectP
  refine List.pairwise_flatMap.2 ⟨fun q _ => rowP_nodup _ _ _, List.Pairwise.imp ?_ (List.nodup_range (n := j))⟩
  intro a b hab p hp q hq h
  have h1 := (rowP_mem.1 hp).1
  have h2 := (rowP_mem.1 hq).1
  rw [h] at h1
  omega
def DisR (r s : Rect) : Prop := ∀ x y, ¬ (hasB r.x0 r.y0 r.x1 r.y1 x y = true ∧ hasB s.x0 s.y0 s.x1 s.y1 x y = true)
theorem band_dis {y y' : Int} : ∀ {sp : Spans}, RunsOk sp → (bandR y y' sp).Pairwise DisR := by
  intro sp
  induction sp with
  | nil => intro _; exact List.Pairwise.nil
  | cons s sp ih =>
    intro h
    rw [bandR_cons]
    refine List.pairwise_append.2 ⟨ih h.tail, List.pairwise_singleton _ _, ?_⟩
    intro r hr q hq x z hh
    obtain ⟨_, _, u, hu, rfl⟩ := bandR_mem hr
    have hq : q = spR y y' s := by simpa using hq
    subst hq
    have h1 := hasB_true.1 hh.1
    have h2 := hasB_true.1 hh.2
    have := h.below u hu
    simp only [spR] at h1 h2
    omega
theorem flat_dis : ∀ {bs : Bands}, BandsOk bs → (flatR bs).Pairwise DisR := by
  intro bs h
  have hr := h.runs
  have he := h.each
  clear h
  induction bs with
  | nil => exact List.Pairwise.nil
  | cons b t ih =>
    rw [flatR]
    refine List.pairwise_append.2 ⟨ih hr.tail (fun c hc => he c (List.mem_cons_of_mem _ hc)), band_dis (he b (List.mem_cons_self ..)).1, ?_⟩
    intro r hr' q hq x z hh
    obtain ⟨c, hc, s, _, rfl⟩ := flatR_mem hr'
    obtain ⟨h3, _, _⟩ := bandR_mem hq
    have h1 := hasB_true.1 hh.1
    have h2 := hasB_true.1 hh.2
    have := hr.below c hc
    simp only at h1 h2
    omega
theorem regP_nodup {l : List Rect} {F : Int → Int → Bool} (h : IsReg l F) : (regP l).Nodup := by
  obtain ⟨bs, h1, rfl, _⟩ := h
  unfold regP
  refine List.pairwise_flatMap.2 ⟨fun r _ => rectP_nodup _ _, List.Pairwise.imp ?_ (flat_dis h1)⟩
  intro r s hd p hp q hq e
  subst e
  exact hd p.1 p.2 ⟨rectP_mem.1 hp, rectP_mem.1 hq⟩
end Go.Proofs.YtlfahohbkgdabaaGreat
namespace Go.Proofs.YtlfahohbkgdabaaGreat
open Go Go.RowKit
theorem clip_mono {a b : Int} (h : a ≤ b) : clip a ≤ clip b := by unfold clip; omega
theorem partI_mono {p q : Int} (t : Int) (h : p ≤ q) : partI p t ≤ partI q t := by
  have h1 := Int.mul_le_mul_of_nonneg_right (clip_mono h) (clip_range t).1
  unfold partI; omega
theorem mayB_iff {c : Int} : mayB c = true ↔ pr c ≤ pa c ∧ pg c ≤ pa c ∧ pb c ≤ pa c := by simp [mayB, and_assoc]
theorem mayB_mk {a r g b : Int} (h1 : r ≤ a) (h2 : g ≤ a) (h3 : b ≤ a) : mayB (mkC a r g b) = true := by
  obtain ⟨e1, e2, e3, e4⟩ := parts_mk a r g b
  rw [mayB_iff, e1, e2, e3, e4]
  exact ⟨clip_mono h1, clip_mono h2, clip_mono h3⟩
theorem overC_may {c d : Int} (hc : mayB c = true) (hd : mayB d = true) : mayB (overC c d) = true := by
  obtain ⟨h1, h2, h3⟩ := mayB_iff.1 hc
  obtain ⟨g1, g2, g3⟩ := mayB_iff.1 hd
  have e1 := partI_mono (255 - pa c) g1
  have e2 := partI_mono (255 - pa c) g2
  have e3 := partI_mono (255 - pa c) g3
  exact mayB_mk (by omega) (by omega) (by omega)
theorem fadeC_may {c : Int} (al : Int) (hc : mayB c = true) : mayB (fadeC c al) = true := by
  obtain ⟨h1, h2, h3⟩ := mayB_iff.1 hc
  exact mayB_mk (partI_mono al h1) (partI_mono al h2) (partI_mono al h3)
theorem mayB_zero : mayB 0 = true := by decide
theorem atC_may {W H : Int} {px : List Int} (h : AllMay px) (x y : Int) : mayB (atC W H px x y) = true ∧ InC (atC W H px x y) := by
  unfold atC
  split
  · rw [List.getD_eq_getElem?_getD]
    cases e : px[(y * W + x).toNat]? with
    | none => exact ⟨mayB_zero, by decide, by decide⟩
    | some c => exact h c (List.mem_of_getElem? e)
  · exact ⟨mayB_zero, by decide, by decide⟩
def ColF (f : Int → Int → Int) : Prop := ∀ x y, mayB (f x y) = true ∧ InC (f x y)
theorem pcolC_may {px : List Int} (h : AllMay px) (W H X Y s al a b c d : Int) : ColF (pcolC W H X Y s al a b c d px) := by
  intro x y
  unfold pcolC
  split
  · exact ⟨fadeC_may _ (atC_may h _ _).1, fadeC_in _ _⟩
  · exact ⟨mayB_zero, by decide, by decide⟩
theorem pcolC_in (px : List Int) (W H X Y s al a b c d x y : Int) : InC (pcolC W H X Y s al a b c d px x y) := by
  unfold pcolC
  split
  · exact fadeC_in _ _
  · exact ⟨by decide, by decide⟩
def drawF (W H : Int) (f : Int → Int → Int) (px : List Int) (ps : List (Int × Int)) : List Int := ps.foldl (fun l p => setL W H l p.1 p.2 (overC (f p.1 p.2) (atC W H l p.1 p.2))) px
theorem drawF_snoc (W H : Int) (f : Int → Int → Int) (px : List Int) (ps : List (Int × Int)) (p : Int × Int) : drawF W H f px (ps ++ [p]) = setL W H (drawF W H f px ps) p.1 p.2 (overC (f p.1 p.2) (atC W H (drawF W H f px ps) p.1 p.2)) := by simp [drawF]
theorem ImgOk.drawF {W H : Int} {n : Nat} {px : List Int} (h : ImgOk W H n px) (f : Int → Int → Int) (ps : List (Int × Int)) : ImgOk W H n (drawF W H f px ps) := by
  induction ps generalizing px with
  | nil => exact h
  | cons p ps ih => exact ih (h.setL _ _ (overC_in _ _))
theorem setL_may {W H : Int} {px : List Int} (h : AllMay px) (x y : Int) {c : Int} (hc : InC c) : AllMay (setL W H px x y c) := by
  unfold setL
  split
  · rename_i hh
    intro q hq
    rcases List.mem_or_eq_of_mem_set hq with hq | rfl
    · exact h q hq
    · exact ⟨(Bool.and_eq_true_iff.1 hh).2, hc⟩
  · exact h
theorem pt_eq {W : Int} {p : Int × Int} {k : Nat} (h1 : 0 ≤ p.1) (h2 : p.1 < W) (h3 : 0 ≤ p.2) (e : (p.2 * W + p.1).toNat = k) : p = (((k : Nat) : Int) % W, ((k : Nat) : Int) / W) := by
  have h4 : 0 ≤ p.2 * W := Int.mul_nonneg h3 (by omega)
  have h5 : ((k : Nat) : Int) = p.1 + p.2 * W := by omega
  refine Prod.ext ?_ ?_
  · simp only; rw [h5, Int.add_mul_emod_self_right, Int.emod_eq_of_lt h1 h2]
  · simp only; rw [h5, Int.add_mul_ediv_right _ _ (by omega), Int.ediv_eq_zero_of_lt h1 h2]; omega
theorem drawF_get {W H : Int} {n : Nat} {f : Int → Int → Int} (hf : ColF f) : ∀ {ps : List (Int × Int)} {px : List Int}, ImgOk W H n px → AllMay px → ps.Nodup → (∀ p ∈ ps, 0 ≤ p.1 ∧ p.1 < W ∧ 0 ≤ p.2 ∧ p.2 < H) → ∀ {k : Nat}, k < n →
    (drawF W H f px ps).getD k 0 = if ((((k : Nat) : Int) % W, ((k : Nat) : Int) / W) : Int × Int) ∈ ps then overC (f (((k : Nat) : Int) % W) (((k : Nat) : Int) / W)) (px.getD k 0) else px.getD k 0 := by
  intro ps
  induction ps with
  | nil => intro px _ _ _ _ k _; simp [drawF]
  | cons p ps ih =>
    intro px hok hm hnd hin k hk
    obtain ⟨h1, h2, h3, h4⟩ := hin p (List.mem_cons_self ..)
    have hin' : ∀ q ∈ ps, 0 ≤ q.1 ∧ q.1 < W ∧ 0 ≤ q.2 ∧ q.2 < H := fun q hq => hin q (List.mem_cons_of_mem _ hq)
    have hnp : p ∉ ps := (List.nodup_cons.1 hnd).1
    have hhas : hasB 0 0 W H p.1 p.2 = true := hasB_true.2 ⟨h1, h2, h3, h4⟩
    have hmay := overC_may (hf p.1 p.2).1 (atC_may (W := W) (H := H) hm p.1 p.2).1
    have hstep : setL W H px p.1 p.2 (overC (f p.1 p.2) (atC W H px p.1 p.2)) = px.set (p.2 * W + p.1).toNat (overC (f p.1 p.2) (px.getD (p.2 * W + p.1).toNat 0)) := by
      rw [setL, hhas, hmay, Bool.and_self, if_pos rfl]
      rw [atC, hhas, if_pos rfl]
    show (drawF W H f (setL W H px p.1 p.2 (overC (f p.1 p.2) (atC W H px p.1 p.2))) ps).getD k 0 = _
    rw [ih (hok.setL _ _ (overC_in _ _)) (setL_may hm _ _ (overC_in _ _)) (List.nodup_cons.1 hnd).2 hin' hk, hstep]
    have hpl := hok.place h1 h2 h3 h4
    by_cases e : (p.2 * W + p.1).toNat = k
    · have hp := pt_eq h1 h2 h3 e
      rw [← hp, if_neg hnp, if_pos (List.mem_cons_self ..), ← e]
      rw [hp] at hnp
      have hlt : (p.2 * W + p.1).toNat < px.length := by rw [hok.len]; omega
      have e1 : f (((k : Nat) : Int) % W) (((k : Nat) : Int) / W) = f p.1 p.2 := by rw [show ((k : Nat) : Int) % W = p.1 from (congrArg Prod.fst hp).symm, show ((k : Nat) : Int) / W = p.2 from (congrArg Prod.snd hp).symm]
      rw [e, e1, ← e]
      simp [List.getD_eq_getElem?_getD, hlt]
    · have hne : p ≠ (((k : Nat) : Int) % W, ((k : Nat) : Int) / W) := by
        intro hp
        apply e
        have q1 := congrArg Prod.fst hp
        have q2 := congrArg Prod.snd hp
        simp only at q1 q2
        have := Int.emod_add_mul_ediv (k : Int) W
        rw [q1, q2, Int.mul_comm]
        omega
      have hmem : (((((k : Nat) : Int) % W, ((k : Nat) : Int) / W) : Int × Int) ∈ p :: ps) ↔ (((((k : Nat) : Int) % W, ((k : Nat) : Int) / W) : Int × Int) ∈ ps) := by
        rw [List.mem_cons]
        exact ⟨fun h => h.resolve_left (fun h => hne h.symm), .inr⟩
      have hg : (px.set (p.2 * W + p.1).toNat (overC (f p.1 p.2) (px.getD (p.2 * W + p.1).toNat 0))).getD k 0 = px.getD k 0 := by
        rw [List.getD_eq_getElem?_getD, List.getElem?_set_ne e, ← List.getD_eq_getElem?_getD]
      rw [hg]
      by_cases hq : ((((k : Nat) : Int) % W, ((k : Nat) : Int) / W) : Int × Int) ∈ ps
      · rw [if_pos hq, if_pos (hmem.2 hq)]
      · rw [if_neg hq, if_neg (fun h => hq (hmem.1 h))]
def drawL (W : Int) (R : List Rect) (f : Int → Int → Int) (px : List Int) : List Int := (List.range px.length).map fun k => if hasL R (((k : Nat) : Int) % W) (((k : Nat) : Int) / W) then overC (f (((k : Nat) : Int) % W) (((k : Nat) : Int) / W)) (px.getD k 0) else px.getD k 0
theorem drawL_length (W : Int) (R : List Rect) (f : Int → Int → Int) (px : List Int) : (drawL W R f px).length = px.length := by simp [drawL]
theorem drawL_get {W : Int} {R : List Rect} {f : Int → Int → Int} {px : List Int} {k : Nat} (h : k < px.length) : (drawL W R f px).getD k 0 = if hasL R (((k : Nat) : Int) % W) (((k : Nat) : Int) / W) then overC (f (((k : Nat) : Int) % W) (((k : Nat) : Int) / W)) (px.getD k 0) else px.getD k 0 := by
  simp [drawL, List.getD_eq_getElem?_getD, h]
theorem list_getD_ext {a b : List Int} (hl : a.length = b.length) (h : ∀ k, k < a.length → a.getD k 0 = b.getD k 0) : a = b := by
  refine List.ext_getElem hl (fun k h1 h2 => ?_)
  have := h k h1
  simpa [List.getD_eq_getElem?_getD, h1, h2] using this
def OnImg (W H : Int) (R : List Rect) : Prop := ∀ x y, hasL R x y = true → 0 ≤ x ∧ x < W ∧ 0 ≤ y ∧ y < H
theorem drawF_eq {W H : Int} {n : Nat} {px : List Int} {R : List Rect} {F f : Int → Int → _} (hR : IsReg R F) (hin : OnImg W H R) (hok : ImgOk W H n px) (hm : AllMay px) (hf : ColF f) : drawF W H f px (regP R) = drawL W R f px := by
  have hl := (hok.drawF f (regP R)).len
  refine list_getD_ext (by rw [hl, drawL_length, hok.len]) (fun k hk => ?_)
  rw [hl] at hk
  rw [drawF_get hf hok hm (regP_nodup hR) (fun p hp => hin _ _ (regP_mem.1 hp)) hk, drawL_get (by rw [hok.len]; exact hk)]
  by_cases h : hasL R (((k : Nat) : Int) % W) (((k : Nat) : Int) / W) = true
  · rw [if_pos h, if_pos (regP_mem.2 h)]
  · rw [if_neg h, if_neg (fun hh => h (regP_mem.1 hh))]
def cntL (W : Int) (n : Nat) (R : List Rect) : Nat := ((List.range n).filter fun k => hasL R (((k : Nat) : Int) % W) (((k : Nat) : Int) / W)).length
theorem cntL_le (W : Int) (n : Nat) (R : List Rect) : cntL W n R ≤ n := by
  have := List.length_filter_le (fun k => hasL R (((k : Nat) : Int) % W) (((k : Nat) : Int) / W)) (List.range n)
  simpa [cntL] using this
theorem nodup_len_le {α : Type} [DecidableEq α] : ∀ {a b : List α}, a.Nodup → (∀ x ∈ a, x ∈ b) → a.length ≤ b.length := by
  intro a
  induction a with
  | nil => intro b _ _; simp
  | cons x a ih =>
    intro b hn hs
    have hx : x ∈ b := hs x (List.mem_cons_self ..)
    have h1 := ih (b := b.erase x) (List.nodup_cons.1 hn).2 (fun y hy => by
      refine (List.mem_erase_of_ne ?_).2 (hs y (List.mem_cons_of_mem _ hy))
      intro e; subst e; exact (List.nodup_cons.1 hn).1 hy)
    have h2 := List.length_erase_of_mem hx
    have h3 := List.length_pos_of_mem hx
    simp only [List.length_cons]
    omega
theorem regP_len {W H : Int} {n : Nat} {R : List Rect} {F : Int → Int → Bool} (hR : IsReg R F) (hin : OnImg W H R) (hW : 1 ≤ W) (hn : (n : Int) = W * H) : (regP R).length = cntL W n R := by
  have e : cntL W n R = (((List.range n).filter fun k => hasL R (((k : Nat) : Int) % W) (((k : Nat) : Int) / W)).map fun k : Nat => ((((k : Nat) : Int) % W, ((k : Nat) : Int) / W) : Int × Int)).length := by simp [cntL]
  rw [e]
  refine Nat.le_antisymm (nodup_len_le (regP_nodup hR) ?_) (nodup_len_le ?_ ?_)
  · intro p hp
    have hh := regP_mem.1 hp
    obtain ⟨h1, h2, h3, h4⟩ := hin _ _ hh
    have h5 : 0 ≤ p.2 * W := Int.mul_nonneg h3 (by omega)
    have h6 : (p.2 + 1) * W ≤ H * W := Int.mul_le_mul_of_nonneg_right (by omega) (by omega)
    have h7 : (p.2 + 1) * W = p.2 * W + W := by rw [Int.add_mul]; omega
    have h8 : H * W = (n : Int) := by rw [hn, Int.mul_comm]
    have hp2 := pt_eq (k := (p.2 * W + p.1).toNat) h1 h2 h3 rfl
    refine List.mem_map.2 ⟨(p.2 * W + p.1).toNat, List.mem_filter.2 ⟨List.mem_range.2 (by omega), ?_⟩, hp2.symm⟩
    rw [← show p.1 = ((((p.2 * W + p.1).toNat : Nat) : Int) % W) from congrArg Prod.fst hp2, ← show p.2 = ((((p.2 * W + p.1).toNat : Nat) : Int) / W) from congrArg Prod.snd hp2]
    exact hh
  · refine List.pairwise_map.2 (List.Pairwise.imp ?_ (List.Pairwise.filter _ (List.nodup_range (n := n))))
    intro a b hab h
    have h1 := Int.emod_add_mul_ediv (a : Int) W
    have h2 := Int.emod_add_mul_ediv (b : Int) W
    have h3 := congrArg Prod.fst h
    have h4 := congrArg Prod.snd h
    simp only at h3 h4
    rw [h3, h4] at h1
    omega
  · intro p hp
    obtain ⟨k, hk, rfl⟩ := List.mem_map.1 hp
    exact regP_mem.2 (List.mem_filter.1 hk).2
theorem reg_in {R : List Rect} {F : Int → Int → Bool} {W H : Int} (hR : IsReg R F) (hin : OnImg W H R) : ∀ r ∈ R, 0 ≤ r.x0 ∧ r.x0 < r.x1 ∧ r.x1 ≤ W ∧ 0 ≤ r.y0 ∧ r.y0 < r.y1 ∧ r.y1 ≤ H := by
  intro r hr
  obtain ⟨bs, h1, e, _⟩ := hR
  subst e
  obtain ⟨b, hb, s, hs, rfl⟩ := flatR_mem hr
  have g1 := h1.runs.lt b hb
  have g2 := (h1.each b hb).1.lt s hs
  have k1 := hin s.1 b.1 (List.any_eq_true.2 ⟨_, hr, hasB_true.2 ⟨by simp only; omega, by simp only; omega, by simp only; omega, by simp only; omega⟩⟩)
  have k2 := hin (s.2.1 - 1) (b.2.1 - 1) (List.any_eq_true.2 ⟨_, hr, hasB_true.2 ⟨by simp only; omega, by simp only; omega, by simp only; omega, by simp only; omega⟩⟩)
  simp only
  omega
theorem hasL_of_pre {R : List Rect} {pre : List (Int × Int)} {x y : Int} (h : pre ++ [(x, y)] <+: regP R) : hasL R x y = true := by
  obtain ⟨t, ht⟩ := h
  exact regP_mem (p := (x, y)).1 (by rw [← ht]; simp)
theorem pre_len {R : List Rect} {pre : List (Int × Int)} {p : Int × Int} {k : Nat} (h : pre ++ [p] <+: regP R) (hl : (regP R).length = k) : pre.length < k := by
  have := h.length_le
  rw [hl] at this
  simp at this
  omega
theorem onImg_and {W H : Int} (a : List Rect) {b : List Rect} (hb : OnImg W H b) : OnImg W H (regM andB a b) := fun x y h => hb x y (by rw [hasL_and] at h; exact (Bool.and_eq_true_iff.1 h).2)
theorem onImg_can {W H : Int} {b : List Rect} (hb : OnImg W H b) : OnImg W H (canR b) := fun x y h => hb x y (by rw [← hasL_can]; exact h)
theorem onImg_one {W H : Int} {r : Rect} (h : 0 ≤ r.x0 ∧ r.x1 ≤ W ∧ 0 ≤ r.y0 ∧ r.y1 ≤ H) : OnImg W H [r] := fun x y hh => by
  have := hasB_true.1 (show hasB r.x0 r.y0 r.x1 r.y1 x y = true by simpa [hasL] using hh)
  omega
theorem onImg_cut {W H a b c d : Int} (l : List Rect) (hW : 1 ≤ W) (hH : 1 ≤ H) : OnImg W H (regM andB l (canR [cutR a b c d 0 0 W H])) :=
  onImg_and _ (onImg_can (onImg_one (by obtain ⟨h1, h2, h3, h4, h5, h6⟩ := cut_in a b c d hW hH; exact ⟨h1, h3, h4, h6⟩)))
theorem r64_of {W H : Int} {r : Rect} (h : 0 ≤ r.x0 ∧ r.x0 < r.x1 ∧ r.x1 ≤ W ∧ 0 ≤ r.y0 ∧ r.y0 < r.y1 ∧ r.y1 ≤ H) (hW : W ≤ 256) (hH : H ≤ 256) : R64 r := ⟨by omega, by omega, by omega, by omega⟩
theorem run_eqPtrNe {P : Program} {t te : TypeId} {x y : Operand} {sz : Nat} {a b : Nat} {ca cb : List Value} {ta tb : TypeId} (hp : P.underlying t = some (.pointer te)) (hte : (P.info? te).map (·.size) = some sz) (hsz : sz ≠ 0) {w : World} (hne : a ≠ b)
    (ha : w.heap[a]? = some (.cells ca.toArray ta (0, 0))) (hb : w.heap[b]? = some (.cells cb.toArray tb (0, 0))) : (bopS .eql t x y (.pointer (some ⟨a, 0, none⟩)) (.pointer (some ⟨b, 0, none⟩))).run P w = .ok (.bool false) w := by
  obtain ⟨j, hj, hs⟩ := Option.map_eq_some_iff.1 hte
  have h := run_eql_ptr_other (P := P) w (a := ⟨a, 0, none⟩) (b := ⟨b, 0, none⟩) hp hj (by rw [hs]; exact hsz) (fun e => hne (congrArg Addr.block e)) ha hb
  unfold bopS
  rw [Sem.run_bind]
  have g : (eqGuard .eql t x y (.pointer (some ⟨a, 0, none⟩)) (.pointer (some ⟨b, 0, none⟩))).run P w = .ok () w := by
    simp [eqGuard]
  rw [g]
  exact h
end Go.Proofs.YtlfahohbkgdabaaGreat
namespace Go.Proofs.YtlfahohbkgdabaaGreat
open Go Go.RowKit
set_option maxRecDepth 100000
set_option maxHeartbeats 8000000
theorem ptsIter0 (kb : Nat) (A : Option Addr) (g o n cap : Nat) (xs : List Rect) (hm : n ≤ 9223372036854775807) (hx : ∀ r ∈ xs, R64 r) (w0 : World) {β : Type} (Inv : List (Int × Int) → β → Prop) (Tr : β → List Ent) (Jx : World → Prop) (l_ : Nat) (e1 e2 : Ent) (w : World) (b0 : β) (hJx : ∀ w w', Jx w → Below w.heap.size w w' → Jx w') (hY : ∀ pre x b W1 z, (z.wr = true → z.own = true) → Inv pre b → pre ++ [x] <+: regP xs → Tab w0 W1 (z :: e1 :: e2 :: (.ro kb [.slice A n cap] 23) :: (rD (A) g o n 4 (rvals xs)) :: (Tr b)) → YieldAt Fence.wide 0 Tryz.prog l_ #[iQ x.1, iQ x.2] W1 fun e W' => (e = .returned (.bool true) ∧ ∃ b', Inv (pre ++ [x]) b' ∧ Tab w0 W' (z :: e1 :: e2 :: (.ro kb [.slice A n cap] 23) :: (rD (A) g o n 4 (rvals xs)) :: (Tr b'))) ∨ (e = .returned (.bool false) ∧ Jx W')) (h0 : Inv [] b0) (hT0 : Tab w0 w (e1 :: e2 :: (.ro kb [.slice A n cap] 23) :: (rD (A) g o n 4 (rvals xs)) :: (Tr b0))) :
    Calls Tryz.prog 109 #[.func (.yield l_) #[] #[], pT kb] w fun e W' => (∃ v, e = .returned v) ∧ ((∃ xs_ b', xs_ = regP xs ∧ Inv xs_ b' ∧ Tab w0 W' (e1 :: e2 :: (.ro kb [.slice A n cap] 23) :: (rD (A) g o n 4 (rvals xs)) :: (Tr b'))) ∨ Jx W') := by
 obtain ⟨hra, hrl⟩ := Rd.factsR (hT0.ok 3 _ rfl)
 refine enterI 35 [(0, .func (.yield l_) #[] #[]), (1, .pointer (pB kb))] (e1 :: e2 :: (.ro kb [.slice A n cap] 23) :: (rD (A) g o n 4 (rvals xs)) :: (Tr b0)) Tryz.func109 rfl Tryz.ntmps109 rfl (by kernel_rfl) hT0 (fun _ h_ => by simp at h_) ?_
 refine mcont_seq ?_
 refine mcont_region 3 rfl (by kernel_rfl) ?_
 refine bD [2, 0, 0] 3 0 [(7, .slice A n cap), (8, iq (n : Int)), (9, iq 0)] [] <| zDN <| mcont_block ?_
 refine mcont_loop (α := Nat × β) (fun x_ : Nat × β => x_.1 ≤ n ∧ Inv (regP (xs.take x_.1)) x_.2) (fun x_ : Nat × β => [(0, .func (.yield l_) #[] #[]), (7, .slice A n cap), (8, iq (n : Int)), (9, iq (x_.1 : Int))]) (fun x_ : Nat × β => (e1 :: e2 :: (.ro kb [.slice A n cap] 23) :: (rD (A) g o n 4 (rvals xs)) :: (Tr x_.2))) (fun x_ : Nat × β => n - x_.1) (0, b0) (show (0) ≤ n ∧ Inv (regP (xs.take (0))) (b0) from ⟨by omega, by simpa [regP] using h0⟩) (by kernel_rfl) (by kernel_rfl) ?_
 rintro ⟨i, b⟩ hinv1_
 replace hinv1_ : i ≤ n ∧ Inv (regP (xs.take i)) b := hinv1_
 obtain ⟨hi, hI⟩ := hinv1_
 refine mcont_seq ?_
 refine mcont_region 1 rfl (by kernel_rfl) ?_
 refine bD [0] 1 0 [(10, .bool (decide ((i : Int) < (n : Int))))] [] <| zDN <| mcont_seq ?_
 refine sD 10 rfl (fun c2_ => ?_) fun c2_ => ?_
 ·
  refine mcont_true rfl ?_
  refine mcont_skip ?_
  refine zN <| mcont_seq ?_
  refine mcont_block ?_
  refine mcont_seq ?_
  refine mcont_region 4 rfl (by kernel_rfl) ?_
  refine pS 1 3 <| rC 7 (.slice (some ⟨g, o, none⟩) n cap) rfl (by rw [hra (by omega)]) <| sS 11 (Instr.indexAt 23 (.slice (some ⟨g, o, none⟩) n cap) (iq (i : Int))) (.pointer (some ⟨g, o + i * 4, none⟩)) (fun w hT => rI 32 4 w) <| pS 2 2 <| sS 12 (Instr.loadAt 32 (.pointer (some ⟨g, o + i * 4, none⟩))) (.agg #[iq ((rget xs i).x0), iq ((rget xs i).y0), iq ((rget xs i).x1), iq ((rget xs i).y1)]) (fun w hT => rM 4 (rcells (rget xs i)) (Rd.rect (hT.ok 3 _ rfl) (by omega))) <| bW [0, 0] 4 0 (fun b3 => [(0, .func (.yield l_) #[] #[]), (4, .pointer (pB b3)), (7, .slice (some ⟨g, o, none⟩) n cap), (8, iq (n : Int)), (9, iq (i : Int))]) (fun b3 => ((.cells b3 [iq ((rget xs i).x0), iq ((rget xs i).y0), iq ((rget xs i).x1), iq ((rget xs i).y1)] 32 true) :: e1 :: e2 :: (.ro kb [.slice A n cap] 23) :: (rD (A) g o n 4 (rvals xs)) :: (Tr b))) [0, 4, 7, 8, 9] fun b3 => ?_
  refine zDN <| mcont_seq ?_
  refine mcont_region 3 rfl (by kernel_rfl) ?_
  generalize hq : rget xs i = q
  have hq64 := hx (rget xs i) (rget_mem (by omega))
  rw [hq] at hq64
  obtain ⟨⟨hq0, hq1⟩, ⟨hq2, hq3⟩, ⟨hq4, hq5⟩, ⟨hq6, hq7⟩⟩ := hq64
  refine bD [0, 0, 0] 3 0 [(5, iq q.y0)] [13, 14] <| zDN <| mcont_block ?_
  refine rC 5 (iq (q.y0 + ((0 : Nat) : Int))) rfl (congrArg (Value.int .i64) (by omega)) <| mcont_loop (α := Nat × β) (fun x_ : Nat × β => x_.1 ≤ Int.toNat (q.y1 - q.y0) ∧ Inv (regP (xs.take i) ++ rectP q x_.1) x_.2) (fun x_ : Nat × β => [(0, .func (.yield l_) #[] #[]), (4, .pointer (pB b3)), (5, iq (q.y0 + ((x_.1 : Nat) : Int))), (7, .slice (some ⟨g, o, none⟩) n cap), (8, iq (n : Int)), (9, iq (i : Int))]) (fun x_ : Nat × β => ((.cells b3 [iq q.x0, iq q.y0, iq q.x1, iq q.y1] 32 true) :: e1 :: e2 :: (.ro kb [.slice A n cap] 23) :: (rD (A) g o n 4 (rvals xs)) :: (Tr x_.2))) (fun x_ : Nat × β => Int.toNat (q.y1 - q.y0) - x_.1) (0, b) (show (0) ≤ Int.toNat (q.y1 - q.y0) ∧ Inv (regP (xs.take i) ++ rectP q (0)) (b) from ⟨by omega, by simpa [rectP] using hI⟩) (by kernel_rfl) (by kernel_rfl) ?_
  rintro ⟨j, b⟩ hinv4_
  replace hinv4_ : j ≤ Int.toNat (q.y1 - q.y0) ∧ Inv (regP (xs.take i) ++ rectP q j) b := hinv4_
  obtain ⟨hj, hI⟩ := hinv4_
  refine mcont_seq ?_
  refine mcont_seq ?_
  refine mcont_region 4 rfl (by kernel_rfl) ?_
  refine bD [0, 0, 0, 0] 4 0 [(18, .bool (decide ((q.y0 + ((j : Nat) : Int)) < q.y1)))] [15, 16, 17] <| zDN <| sD 18 rfl (fun c5_ => ?_) fun c5_ => ?_
  ·
   refine mcont_true rfl ?_
   refine mcont_skip ?_
   refine zN <| mcont_seq ?_
   refine mcont_block ?_
   refine mcont_seq ?_
   refine mcont_region 3 rfl (by kernel_rfl) ?_
   refine bD [0, 0, 0] 3 0 [(6, iq q.x0)] [21, 22] <| zDN <| mcont_block ?_
   refine rC 6 (iq (q.x0 + ((0 : Nat) : Int))) rfl (congrArg (Value.int .i64) (by omega)) <| mcont_loop (α := Nat × β) (fun x_ : Nat × β => x_.1 ≤ Int.toNat (q.x1 - q.x0) ∧ Inv (regP (xs.take i) ++ rectP q j ++ rowP (q.y0 + ((j : Nat) : Int)) q.x0 x_.1) x_.2) (fun x_ : Nat × β => [(0, .func (.yield l_) #[] #[]), (4, .pointer (pB b3)), (5, iq (q.y0 + ((j : Nat) : Int))), (6, iq (q.x0 + ((x_.1 : Nat) : Int))), (7, .slice (some ⟨g, o, none⟩) n cap), (8, iq (n : Int)), (9, iq (i : Int))]) (fun x_ : Nat × β => ((.cells b3 [iq q.x0, iq q.y0, iq q.x1, iq q.y1] 32 true) :: e1 :: e2 :: (.ro kb [.slice A n cap] 23) :: (rD (A) g o n 4 (rvals xs)) :: (Tr x_.2))) (fun x_ : Nat × β => Int.toNat (q.x1 - q.x0) - x_.1) (0, b) (show (0) ≤ Int.toNat (q.x1 - q.x0) ∧ Inv (regP (xs.take i) ++ rectP q j ++ rowP (q.y0 + ((j : Nat) : Int)) q.x0 (0)) (b) from ⟨by omega, by simpa [rowP] using hI⟩) (by kernel_rfl) (by kernel_rfl) ?_
   rintro ⟨k, b⟩ hinv6_
   replace hinv6_ : k ≤ Int.toNat (q.x1 - q.x0) ∧ Inv (regP (xs.take i) ++ rectP q j ++ rowP (q.y0 + ((j : Nat) : Int)) q.x0 k) b := hinv6_
   obtain ⟨hk, hI⟩ := hinv6_
   refine mcont_seq ?_
   refine mcont_seq ?_
   refine mcont_region 4 rfl (by kernel_rfl) ?_
   refine bD [0, 0, 0, 0] 4 0 [(26, .bool (decide ((q.x0 + ((k : Nat) : Int)) < q.x1)))] [23, 24, 25] <| zDN <| sD 26 rfl (fun c7_ => ?_) fun c7_ => ?_
   ·
    refine mcont_true rfl ?_
    refine mcont_skip ?_
    refine zN <| mcont_seq ?_
    refine mcont_block ?_
    refine mcont_seq ?_
    refine icont_region 5 rfl ?_
    refine pli_ops 3 2 3 rfl rfl (by kernel_rfl) ?_
    refine bD [0, 0, 0] 3 0 [(29, .func (.yield l_) #[] #[]), (30, iq (q.x0 + ((k : Nat) : Int))), (31, iq (q.y0 + ((j : Nat) : Int)))] [] <| zDN <| pli_yield 32 4 1 rfl rfl (by kernel_rfl) (by kernel_rfl) (R := fun v_ w_ => (v_ = .bool true ∧ ∃ b_, Inv (regP (xs.take i) ++ rectP q j ++ rowP (q.y0 + ((j : Nat) : Int)) q.x0 k ++ [(q.x0 + ((k : Nat) : Int), q.y0 + ((j : Nat) : Int))]) b_ ∧ Tab w0 w_ ((.cells b3 [iq q.x0, iq q.y0, iq q.x1, iq q.y1] 32 true) :: e1 :: e2 :: (.ro kb [.slice A n cap] 23) :: (rD (A) g o n 4 (rvals xs)) :: (Tr b_))) ∨ (v_ = .bool false ∧ Jx w_)) (fun w_ hT_ => YieldAt.weaken (hY (regP (xs.take i) ++ rectP q j ++ rowP (q.y0 + ((j : Nat) : Int)) q.x0 k) (q.x0 + ((k : Nat) : Int), q.y0 + ((j : Nat) : Int)) b w_ _ (fun _ => rfl) hI (pts_pre (by omega) hq (by omega) (by omega)) hT_) (fun e_ w_ h_ => by rcases h_ with ⟨rfl, hh_⟩ | ⟨rfl, hh_⟩; exact ⟨_, rfl, .inl ⟨rfl, hh_⟩⟩; exact ⟨_, rfl, .inr ⟨rfl, hh_⟩⟩)) ?_
    rintro a_ w_ v_ ha_ hf_ (⟨rfl, b, hI, hT_⟩ | ⟨rfl, hJ⟩)
    ·
     refine Cont.go ?_ ha_ hf_ hT_
     refine pli_ops 1 0 5 rfl rfl (by kernel_rfl) ?_
     refine bD [0] 5 0 [(33, .bool false)] [] <| zDN <| pli_done ?_
     refine zN <| mcont_false rfl ?_
     refine mcont_skip ?_
     refine blk_normal <| zN <| mcont_region 3 rfl (by kernel_rfl) ?_
     refine bD [0, 0] 2 1 [(28, iq (IntKind.i64.wrap ((q.x0 + ((k : Nat) : Int)) + 1)))] [27] <| wI 28 ((q.x0 + ((k : Nat) : Int)) + 1) <| bD [0] 3 0 [(6, iq ((q.x0 + ((k : Nat) : Int)) + 1))] [] <| zDN <| rC 6 (iq (q.x0 + ((k + 1 : Nat) : Int))) rfl (congrArg (Value.int .i64) (by omega)) <| cA (k + 1, b) (show (k + 1) ≤ Int.toNat (q.x1 - q.x0) ∧ Inv (regP (xs.take i) ++ rectP q j ++ rowP (q.y0 + ((j : Nat) : Int)) q.x0 (k + 1)) (b) from ⟨by omega, by rw [rowP_succ, ← List.append_assoc]; exact hI⟩)
    ·
     refine Cont.go ?_ ha_ hf_ (Tab.start w_)
     refine pli_ops 1 0 5 rfl rfl (by kernel_rfl) ?_
     refine bD [0] 5 0 [(33, .bool true)] [] <| zDN <| pli_done ?_
     refine zN <| mcont_true rfl ?_
     refine mcont_ret ?_
     refine blk_ret <| then_ret <| then_ret <| blk_ret <| blk_ret <| then_ret <| then_ret <| blk_ret <| blk_ret <| then_ret <| then_ret <| blk_ret ?_
     refine ret_none (.inl rfl) rfl (fun w hT => ?_)
     exact ⟨⟨_, rfl⟩, .inr (hJx _ _ hJ (hT.toBelow (fun i e h => by simp at h)))⟩
   refine mcont_false rfl ?_
   refine mcont_exit ?_
   refine then_exit <| then_exit <| blk_exit <| blk_normal <| zN <| mcont_region 3 rfl (by kernel_rfl) ?_
   refine bD [0, 0] 2 1 [(20, iq (IntKind.i64.wrap ((q.y0 + ((j : Nat) : Int)) + 1)))] [19] <| wI 20 ((q.y0 + ((j : Nat) : Int)) + 1) <| bD [0] 3 0 [(5, iq ((q.y0 + ((j : Nat) : Int)) + 1))] [] <| zDN <| rC 5 (iq (q.y0 + ((j + 1 : Nat) : Int))) rfl (congrArg (Value.int .i64) (by omega)) <| cA (j + 1, b) (show (j + 1) ≤ Int.toNat (q.y1 - q.y0) ∧ Inv (regP (xs.take i) ++ rectP q (j + 1)) (b) from ⟨by omega, by rw [← pts_row (k := k) (by omega)]; exact hI⟩)
  refine mcont_false rfl ?_
  refine mcont_exit ?_
  refine then_exit <| then_exit <| blk_exit <| blk_normal <| zN <| mcont_region 2 rfl (by kernel_rfl) ?_
  refine bD [0] 1 1 [(34, iq (IntKind.i64.wrap ((i : Int) + 1)))] [] <| wI 34 ((i : Int) + 1) <| fG 0 <| bD [0] 2 0 [(9, iq ((i : Int) + 1))] [] <| zDN <| rC 7 (.slice A n cap) rfl (by rw [hra (by omega)]) <| cA (i + 1, b) (show (i + 1) ≤ n ∧ Inv (regP (xs.take (i + 1))) (b) from ⟨by omega, by rw [← pts_rect (by omega) hq (j := j) (by omega)]; exact hI⟩)
 refine mcont_false rfl ?_
 refine mcont_exit ?_
 refine then_exit <| then_exit <| blk_exit ?_
 refine ret_none (.inr rfl) rfl (fun w hT => ?_)
 exact ⟨⟨_, rfl⟩, .inl ⟨_, b, rfl, (by have h9 := hI; rw [show i = n by omega, List.take_of_length_le (by omega)] at h9; exact h9), hT⟩⟩
theorem ptsIter (kb : Nat) (A : Option Addr) (g o n cap : Nat) (xs : List Rect) (hm : n ≤ 9223372036854775807) (hx : ∀ r ∈ xs, R64 r) (w0 : World) : IterC Tryz.prog 109 #[pT kb] (fun z_ : Int × Int => #[iQ z_.1, iQ z_.2]) w0 [.ro kb [.slice A n cap] 23, rD (A) g o n 4 (rvals xs)] (fun _ => []) (fun xs_ => xs_ = regP xs) (fun p_ => p_ <+: regP xs) :=
  fun Inv Tr Jx l e1 e2 W b0 hJx hY h0 hT => ptsIter0 kb A g o n cap xs hm hx w0 Inv Tr Jx l e1 e2 W b0 hJx hY h0 hT
theorem payPoints (A : Option Addr) (n cap : Nat) (w : World) :
    Calls Tryz.prog 88 #[.slice A n cap] w fun e w' => ∃ kb : Nat, e = .returned (.func (.func 109) #[] #[pT kb]) ∧ Tab w w' [.cells kb [.slice A n cap] 23 true] := by
 refine eN [(0, .slice A n cap)] Tryz.func88 Tryz.ntmps88 rfl (Tab.start w) ?_
 refine zSR 2 <| bW [0, 0] 2 0 (fun b1 => [(1, .pointer (pB b1))]) (fun b1 => [.cells b1 [.slice A n cap] 23 true]) [1] fun b1 => ?_
 refine zDNSR 2 <| bS [0, 0] 2 0 [(2, .func (.func 109) #[] #[.pointer (pB b1)])] <| zDNr <| rA rfl 0 (.func (.func 109) #[] #[.pointer (pB b1)]) fun w hT => ?_
 exact ⟨_, rfl, hT⟩
theorem payWithin (Az : Option Addr) (gz oz nz capz : Nat) (xsz : List Rect) (a b c d : Int) (w : World) (hT0 : Tab w w [rD (Az) gz oz nz 4 (rvals xsz)]) (hnz : nz ≤ 200000) (hcz : (canR xsz).length ≤ 200000) :
    Calls Tryz.prog 85 #[.slice Az nz capz, .agg #[iQ a, iQ b, iQ c, iQ d]] w fun e w' => ∃ (A_ : Option Addr) (g_ k_ cp_ : Nat), e = .returned (.slice A_ k_ cp_) ∧ Tab w w' [.gen (rowE (A_) g_ k_ cp_ 32 4 (rvals (regM andB (canR xsz) (canR [(⟨a, b, c, d⟩ : Rect)]))) true)] := by
 obtain ⟨hraz, hrlz⟩ := Rd.factsR (hT0.ok 0 _ rfl)
 have hcb_ := canR_small (l := [(⟨a, b, c, d⟩ : Rect)]) (by simp)
 refine eN [(0, .slice Az nz capz), (1, .agg #[iq a, iq b, iq c, iq d])] Tryz.func85 Tryz.ntmps85 rfl hT0 ?_
 refine zSR 2 <| bW [0, 0] 2 0 (fun b1 => [(0, .slice Az nz capz), (3, .pointer (pB b1))]) (fun b1 => [.cells b1 [iq a, iq b, iq c, iq d] 32 true, rD (Az) gz oz nz 4 (rvals xsz)]) [0, 3] fun b1 => ?_
 refine zDNS <| drawn_enter 7 [] rfl (by kernel_rfl) ?_
 refine tD 0 [] [(0, 0), (2, 0)] 5 [2, 0] [(5, .slice Az nz capz), (7, .agg #[iq a, iq b, iq c, iq d])] [] <| drawn_two 1 3 4 rfl (by kernel_rfl) ?_ ?_
 ·
  refine cG (d := 6) (α := Option Addr × Nat × Nat × Nat) (fun x_ => .slice x_.1 x_.2.2.1 x_.2.2.2) (fun x_ => [.gen (rowE (x_.1) x_.2.1 x_.2.2.1 x_.2.2.2 32 4 (rvals (canR xsz)) true), .cells b1 [iq a, iq b, iq c, iq d] 32 true, rD (Az) gz oz nz 4 (rvals xsz)]) (fun x_ => True) (fun w hT => (regOf Az gz oz nz capz xsz w (hT.viewRo (.cons (i := 1) rfl Vw.rd .nil) rfl) (by omega)).mono fun e w' ⟨A2, g3, k4, cp5, he_, ht_⟩ => ⟨(A2, g3, k4, cp5), he_, trivial, hT.news ht_ rfl⟩) ?_
  rintro ⟨A2, g3, k4, cp5⟩ hf6_
  refine fR 0 k4 A2 g3 cp5 (canR xsz) rfl fun hr7_a hr7_l hr7_c hr7_m => ?_
  refine dX 1 [] <| dO 3 3 <| one_step1 0 (fun b8 => [(6, .slice A2 k4 cp5), (8, .slice (pB b8) 1 1)]) (fun b8 => [.cells b8 [iq a, iq b, iq c, iq d] 32 true, .gen (rowE (A2) g3 k4 cp5 32 4 (rvals (canR xsz)) true), .cells b1 [iq a, iq b, iq c, iq d] 32 true, rD (Az) gz oz nz 4 (rvals xsz)]) (fun b8 => by kernel_rfl) (fun b8 => by kernel_rfl) (fun b8 => ?_)
  refine dX 2 [] <| dO 4 2 <| cont_asRow 0 1 4 rfl (vals := rvals [(⟨a, b, c, d⟩ : Rect)]) rfl rfl (by decide) ?_
  refine cG (d := 9) (α := Option Addr × Nat × Nat × Nat) (fun x_ => .slice x_.1 x_.2.2.1 x_.2.2.2) (fun x_ => [.gen (rowE (x_.1) x_.2.1 x_.2.2.1 x_.2.2.2 32 4 (rvals (canR [(⟨a, b, c, d⟩ : Rect)])) true), .gen (rowE (pB b8) b8 1 1 32 4 (rvals [(⟨a, b, c, d⟩ : Rect)]) true), .gen (rowE (A2) g3 k4 cp5 32 4 (rvals (canR xsz)) true), .cells b1 [iq a, iq b, iq c, iq d] 32 true, rD (Az) gz oz nz 4 (rvals xsz)]) (fun x_ => True) (fun w hT => (regOf (pB b8) b8 0 1 1 [(⟨a, b, c, d⟩ : Rect)] w (hT.viewRo (.cons (i := 0) rfl Vw.rowRd .nil) rfl) (by omega)).mono fun e w' ⟨A9, g10, k11, cp12, he_, ht_⟩ => ⟨(A9, g10, k11, cp12), he_, trivial, hT.news ht_ rfl⟩) ?_
  rintro ⟨A9, g10, k11, cp12⟩ hf13_
  refine fR 0 k11 A9 g10 cp12 (canR [(⟨a, b, c, d⟩ : Rect)]) rfl fun hr14_a hr14_l hr14_c hr14_m => ?_
  refine dX 3 [] <| dO 5 1 <| cG (d := 10) (α := Option Addr × Nat × Nat × Nat) (fun x_ => .slice x_.1 x_.2.2.1 x_.2.2.2) (fun x_ => [.gen (rowE (x_.1) x_.2.1 x_.2.2.1 x_.2.2.2 32 4 (rvals (regM andB (canR xsz) (canR [(⟨a, b, c, d⟩ : Rect)]))) true), .gen (rowE (A9) g10 k11 cp12 32 4 (rvals (canR [(⟨a, b, c, d⟩ : Rect)])) true), .gen (rowE (pB b8) b8 1 1 32 4 (rvals [(⟨a, b, c, d⟩ : Rect)]) true), .gen (rowE (A2) g3 k4 cp5 32 4 (rvals (canR xsz)) true), .cells b1 [iq a, iq b, iq c, iq d] 32 true, rD (Az) gz oz nz 4 (rvals xsz)]) (fun x_ => True) (fun w hT => (regCut A2 g3 0 k4 cp5 (canR xsz) A9 g10 0 k11 cp12 (canR [(⟨a, b, c, d⟩ : Rect)]) w (hT.viewRo (.cons (i := 2) rfl Vw.rowRd (.cons (i := 0) rfl Vw.rowRd .nil)) rfl) (by omega)).mono fun e w' ⟨A15, g16, k17, cp18, he_, ht_⟩ => ⟨(A15, g16, k17, cp18), he_, trivial, hT.news ht_ rfl⟩) ?_
  rintro ⟨A15, g16, k17, cp18⟩ hf19_
  refine fR 0 k17 A15 g16 cp18 (regM andB (canR xsz) (canR [(⟨a, b, c, d⟩ : Rect)])) rfl fun hr20_a hr20_l hr20_c hr20_m => ?_
  refine dX 4 [] <| tD 4 [] [(6, 0)] 0 [6, 5, 4, 3, 1, 2, 0] [(4, .slice A15 k17 cp18)] [] <| dD <| zNr <| rA rfl 0 (.slice A15 k17 cp18) fun w hT => ?_
  replace hT := hT.erase 5 (fun e h hw => by cases h; first | rfl | cases hw)
  replace hT := hT.erase 4 (fun e h hw => by cases h; first | rfl | cases hw)
  replace hT := hT.erase 3 (fun e h hw => by cases h; first | rfl | cases hw)
  replace hT := hT.erase 2 (fun e h hw => by cases h; first | rfl | cases hw)
  replace hT := hT.erase 1 (fun e h hw => by cases h; first | rfl | cases hw)
  exact ⟨_, _, _, _, rfl, hT⟩
 refine one_step1 0 (fun b21 => [(5, .slice Az nz capz), (8, .slice (pB b21) 1 1)]) (fun b21 => [.cells b21 [iq a, iq b, iq c, iq d] 32 true, .cells b1 [iq a, iq b, iq c, iq d] 32 true, rD (Az) gz oz nz 4 (rvals xsz)]) (fun b21 => by kernel_rfl) (fun b21 => by kernel_rfl) (fun b21 => ?_)
 refine dX 1 [] <| dO 1 3 <| cG (d := 6) (α := Option Addr × Nat × Nat × Nat) (fun x_ => .slice x_.1 x_.2.2.1 x_.2.2.2) (fun x_ => [.gen (rowE (x_.1) x_.2.1 x_.2.2.1 x_.2.2.2 32 4 (rvals (canR xsz)) true), .cells b21 [iq a, iq b, iq c, iq d] 32 true, .cells b1 [iq a, iq b, iq c, iq d] 32 true, rD (Az) gz oz nz 4 (rvals xsz)]) (fun x_ => True) (fun w hT => (regOf Az gz oz nz capz xsz w (hT.viewRo (.cons (i := 2) rfl Vw.rd .nil) rfl) (by omega)).mono fun e w' ⟨A22, g23, k24, cp25, he_, ht_⟩ => ⟨(A22, g23, k24, cp25), he_, trivial, hT.news ht_ rfl⟩) ?_
 rintro ⟨A22, g23, k24, cp25⟩ hf26_
 refine fR 0 k24 A22 g23 cp25 (canR xsz) rfl fun hr27_a hr27_l hr27_c hr27_m => ?_
 refine dX 2 [] <| dO 4 2 <| cont_asRow 1 1 4 rfl (vals := rvals [(⟨a, b, c, d⟩ : Rect)]) rfl rfl (by decide) ?_
 refine cG (d := 9) (α := Option Addr × Nat × Nat × Nat) (fun x_ => .slice x_.1 x_.2.2.1 x_.2.2.2) (fun x_ => [.gen (rowE (x_.1) x_.2.1 x_.2.2.1 x_.2.2.2 32 4 (rvals (canR [(⟨a, b, c, d⟩ : Rect)])) true), .gen (rowE (A22) g23 k24 cp25 32 4 (rvals (canR xsz)) true), .gen (rowE (pB b21) b21 1 1 32 4 (rvals [(⟨a, b, c, d⟩ : Rect)]) true), .cells b1 [iq a, iq b, iq c, iq d] 32 true, rD (Az) gz oz nz 4 (rvals xsz)]) (fun x_ => True) (fun w hT => (regOf (pB b21) b21 0 1 1 [(⟨a, b, c, d⟩ : Rect)] w (hT.viewRo (.cons (i := 1) rfl Vw.rowRd .nil) rfl) (by omega)).mono fun e w' ⟨A28, g29, k30, cp31, he_, ht_⟩ => ⟨(A28, g29, k30, cp31), he_, trivial, hT.news ht_ rfl⟩) ?_
 rintro ⟨A28, g29, k30, cp31⟩ hf32_
 refine fR 0 k30 A28 g29 cp31 (canR [(⟨a, b, c, d⟩ : Rect)]) rfl fun hr33_a hr33_l hr33_c hr33_m => ?_
 refine dX 3 [] <| dO 5 1 <| cG (d := 10) (α := Option Addr × Nat × Nat × Nat) (fun x_ => .slice x_.1 x_.2.2.1 x_.2.2.2) (fun x_ => [.gen (rowE (x_.1) x_.2.1 x_.2.2.1 x_.2.2.2 32 4 (rvals (regM andB (canR xsz) (canR [(⟨a, b, c, d⟩ : Rect)]))) true), .gen (rowE (A28) g29 k30 cp31 32 4 (rvals (canR [(⟨a, b, c, d⟩ : Rect)])) true), .gen (rowE (A22) g23 k24 cp25 32 4 (rvals (canR xsz)) true), .gen (rowE (pB b21) b21 1 1 32 4 (rvals [(⟨a, b, c, d⟩ : Rect)]) true), .cells b1 [iq a, iq b, iq c, iq d] 32 true, rD (Az) gz oz nz 4 (rvals xsz)]) (fun x_ => True) (fun w hT => (regCut A22 g23 0 k24 cp25 (canR xsz) A28 g29 0 k30 cp31 (canR [(⟨a, b, c, d⟩ : Rect)]) w (hT.viewRo (.cons (i := 1) rfl Vw.rowRd (.cons (i := 0) rfl Vw.rowRd .nil)) rfl) (by omega)).mono fun e w' ⟨A34, g35, k36, cp37, he_, ht_⟩ => ⟨(A34, g35, k36, cp37), he_, trivial, hT.news ht_ rfl⟩) ?_
 rintro ⟨A34, g35, k36, cp37⟩ hf38_
 refine fR 0 k36 A34 g35 cp37 (regM andB (canR xsz) (canR [(⟨a, b, c, d⟩ : Rect)])) rfl fun hr39_a hr39_l hr39_c hr39_m => ?_
 refine dX 4 [] <| tD 4 [] [(6, 0)] 0 [6, 5, 4, 1, 3, 2, 0] [(4, .slice A34 k36 cp37)] [] <| dD <| zNr <| rA rfl 0 (.slice A34 k36 cp37) fun w hT => ?_
 replace hT := hT.erase 5 (fun e h hw => by cases h; first | rfl | cases hw)
 replace hT := hT.erase 4 (fun e h hw => by cases h; first | rfl | cases hw)
 replace hT := hT.erase 3 (fun e h hw => by cases h; first | rfl | cases hw)
 replace hT := hT.erase 2 (fun e h hw => by cases h; first | rfl | cases hw)
 replace hT := hT.erase 1 (fun e h hw => by cases h; first | rfl | cases hw)
 exact ⟨_, _, _, _, rfl, hT⟩
theorem payDraw (m : Nat) (W H : Int) (r n cap : Nat) (px : List Int) (m' : Nat) (W' H' : Int) (r' n' cap' : Nat) (px' : List Int) (X Y s al ca cb cc cd : Int) (Az : Option Addr) (gz oz nz capz : Nat) (xsz : List Rect) (w : World) (hT0 : Tab w w [.ro m [iQ W, iQ H, sL r n cap] 116, .gen (rowE (some ⟨r, 0, none⟩) r n cap 52 1 (cV px) false), .ro m' [iQ W', iQ H', .slice (some ⟨r', 0, none⟩) n' cap'] 116, rD (some ⟨r', 0, none⟩) r' 0 n' 1 (cV px'), rD (Az) gz oz nz 4 (rvals xsz)]) (R : List Rect) (hR : R = regM andB (canR xsz) (canR [cutR (shwR W' H' X Y s ca cb cc cd).x0 (shwR W' H' X Y s ca cb cc cd).y0 (shwR W' H' X Y s ca cb cc cd).x1 (shwR W' H' X Y s ca cb cc cd).y1 0 0 W H])) (hne : m' ≠ m) (hcap : n ≤ cap) (hok : ImgOk W H n px) (hmay : AllMay px) (hcap' : n' ≤ cap') (hok' : ImgOk W' H' n' px') (hmay' : AllMay px') (hs : 1 ≤ s ∧ s ≤ 8) (hX : -1000000 ≤ X ∧ X ≤ 1000000) (hY : -1000000 ≤ Y ∧ Y ≤ 1000000) (hnz : nz ≤ 200000) (hcz : (canR xsz).length ≤ 200000) :
    Calls Tryz.prog 60 #[pT m, .agg #[.pointer (some ⟨m', 0, none⟩), iQ X, iQ Y, iQ s, iQ al, iQ ca, iQ cb, iQ cc, iQ cd], .slice Az nz capz] w fun e w' => e = .returned (iQ ((cntL W n R : Nat) : Int)) ∧ Tab w w' [.ro m [iQ W, iQ H, sL r n cap] 116, .gen (rowE (some ⟨r, 0, none⟩) r n cap 52 1 (cV (drawL W R (pcolC W' H' X Y s al ca cb cc cd px') px)) false), .ro m' [iQ W', iQ H', .slice (some ⟨r', 0, none⟩) n' cap'] 116, rD (some ⟨r', 0, none⟩) r' 0 n' 1 (cV px'), rD (Az) gz oz nz 4 (rvals xsz)] := by
 obtain ⟨hraz, hrlz⟩ := Rd.factsR (hT0.ok 4 _ rfl)
 have hOn : OnImg W H R := by rw [hR]; exact onImg_cut _ hok.w1 hok.h1
 have hReg : IsReg R (hasL R) := by rw [hR]; exact (regM_isReg rfl _ _).self
 have hR64 := fun r hr => r64_of (reg_in hReg hOn r hr) hok.w2 hok.h2
 have hRl := regP_len hReg hOn hok.w1 hok.num
 have hcl := cntL_le W n R
 have hle := hok.le
 have hf := pcolC_may hmay' W' H' X Y s al ca cb cc cd
 have hw1 := hok.w1
 have hw2 := hok.w2
 have hh1 := hok.h1
 have hh2 := hok.h2
 refine enterM 57 [(0, .pointer (pB m)), (1, .agg #[.pointer (some ⟨m', 0, none⟩), iq X, iq Y, iq s, iq al, iq ca, iq cb, iq cc, iq cd]), (2, .slice Az nz capz)] [.ro m [iq W, iq H, .slice (pB r) n cap] 116, .gen (rowE (pB r) r n cap 52 1 (cV px) false), .ro m' [iq W', iq H', .slice (some ⟨r', 0, none⟩) n' cap'] 116, rD (some ⟨r', 0, none⟩) r' 0 n' 1 (cV px'), rD (Az) gz oz nz 4 (rvals xsz)] Tryz.func60 rfl Tryz.ntmps60 rfl (by kernel_rfl) hT0 ?_
 refine zSR 3 <| batch2 [0, 0, 0] 3 0 (fun b1 b2 => [(2, .slice Az nz capz), (3, .pointer (pB b1)), (4, .pointer (pB b2))]) (fun b1 b2 => [.cells b2 [.pointer (some ⟨m', 0, none⟩), iq X, iq Y, iq s, iq al, iq ca, iq cb, iq cc, iq cd] 120 true, .cells b1 [.pointer (pB m)] 56 true, .ro m [iq W, iq H, .slice (pB r) n cap] 116, .gen (rowE (pB r) r n cap 52 1 (cV px) false), .ro m' [iq W', iq H', .slice (some ⟨r', 0, none⟩) n' cap'] 116, rD (some ⟨r', 0, none⟩) r' 0 n' 1 (cV px'), rD (Az) gz oz nz 4 (rvals xsz)]) rfl rfl [2, 3, 4] (fun _ _ => rfl) (fun b1 b2 => by kernel_rfl) (fun b1 b2 => by kernel_rfl) (fun b1 b2 => ?_)
 refine zDNSR 3 <| bW [0, 0, 0] 3 0 (fun b3 => [(2, .slice Az nz capz), (3, .pointer (pB b1)), (4, .pointer (pB b2)), (7, .pointer (pB b3))]) (fun b3 => [.cells b3 [.pointer (some ⟨m', 0, none⟩), iq X, iq Y, iq s, iq al, iq ca, iq cb, iq cc, iq cd] 120 true, .cells b2 [.pointer (some ⟨m', 0, none⟩), iq X, iq Y, iq s, iq al, iq ca, iq cb, iq cc, iq cd] 120 true, .cells b1 [.pointer (pB m)] 56 true, .ro m [iq W, iq H, .slice (pB r) n cap] 116, .gen (rowE (pB r) r n cap 52 1 (cV px) false), .ro m' [iq W', iq H', .slice (some ⟨r', 0, none⟩) n' cap'] 116, rD (some ⟨r', 0, none⟩) r' 0 n' 1 (cV px'), rD (Az) gz oz nz 4 (rvals xsz)]) [2, 3, 4, 7] fun b3 => ?_
 refine zDNSSR 4 <| bD [0, 1, 2] 3 1 [(17, .pointer (some ⟨m', 0, none⟩)), (18, .pointer (pB m))] [16] <| pS 4 0 <| sS 19 (bopS .eql 56 (.tmp 17) (.tmp 18) (.pointer (some ⟨m', 0, none⟩)) (.pointer (pB m))) (.bool false) (fun w hT => run_eqPtrNe (te := 116) (sz := 3) (by kernel_rfl) (by kernel_rfl) (by decide) hne (hT.ok 5 _ rfl) (hT.ok 3 _ rfl)) <| zDNFKNSR 2 <| bW [0, 0] 2 0 (fun b4 => [(2, .slice Az nz capz), (3, .pointer (pB b1)), (4, .pointer (pB b2)), (7, .pointer (pB b3)), (8, .pointer (pB b4))]) (fun b4 => [.cells b4 [iq 0] 3 true, .cells b3 [.pointer (some ⟨m', 0, none⟩), iq X, iq Y, iq s, iq al, iq ca, iq cb, iq cc, iq cd] 120 true, .cells b2 [.pointer (some ⟨m', 0, none⟩), iq X, iq Y, iq s, iq al, iq ca, iq cb, iq cc, iq cd] 120 true, .cells b1 [.pointer (pB m)] 56 true, .ro m [iq W, iq H, .slice (pB r) n cap] 116, .gen (rowE (pB r) r n cap 52 1 (cV px) false), .ro m' [iq W', iq H', .slice (some ⟨r', 0, none⟩) n' cap'] 116, rD (some ⟨r', 0, none⟩) r' 0 n' 1 (cV px'), rD (Az) gz oz nz 4 (rvals xsz)]) [2, 3, 4, 7, 8] fun b4 => ?_
 refine zDNS <| cSq <| drawn_enter 8 [] rfl (by kernel_rfl) ?_
 refine tD 0 [] [(0, 0), (1, 2), (3, 3)] 5 [3, 1, 0] [(23, .slice Az nz capz), (24, .agg #[.pointer (some ⟨m', 0, none⟩), iq X, iq Y, iq s, iq al, iq ca, iq cb, iq cc, iq cd]), (26, .pointer (pB m))] [] ?_ (hpo := (pok_then (pok_then pok_np)))
 refine dO 2 4 <| cP 25 (.agg #[iq ((shwR W' H' X Y s ca cb cc cd).x0), iq ((shwR W' H' X Y s ca cb cc cd).y0), iq ((shwR W' H' X Y s ca cb cc cd).x1), iq ((shwR W' H' X Y s ca cb cc cd).y1)]) (fun w hT => layBox m' W' H' r' n' cap' px' X Y s al ca cb cc cd w ⟨hT.ok 6 _ rfl, hT.ok 7 _ rfl, by omega⟩ hok') <| dX 0 [] <| dO 4 3 <| cP 27 (.agg #[iq 0, iq 0, iq W, iq H]) (fun w hT => imgBox m W H r n cap px  w ⟨hT.ok 4 _ rfl, Row.rd (hT.ok 5 _ rfl), Row.capLe (hT.ok 5 _ rfl)⟩ hok) <| dX 0 [] <| dO 5 2 <| cP 28 (.agg #[iq ((cutR ((shwR W' H' X Y s ca cb cc cd).x0) ((shwR W' H' X Y s ca cb cc cd).y0) ((shwR W' H' X Y s ca cb cc cd).x1) ((shwR W' H' X Y s ca cb cc cd).y1) 0 0 W H).x0), iq ((cutR ((shwR W' H' X Y s ca cb cc cd).x0) ((shwR W' H' X Y s ca cb cc cd).y0) ((shwR W' H' X Y s ca cb cc cd).x1) ((shwR W' H' X Y s ca cb cc cd).y1) 0 0 W H).y0), iq ((cutR ((shwR W' H' X Y s ca cb cc cd).x0) ((shwR W' H' X Y s ca cb cc cd).y0) ((shwR W' H' X Y s ca cb cc cd).x1) ((shwR W' H' X Y s ca cb cc cd).y1) 0 0 W H).x1), iq ((cutR ((shwR W' H' X Y s ca cb cc cd).x0) ((shwR W' H' X Y s ca cb cc cd).y0) ((shwR W' H' X Y s ca cb cc cd).x1) ((shwR W' H' X Y s ca cb cc cd).y1) 0 0 W H).y1)]) (fun w hT => rectCut ((shwR W' H' X Y s ca cb cc cd).x0) ((shwR W' H' X Y s ca cb cc cd).y0) ((shwR W' H' X Y s ca cb cc cd).x1) ((shwR W' H' X Y s ca cb cc cd).y1) 0 0 W H w) <| dX 0 [] <| dO 6 1 <| cG (d := 29) (α := Option Addr × Nat × Nat × Nat) (fun x_ => .slice x_.1 x_.2.2.1 x_.2.2.2) (fun x_ => [.gen (rowE (x_.1) x_.2.1 x_.2.2.1 x_.2.2.2 32 4 (rvals (regM andB (canR xsz) (canR [(⟨(cutR ((shwR W' H' X Y s ca cb cc cd).x0) ((shwR W' H' X Y s ca cb cc cd).y0) ((shwR W' H' X Y s ca cb cc cd).x1) ((shwR W' H' X Y s ca cb cc cd).y1) 0 0 W H).x0, (cutR ((shwR W' H' X Y s ca cb cc cd).x0) ((shwR W' H' X Y s ca cb cc cd).y0) ((shwR W' H' X Y s ca cb cc cd).x1) ((shwR W' H' X Y s ca cb cc cd).y1) 0 0 W H).y0, (cutR ((shwR W' H' X Y s ca cb cc cd).x0) ((shwR W' H' X Y s ca cb cc cd).y0) ((shwR W' H' X Y s ca cb cc cd).x1) ((shwR W' H' X Y s ca cb cc cd).y1) 0 0 W H).x1, (cutR ((shwR W' H' X Y s ca cb cc cd).x0) ((shwR W' H' X Y s ca cb cc cd).y0) ((shwR W' H' X Y s ca cb cc cd).x1) ((shwR W' H' X Y s ca cb cc cd).y1) 0 0 W H).y1⟩ : Rect)]))) true), .cells b4 [iq 0] 3 true, .cells b3 [.pointer (some ⟨m', 0, none⟩), iq X, iq Y, iq s, iq al, iq ca, iq cb, iq cc, iq cd] 120 true, .cells b2 [.pointer (some ⟨m', 0, none⟩), iq X, iq Y, iq s, iq al, iq ca, iq cb, iq cc, iq cd] 120 true, .cells b1 [.pointer (pB m)] 56 true, .ro m [iq W, iq H, .slice (pB r) n cap] 116, .gen (rowE (pB r) r n cap 52 1 (cV px) false), .ro m' [iq W', iq H', .slice (some ⟨r', 0, none⟩) n' cap'] 116, rD (some ⟨r', 0, none⟩) r' 0 n' 1 (cV px'), rD (Az) gz oz nz 4 (rvals xsz)]) (fun x_ => True) (fun w hT => (payWithin Az gz oz nz capz xsz ((cutR ((shwR W' H' X Y s ca cb cc cd).x0) ((shwR W' H' X Y s ca cb cc cd).y0) ((shwR W' H' X Y s ca cb cc cd).x1) ((shwR W' H' X Y s ca cb cc cd).y1) 0 0 W H).x0) ((cutR ((shwR W' H' X Y s ca cb cc cd).x0) ((shwR W' H' X Y s ca cb cc cd).y0) ((shwR W' H' X Y s ca cb cc cd).x1) ((shwR W' H' X Y s ca cb cc cd).y1) 0 0 W H).y0) ((cutR ((shwR W' H' X Y s ca cb cc cd).x0) ((shwR W' H' X Y s ca cb cc cd).y0) ((shwR W' H' X Y s ca cb cc cd).x1) ((shwR W' H' X Y s ca cb cc cd).y1) 0 0 W H).x1) ((cutR ((shwR W' H' X Y s ca cb cc cd).x0) ((shwR W' H' X Y s ca cb cc cd).y0) ((shwR W' H' X Y s ca cb cc cd).x1) ((shwR W' H' X Y s ca cb cc cd).y1) 0 0 W H).y1) w (hT.viewRo (.cons (i := 8) rfl Vw.rd .nil) rfl) hnz hcz).mono fun e w' ⟨A5, g6, k7, cp8, he_, ht_⟩ => ⟨(A5, g6, k7, cp8), he_, trivial, hT.news ht_ rfl⟩) ?_
 rintro ⟨A5, g6, k7, cp8⟩ hf9_
 refine fR 0 k7 A5 g6 cp8 (regM andB (canR xsz) (canR [(⟨(cutR ((shwR W' H' X Y s ca cb cc cd).x0) ((shwR W' H' X Y s ca cb cc cd).y0) ((shwR W' H' X Y s ca cb cc cd).x1) ((shwR W' H' X Y s ca cb cc cd).y1) 0 0 W H).x0, (cutR ((shwR W' H' X Y s ca cb cc cd).x0) ((shwR W' H' X Y s ca cb cc cd).y0) ((shwR W' H' X Y s ca cb cc cd).x1) ((shwR W' H' X Y s ca cb cc cd).y1) 0 0 W H).y0, (cutR ((shwR W' H' X Y s ca cb cc cd).x0) ((shwR W' H' X Y s ca cb cc cd).y0) ((shwR W' H' X Y s ca cb cc cd).x1) ((shwR W' H' X Y s ca cb cc cd).y1) 0 0 W H).x1, (cutR ((shwR W' H' X Y s ca cb cc cd).x0) ((shwR W' H' X Y s ca cb cc cd).y0) ((shwR W' H' X Y s ca cb cc cd).x1) ((shwR W' H' X Y s ca cb cc cd).y1) 0 0 W H).y1⟩ : Rect)])) rfl fun hr10_a hr10_l hr10_c hr10_m => ?_
 refine dX 1 [] <| dO 7 0 <| cG (d := 30) (α := Nat) (fun x_ => .func (.func 109) #[] #[.pointer (pB x_)]) (fun x_ => [.cells x_ [.slice A5 k7 cp8] 23 true, .gen (rowE (A5) g6 k7 cp8 32 4 (rvals (regM andB (canR xsz) (canR [(⟨(cutR ((shwR W' H' X Y s ca cb cc cd).x0) ((shwR W' H' X Y s ca cb cc cd).y0) ((shwR W' H' X Y s ca cb cc cd).x1) ((shwR W' H' X Y s ca cb cc cd).y1) 0 0 W H).x0, (cutR ((shwR W' H' X Y s ca cb cc cd).x0) ((shwR W' H' X Y s ca cb cc cd).y0) ((shwR W' H' X Y s ca cb cc cd).x1) ((shwR W' H' X Y s ca cb cc cd).y1) 0 0 W H).y0, (cutR ((shwR W' H' X Y s ca cb cc cd).x0) ((shwR W' H' X Y s ca cb cc cd).y0) ((shwR W' H' X Y s ca cb cc cd).x1) ((shwR W' H' X Y s ca cb cc cd).y1) 0 0 W H).x1, (cutR ((shwR W' H' X Y s ca cb cc cd).x0) ((shwR W' H' X Y s ca cb cc cd).y0) ((shwR W' H' X Y s ca cb cc cd).x1) ((shwR W' H' X Y s ca cb cc cd).y1) 0 0 W H).y1⟩ : Rect)]))) true), .cells b4 [iq 0] 3 true, .cells b3 [.pointer (some ⟨m', 0, none⟩), iq X, iq Y, iq s, iq al, iq ca, iq cb, iq cc, iq cd] 120 true, .cells b2 [.pointer (some ⟨m', 0, none⟩), iq X, iq Y, iq s, iq al, iq ca, iq cb, iq cc, iq cd] 120 true, .cells b1 [.pointer (pB m)] 56 true, .ro m [iq W, iq H, .slice (pB r) n cap] 116, .gen (rowE (pB r) r n cap 52 1 (cV px) false), .ro m' [iq W', iq H', .slice (some ⟨r', 0, none⟩) n' cap'] 116, rD (some ⟨r', 0, none⟩) r' 0 n' 1 (cV px'), rD (Az) gz oz nz 4 (rvals xsz)]) (fun x_ => True) (fun w hT => (payPoints A5 k7 cp8 w).mono fun e w' ⟨kb11, he_, ht_⟩ => ⟨kb11, he_, trivial, hT.news ht_ rfl⟩) ?_
 rintro kb11 hf12_
 refine dX 2 [] <| dD <| zN <| cont_block ?_
 refine fR 1 k7 A5 g6 cp8 (regM andB (canR xsz) (canR [(⟨(cutR ((shwR W' H' X Y s ca cb cc cd).x0) ((shwR W' H' X Y s ca cb cc cd).y0) ((shwR W' H' X Y s ca cb cc cd).x1) ((shwR W' H' X Y s ca cb cc cd).y1) 0 0 W H).x0, (cutR ((shwR W' H' X Y s ca cb cc cd).x0) ((shwR W' H' X Y s ca cb cc cd).y0) ((shwR W' H' X Y s ca cb cc cd).x1) ((shwR W' H' X Y s ca cb cc cd).y1) 0 0 W H).y0, (cutR ((shwR W' H' X Y s ca cb cc cd).x0) ((shwR W' H' X Y s ca cb cc cd).y0) ((shwR W' H' X Y s ca cb cc cd).x1) ((shwR W' H' X Y s ca cb cc cd).y1) 0 0 W H).x1, (cutR ((shwR W' H' X Y s ca cb cc cd).x0) ((shwR W' H' X Y s ca cb cc cd).y0) ((shwR W' H' X Y s ca cb cc cd).x1) ((shwR W' H' X Y s ca cb cc cd).y1) 0 0 W H).y1⟩ : Rect)])) rfl fun hr13_a hr13_l hr13_c hr13_m => ?_
 refine cont_rowEqR 1 (regM andB (canR xsz) (canR [(⟨(cutR ((shwR W' H' X Y s ca cb cc cd).x0) ((shwR W' H' X Y s ca cb cc cd).y0) ((shwR W' H' X Y s ca cb cc cd).x1) ((shwR W' H' X Y s ca cb cc cd).y1) 0 0 W H).x0, (cutR ((shwR W' H' X Y s ca cb cc cd).x0) ((shwR W' H' X Y s ca cb cc cd).y0) ((shwR W' H' X Y s ca cb cc cd).x1) ((shwR W' H' X Y s ca cb cc cd).y1) 0 0 W H).y0, (cutR ((shwR W' H' X Y s ca cb cc cd).x0) ((shwR W' H' X Y s ca cb cc cd).y0) ((shwR W' H' X Y s ca cb cc cd).x1) ((shwR W' H' X Y s ca cb cc cd).y1) 0 0 W H).x1, (cutR ((shwR W' H' X Y s ca cb cc cd).x0) ((shwR W' H' X Y s ca cb cc cd).y0) ((shwR W' H' X Y s ca cb cc cd).x1) ((shwR W' H' X Y s ca cb cc cd).y1) 0 0 W H).y1⟩ : Rect)])) (R) rfl hR.symm ?_
 refine cont_weaken 0 (.ro kb11 [.slice A5 k7 cp8] 23) rfl rfl Vw.roc rfl ?_
 refine cont_weaken 1 (rD (A5) g6 0 k7 4 (rvals R)) rfl rfl Vw.rowRd rfl ?_
 refine cont_norm [(3, .pointer (pB b1)), (7, .pointer (pB b3)), (8, .pointer (pB b4)), (23, .slice Az nz capz), (24, .agg #[.pointer (some ⟨m', 0, none⟩), iq X, iq Y, iq s, iq al, iq ca, iq cb, iq cc, iq cd]), (25, .agg #[iq ((shwR W' H' X Y s ca cb cc cd).x0), iq ((shwR W' H' X Y s ca cb cc cd).y0), iq ((shwR W' H' X Y s ca cb cc cd).x1), iq ((shwR W' H' X Y s ca cb cc cd).y1)]), (26, .pointer (pB m)), (27, .agg #[iq 0, iq 0, iq W, iq H]), (28, .agg #[iq ((cutR ((shwR W' H' X Y s ca cb cc cd).x0) ((shwR W' H' X Y s ca cb cc cd).y0) ((shwR W' H' X Y s ca cb cc cd).x1) ((shwR W' H' X Y s ca cb cc cd).y1) 0 0 W H).x0), iq ((cutR ((shwR W' H' X Y s ca cb cc cd).x0) ((shwR W' H' X Y s ca cb cc cd).y0) ((shwR W' H' X Y s ca cb cc cd).x1) ((shwR W' H' X Y s ca cb cc cd).y1) 0 0 W H).y0), iq ((cutR ((shwR W' H' X Y s ca cb cc cd).x0) ((shwR W' H' X Y s ca cb cc cd).y0) ((shwR W' H' X Y s ca cb cc cd).x1) ((shwR W' H' X Y s ca cb cc cd).y1) 0 0 W H).x1), iq ((cutR ((shwR W' H' X Y s ca cb cc cd).x0) ((shwR W' H' X Y s ca cb cc cd).y0) ((shwR W' H' X Y s ca cb cc cd).x1) ((shwR W' H' X Y s ca cb cc cd).y1) 0 0 W H).y1)]), (29, .slice A5 k7 cp8), (30, .func (.func 109) #[] #[.pointer (pB kb11)])] [.ro kb11 [.slice A5 k7 cp8] 23, rD (A5) g6 0 k7 4 (rvals R), .cells b4 [iq ((([] : List (Int × Int)).length : Nat) : Int)] 3 true, .cells b3 [.pointer (some ⟨m', 0, none⟩), iq X, iq Y, iq s, iq al, iq ca, iq cb, iq cc, iq cd] 120 true, .cells b2 [.pointer (some ⟨m', 0, none⟩), iq X, iq Y, iq s, iq al, iq ca, iq cb, iq cc, iq cd] 120 true, .cells b1 [.pointer (pB m)] 56 true, .ro m [iq W, iq H, .slice (pB r) n cap] 116, .gen (rowE (pB r) r n cap 52 1 (cV px) false), .ro m' [iq W', iq H', .slice (some ⟨r', 0, none⟩) n' cap'] 116, rD (some ⟨r', 0, none⟩) r' 0 n' 1 (cV px'), rD (Az) gz oz nz 4 (rvals xsz)] (by kernel_rfl) (congrArg (fun c_ : List Value => ([.ro kb11 [.slice A5 k7 cp8] 23, rD (A5) g6 0 k7 4 (rvals R), .cells b4 c_ 3 true, .cells b3 [.pointer (some ⟨m', 0, none⟩), iq X, iq Y, iq s, iq al, iq ca, iq cb, iq cc, iq cd] 120 true, .cells b2 [.pointer (some ⟨m', 0, none⟩), iq X, iq Y, iq s, iq al, iq ca, iq cb, iq cc, iq cd] 120 true, .cells b1 [.pointer (pB m)] 56 true, .ro m [iq W, iq H, .slice (pB r) n cap] 116, .gen (rowE (pB r) r n cap 52 1 (cV px) false), .ro m' [iq W', iq H', .slice (some ⟨r', 0, none⟩) n' cap'] 116, rD (some ⟨r', 0, none⟩) r' 0 n' 1 (cV px'), rD (Az) gz oz nz 4 (rvals xsz)] : List Ent)) (by simp)) ?_
 refine cont_rowEq (k := .u32) 7 (px) (drawF W H (pcolC W' H' X Y s al ca cb cc cd px') px ([] : List (Int × Int))) rfl rfl ?_
 refine cont_rangeFunc (X := Int × Int) (β := List (Int × Int)) (γ := Unit) (gf := 109) (lb := #[.pointer (pB kb11)]) (fun z_ : Int × Int => #[iq z_.1, iq z_.2]) [.ro kb11 [.slice A5 k7 cp8] 23, rD (A5) g6 0 k7 4 (rvals R)] (fun z_ : Int × Int => []) (fun xs_ => xs_ = regP R) (fun xs_ => xs_ <+: regP R) (fun (pre : List (Int × Int)) (x_ : List (Int × Int)) => x_ = pre) (fun x_ : List (Int × Int) => [.cells b4 [iq ((x_.length : Nat) : Int)] 3 true, .cells b3 [.pointer (some ⟨m', 0, none⟩), iq X, iq Y, iq s, iq al, iq ca, iq cb, iq cc, iq cd] 120 true, .cells b2 [.pointer (some ⟨m', 0, none⟩), iq X, iq Y, iq s, iq al, iq ca, iq cb, iq cc, iq cd] 120 true, .cells b1 [.pointer (pB m)] 56 true, .ro m [iq W, iq H, .slice (pB r) n cap] 116, .gen (rowE (pB r) r n cap 52 1 (cV (drawF W H (pcolC W' H' X Y s al ca cb cc cd px') px x_)) false), .ro m' [iq W', iq H', .slice (some ⟨r', 0, none⟩) n' cap'] 116, rD (some ⟨r', 0, none⟩) r' 0 n' 1 (cV px'), rD (Az) gz oz nz 4 (rvals xsz)]) (fun (_ : Code) (_ : Unit) => False) (fun x_ : Unit => []) [] rfl (fun _ _ => rfl) (fun _ => rfl) (by kernel_rfl) (ptsIter kb11 A5 g6 0 k7 cp8 R (by omega) hR64 _) rfl rfl ?_ ?_ ?_ ?_
 ·
  rintro l_ z14_ e14_ e14b_ e14q_ pre ⟨x, y⟩ ps B_ hz_ hinv15_ hsp_ hB_
  replace hinv15_ : ps = pre := hinv15_
  replace hsp_ : (pre ++ [(x, y)]) <+: regP R := hsp_
  refine mcont_seq ?_
  refine mcont_region 1 rfl (by kernel_rfl) ?_
  refine bD [0] 1 0 [(9, iq x)] [] <| zDN <| mcont_region 1 rfl (by kernel_rfl) ?_
  refine bD [0] 1 0 [(10, iq y)] [] <| zDN <| hB_ _ [z14_] [e14q_, .ro kb11 [.slice A5 k7 cp8] 23, rD (A5) g6 0 k7 4 (rvals R), .cells b4 [iq ((ps.length : Nat) : Int)] 3 true, .cells b3 [.pointer (some ⟨m', 0, none⟩), iq X, iq Y, iq s, iq al, iq ca, iq cb, iq cc, iq cd] 120 true, .cells b2 [.pointer (some ⟨m', 0, none⟩), iq X, iq Y, iq s, iq al, iq ca, iq cb, iq cc, iq cd] 120 true, .cells b1 [.pointer (pB m)] 56 true, .ro m [iq W, iq H, .slice (pB r) n cap] 116, .gen (rowE (pB r) r n cap 52 1 (cV (drawF W H (pcolC W' H' X Y s al ca cb cc cd px') px ps)) false), .ro m' [iq W', iq H', .slice (some ⟨r', 0, none⟩) n' cap'] 116, rD (some ⟨r', 0, none⟩) r' 0 n' 1 (cV px'), rD (Az) gz oz nz 4 (rvals xsz)] ?_
  have hps := hinv15_
  have hmem := hasL_of_pre hsp_
  obtain ⟨hx0, hx1, hy0, hy1⟩ := hOn _ _ hmem
  have hlen := pre_len hsp_ hRl
  have hat := (hok.drawF (pcolC W' H' X Y s al ca cb cc cd px') ps).atC_range x y
  have hpc := pcolC_in px' W' H' X Y s al ca cb cc cd x y
  obtain ⟨hpc0, hpc1⟩ := hpc
  have hpsl : ps.length < n := by rw [hps]; omega
  refine mcont_block ?_
  refine mcont_seq ?_
  refine mcont_region 9 rfl (by kernel_rfl) ?_
  refine bD [6, 0, 0] 3 6 [(34, .agg #[.pointer (some ⟨m', 0, none⟩), iq X, iq Y, iq s, iq al, iq ca, iq cb, iq cc, iq cd]), (35, iq x), (36, iq y)] [] <| pS 4 5 <| cP 37 (.tuple #[cQ (pcolC W' H' X Y s al ca cb cc cd px' x y), .bool (pcolB W' H' X Y s ca cb cc cd x y)]) (fun w hT => layColor m' W' H' r' n' cap' px' X Y s al ca cb cc cd x y w ⟨hT.ok 11 _ rfl, hT.ok 12 _ rfl, by omega⟩ hok' (by omega) (by omega) (by omega) (by omega) (by omega)) <| bD [0, 0, 0, 0, 0] 9 0 [(11, cQ (pcolC W' H' X Y s al ca cb cc cd px' x y))] [12, 33, 38, 39] <| zDN <| mcont_seq ?_
  refine mcont_region 9 rfl (by kernel_rfl) ?_
  refine bD [8, 0, 0] 3 6 [(41, .pointer (pB m)), (42, iq x), (43, iq y)] [] <| pS 4 5 <| cP 44 (.tuple #[cQ (atC W H (drawF W H (pcolC W' H' X Y s al ca cb cc cd px') px ps) x y), .bool (hasB 0 0 W H x y)]) (fun w hT => imgAt m W H r n cap (drawF W H (pcolC W' H' X Y s al ca cb cc cd px') px ps) x y w ⟨hT.ok 9 _ rfl, Row.rd (hT.ok 10 _ rfl), Row.capLe (hT.ok 10 _ rfl)⟩ (hok.drawF _ _)) <| bD [0, 0, 0, 0, 0] 9 0 [(13, cQ (atC W H (drawF W H (pcolC W' H' X Y s al ca cb cc cd px') px ps) x y))] [14, 40, 45, 46] <| zDN <| mcont_seq ?_
  refine mdrawn_enter 7 [10] rfl (by kernel_rfl) (by kernel_rfl) ?_
  refine tD 0 [10] [(0, 8), (1, 0), (2, 0), (3, 0), (4, 0)] 2 [4, 3, 2, 1, 0] [(47, .pointer (pB m)), (48, iq x), (49, iq y), (50, cQ (pcolC W' H' X Y s al ca cb cc cd px' x y)), (51, cQ (atC W H (drawF W H (pcolC W' H' X Y s al ca cb cc cd px') px ps) x y))] [] ?_ (hpo := (pok_then (pok_blk pok_rq)))
  refine dO 5 1 <| cP 52 (cQ (overC (pcolC W' H' X Y s al ca cb cc cd px' x y) (atC W H (drawF W H (pcolC W' H' X Y s al ca cb cc cd px') px ps) x y))) (fun w hT => colOver (pcolC W' H' X Y s al ca cb cc cd px' x y) (atC W H (drawF W H (pcolC W' H' X Y s al ca cb cc cd px') px ps) x y) w (by omega) (by omega) (by omega) (by omega)) <| dX 0 [10] <| dO 6 0 <| cG (d := 53) (α := Unit) (fun _ => iq (setE W H x y (overC (pcolC W' H' X Y s al ca cb cc cd px' x y) (atC W H (drawF W H (pcolC W' H' X Y s al ca cb cc cd px') px ps) x y)))) (fun _ => [z14_, e14b_, e14q_, .ro kb11 [.slice A5 k7 cp8] 23, rD (A5) g6 0 k7 4 (rvals R), .cells b4 [iq ((ps.length : Nat) : Int)] 3 true, .cells b3 [.pointer (some ⟨m', 0, none⟩), iq X, iq Y, iq s, iq al, iq ca, iq cb, iq cc, iq cd] 120 true, .cells b2 [.pointer (some ⟨m', 0, none⟩), iq X, iq Y, iq s, iq al, iq ca, iq cb, iq cc, iq cd] 120 true, .cells b1 [.pointer (pB m)] 56 true, .ro m [iq W, iq H, .slice (pB r) n cap] 116, .gen (rowE (pB r) r n cap 52 1 (cV (setL W H (drawF W H (pcolC W' H' X Y s al ca cb cc cd px') px ps) x y (overC (pcolC W' H' X Y s al ca cb cc cd px' x y) (atC W H (drawF W H (pcolC W' H' X Y s al ca cb cc cd px') px ps) x y)))) false), .ro m' [iq W', iq H', .slice (some ⟨r', 0, none⟩) n' cap'] 116, rD (some ⟨r', 0, none⟩) r' 0 n' 1 (cV px'), rD (Az) gz oz nz 4 (rvals xsz)]) (fun _ => True) (fun w hT => (imgSet m W H r n cap (drawF W H (pcolC W' H' X Y s al ca cb cc cd px') px ps) x y (overC (pcolC W' H' X Y s al ca cb cc cd px' x y) (atC W H (drawF W H (pcolC W' H' X Y s al ca cb cc cd px') px ps) x y)) w ⟨hT.ok 9 _ rfl, hT.ok 10 _ rfl, fun hne => hT.disj 9 10 _ _ (by omega) rfl rfl (.inr rfl) _ rfl ⟨hne, by simp⟩⟩ (hok.drawF _ _) (overC_in _ _)).mono fun e w' ⟨he_, hk_, hr_⟩ => ⟨(), he_, trivial, hT.keepBut hk_ (i := 10) rfl hr_⟩) (fun _ _ => ?_)
  refine dX 0 [10] <| dD <| zN <| mcont_region 3 rfl (by kernel_rfl) ?_
  refine bD [5, 0] 2 1 [(55, iq (IntKind.i64.wrap (((ps.length : Nat) : Int) + 1)))] [54] <| wI 55 (((ps.length : Nat) : Int) + 1) <| bZ [5] 3 0 [] [z14_, e14b_, e14q_, .ro kb11 [.slice A5 k7 cp8] 23, rD (A5) g6 0 k7 4 (rvals R), .cells b4 [iq (((ps.length : Nat) : Int) + 1)] 3 true, .cells b3 [.pointer (some ⟨m', 0, none⟩), iq X, iq Y, iq s, iq al, iq ca, iq cb, iq cc, iq cd] 120 true, .cells b2 [.pointer (some ⟨m', 0, none⟩), iq X, iq Y, iq s, iq al, iq ca, iq cb, iq cc, iq cd] 120 true, .cells b1 [.pointer (pB m)] 56 true, .ro m [iq W, iq H, .slice (pB r) n cap] 116, .gen (rowE (pB r) r n cap 52 1 (cV (setL W H (drawF W H (pcolC W' H' X Y s al ca cb cc cd px') px ps) x y (overC (pcolC W' H' X Y s al ca cb cc cd px' x y) (atC W H (drawF W H (pcolC W' H' X Y s al ca cb cc cd px') px ps) x y)))) false), .ro m' [iq W', iq H', .slice (some ⟨r', 0, none⟩) n' cap'] 116, rD (some ⟨r', 0, none⟩) r' 0 n' 1 (cV px'), rD (Az) gz oz nz 4 (rvals xsz)] <| cDn <| blk_normal <| cont_rowEq (k := .u32) 10 (setL W H (drawF W H (pcolC W' H' X Y s al ca cb cc cd px') px ps) x y (overC (pcolC W' H' X Y s al ca cb cc cd px' x y) (atC W H (drawF W H (pcolC W' H' X Y s al ca cb cc cd px') px ps) x y))) (drawF W H (pcolC W' H' X Y s al ca cb cc cd px') px (ps ++ [(x, y)])) rfl ((drawF_snoc W H (pcolC W' H' X Y s al ca cb cc cd px') px ps (x, y)).symm) ?_
  refine cont_norm [] [z14_, e14b_, e14q_, .ro kb11 [.slice A5 k7 cp8] 23, rD (A5) g6 0 k7 4 (rvals R), .cells b4 [iq (((ps ++ [(x, y)]).length : Nat) : Int)] 3 true, .cells b3 [.pointer (some ⟨m', 0, none⟩), iq X, iq Y, iq s, iq al, iq ca, iq cb, iq cc, iq cd] 120 true, .cells b2 [.pointer (some ⟨m', 0, none⟩), iq X, iq Y, iq s, iq al, iq ca, iq cb, iq cc, iq cd] 120 true, .cells b1 [.pointer (pB m)] 56 true, .ro m [iq W, iq H, .slice (pB r) n cap] 116, .gen (rowE (pB r) r n cap 52 1 (cV (drawF W H (pcolC W' H' X Y s al ca cb cc cd px') px (ps ++ [(x, y)]))) false), .ro m' [iq W', iq H', .slice (some ⟨r', 0, none⟩) n' cap'] 116, rD (some ⟨r', 0, none⟩) r' 0 n' 1 (cV px'), rD (Az) gz oz nz 4 (rvals xsz)] (by kernel_rfl) (congrArg (fun c_ : List Value => ([z14_, e14b_, e14q_, .ro kb11 [.slice A5 k7 cp8] 23, rD (A5) g6 0 k7 4 (rvals R), .cells b4 c_ 3 true, .cells b3 [.pointer (some ⟨m', 0, none⟩), iq X, iq Y, iq s, iq al, iq ca, iq cb, iq cc, iq cd] 120 true, .cells b2 [.pointer (some ⟨m', 0, none⟩), iq X, iq Y, iq s, iq al, iq ca, iq cb, iq cc, iq cd] 120 true, .cells b1 [.pointer (pB m)] 56 true, .ro m [iq W, iq H, .slice (pB r) n cap] 116, .gen (rowE (pB r) r n cap 52 1 (cV (drawF W H (pcolC W' H' X Y s al ca cb cc cd px') px (ps ++ [(x, y)]))) false), .ro m' [iq W', iq H', .slice (some ⟨r', 0, none⟩) n' cap'] 116, rD (some ⟨r', 0, none⟩) r' 0 n' 1 (cV px'), rD (Az) gz oz nz 4 (rvals xsz)] : List Ent)) (by simp)) ?_
  refine rq_next (ps ++ [(x, y)]) (show ((ps ++ [(x, y)])) = (pre ++ [(x, y)]) from (by rw [hps])) rfl
 ·
  rintro D17_ xs_ ps hS_ hinv16_
  replace hinv16_ : ps = xs_ := hinv16_
  replace hS_ : xs_ = regP R := hS_
  have hps := hinv16_
  refine cont_rowEq (k := .u32) 8 (drawF W H (pcolC W' H' X Y s al ca cb cc cd px') px ps) (drawL W R (pcolC W' H' X Y s al ca cb cc cd px') px) rfl (by rw [hps, hS_]; exact drawF_eq hReg hOn hok hmay hf) ?_
  refine cont_norm [(8, .pointer (pB b4))] [markE D17_, .ro kb11 [.slice A5 k7 cp8] 23, rD (A5) g6 0 k7 4 (rvals R), .cells b4 [iq ((cntL W n R : Nat) : Int)] 3 true, .cells b3 [.pointer (some ⟨m', 0, none⟩), iq X, iq Y, iq s, iq al, iq ca, iq cb, iq cc, iq cd] 120 true, .cells b2 [.pointer (some ⟨m', 0, none⟩), iq X, iq Y, iq s, iq al, iq ca, iq cb, iq cc, iq cd] 120 true, .cells b1 [.pointer (pB m)] 56 true, .ro m [iq W, iq H, .slice (pB r) n cap] 116, .gen (rowE (pB r) r n cap 52 1 (cV (drawL W R (pcolC W' H' X Y s al ca cb cc cd px') px)) false), .ro m' [iq W', iq H', .slice (some ⟨r', 0, none⟩) n' cap'] 116, rD (some ⟨r', 0, none⟩) r' 0 n' 1 (cV px'), rD (Az) gz oz nz 4 (rvals xsz)] (by kernel_rfl) (congrArg (fun c_ : List Value => ([markE D17_, .ro kb11 [.slice A5 k7 cp8] 23, rD (A5) g6 0 k7 4 (rvals R), .cells b4 c_ 3 true, .cells b3 [.pointer (some ⟨m', 0, none⟩), iq X, iq Y, iq s, iq al, iq ca, iq cb, iq cc, iq cd] 120 true, .cells b2 [.pointer (some ⟨m', 0, none⟩), iq X, iq Y, iq s, iq al, iq ca, iq cb, iq cc, iq cd] 120 true, .cells b1 [.pointer (pB m)] 56 true, .ro m [iq W, iq H, .slice (pB r) n cap] 116, .gen (rowE (pB r) r n cap 52 1 (cV (drawL W R (pcolC W' H' X Y s al ca cb cc cd px') px)) false), .ro m' [iq W', iq H', .slice (some ⟨r', 0, none⟩) n' cap'] 116, rD (some ⟨r', 0, none⟩) r' 0 n' 1 (cV px'), rD (Az) gz oz nz 4 (rvals xsz)] : List Ent)) (by rw [hps, hS_, regP_len hReg hOn hok.w1 hok.num])) ?_
  refine blk_normal <| zN <| zSR 2 <| bS [3, 0] 2 0 [(6, iq ((cntL W n R : Nat) : Int))] <| fG 3 <| fG 3 <| fG 3 <| fG 3 <| zDNr <| mark_end 0 rfl (.inl rfl) ?_
  refine rA rfl 0 (iq ((cntL W n R : Nat) : Int)) fun w hT => ?_
  replace hT := hT.erase 2 (fun e h hw => by cases h; first | rfl | cases hw)
  replace hT := hT.erase 1 (fun e h hw => by cases h; first | rfl | cases hw)
  replace hT := hT.erase 0 (fun e h hw => by cases h; first | rfl | cases hw)
  exact ⟨rfl, hT⟩
 ·
  intro D_  c_ h_; exact h_.elim
 ·
  intro D_ id_ c_ h_; exact h_.elim
end Go.Proofs.YtlfahohbkgdabaaGreat
namespace Go.Proofs.YtlfahohbkgdabaaGreat
open Go Go.RowKit
end Go.Proofs.YtlfahohbkgdabaaGreat
namespace Go.Proofs.YtlfahohbkgdabaaGreat
open Go Go.RowKit
variable {dfs : List Deferred}
theorem can_one {r : Rect} (h : emptyR r = false) : canR [r] = [r] :=
  ((may_iff [r]).1 (fun i hi => by
    have : i = 0 := by simpa using hi
    subst this
    exact ⟨h, fun h0 => by omega, fun h0 => by omega, fun h0 => by omega⟩)).symm
end Go.Proofs.YtlfahohbkgdabaaGreat
namespace Go.Proofs.YtlfahohbkgdabaaGreat
open Go Go.RowKit
theorem partI_full {p : Int} (h : 0 ≤ p ∧ p ≤ 255) : partI p 255 = p := by
  unfold partI
  rw [clip_id h, show clip 255 = 255 by decide]
  omega
theorem mkC_parts {d : Int} (h : InC d) : mkC (pa d) (pr d) (pg d) (pb d) = d := by
  obtain ⟨⟨a0, a1⟩, ⟨r0, r1⟩, ⟨g0, g1⟩, ⟨b0, b1⟩⟩ := parts_range h
  unfold mkC
  rw [clip_id ⟨a0, a1⟩, clip_id ⟨r0, r1⟩, clip_id ⟨g0, g1⟩, clip_id ⟨b0, b1⟩]
  obtain ⟨h1, h2⟩ := h
  unfold pa pr pg pb
  omega
theorem partI_zero (p : Int) : partI p 0 = 0 := by
  unfold partI
  rw [show clip 0 = 0 by decide, Int.mul_zero]; decide
theorem ImgOk.get {W H : Int} {n : Nat} {px : List Int} (hok : ImgOk W H n px) {k : Nat} (hk : k < n) : InC (px.getD k 0) := by
  rw [List.getD_eq_getElem?_getD, List.getElem?_eq_getElem (by rw [hok.len]; exact hk)]
  exact hok.rng _ (List.getElem_mem _)
theorem rowP_length (y x : Int) (k : Nat) : (rowP y x k).length = k := by simp [rowP]
theorem rectP_length (r : Rect) (j : Nat) : (rectP r j).length = j * Int.toNat (r.x1 - r.x0) := by
  induction j with
  | zero => simp [rectP]
  | succ j ih => rw [rectP_succ, List.length_append, ih, rowP_length, Nat.succ_mul]
theorem hasDR {W H W' H' X Y s a b c d x y : Int} (l : List Rect) (hs : 1 ≤ s ∧ s ≤ 8) (hX : -1000000 ≤ X ∧ X ≤ 1000000) (hY : -1000000 ≤ Y ∧ Y ≤ 1000000) (hw : 1 ≤ W' ∧ W' ≤ 256) (hh : 1 ≤ H' ∧ H' ≤ 256) :
    hasL (regM andB (canR l) (canR [cutR (shwR W' H' X Y s a b c d).x0 (shwR W' H' X Y s a b c d).y0 (shwR W' H' X Y s a b c d).x1 (shwR W' H' X Y s a b c d).y1 0 0 W H])) x y = (hasL l x y && (pcolB W' H' X Y s a b c d x y && hasB 0 0 W H x y)) := by
  rw [hasL_and, hasL_can, hasL_can]
  congr 1
  simp only [hasL, List.any_cons, List.any_nil, Bool.or_false]
  rw [Bool.eq_iff_iff, cutR_has, pcol_box hs hX hY hw hh, Bool.and_eq_true]
theorem fade_full {c : Int} (h : InC c) : fadeC c 255 = c := by
  obtain ⟨ha, hr, hg, hb⟩ := parts_range h
  unfold fadeC
  rw [partI_full ha, partI_full hr, partI_full hg, partI_full hb]
  exact mkC_parts h
theorem over_solid {c : Int} (h : InC c) (hs : pa c = 255) (d : Int) : overC c d = c := by
  unfold overC
  rw [hs, show (255 : Int) - 255 = 0 by decide, partI_zero, partI_zero, partI_zero, partI_zero, Int.add_zero, Int.add_zero, Int.add_zero, Int.add_zero, ← hs]
  exact mkC_parts h
end Go.Proofs.YtlfahohbkgdabaaGreat
namespace Go.Proofs.YtlfahohbkgdabaaGreat
open Go Go.RowKit
def mixL (W : Int) (B : Int → Int → Bool) (g : Int → Int → Int → Int) (px : List Int) : List Int := (List.range px.length).map fun k => if B (((k : Nat) : Int) % W) (((k : Nat) : Int) / W) then g (((k : Nat) : Int) % W) (((k : Nat) : Int) / W) (px.getD k 0) else px.getD k 0
theorem mixL_length (W : Int) (B : Int → Int → Bool) (g : Int → Int → Int → Int) (px : List Int) : (mixL W B g px).length = px.length := by simp [mixL]
theorem mixL_get {W : Int} {B : Int → Int → Bool} {g : Int → Int → Int → Int} {px : List Int} {k : Nat} (h : k < px.length) : (mixL W B g px).getD k 0 = if B (((k : Nat) : Int) % W) (((k : Nat) : Int) / W) then g (((k : Nat) : Int) % W) (((k : Nat) : Int) / W) (px.getD k 0) else px.getD k 0 := by
  simp [mixL, List.getD_eq_getElem?_getD, h]
theorem mixL_congr {W : Int} {B B' : Int → Int → Bool} {g g' : Int → Int → Int → Int} {px : List Int} (h : ∀ k, k < px.length → B (((k : Nat) : Int) % W) (((k : Nat) : Int) / W) = B' (((k : Nat) : Int) % W) (((k : Nat) : Int) / W))
    (hg : ∀ k, k < px.length → B' (((k : Nat) : Int) % W) (((k : Nat) : Int) / W) = true → g (((k : Nat) : Int) % W) (((k : Nat) : Int) / W) (px.getD k 0) = g' (((k : Nat) : Int) % W) (((k : Nat) : Int) / W) (px.getD k 0)) : mixL W B g px = mixL W B' g' px := by
  refine list_getD_ext (by rw [mixL_length, mixL_length]) (fun k hk => ?_)
  rw [mixL_length] at hk
  rw [mixL_get hk, mixL_get hk, h k hk]
  split
  · rename_i hh; exact hg k hk hh
  · rfl
theorem drawL_mix (W : Int) (R : List Rect) (f : Int → Int → Int) (px : List Int) : drawL W R f px = mixL W (hasL R) (fun x y d => overC (f x y) d) px := rfl
theorem ImgOk.mixL {W H : Int} {n : Nat} {px : List Int} (h : ImgOk W H n px) (B : Int → Int → Bool) {g : Int → Int → Int → Int} (hg : ∀ x y d, InC d → InC (g x y d)) : ImgOk W H n (mixL W B g px) :=
  ⟨h.w1, h.w2, h.h1, h.h2, h.num, by rw [mixL_length, h.len], fun c hc => by
    obtain ⟨k, hk, rfl⟩ := List.mem_map.1 hc
    have hk := List.mem_range.1 hk
    have hd : InC (px.getD k 0) := h.get (by rw [← h.len]; exact hk)
    split
    · exact hg _ _ _ hd
    · exact hd⟩
def drwB (W H X Y s a b c d : Int) (l : List Rect) (x y : Int) : Bool := pcolB W H X Y s a b c d x y && hasL l x y
def drwG (f : Int → Int → Int) (x y d : Int) : Int := overC (f x y) d
def clrB (c : Int) (l : List Rect) (x y : Int) : Bool := mayB c && hasL l x y
def clrG (c _x _y _d : Int) : Int := c
theorem draw_same {W H W' H' X Y s a b c d : Int} {n : Nat} {px : List Int} {f : Int → Int → Int} (l : List Rect) (hok : ImgOk W H n px) (hs : 1 ≤ s ∧ s ≤ 8) (hX : -1000000 ≤ X ∧ X ≤ 1000000) (hY : -1000000 ≤ Y ∧ Y ≤ 1000000) (hw : 1 ≤ W' ∧ W' ≤ 256) (hh : 1 ≤ H' ∧ H' ≤ 256) :
    drawL W (regM andB (canR l) (canR [cutR (shwR W' H' X Y s a b c d).x0 (shwR W' H' X Y s a b c d).y0 (shwR W' H' X Y s a b c d).x1 (shwR W' H' X Y s a b c d).y1 0 0 W H])) f px = mixL W (drwB W' H' X Y s a b c d l) (drwG f) px := by
  rw [drawL_mix]
  refine mixL_congr (fun k hk => ?_) (fun _ _ _ => rfl)
  rw [hasDR _ hs hX hY hw hh, in_box hok.w1 hok.num (by rw [← hok.len]; exact hk), Bool.and_true, drwB, Bool.and_comm]
theorem hasL_take_succ {R : List Rect} {i : Nat} (h : i < R.length) (x y : Int) : hasL (R.take (i + 1)) x y = (hasL (R.take i) x y || hasB (rget R i).x0 (rget R i).y0 (rget R i).x1 (rget R i).y1 x y) := by
  rw [take_succ_rget h, hasL_append]
  simp [hasL]
theorem clear_step {W H : Int} {n : Nat} {px : List Int} {R : List Rect} {i : Nat} {c : Int} (hok : ImgOk W H n px) (h : i < R.length) :
    fillA W H (mixL W (clrB c (R.take i)) (clrG c) px) (rget R i).x0 (rget R i).y0 (rget R i).x1 (rget R i).y1 c = mixL W (clrB c (R.take (i + 1))) (clrG c) px := by
  unfold fillA
  split
  · rename_i hm
    refine list_getD_ext (by rw [fillP_length, mixL_length, mixL_length]) (fun k hk => ?_)
    rw [fillP_length, mixL_length] at hk
    rw [List.getD_eq_getElem?_getD, fillP_get, List.getElem?_eq_getElem (by rw [mixL_length]; exact hk), mixL_get hk]
    have e : (mixL W (clrB c (R.take i)) (clrG c) px)[k]'(by rw [mixL_length]; exact hk) = (mixL W (clrB c (R.take i)) (clrG c) px).getD k 0 := by
      rw [List.getD_eq_getElem?_getD, List.getElem?_eq_getElem (by rw [mixL_length]; exact hk)]; rfl
    rw [Option.map_some, Option.getD_some, e, mixL_get hk]
    have hb := in_box hok.w1 hok.num (show k < n by rw [← hok.len]; exact hk)
    have hc : hasB (cutR (rget R i).x0 (rget R i).y0 (rget R i).x1 (rget R i).y1 0 0 W H).x0 (cutR (rget R i).x0 (rget R i).y0 (rget R i).x1 (rget R i).y1 0 0 W H).y0 (cutR (rget R i).x0 (rget R i).y0 (rget R i).x1 (rget R i).y1 0 0 W H).x1 (cutR (rget R i).x0 (rget R i).y0 (rget R i).x1 (rget R i).y1 0 0 W H).y1 (((k : Nat) : Int) % W) (((k : Nat) : Int) / W) = hasB (rget R i).x0 (rget R i).y0 (rget R i).x1 (rget R i).y1 (((k : Nat) : Int) % W) (((k : Nat) : Int) / W) := by
      rw [Bool.eq_iff_iff, cutR_has, hb]; simp
    rw [hc]
    simp only [clrB, clrG, hm, Bool.true_and, hasL_take_succ h]
    cases hasL (R.take i) (((k : Nat) : Int) % W) (((k : Nat) : Int) / W) <;> cases hasB (rget R i).x0 (rget R i).y0 (rget R i).x1 (rget R i).y1 (((k : Nat) : Int) % W) (((k : Nat) : Int) / W) <;> simp
  · rename_i hm
    refine mixL_congr (fun k hk => ?_) (fun _ _ _ => rfl)
    simp [clrB, hm]
theorem clear_none (W : Int) (px : List Int) (c : Int) : px = mixL W (clrB c (([] : List Rect))) (clrG c) px := by
  refine list_getD_ext (by rw [mixL_length]) (fun k hk => ?_)
  rw [mixL_get hk, clrB, show hasL [] (((k : Nat) : Int) % W) (((k : Nat) : Int) / W) = false from rfl, Bool.and_false]; rfl
theorem regP_area : ∀ {R : List Rect}, (∀ r ∈ R, emptyR r = false) → (((regP R).length : Nat) : Int) = areaL R := by
  intro R
  induction R with
  | nil => intro _; rfl
  | cons r R ih =>
    intro h
    have h1 := emptyB_false.1 (show emptyB r.x0 r.y0 r.x1 r.y1 = false from h r (List.mem_cons_self ..))
    have e : regP (r :: R) = rectP r (Int.toNat (r.y1 - r.y0)) ++ regP R := by simp [regP]
    have e2 : areaL (r :: R) = areaI r.x0 r.y0 r.x1 r.y1 + areaL R := by simp [areaL]
    rw [e, e2, List.length_append, Int.natCast_add, ih (fun q hq => h q (List.mem_cons_of_mem _ hq)), rectP_length]
    unfold areaI
    rw [if_neg (by rw [show emptyB r.x0 r.y0 r.x1 r.y1 = false from h r (List.mem_cons_self ..)]; simp), Int.natCast_mul, Int.toNat_of_nonneg (by omega), Int.toNat_of_nonneg (by omega), Int.mul_comm (r.y1 - r.y0)]
theorem reg_ne {R : List Rect} {F : Int → Int → Bool} {W H : Int} (hR : IsReg R F) (hin : OnImg W H R) : ∀ r ∈ R, emptyR r = false := fun r hr => by
  have := reg_in hR hin r hr
  exact emptyB_false.2 ⟨this.2.1, this.2.2.2.2.1⟩
theorem clear_area {W H : Int} {n : Nat} {R : List Rect} {F : Int → Int → Bool} (hR : IsReg R F) (hin : OnImg W H R) (hW : 1 ≤ W) (hn : (n : Int) = W * H) : areaL R = ((cntL W n R : Nat) : Int) := by
  rw [← regP_len hR hin hW hn, regP_area (reg_ne hR hin)]
theorem fillN_in {W H : Int} {R : List Rect} {F : Int → Int → Bool} (hR : IsReg R F) (hin : OnImg W H R) {i : Nat} (h : i < R.length) (c : Int) : fillN W H (rget R i).x0 (rget R i).y0 (rget R i).x1 (rget R i).y1 c = if mayB c then areaI (rget R i).x0 (rget R i).y0 (rget R i).x1 (rget R i).y1 else 0 := by
  obtain ⟨h1, h2, h3, h4, h5, h6⟩ := reg_in hR hin _ (rget_mem h)
  unfold fillN
  congr 1
  have : cutR (rget R i).x0 (rget R i).y0 (rget R i).x1 (rget R i).y1 0 0 W H = rget R i := by
    unfold cutR
    rw [show max (rget R i).x0 0 = (rget R i).x0 by omega, show max (rget R i).y0 0 = (rget R i).y0 by omega, show min (rget R i).x1 W = (rget R i).x1 by omega, show min (rget R i).y1 H = (rget R i).y1 by omega, emptyB_false.2 ⟨h2, h5⟩]
    rfl
  rw [this]
theorem clear_same {W H : Int} {n : Nat} {px : List Int} {c : Int} (l : List Rect) (hok : ImgOk W H n px) : mixL W (clrB c (regM andB (canR l) (canR [(⟨0, 0, W, H⟩ : Rect)]))) (clrG c) px = mixL W (clrB c l) (clrG c) px := by
  refine mixL_congr (fun k hk => ?_) (fun _ _ _ => rfl)
  unfold clrB
  rw [hasL_and, hasL_can, hasL_can]
  simp only [hasL, List.any_cons, List.any_nil, Bool.or_false]
  rw [in_box hok.w1 hok.num (by rw [← hok.len]; exact hk), Bool.and_true]
def clrN (c x : Int) : Int := if mayB c then x else 0
theorem clrN_add (c a b : Int) : clrN c (a + b) = clrN c a + clrN c b := by unfold clrN; split <;> omega
theorem clrN_range (c : Int) {x m : Int} (h : 0 ≤ x ∧ x ≤ m) : 0 ≤ clrN c x ∧ clrN c x ≤ m := by unfold clrN; split <;> omega
theorem area_take {R : List Rect} {F : Int → Int → Bool} {W H : Int} {n : Nat} (hR : IsReg R F) (hin : OnImg W H R) (hW : 1 ≤ W) (hn : (n : Int) = W * H) (i : Nat) : 0 ≤ areaL (R.take i) ∧ areaL (R.take i) ≤ (n : Int) := by
  have hne := reg_ne hR hin
  have h1 := regP_area (R := R.take i) (fun r hr => hne r (List.mem_of_mem_take hr))
  have h2 := regP_area (R := R.drop i) (fun r hr => hne r (List.mem_of_mem_drop hr))
  have h3 : areaL R = areaL (R.take i) + areaL (R.drop i) := by rw [← areaL_append, List.take_append_drop]
  have h4 := clear_area hR hin hW hn
  have h5 := cntL_le W n R
  omega
theorem clear_n {W H : Int} {R : List Rect} {F : Int → Int → Bool} (hR : IsReg R F) (hin : OnImg W H R) {i : Nat} (h : i < R.length) (c : Int) : fillN W H (rget R i).x0 (rget R i).y0 (rget R i).x1 (rget R i).y1 c = clrN c (areaI (rget R i).x0 (rget R i).y0 (rget R i).x1 (rget R i).y1) := fillN_in hR hin h c
end Go.Proofs.YtlfahohbkgdabaaGreat
namespace Go.Proofs.YtlfahohbkgdabaaGreat
open Go Go.RowKit
set_option maxRecDepth 100000
set_option maxHeartbeats 8000000
theorem payClear (m : Nat) (W H : Int) (r n cap : Nat) (px : List Int) (Az : Option Addr) (gz oz nz capz : Nat) (xsz : List Rect) (c : Int) (w : World) (hT0 : Tab w w [.ro m [iQ W, iQ H, sL r n cap] 116, .gen (rowE (some ⟨r, 0, none⟩) r n cap 52 1 (cV px) false), rD (Az) gz oz nz 4 (rvals xsz)]) (R : List Rect) (hR : R = regM andB (canR xsz) (canR [(⟨0, 0, W, H⟩ : Rect)])) (hcap : n ≤ cap) (hok : ImgOk W H n px) (hc : InC c) (hnz : nz ≤ 200000) (hcz : (canR xsz).length ≤ 200000) :
    Calls Tryz.prog 59 #[pT m, .slice Az nz capz, cQ c] w fun e w' => e = .returned (iQ (clrN c ((cntL W n R : Nat) : Int))) ∧ Tab w w' [.ro m [iQ W, iQ H, sL r n cap] 116, .gen (rowE (some ⟨r, 0, none⟩) r n cap 52 1 (cV (mixL W (clrB c R) (clrG c) px)) false), rD (Az) gz oz nz 4 (rvals xsz)] := by
 have hw1 := hok.w1
 have hw2 := hok.w2
 have hh1 := hok.h1
 have hh2 := hok.h2
 have hnum := hok.num
 have hlen := hok.len
 have hle := hok.le
 obtain ⟨hraz, hrlz⟩ := Rd.factsR (hT0.ok 2 _ rfl)
 have hOn : OnImg W H R := by rw [hR]; exact onImg_and _ (onImg_can (onImg_one ⟨by simp only; omega, by simp only; omega, by simp only; omega, by simp only; omega⟩))
 have hReg : IsReg R (hasL R) := by rw [hR]; exact (regM_isReg rfl _ _).self
 refine eN [(0, .pointer (pB m)), (1, .slice Az nz capz), (2, cQ c)] Tryz.func59 Tryz.ntmps59 rfl hT0 ?_
 refine zSR 1 <| bD [0] 1 0 [] [6] <| zDNSR 1 <| bD [0] 1 0 [(7, iq 0)] [] <| zDNSSR 6 <| bD [0, 0] 2 4 [(10, .slice Az nz capz), (11, .pointer (pB m))] [] <| pS 3 3 <| cP 12 (.agg #[iq 0, iq 0, iq W, iq H]) (fun w hT => imgBox m W H r n cap px  w ⟨hT.ok 0 _ rfl, Row.rd (hT.ok 1 _ rfl), Row.capLe (hT.ok 1 _ rfl)⟩ hok) <| pS 4 2 <| cG (d := 13) (α := Option Addr × Nat × Nat × Nat) (fun x_ => .slice x_.1 x_.2.2.1 x_.2.2.2) (fun x_ => [.gen (rowE (x_.1) x_.2.1 x_.2.2.1 x_.2.2.2 32 4 (rvals (regM andB (canR xsz) (canR [(⟨0, 0, W, H⟩ : Rect)]))) true), .ro m [iq W, iq H, .slice (pB r) n cap] 116, .gen (rowE (pB r) r n cap 52 1 (cV px) false), rD (Az) gz oz nz 4 (rvals xsz)]) (fun x_ => True) (fun w hT => (payWithin Az gz oz nz capz xsz 0 0 W H w (hT.viewRo (.cons (i := 2) rfl Vw.rd .nil) rfl) hnz hcz).mono fun e w' ⟨A1, g2, k3, cp4, he_, ht_⟩ => ⟨(A1, g2, k3, cp4), he_, trivial, hT.news ht_ rfl⟩) ?_
 rintro ⟨A1, g2, k3, cp4⟩ hf5_
 refine fR 0 k3 A1 g2 cp4 (regM andB (canR xsz) (canR [(⟨0, 0, W, H⟩ : Rect)])) rfl fun hr6_a hr6_l hr6_c hr6_m => ?_
 refine bD [0, 0] 6 0 [(14, iq (k3 : Int)), (15, iq 0)] [] <| zDNB <| cont_rowEqR 0 (regM andB (canR xsz) (canR [(⟨0, 0, W, H⟩ : Rect)])) (R) rfl hR.symm ?_
 refine fR 0 k3 A1 g2 cp4 R rfl fun hr7_a hr7_l hr7_c hr7_m => ?_
 refine cont_rowEq (k := .u32) 2 (px) (mixL W (clrB c (R.take 0)) (clrG c) px) rfl (clear_none W px c) ?_
 refine rC 7 (iq (clrN c (areaL (R.take 0)))) rfl (congrArg (Value.int .i64) (by unfold clrN; split <;> rfl)) <| cL (α := Nat) (fun x_ : Nat => x_ ≤ k3) (fun x_ : Nat => [(0, .pointer (pB m)), (2, cQ c), (7, iq (clrN c (areaL (R.take x_)))), (13, .slice A1 k3 cp4), (14, iq (k3 : Int)), (15, iq ((x_ : Nat) : Int))]) (fun x_ : Nat => [.gen (rowE (A1) g2 k3 cp4 32 4 (rvals R) true), .ro m [iq W, iq H, .slice (pB r) n cap] 116, .gen (rowE (pB r) r n cap 52 1 (cV (mixL W (clrB c (R.take x_)) (clrG c) px)) false), rD (Az) gz oz nz 4 (rvals xsz)]) (fun x_ : Nat => k3 - x_) 0 (by omega) ?_
 rintro i hinv8_
 replace hinv8_ : i ≤ k3 := hinv8_
 have hi := hinv8_
 have hat := area_take hReg hOn hw1 hnum i
 have hat1 := area_take hReg hOn hw1 hnum (i + 1)
 have hq1 := clrN_range c hat
 have hq2 := clrN_range c hat1
 have hsucc : i < k3 → areaL (R.take (i + 1)) = areaL (R.take i) + areaI (rget R i).x0 (rget R i).y0 (rget R i).x1 (rget R i).y1 := fun h_ => areaL_take (by omega)
 refine zSR 1 <| bD [0] 1 0 [(16, .bool (decide (((i : Nat) : Int) < (k3 : Int))))] [] <| zDNS <| sD 16 rfl (fun c9_ => ?_) fun c9_ => ?_
 ·
  refine zTKNSBSR 4 <| pS 1 3 <| rC 13 (.slice (pB g2) k3 cp4) rfl (by rw [hr7_a (by omega)]) <| sS 17 (Instr.indexAt 23 (.slice (pB g2) k3 cp4) (iq ((i : Nat) : Int))) (.pointer (some ⟨g2, (i : Nat) * 4, none⟩)) (fun w hT => rI 32 4 w) <| pS 2 2 <| sS 18 (Instr.loadAt 32 (.pointer (some ⟨g2, (i : Nat) * 4, none⟩))) (.agg #[iq ((rget R (i : Nat)).x0), iq ((rget R (i : Nat)).y0), iq ((rget R (i : Nat)).x1), iq ((rget R (i : Nat)).y1)]) (fun w hT => rM 4 (rcells (rget R (i : Nat))) (Rd.rect0 (Row.rd (hT.ok 0 _ rfl)) (by omega))) <| bW [0, 0] 4 0 (fun b10 => [(0, .pointer (pB m)), (2, cQ c), (7, iq (clrN c (areaL (R.take i)))), (9, .pointer (pB b10)), (13, .slice (pB g2) k3 cp4), (14, iq (k3 : Int)), (15, iq ((i : Nat) : Int))]) (fun b10 => [.cells b10 [iq ((rget R (i : Nat)).x0), iq ((rget R (i : Nat)).y0), iq ((rget R (i : Nat)).x1), iq ((rget R (i : Nat)).y1)] 32 true, .gen (rowE (A1) g2 k3 cp4 32 4 (rvals R) true), .ro m [iq W, iq H, .slice (pB r) n cap] 116, .gen (rowE (pB r) r n cap 52 1 (cV (mixL W (clrB c (R.take i)) (clrG c) px)) false), rD (Az) gz oz nz 4 (rvals xsz)]) [0, 2, 7, 9, 13, 14, 15] fun b10 => ?_
  refine zDNR 7 <| bD [0, 0, 0, 0] 4 3 [(19, iq (clrN c (areaL (R.take i)))), (20, .pointer (pB m)), (21, .agg #[iq ((rget R (i : Nat)).x0), iq ((rget R (i : Nat)).y0), iq ((rget R (i : Nat)).x1), iq ((rget R (i : Nat)).y1)]), (22, cQ c)] [] <| fG 0 <| pS 5 2 <| cG (d := 23) (α := Unit) (fun _ => iq (fillN W H ((rget R (i : Nat)).x0) ((rget R (i : Nat)).y0) ((rget R (i : Nat)).x1) ((rget R (i : Nat)).y1) c)) (fun _ => [.gen (rowE (A1) g2 k3 cp4 32 4 (rvals R) true), .ro m [iq W, iq H, .slice (pB r) n cap] 116, .gen (rowE (pB r) r n cap 52 1 (cV (fillA W H (mixL W (clrB c (R.take i)) (clrG c) px) ((rget R (i : Nat)).x0) ((rget R (i : Nat)).y0) ((rget R (i : Nat)).x1) ((rget R (i : Nat)).y1) c)) false), rD (Az) gz oz nz 4 (rvals xsz)]) (fun _ => True) (fun w hT => (imgFill m W H r n cap (mixL W (clrB c (R.take i)) (clrG c) px) ((rget R (i : Nat)).x0) ((rget R (i : Nat)).y0) ((rget R (i : Nat)).x1) ((rget R (i : Nat)).y1) c w ⟨hT.ok 1 _ rfl, hT.ok 2 _ rfl, fun hne => hT.disj 1 2 _ _ (by omega) rfl rfl (.inr rfl) _ rfl ⟨hne, by simp⟩⟩ (hok.mixL _ (fun _ _ _ _ => hc)) hc).mono fun e w' ⟨he_, hk_, hr_⟩ => ⟨(), he_, trivial, hT.keepBut hk_ (i := 2) rfl hr_⟩) (fun _ _ => ?_)
  have hsucc := hsucc (by omega)
  rw [hsucc, clrN_add] at hq2
  refine rC 23 (iq (clrN c (areaI (rget R i).x0 (rget R i).y0 (rget R i).x1 (rget R i).y1))) rfl (congrArg (Value.int .i64) (clear_n hReg hOn (by omega) c)) <| bD [0] 6 1 [(24, iq (IntKind.i64.wrap ((clrN c (areaL (R.take i))) + (clrN c (areaI (rget R i).x0 (rget R i).y0 (rget R i).x1 (rget R i).y1)))))] [] <| wI 24 ((clrN c (areaL (R.take i))) + (clrN c (areaI (rget R i).x0 (rget R i).y0 (rget R i).x1 (rget R i).y1))) <| bD [0] 7 0 [(7, iq ((clrN c (areaL (R.take i))) + (clrN c (areaI (rget R i).x0 (rget R i).y0 (rget R i).x1 (rget R i).y1))))] [] <| zDbNR 2 <| bD [0] 1 1 [(25, iq (IntKind.i64.wrap (((i : Nat) : Int) + 1)))] [] <| wI 25 (((i : Nat) : Int) + 1) <| bD [0] 2 0 [(15, iq (((i : Nat) : Int) + 1))] [] <| zDN <| rC 13 (.slice A1 k3 cp4) rfl (by rw [hr7_a (by omega)]) <| cont_rowEq (k := .u32) 2 (fillA W H (mixL W (clrB c (R.take i)) (clrG c) px) ((rget R (i : Nat)).x0) ((rget R (i : Nat)).y0) ((rget R (i : Nat)).x1) ((rget R (i : Nat)).y1) c) (mixL W (clrB c (R.take (i + 1))) (clrG c) px) rfl (clear_step hok (by omega)) ?_
  refine rC 7 (iq (clrN c (areaL (R.take (i + 1))))) rfl (congrArg (Value.int .i64) (by rw [hsucc, clrN_add])) <| cA (i + 1) (show (i + 1) ≤ k3 from (by omega))
 refine zFXxxeNSR 2 <| bS [0, 0] 2 0 [(6, iq (clrN c (areaL (R.take i))))] <| zDNr <| rA rfl 0 (iq (clrN c (areaL (R.take i)))) fun w hT => ?_
 replace hT := hT.erase 0 (fun e h hw => by cases h; first | rfl | cases hw)
 have hik : i = R.length := by omega
 subst hik
 rw [List.take_length] at hT
 exact ⟨ret_int (by rw [List.take_length, clear_area hReg hOn hw1 hnum]), hT⟩
end Go.Proofs.YtlfahohbkgdabaaGreat
namespace Go.Proofs.YtlfahohbkgdabaaGreat
open Go Go.RowKit
def shQ (W H X Y s : Int) (r : Rect) : Rect := shwR W H X Y s r.x0 r.y0 r.x1 r.y1
theorem map_put {f : Rect → Rect} {R : List Rect} {i : Nat} (h : i < R.length) : (R.take i).map f ++ [(⟨(f (rget R i)).x0, (f (rget R i)).y0, (f (rget R i)).x1, (f (rget R i)).y1⟩ : Rect)] = (R.take (i + 1)).map f := by
  rw [take_succ_rget h, List.map_append]; rfl
theorem hasL_shown {W H X Y s : Int} (hs : 1 ≤ s ∧ s ≤ 8) (hX : -1000000 ≤ X ∧ X ≤ 1000000) (hY : -1000000 ≤ Y ∧ Y ≤ 1000000) (hw : 1 ≤ W ∧ W ≤ 256) (hh : 1 ≤ H ∧ H ≤ 256) (R : List Rect) (p q : Int) :
    hasL (R.map (shQ W H X Y s)) p q = (hasB 0 0 W H ((p - X) / s) ((q - Y) / s) && hasL R ((p - X) / s) ((q - Y) / s)) := by
  induction R with
  | nil => simp [hasL]
  | cons r R ih =>
    have e : hasL ((r :: R).map (shQ W H X Y s)) p q = (hasB (shQ W H X Y s r).x0 (shQ W H X Y s r).y0 (shQ W H X Y s r).x1 (shQ W H X Y s r).y1 p q || hasL (R.map (shQ W H X Y s)) p q) := by simp [hasL]
    have e2 : hasL (r :: R) ((p - X) / s) ((q - Y) / s) = (hasB r.x0 r.y0 r.x1 r.y1 ((p - X) / s) ((q - Y) / s) || hasL R ((p - X) / s) ((q - Y) / s)) := by simp [hasL]
    rw [e, e2, ih]
    unfold shQ
    rw [pcol_box hs hX hY hw hh]
    unfold pcolB
    cases hasB 0 0 W H ((p - X) / s) ((q - Y) / s) <;> simp
def placeP (W H X Y s : Int) (l : List Rect) (r : Rect) : List Rect := canR ((regM andB (canR l) (canR [r])).map (shQ W H X Y s))
theorem hasL_one (r : Rect) (x y : Int) : hasL [r] x y = hasB r.x0 r.y0 r.x1 r.y1 x y := by simp [hasL]
theorem hasL_place {W H X Y s : Int} (hs : 1 ≤ s ∧ s ≤ 8) (hX : -1000000 ≤ X ∧ X ≤ 1000000) (hY : -1000000 ≤ Y ∧ Y ≤ 1000000) (hw : 1 ≤ W ∧ W ≤ 256) (hh : 1 ≤ H ∧ H ≤ 256) (l : List Rect) (r : Rect) (p q : Int) :
    hasL (placeP W H X Y s l r) p q = (hasB 0 0 W H ((p - X) / s) ((q - Y) / s) && (hasB r.x0 r.y0 r.x1 r.y1 ((p - X) / s) ((q - Y) / s) && hasL l ((p - X) / s) ((q - Y) / s))) := by
  unfold placeP
  rw [hasL_can, hasL_shown hs hX hY hw hh, hasL_and, hasL_can, hasL_can, hasL_one]
  congr 1
  exact Bool.and_comm _ _
theorem areaL_ge : ∀ {R : List Rect}, (∀ r ∈ R, emptyR r = false) → ((R.length : Nat) : Int) ≤ areaL R := by
  intro R
  induction R with
  | nil => intro _; exact Int.le_refl _
  | cons r R ih =>
    intro h
    have h1 := emptyB_false.1 (show emptyB r.x0 r.y0 r.x1 r.y1 = false from h r (List.mem_cons_self ..))
    have e2 : areaL (r :: R) = areaI r.x0 r.y0 r.x1 r.y1 + areaL R := by simp [areaL]
    have := ih (fun q hq => h q (List.mem_cons_of_mem _ hq))
    have h3 : (1 : Int) * 1 ≤ (r.x1 - r.x0) * (r.y1 - r.y0) := Int.mul_le_mul (by omega) (by omega) (by omega) (by omega)
    rw [e2]
    unfold areaI
    rw [if_neg (by rw [show emptyB r.x0 r.y0 r.x1 r.y1 = false from h r (List.mem_cons_self ..)]; simp)]
    simp only [List.length_cons]
    omega
theorem reg_len_img {W H : Int} {n : Nat} {R : List Rect} {F : Int → Int → Bool} (hR : IsReg R F) (hin : OnImg W H R) (hW : 1 ≤ W) (hn : (n : Int) = W * H) : R.length ≤ n := by
  have h1 := areaL_ge (reg_ne hR hin)
  have h2 := clear_area hR hin hW hn
  have h3 := cntL_le W n R
  omega
theorem onImg_andl {W H : Int} {a : List Rect} (b : List Rect) (ha : OnImg W H a) : OnImg W H (regM andB a b) := fun x y h => ha x y (by rw [hasL_and] at h; exact (Bool.and_eq_true_iff.1 h).1)
end Go.Proofs.YtlfahohbkgdabaaGreat
namespace Go.Proofs.YtlfahohbkgdabaaGreat
open Go Go.RowKit
set_option maxRecDepth 100000
set_option maxHeartbeats 8000000
theorem payPlace (m : Nat) (W H : Int) (r n cap : Nat) (px : List Int) (X Y s al ca cb cc cd : Int) (Az : Option Addr) (gz oz nz capz : Nat) (xsz : List Rect) (w : World) (hT0 : Tab w w [.ro m [iQ W, iQ H, sL r n cap] 116, rD (some ⟨r, 0, none⟩) r 0 n 1 (cV px), rD (Az) gz oz nz 4 (rvals xsz)]) (R : List Rect) (hR : R = regM andB (canR xsz) (canR [(⟨ca, cb, cc, cd⟩ : Rect)])) (hcap : n ≤ cap) (hok : ImgOk W H n px) (hs : 1 ≤ s ∧ s ≤ 8) (hX : -1000000 ≤ X ∧ X ≤ 1000000) (hY : -1000000 ≤ Y ∧ Y ≤ 1000000) (hnz : nz ≤ 200000) (hcz : (canR xsz).length ≤ 200000) (hRl : R.length ≤ 200000) :
    Calls Tryz.prog 97 #[.agg #[pT m, iQ X, iQ Y, iQ s, iQ al, iQ ca, iQ cb, iQ cc, iQ cd], .slice Az nz capz] w fun e w' => ∃ (A_ : Option Addr) (g_ k_ cp_ : Nat), e = .returned (.slice A_ k_ cp_) ∧ Tab w w' [.gen (rowE (A_) g_ k_ cp_ 32 4 (rvals (canR (R.map (shQ W H X Y s)))) true)] := by
 have hw1 := hok.w1
 have hw2 := hok.w2
 have hh1 := hok.h1
 have hh2 := hok.h2
 have hnum := hok.num
 have hlen := hok.len
 have hle := hok.le
 obtain ⟨hraz, hrlz⟩ := Rd.factsR (hT0.ok 2 _ rfl)
 refine eN [(0, .agg #[.pointer (pB m), iq X, iq Y, iq s, iq al, iq ca, iq cb, iq cc, iq cd]), (1, .slice Az nz capz)] Tryz.func97 Tryz.ntmps97 rfl hT0 ?_
 refine zSR 2 <| bW [0, 0] 2 0 (fun b1 => [(1, .slice Az nz capz), (2, .pointer (pB b1))]) (fun b1 => [.cells b1 [.pointer (pB m), iq X, iq Y, iq s, iq al, iq ca, iq cb, iq cc, iq cd] 120 true, .ro m [iq W, iq H, .slice (pB r) n cap] 116, rD (pB r) r 0 n 1 (cV px), rD (Az) gz oz nz 4 (rvals xsz)]) [1, 2] fun b1 => ?_
 refine zDNSR 1 <| bD [0] 1 0 [(5, .slice none 0 0)] [] <| zDNSSR 6 <| bD [0, 0, 0] 3 3 [(10, .slice Az nz capz), (12, .agg #[iq ca, iq cb, iq cc, iq cd])] [11] <| pS 4 2 <| cG (d := 13) (α := Option Addr × Nat × Nat × Nat) (fun x_ => .slice x_.1 x_.2.2.1 x_.2.2.2) (fun x_ => [.gen (rowE (x_.1) x_.2.1 x_.2.2.1 x_.2.2.2 32 4 (rvals (regM andB (canR xsz) (canR [(⟨ca, cb, cc, cd⟩ : Rect)]))) true), .cells b1 [.pointer (pB m), iq X, iq Y, iq s, iq al, iq ca, iq cb, iq cc, iq cd] 120 true, .ro m [iq W, iq H, .slice (pB r) n cap] 116, rD (pB r) r 0 n 1 (cV px), rD (Az) gz oz nz 4 (rvals xsz)]) (fun x_ => True) (fun w hT => (payWithin Az gz oz nz capz xsz ca cb cc cd w (hT.viewRo (.cons (i := 3) rfl Vw.rd .nil) rfl) hnz hcz).mono fun e w' ⟨A2, g3, k4, cp5, he_, ht_⟩ => ⟨(A2, g3, k4, cp5), he_, trivial, hT.news ht_ rfl⟩) ?_
 rintro ⟨A2, g3, k4, cp5⟩ hf6_
 refine fR 0 k4 A2 g3 cp5 (regM andB (canR xsz) (canR [(⟨ca, cb, cc, cd⟩ : Rect)])) rfl fun hr7_a hr7_l hr7_c hr7_m => ?_
 refine bD [0, 0] 6 0 [(14, iq (k4 : Int)), (15, iq 0)] [] <| zDNB <| cont_rowEqR 0 (regM andB (canR xsz) (canR [(⟨ca, cb, cc, cd⟩ : Rect)])) (R) rfl hR.symm ?_
 refine fR 0 k4 A2 g3 cp5 R rfl fun hr8_a hr8_l hr8_c hr8_m => ?_
 refine cont_nilrow 32 4 ?_
 refine cont_rowEqR 0 ([]) ((R.take 0).map (shQ W H X Y s)) rfl rfl ?_
 refine cL (α := Nat × Option Addr × Nat × Nat) (fun x_ : Nat × Option Addr × Nat × Nat => x_.1 ≤ k4) (fun x_ : Nat × Option Addr × Nat × Nat => [(2, .pointer (pB b1)), (5, .slice x_.2.1 x_.1 x_.2.2.2), (13, .slice A2 k4 cp5), (14, iq (k4 : Int)), (15, iq ((x_.1 : Nat) : Int))]) (fun x_ : Nat × Option Addr × Nat × Nat => [.gen (rowE (x_.2.1) x_.2.2.1 x_.1 x_.2.2.2 32 4 (rvals ((R.take x_.1).map (shQ W H X Y s))) true), .gen (rowE (A2) g3 k4 cp5 32 4 (rvals R) true), .cells b1 [.pointer (pB m), iq X, iq Y, iq s, iq al, iq ca, iq cb, iq cc, iq cd] 120 true, .ro m [iq W, iq H, .slice (pB r) n cap] 116, rD (pB r) r 0 n 1 (cV px), rD (Az) gz oz nz 4 (rvals xsz)]) (fun x_ : Nat × Option Addr × Nat × Nat => k4 - x_.1) (0, none, 0, 0) (show (0) ≤ k4 from (by omega)) ?_
 rintro ⟨i, Aq, gq, cq⟩ hinv10_
 replace hinv10_ : i ≤ k4 := hinv10_
 have hi := hinv10_
 refine zSR 1 <| bD [0] 1 0 [(16, .bool (decide (((i : Nat) : Int) < (k4 : Int))))] [] <| zDNS <| sD 16 rfl (fun c11_ => ?_) fun c11_ => ?_
 ·
  refine zTKNSBSR 4 <| pS 1 3 <| rC 13 (.slice (pB g3) k4 cp5) rfl (by rw [hr8_a (by omega)]) <| sS 17 (Instr.indexAt 23 (.slice (pB g3) k4 cp5) (iq ((i : Nat) : Int))) (.pointer (some ⟨g3, (i : Nat) * 4, none⟩)) (fun w hT => rI 32 4 w) <| pS 2 2 <| sS 18 (Instr.loadAt 32 (.pointer (some ⟨g3, (i : Nat) * 4, none⟩))) (.agg #[iq ((rget R (i : Nat)).x0), iq ((rget R (i : Nat)).y0), iq ((rget R (i : Nat)).x1), iq ((rget R (i : Nat)).y1)]) (fun w hT => rM 4 (rcells (rget R (i : Nat))) (Rd.rect0 (Row.rd (hT.ok 1 _ rfl)) (by omega))) <| bW [0, 0] 4 0 (fun b12 => [(2, .pointer (pB b1)), (5, .slice Aq i cq), (7, .pointer (pB b12)), (13, .slice (pB g3) k4 cp5), (14, iq (k4 : Int)), (15, iq ((i : Nat) : Int))]) (fun b12 => [.cells b12 [iq ((rget R (i : Nat)).x0), iq ((rget R (i : Nat)).y0), iq ((rget R (i : Nat)).x1), iq ((rget R (i : Nat)).y1)] 32 true, .gen (rowE (Aq) gq i cq 32 4 (rvals ((R.take i).map (shQ W H X Y s))) true), .gen (rowE (A2) g3 k4 cp5 32 4 (rvals R) true), .cells b1 [.pointer (pB m), iq X, iq Y, iq s, iq al, iq ca, iq cb, iq cc, iq cd] 120 true, .ro m [iq W, iq H, .slice (pB r) n cap] 116, rD (pB r) r 0 n 1 (cV px), rD (Az) gz oz nz 4 (rvals xsz)]) [2, 5, 7, 13, 14, 15] fun b12 => ?_
  refine zDNSR 9 <| bD [3, 0] 2 7 [(20, .agg #[.pointer (pB m), iq X, iq Y, iq s, iq al, iq ca, iq cb, iq cc, iq cd]), (21, .agg #[iq ((rget R (i : Nat)).x0), iq ((rget R (i : Nat)).y0), iq ((rget R (i : Nat)).x1), iq ((rget R (i : Nat)).y1)])] [] <| fG 0 <| pS 3 6 <| cP 22 (.tuple #[.agg #[iq ((shwR W H X Y s ((rget R (i : Nat)).x0) ((rget R (i : Nat)).y0) ((rget R (i : Nat)).x1) ((rget R (i : Nat)).y1)).x0), iq ((shwR W H X Y s ((rget R (i : Nat)).x0) ((rget R (i : Nat)).y0) ((rget R (i : Nat)).x1) ((rget R (i : Nat)).y1)).y0), iq ((shwR W H X Y s ((rget R (i : Nat)).x0) ((rget R (i : Nat)).y0) ((rget R (i : Nat)).x1) ((rget R (i : Nat)).y1)).x1), iq ((shwR W H X Y s ((rget R (i : Nat)).x0) ((rget R (i : Nat)).y0) ((rget R (i : Nat)).x1) ((rget R (i : Nat)).y1)).y1)], .bool (shwB W H X Y s ((rget R (i : Nat)).x0) ((rget R (i : Nat)).y0) ((rget R (i : Nat)).x1) ((rget R (i : Nat)).y1))]) (fun w hT => layShown m W H r n cap px X Y s al ca cb cc cd ((rget R (i : Nat)).x0) ((rget R (i : Nat)).y0) ((rget R (i : Nat)).x1) ((rget R (i : Nat)).y1) w ⟨hT.ok 3 _ rfl, hT.ok 4 _ rfl, by omega⟩ hok) <| bW [0, 0, 0, 0, 0, 0] 9 0 (fun b13 => [(2, .pointer (pB b1)), (5, .slice Aq i cq), (8, .pointer (pB b13)), (13, .slice (pB g3) k4 cp5), (14, iq (k4 : Int)), (15, iq ((i : Nat) : Int))]) (fun b13 => [.cells b13 [iq ((shwR W H X Y s ((rget R (i : Nat)).x0) ((rget R (i : Nat)).y0) ((rget R (i : Nat)).x1) ((rget R (i : Nat)).y1)).x0), iq ((shwR W H X Y s ((rget R (i : Nat)).x0) ((rget R (i : Nat)).y0) ((rget R (i : Nat)).x1) ((rget R (i : Nat)).y1)).y0), iq ((shwR W H X Y s ((rget R (i : Nat)).x0) ((rget R (i : Nat)).y0) ((rget R (i : Nat)).x1) ((rget R (i : Nat)).y1)).x1), iq ((shwR W H X Y s ((rget R (i : Nat)).x0) ((rget R (i : Nat)).y0) ((rget R (i : Nat)).x1) ((rget R (i : Nat)).y1)).y1)] 32 true, .gen (rowE (Aq) gq i cq 32 4 (rvals ((R.take i).map (shQ W H X Y s))) true), .gen (rowE (A2) g3 k4 cp5 32 4 (rvals R) true), .cells b1 [.pointer (pB m), iq X, iq Y, iq s, iq al, iq ca, iq cb, iq cc, iq cd] 120 true, .ro m [iq W, iq H, .slice (pB r) n cap] 116, rD (pB r) r 0 n 1 (cV px), rD (Az) gz oz nz 4 (rvals xsz)]) [2, 5, 8, 13, 14, 15] fun b13 => ?_
  refine zDNR 5 <| bW [0, 0, 0] 3 2 (fun b14 => [(2, .pointer (pB b1)), (13, .slice (pB g3) k4 cp5), (14, iq (k4 : Int)), (15, iq ((i : Nat) : Int)), (25, .slice Aq i cq), (27, .slice (pB b14) 1 1)]) (fun b14 => [.cells b14 [iq ((shwR W H X Y s ((rget R (i : Nat)).x0) ((rget R (i : Nat)).y0) ((rget R (i : Nat)).x1) ((rget R (i : Nat)).y1)).x0), iq ((shwR W H X Y s ((rget R (i : Nat)).x0) ((rget R (i : Nat)).y0) ((rget R (i : Nat)).x1) ((rget R (i : Nat)).y1)).y0), iq ((shwR W H X Y s ((rget R (i : Nat)).x0) ((rget R (i : Nat)).y0) ((rget R (i : Nat)).x1) ((rget R (i : Nat)).y1)).x1), iq ((shwR W H X Y s ((rget R (i : Nat)).x0) ((rget R (i : Nat)).y0) ((rget R (i : Nat)).x1) ((rget R (i : Nat)).y1)).y1)] 32 true, .cells b13 [iq ((shwR W H X Y s ((rget R (i : Nat)).x0) ((rget R (i : Nat)).y0) ((rget R (i : Nat)).x1) ((rget R (i : Nat)).y1)).x0), iq ((shwR W H X Y s ((rget R (i : Nat)).x0) ((rget R (i : Nat)).y0) ((rget R (i : Nat)).x1) ((rget R (i : Nat)).y1)).y0), iq ((shwR W H X Y s ((rget R (i : Nat)).x0) ((rget R (i : Nat)).y0) ((rget R (i : Nat)).x1) ((rget R (i : Nat)).y1)).x1), iq ((shwR W H X Y s ((rget R (i : Nat)).x0) ((rget R (i : Nat)).y0) ((rget R (i : Nat)).x1) ((rget R (i : Nat)).y1)).y1)] 32 true, .gen (rowE (Aq) gq i cq 32 4 (rvals ((R.take i).map (shQ W H X Y s))) true), .gen (rowE (A2) g3 k4 cp5 32 4 (rvals R) true), .cells b1 [.pointer (pB m), iq X, iq Y, iq s, iq al, iq ca, iq cb, iq cc, iq cd] 120 true, .ro m [iq W, iq H, .slice (pB r) n cap] 116, rD (pB r) r 0 n 1 (cV px), rD (Az) gz oz nz 4 (rvals xsz)]) [2, 13, 14, 15, 25, 27] fun b14 => ?_
  refine fG 1 <| pS 4 1 <| sSW (α := Option Addr × Nat × Nat) 28 (Builtin.append_ #[23, 23] 23 #[.slice Aq i cq, .slice (pB b14) 1 1]) (fun x_ => .slice x_.1 (i + 1) x_.2.2) (fun x_ => [.cells b14 [iq ((shwR W H X Y s ((rget R (i : Nat)).x0) ((rget R (i : Nat)).y0) ((rget R (i : Nat)).x1) ((rget R (i : Nat)).y1)).x0), iq ((shwR W H X Y s ((rget R (i : Nat)).x0) ((rget R (i : Nat)).y0) ((rget R (i : Nat)).x1) ((rget R (i : Nat)).y1)).y0), iq ((shwR W H X Y s ((rget R (i : Nat)).x0) ((rget R (i : Nat)).y0) ((rget R (i : Nat)).x1) ((rget R (i : Nat)).y1)).x1), iq ((shwR W H X Y s ((rget R (i : Nat)).x0) ((rget R (i : Nat)).y0) ((rget R (i : Nat)).x1) ((rget R (i : Nat)).y1)).y1)] 32 true, .gen (rowE (x_.1) x_.2.1 (i + 1) x_.2.2 32 4 (rvals (((R.take i).map (shQ W H X Y s)) ++ [(⟨(shwR W H X Y s ((rget R (i : Nat)).x0) ((rget R (i : Nat)).y0) ((rget R (i : Nat)).x1) ((rget R (i : Nat)).y1)).x0, (shwR W H X Y s ((rget R (i : Nat)).x0) ((rget R (i : Nat)).y0) ((rget R (i : Nat)).x1) ((rget R (i : Nat)).y1)).y0, (shwR W H X Y s ((rget R (i : Nat)).x0) ((rget R (i : Nat)).y0) ((rget R (i : Nat)).x1) ((rget R (i : Nat)).y1)).x1, (shwR W H X Y s ((rget R (i : Nat)).x0) ((rget R (i : Nat)).y0) ((rget R (i : Nat)).x1) ((rget R (i : Nat)).y1)).y1⟩ : Rect)])) true), .gen (rowE (A2) g3 k4 cp5 32 4 (rvals R) true), .cells b1 [.pointer (pB m), iq X, iq Y, iq s, iq al, iq ca, iq cb, iq cc, iq cd] 120 true, .ro m [iq W, iq H, .slice (pB r) n cap] 116, rD (pB r) r 0 n 1 (cV px), rD (Az) gz oz nz 4 (rvals xsz)]) (fun _ => True) (by kernel_rfl) (fun w hT => append_own (n' := (i + 1)) (z := .agg #[iq 0, iq 0, iq 0, iq 0]) hT (i := 1) (bytes := 32) rfl (by kernel_rfl) (by kernel_rfl) rfl (by decide) (by decide) (Rd.ofCells (vals := rvals [(⟨(shwR W H X Y s ((rget R (i : Nat)).x0) ((rget R (i : Nat)).y0) ((rget R (i : Nat)).x1) ((rget R (i : Nat)).y1)).x0, (shwR W H X Y s ((rget R (i : Nat)).x0) ((rget R (i : Nat)).y0) ((rget R (i : Nat)).x1) ((rget R (i : Nat)).y1)).y0, (shwR W H X Y s ((rget R (i : Nat)).x0) ((rget R (i : Nat)).y0) ((rget R (i : Nat)).x1) ((rget R (i : Nat)).y1)).x1, (shwR W H X Y s ((rget R (i : Nat)).x0) ((rget R (i : Nat)).y0) ((rget R (i : Nat)).x1) ((rget R (i : Nat)).y1)).y1⟩ : Rect)]) (hT.ok 0 _ rfl) rfl rfl) (rvals_one [(⟨(shwR W H X Y s ((rget R (i : Nat)).x0) ((rget R (i : Nat)).y0) ((rget R (i : Nat)).x1) ((rget R (i : Nat)).y1)).x0, (shwR W H X Y s ((rget R (i : Nat)).x0) ((rget R (i : Nat)).y0) ((rget R (i : Nat)).x1) ((rget R (i : Nat)).y1)).y0, (shwR W H X Y s ((rget R (i : Nat)).x0) ((rget R (i : Nat)).y0) ((rget R (i : Nat)).x1) ((rget R (i : Nat)).y1)).x1, (shwR W H X Y s ((rget R (i : Nat)).x0) ((rget R (i : Nat)).y0) ((rget R (i : Nat)).x1) ((rget R (i : Nat)).y1)).y1⟩ : Rect)]) (by omega) (rvals_append ((R.take i).map (shQ W H X Y s)) [(⟨(shwR W H X Y s ((rget R (i : Nat)).x0) ((rget R (i : Nat)).y0) ((rget R (i : Nat)).x1) ((rget R (i : Nat)).y1)).x0, (shwR W H X Y s ((rget R (i : Nat)).x0) ((rget R (i : Nat)).y0) ((rget R (i : Nat)).x1) ((rget R (i : Nat)).y1)).y0, (shwR W H X Y s ((rget R (i : Nat)).x0) ((rget R (i : Nat)).y0) ((rget R (i : Nat)).x1) ((rget R (i : Nat)).y1)).x1, (shwR W H X Y s ((rget R (i : Nat)).x0) ((rget R (i : Nat)).y0) ((rget R (i : Nat)).x1) ((rget R (i : Nat)).y1)).y1⟩ : Rect)]) rfl) ?_
  rintro ⟨A15, g15, cp15⟩ -
  refine fR 1 (i + 1) A15 g15 cp15 (((R.take i).map (shQ W H X Y s)) ++ [(⟨(shwR W H X Y s ((rget R (i : Nat)).x0) ((rget R (i : Nat)).y0) ((rget R (i : Nat)).x1) ((rget R (i : Nat)).y1)).x0, (shwR W H X Y s ((rget R (i : Nat)).x0) ((rget R (i : Nat)).y0) ((rget R (i : Nat)).x1) ((rget R (i : Nat)).y1)).y0, (shwR W H X Y s ((rget R (i : Nat)).x0) ((rget R (i : Nat)).y0) ((rget R (i : Nat)).x1) ((rget R (i : Nat)).y1)).x1, (shwR W H X Y s ((rget R (i : Nat)).x0) ((rget R (i : Nat)).y0) ((rget R (i : Nat)).x1) ((rget R (i : Nat)).y1)).y1⟩ : Rect)]) rfl fun hr16_a hr16_l hr16_c hr16_m => ?_
  refine bD [0] 5 0 [(5, .slice A15 (i + 1) cp15)] [] <| fG 0 <| zDbNR 2 <| bD [0] 1 1 [(29, iq (IntKind.i64.wrap (((i : Nat) : Int) + 1)))] [] <| wI 29 (((i : Nat) : Int) + 1) <| bD [0] 2 0 [(15, iq (((i : Nat) : Int) + 1))] [] <| zDN <| rC 13 (.slice A2 k4 cp5) rfl (by rw [hr8_a (by omega)]) <| cont_rowEqR 0 (((R.take i).map (shQ W H X Y s)) ++ [(⟨(shwR W H X Y s ((rget R (i : Nat)).x0) ((rget R (i : Nat)).y0) ((rget R (i : Nat)).x1) ((rget R (i : Nat)).y1)).x0, (shwR W H X Y s ((rget R (i : Nat)).x0) ((rget R (i : Nat)).y0) ((rget R (i : Nat)).x1) ((rget R (i : Nat)).y1)).y0, (shwR W H X Y s ((rget R (i : Nat)).x0) ((rget R (i : Nat)).y0) ((rget R (i : Nat)).x1) ((rget R (i : Nat)).y1)).x1, (shwR W H X Y s ((rget R (i : Nat)).x0) ((rget R (i : Nat)).y0) ((rget R (i : Nat)).x1) ((rget R (i : Nat)).y1)).y1⟩ : Rect)]) ((R.take (i + 1)).map (shQ W H X Y s)) rfl (map_put (f := (shQ W H X Y s)) (by omega)) ?_
  refine cA (i + 1, A15, g15, cp15) (show (i + 1) ≤ k4 from (by omega))
 refine zFXxxeNSR 3 <| bS [0] 1 2 [(30, .slice Aq i cq)] <| fG 2 <| pS 2 1 <| cG (d := 31) (α := Option Addr × Nat × Nat × Nat) (fun x_ => .slice x_.1 x_.2.2.1 x_.2.2.2) (fun x_ => [.gen (rowE (x_.1) x_.2.1 x_.2.2.1 x_.2.2.2 32 4 (rvals (canR ((R.take i).map (shQ W H X Y s)))) true), .gen (rowE (Aq) gq i cq 32 4 (rvals ((R.take i).map (shQ W H X Y s))) true), .gen (rowE (A2) g3 k4 cp5 32 4 (rvals R) true), .ro m [iq W, iq H, .slice (pB r) n cap] 116, rD (pB r) r 0 n 1 (cV px), rD (Az) gz oz nz 4 (rvals xsz)]) (fun x_ => True) (fun w hT => (regOf Aq gq 0 i cq ((R.take i).map (shQ W H X Y s)) w (hT.viewRo (.cons (i := 0) rfl Vw.rowRd .nil) rfl) (by omega)).mono fun e w' ⟨A17, g18, k19, cp20, he_, ht_⟩ => ⟨(A17, g18, k19, cp20), he_, trivial, hT.news ht_ rfl⟩) ?_
 rintro ⟨A17, g18, k19, cp20⟩ hf21_
 refine fR 0 k19 A17 g18 cp20 (canR ((R.take i).map (shQ W H X Y s))) rfl fun hr22_a hr22_l hr22_c hr22_m => ?_
 refine bS [0] 3 0 [(4, .slice A17 k19 cp20)] <| zDNr <| rA rfl 0 (.slice A17 k19 cp20) fun w hT => ?_
 replace hT := hT.erase 5 (fun e h hw => by cases h; first | rfl | cases hw)
 replace hT := hT.erase 4 (fun e h hw => by cases h; first | rfl | cases hw)
 replace hT := hT.erase 3 (fun e h hw => by cases h; first | rfl | cases hw)
 replace hT := hT.erase 2 (fun e h hw => by cases h; first | rfl | cases hw)
 replace hT := hT.erase 1 (fun e h hw => by cases h; first | rfl | cases hw)
 have hik : i = R.length := by omega
 subst hik
 rw [List.take_length] at hT
 exact ⟨_, _, _, _, rfl, hT⟩
end Go.Proofs.YtlfahohbkgdabaaGreat
namespace Go.Proofs.YtlfahohbkgdabaaGreat
open Go Go.RowKit
set_option maxRecDepth 100000
set_option maxHeartbeats 8000000
theorem planDoC (K : Int) (A : Option Addr) (n cap : Nat) (m : Nat) (W H : Int) (r n9 cap9 : Nat) (px : List Int) (x a b c d col : Int) (w : World) (hT0 : Tab w w [.ro m [iQ W, iQ H, sL r n9 cap9] 116, .gen (rowE (some ⟨r, 0, none⟩) r n9 cap9 52 1 (cV px) false)]) (hok : ImgOk W H n9 px) (hmay : AllMay px) (hcap : n9 ≤ cap9) (hc : InC col) (hx : x = -1) :
    Calls Tryz.prog 30 #[.agg #[iQ K, .slice A n cap], pT m, .agg #[iQ x, iQ a, iQ b, iQ c, iQ d], cQ col] w fun e w' => e = .returned (iQ (clrN col ((cntL W n9 (regM andB (canR [(⟨a, b, c, d⟩ : Rect)]) (canR [(⟨0, 0, W, H⟩ : Rect)])) : Nat) : Int))) ∧ Tab w w' [.ro m [iQ W, iQ H, sL r n9 cap9] 116, .gen (rowE (some ⟨r, 0, none⟩) r n9 cap9 52 1 (cV (mixL W (clrB col (regM andB (canR [(⟨a, b, c, d⟩ : Rect)]) (canR [(⟨0, 0, W, H⟩ : Rect)]))) (clrG col) px)) false)] := by
  have hw1 := hok.w1
  have hw2 := hok.w2
  have hh1 := hok.h1
  have hh2 := hok.h2
  have hlen := hok.len
  have hle := hok.le
  obtain ⟨hc0, hc1⟩ := hc
  refine eN [(0, .agg #[iQ K, .slice A n cap]), (1, pT m), (2, .agg #[iQ x, iQ a, iQ b, iQ c, iQ d]), (3, cQ col)] Tryz.func30 Tryz.ntmps30 rfl hT0 ?_
  refine zSR 3 <| batch2 [0, 0, 0] 3 0 (fun b1 b2 => [(1, pT m), (3, cQ col), (4, pT b1), (6, pT b2)]) (fun b1 b2 => [.cells b2 [iQ x, iQ a, iQ b, iQ c, iQ d] 68 true, .cells b1 [iQ K, .slice A n cap] 28 true, .ro m [iQ W, iQ H, sL r n9 cap9] 116, .gen (rowE (some ⟨r, 0, none⟩) r n9 cap9 52 1 (cV px) false)]) rfl rfl [1, 3, 4, 6] (fun _ _ => rfl) (fun b1 b2 => by kernel_rfl) (fun b1 b2 => by kernel_rfl) (fun b1 b2 => ?_)
  refine zDNSR 4 <| bW [0, 0, 0, 0] 4 0 (fun b3 => [(1, pT m), (3, cQ col), (4, pT b1), (6, pT b2), (9, sL b3 1 1)]) (fun b3 => [.cells b3 [iQ a, iQ b, iQ c, iQ d] 32 true, .cells b2 [iQ x, iQ a, iQ b, iQ c, iQ d] 68 true, .cells b1 [iQ K, .slice A n cap] 28 true, .ro m [iQ W, iQ H, sL r n9 cap9] 116, .gen (rowE (some ⟨r, 0, none⟩) r n9 cap9 52 1 (cV px) false)]) [1, 3, 4, 6, 9] fun b3 => ?_
  refine zDNS <| cont_block <| zSR 4 <| bD [0, 1, 0, 0] 4 0 [(13, .bool (x == (-1)))] [14, 15, 16] <| zDN <| rC 13 (.bool true) rfl (congrArg Value.bool (beq_iff_eq.2 hx)) <| zTSR 5 <| bS [0, 0, 0] 3 2 [(17, pT m), (18, sL b3 1 1), (19, cQ col)] <| fG 1 <| fG 1 <| pS 4 1 <| cont_asRow 0 1 4 rfl (vals := rvals [(⟨a, b, c, d⟩ : Rect)]) rfl rfl (by decide) ?_
  refine cG (d := 20) (α := Unit) (fun _ => iQ (clrN col ((cntL W n9 (regM andB (canR [(⟨a, b, c, d⟩ : Rect)]) (canR [(⟨0, 0, W, H⟩ : Rect)])) : Nat) : Int))) (fun _ => [oE b3 1 1 32 4 (rvals [(⟨a, b, c, d⟩ : Rect)]), .ro m [iQ W, iQ H, sL r n9 cap9] 116, .gen (rowE (some ⟨r, 0, none⟩) r n9 cap9 52 1 (cV (mixL W (clrB col (regM andB (canR [(⟨a, b, c, d⟩ : Rect)]) (canR [(⟨0, 0, W, H⟩ : Rect)]))) (clrG col) px)) false)]) (fun _ => True) (fun w hT => (payClear m W H r n9 cap9 px (some ⟨b3, 0, none⟩) b3 0 1 1 [(⟨a, b, c, d⟩ : Rect)] col w (hT.view (.cons (i := 1) rfl Vw.ro (.cons (i := 2) rfl Vw.row (.cons (i := 0) rfl Vw.rowRd .nil))) (by decide)) _ rfl (Row.capLe (hT.ok 2 _ rfl)) hok ⟨hc0, hc1⟩ (by simp) (Nat.le_trans (canR_small (by simp)) (by decide))).mono fun e w' ⟨he_, ht_⟩ => ⟨(), he_, trivial, hT.merge (N := []) (s := [1, 2, 0]) ht_ (.skip rfl (.cons (i := 2) rfl Mg.row (.skip rfl .nil))) (by decide) (fun i e h => by simp at h)⟩) (fun _ _ => ?_)
  have hcn6_ := cntL_le W n9 (regM andB (canR [(⟨a, b, c, d⟩ : Rect)]) (canR [(⟨0, 0, W, H⟩ : Rect)]))
  have hmx5_ := ImgOk.mixL hok (clrB col (regM andB (canR [(⟨a, b, c, d⟩ : Rect)]) (canR [(⟨0, 0, W, H⟩ : Rect)]))) (g := clrG col) (fun _ _ _ _ => ⟨hc0, hc1⟩)
  refine bS [0] 5 0 [(8, iQ (clrN col ((cntL W n9 (regM andB (canR [(⟨a, b, c, d⟩ : Rect)]) (canR [(⟨0, 0, W, H⟩ : Rect)])) : Nat) : Int)))] <| zDNr <| blk_ret <| then_ret ?_
  refine rA rfl 0 (iQ (clrN col ((cntL W n9 (regM andB (canR [(⟨a, b, c, d⟩ : Rect)]) (canR [(⟨0, 0, W, H⟩ : Rect)])) : Nat) : Int))) fun w hT => ?_
  replace hT := hT.erase 0 (fun e h hw => by cases h; first | rfl | cases hw)
  exact ⟨rfl, hT⟩
theorem planDoD (K : Int) (A : Option Addr) (g o n cap : Nat) (its : List IT) (m : Nat) (W H : Int) (r n9 cap9 : Nat) (px : List Int) (x a b c d col : Int) (w : World) (hT0 : Tab w w [rD (A) g o n 14 (dvals IT.cells its), .gen (subE n (IT.hds 116 its)), .gen (subE n (IT.pxs its)), .ro m [iQ W, iQ H, sL r n9 cap9] 116, .gen (rowE (some ⟨r, 0, none⟩) r n9 cap9 52 1 (cV px) false)]) (hok : ImgOk W H n9 px) (hmay : AllMay px) (hcap : n9 ≤ cap9) (hc : InC col) (hx0 : 0 ≤ x) (hx1 : x < (n : Int)) (hn : n ≤ 100) (hits : ∀ x ∈ its, TS.Ok x.t) (hmb : ∀ x ∈ its, x.b ≠ m) :
    Calls Tryz.prog 30 #[.agg #[iQ K, .slice A n cap], pT m, .agg #[iQ x, iQ a, iQ b, iQ c, iQ d], cQ col] w fun e w' => e = .returned (iQ (((cntL W n9 (regM andB (canR [(⟨a, b, c, d⟩ : Rect)]) (canR [cutR (shwR (dget its (Int.toNat x)).t.W (dget its (Int.toNat x)).t.H (dget its (Int.toNat x)).t.X (dget its (Int.toNat x)).t.Y (dget its (Int.toNat x)).t.s (dget its (Int.toNat x)).t.ca (dget its (Int.toNat x)).t.cb (dget its (Int.toNat x)).t.cc (dget its (Int.toNat x)).t.cd).x0 (shwR (dget its (Int.toNat x)).t.W (dget its (Int.toNat x)).t.H (dget its (Int.toNat x)).t.X (dget its (Int.toNat x)).t.Y (dget its (Int.toNat x)).t.s (dget its (Int.toNat x)).t.ca (dget its (Int.toNat x)).t.cb (dget its (Int.toNat x)).t.cc (dget its (Int.toNat x)).t.cd).y0 (shwR (dget its (Int.toNat x)).t.W (dget its (Int.toNat x)).t.H (dget its (Int.toNat x)).t.X (dget its (Int.toNat x)).t.Y (dget its (Int.toNat x)).t.s (dget its (Int.toNat x)).t.ca (dget its (Int.toNat x)).t.cb (dget its (Int.toNat x)).t.cc (dget its (Int.toNat x)).t.cd).x1 (shwR (dget its (Int.toNat x)).t.W (dget its (Int.toNat x)).t.H (dget its (Int.toNat x)).t.X (dget its (Int.toNat x)).t.Y (dget its (Int.toNat x)).t.s (dget its (Int.toNat x)).t.ca (dget its (Int.toNat x)).t.cb (dget its (Int.toNat x)).t.cc (dget its (Int.toNat x)).t.cd).y1 0 0 W H])) : Nat) : Int))) ∧ Tab w w' [rD (A) g o n 14 (dvals IT.cells its), .gen (subE n (IT.hds 116 its)), .gen (subE n (IT.pxs its)), .ro m [iQ W, iQ H, sL r n9 cap9] 116, .gen (rowE (some ⟨r, 0, none⟩) r n9 cap9 52 1 (cV (drawL W (regM andB (canR [(⟨a, b, c, d⟩ : Rect)]) (canR [cutR (shwR (dget its (Int.toNat x)).t.W (dget its (Int.toNat x)).t.H (dget its (Int.toNat x)).t.X (dget its (Int.toNat x)).t.Y (dget its (Int.toNat x)).t.s (dget its (Int.toNat x)).t.ca (dget its (Int.toNat x)).t.cb (dget its (Int.toNat x)).t.cc (dget its (Int.toNat x)).t.cd).x0 (shwR (dget its (Int.toNat x)).t.W (dget its (Int.toNat x)).t.H (dget its (Int.toNat x)).t.X (dget its (Int.toNat x)).t.Y (dget its (Int.toNat x)).t.s (dget its (Int.toNat x)).t.ca (dget its (Int.toNat x)).t.cb (dget its (Int.toNat x)).t.cc (dget its (Int.toNat x)).t.cd).y0 (shwR (dget its (Int.toNat x)).t.W (dget its (Int.toNat x)).t.H (dget its (Int.toNat x)).t.X (dget its (Int.toNat x)).t.Y (dget its (Int.toNat x)).t.s (dget its (Int.toNat x)).t.ca (dget its (Int.toNat x)).t.cb (dget its (Int.toNat x)).t.cc (dget its (Int.toNat x)).t.cd).x1 (shwR (dget its (Int.toNat x)).t.W (dget its (Int.toNat x)).t.H (dget its (Int.toNat x)).t.X (dget its (Int.toNat x)).t.Y (dget its (Int.toNat x)).t.s (dget its (Int.toNat x)).t.ca (dget its (Int.toNat x)).t.cb (dget its (Int.toNat x)).t.cc (dget its (Int.toNat x)).t.cd).y1 0 0 W H])) (pcolC (dget its (Int.toNat x)).t.W (dget its (Int.toNat x)).t.H (dget its (Int.toNat x)).t.X (dget its (Int.toNat x)).t.Y (dget its (Int.toNat x)).t.s (dget its (Int.toNat x)).t.al (dget its (Int.toNat x)).t.ca (dget its (Int.toNat x)).t.cb (dget its (Int.toNat x)).t.cc (dget its (Int.toNat x)).t.cd (dget its (Int.toNat x)).t.px) px)) false)] := by
  have hw1 := hok.w1
  have hw2 := hok.w2
  have hh1 := hok.h1
  have hh2 := hok.h2
  have hlen := hok.len
  have hle := hok.le
  obtain ⟨hc0, hc1⟩ := hc
  obtain ⟨hra, hrl⟩ := Rd.factsD IT.size (by decide) (hT0.ok 0 _ rfl)
  refine eN [(0, .agg #[iQ K, .slice A n cap]), (1, pT m), (2, .agg #[iQ x, iQ a, iQ b, iQ c, iQ d]), (3, cQ col)] Tryz.func30 Tryz.ntmps30 rfl hT0 ?_
  refine zSR 3 <| batch2 [0, 0, 0] 3 0 (fun b1 b2 => [(1, pT m), (3, cQ col), (4, pT b1), (6, pT b2)]) (fun b1 b2 => [.cells b2 [iQ x, iQ a, iQ b, iQ c, iQ d] 68 true, .cells b1 [iQ K, .slice A n cap] 28 true, rD (A) g o n 14 (dvals IT.cells its), .gen (subE n (IT.hds 116 its)), .gen (subE n (IT.pxs its)), .ro m [iQ W, iQ H, sL r n9 cap9] 116, .gen (rowE (some ⟨r, 0, none⟩) r n9 cap9 52 1 (cV px) false)]) rfl rfl [1, 3, 4, 6] (fun _ _ => rfl) (fun b1 b2 => by kernel_rfl) (fun b1 b2 => by kernel_rfl) (fun b1 b2 => ?_)
  refine zDNSR 4 <| bW [0, 0, 0, 0] 4 0 (fun b3 => [(1, pT m), (3, cQ col), (4, pT b1), (6, pT b2), (9, sL b3 1 1)]) (fun b3 => [.cells b3 [iQ a, iQ b, iQ c, iQ d] 32 true, .cells b2 [iQ x, iQ a, iQ b, iQ c, iQ d] 68 true, .cells b1 [iQ K, .slice A n cap] 28 true, rD (A) g o n 14 (dvals IT.cells its), .gen (subE n (IT.hds 116 its)), .gen (subE n (IT.pxs its)), .ro m [iQ W, iQ H, sL r n9 cap9] 116, .gen (rowE (some ⟨r, 0, none⟩) r n9 cap9 52 1 (cV px) false)]) [1, 3, 4, 6, 9] fun b3 => ?_
  refine zDNS <| cont_block <| zSR 4 <| bD [0, 1, 0, 0] 4 0 [(13, .bool (x == (-1)))] [14, 15, 16] <| zDN <| rC 13 (.bool false) rfl (congrArg Value.bool (beq_eq_false_iff_ne.2 (by omega))) <| cFa rfl <| zSR 12 <| bD [0, 1, 0, 0] 4 8 [(25, .bool (decide (x < 0)))] [22, 23, 24] <| rC 25 (.bool false) rfl (congrArg Value.bool (decide_eq_false (by omega))) <| bD [0, 1, 0, 2, 0, 0, 0, 0] 12 0 [(21, .bool (decide (x ≥ (n : Int))))] [26, 27, 28, 29, 30, 31, 32] <| zDN <| rC 21 (.bool false) rfl (congrArg Value.bool (decide_eq_false (by omega))) <| cFa rfl <| cont_skip <| blk_normal <| zN <| zSR 12 ?_
  have hne9 := hmb _ (dget_mem (l := its) (i := Int.toNat x) (by omega))
  have hitk := hits _ (dget_mem (l := its) (i := (Int.toNat x)) (by omega))
  generalize hit : dget its (Int.toNat x) = it at *
  obtain ⟨hitw1, hitw2⟩ : 1 ≤ it.t.W ∧ it.t.W ≤ 16 := ⟨hitk.img.w1, hitk.w16⟩
  obtain ⟨hith1, hith2⟩ : 1 ≤ it.t.H ∧ it.t.H ≤ 16 := ⟨hitk.img.h1, hitk.h16⟩
  obtain ⟨hits1, hits2⟩ := hitk.s_
  obtain ⟨hitx1, hitx2⟩ := hitk.x_
  obtain ⟨hity1, hity2⟩ := hitk.y_
  obtain ⟨hita1, hita2⟩ := hitk.a_
  have hitl := hitk.img.le
  refine cont_see 5 (rD (some ⟨it.q, 0, none⟩) it.q 0 it.t.n 1 (cV it.t.px)) rfl rfl (by rw [← hit]; exact Vw.subAt (Int.toNat x) (by omega) rfl rfl) rfl ?_
  refine cM ?_
  refine cont_see 5 (.ro it.b [iQ it.t.W, iQ it.t.H, sL it.q it.t.n it.t.n] 116) rfl rfl (by rw [← hit]; exact Vw.subAtRo (Int.toNat x) (by omega) rfl) rfl ?_
  refine cM ?_
  refine bD [0, 0, 4, 0, 3] 5 7 [(33, pT m), (35, .slice A n cap), (37, iQ x)] [34, 36] <| fG 3 <| fG 3 <| pS 6 6 <| rC 35 (.slice (some ⟨g, o, none⟩) n cap) rfl (by rw [hra (by omega)]) <| sS 38 (Instr.indexAt 26 (.slice (some ⟨g, o, none⟩) n cap) (iQ x)) (.pointer (some ⟨g, o + (Int.toNat x) * 14, none⟩)) (fun w hT => rI 94 14 w) <| bD [0] 7 5 [(39, .pointer (some ⟨g, o + (Int.toNat x) * 14 + 2, none⟩))] [] <| pS 8 4 <| sS 40 (Instr.loadAt 90 (.pointer (some ⟨g, o + (Int.toNat x) * 14 + 2, none⟩))) (.agg #[pT it.b, iQ it.t.X, iQ it.t.Y, iQ it.t.s, iQ it.t.al, iQ it.t.ca, iQ it.t.cb, iQ it.t.cc, iQ it.t.cd, .slice it.t.A it.t.k it.t.cp, .string ⟨#[]⟩]) (fun w hT => rM 11 ([pT it.b, iQ it.t.X, iQ it.t.Y, iQ it.t.s, iQ it.t.al, iQ it.t.ca, iQ it.t.cb, iQ it.t.cc, iQ it.t.cd, .slice it.t.A it.t.k it.t.cp, .string ⟨#[]⟩]) (by have h_ := Rd.dsub IT.size (hT.ok 3 _ rfl) (i := (Int.toNat x)) (by omega) 2 11 rfl; rw [hit] at h_; exact h_)) <| pS 9 3 <| cP 41 (.agg #[pT it.b, iQ it.t.X, iQ it.t.Y, iQ it.t.s, iQ it.t.al, iQ it.t.ca, iQ it.t.cb, iQ it.t.cc, iQ it.t.cd]) (fun w hT => surfLayer it.b it.t.X it.t.Y it.t.s it.t.al it.t.ca it.t.cb it.t.cc it.t.cd it.t.A it.t.k it.t.cp w) <| bD [0] 10 2 [(42, sL b3 1 1)] [] <| pS 11 1 <| cont_asRow 2 1 4 rfl (vals := rvals [(⟨a, b, c, d⟩ : Rect)]) rfl rfl (by decide) ?_
  refine cG (d := 43) (α := Unit) (fun _ => iQ ((cntL W n9 (regM andB (canR [(⟨a, b, c, d⟩ : Rect)]) (canR [cutR (shwR it.t.W it.t.H it.t.X it.t.Y it.t.s it.t.ca it.t.cb it.t.cc it.t.cd).x0 (shwR it.t.W it.t.H it.t.X it.t.Y it.t.s it.t.ca it.t.cb it.t.cc it.t.cd).y0 (shwR it.t.W it.t.H it.t.X it.t.Y it.t.s it.t.ca it.t.cb it.t.cc it.t.cd).x1 (shwR it.t.W it.t.H it.t.X it.t.Y it.t.s it.t.ca it.t.cb it.t.cc it.t.cd).y1 0 0 W H])) : Nat) : Int)) (fun _ => [.ro it.b [iQ it.t.W, iQ it.t.H, sL it.q it.t.n it.t.n] 116, rD (some ⟨it.q, 0, none⟩) it.q 0 it.t.n 1 (cV it.t.px), oE b3 1 1 32 4 (rvals [(⟨a, b, c, d⟩ : Rect)]), rD (A) g o n 14 (dvals IT.cells its), .gen (subE n (IT.hds 116 its)), .gen (subE n (IT.pxs its)), .ro m [iQ W, iQ H, sL r n9 cap9] 116, .gen (rowE (some ⟨r, 0, none⟩) r n9 cap9 52 1 (cV (drawL W (regM andB (canR [(⟨a, b, c, d⟩ : Rect)]) (canR [cutR (shwR it.t.W it.t.H it.t.X it.t.Y it.t.s it.t.ca it.t.cb it.t.cc it.t.cd).x0 (shwR it.t.W it.t.H it.t.X it.t.Y it.t.s it.t.ca it.t.cb it.t.cc it.t.cd).y0 (shwR it.t.W it.t.H it.t.X it.t.Y it.t.s it.t.ca it.t.cb it.t.cc it.t.cd).x1 (shwR it.t.W it.t.H it.t.X it.t.Y it.t.s it.t.ca it.t.cb it.t.cc it.t.cd).y1 0 0 W H])) (pcolC it.t.W it.t.H it.t.X it.t.Y it.t.s it.t.al it.t.ca it.t.cb it.t.cc it.t.cd it.t.px) px)) false)]) (fun _ => True) (fun w hT => (payDraw m W H r n9 cap9 px it.b it.t.W it.t.H it.q it.t.n it.t.n it.t.px it.t.X it.t.Y it.t.s it.t.al it.t.ca it.t.cb it.t.cc it.t.cd (some ⟨b3, 0, none⟩) b3 0 1 1 [(⟨a, b, c, d⟩ : Rect)] w (hT.view (.cons (i := 6) rfl Vw.ro (.cons (i := 7) rfl Vw.row (.cons (i := 0) rfl Vw.ro (.cons (i := 1) rfl Vw.rd (.cons (i := 2) rfl Vw.rowRd .nil))))) (by decide)) _ rfl hne9 (Row.capLe (hT.ok 7 _ rfl)) hok hmay (by omega) hitk.img hitk.may (by omega) (by omega) (by omega) (by simp) (Nat.le_trans (canR_small (by simp)) (by decide))).mono fun e w' ⟨he_, ht_⟩ => ⟨(), he_, trivial, hT.merge (N := []) (s := [6, 7, 0, 1, 2]) ht_ (.skip rfl (.cons (i := 7) rfl Mg.row (.skip rfl (.skip rfl (.skip rfl .nil))))) (by decide) (fun i e h => by simp at h)⟩) (fun _ _ => ?_)
  have hcn7_ := cntL_le W n9 (regM andB (canR [(⟨a, b, c, d⟩ : Rect)]) (canR [cutR (shwR it.t.W it.t.H it.t.X it.t.Y it.t.s it.t.ca it.t.cb it.t.cc it.t.cd).x0 (shwR it.t.W it.t.H it.t.X it.t.Y it.t.s it.t.ca it.t.cb it.t.cc it.t.cd).y0 (shwR it.t.W it.t.H it.t.X it.t.Y it.t.s it.t.ca it.t.cb it.t.cc it.t.cd).x1 (shwR it.t.W it.t.H it.t.X it.t.Y it.t.s it.t.ca it.t.cb it.t.cc it.t.cd).y1 0 0 W H]))
  refine bS [0] 12 0 [(8, iQ ((cntL W n9 (regM andB (canR [(⟨a, b, c, d⟩ : Rect)]) (canR [cutR (shwR it.t.W it.t.H it.t.X it.t.Y it.t.s it.t.ca it.t.cb it.t.cc it.t.cd).x0 (shwR it.t.W it.t.H it.t.X it.t.Y it.t.s it.t.ca it.t.cb it.t.cc it.t.cd).y0 (shwR it.t.W it.t.H it.t.X it.t.Y it.t.s it.t.ca it.t.cb it.t.cc it.t.cd).x1 (shwR it.t.W it.t.H it.t.X it.t.Y it.t.s it.t.ca it.t.cb it.t.cc it.t.cd).y1 0 0 W H])) : Nat) : Int))] <| zDNr <| rA rfl 0 (iQ ((cntL W n9 (regM andB (canR [(⟨a, b, c, d⟩ : Rect)]) (canR [cutR (shwR it.t.W it.t.H it.t.X it.t.Y it.t.s it.t.ca it.t.cb it.t.cc it.t.cd).x0 (shwR it.t.W it.t.H it.t.X it.t.Y it.t.s it.t.ca it.t.cb it.t.cc it.t.cd).y0 (shwR it.t.W it.t.H it.t.X it.t.Y it.t.s it.t.ca it.t.cb it.t.cc it.t.cd).x1 (shwR it.t.W it.t.H it.t.X it.t.Y it.t.s it.t.ca it.t.cb it.t.cc it.t.cd).y1 0 0 W H])) : Nat) : Int)) fun w hT => ?_
  replace hT := hT.erase 2 (fun e h hw => by cases h; first | rfl | cases hw)
  replace hT := hT.erase 1 (fun e h hw => by cases h; first | rfl | cases hw)
  replace hT := hT.erase 0 (fun e h hw => by cases h; first | rfl | cases hw)
  exact ⟨rfl, hT⟩
end Go.Proofs.YtlfahohbkgdabaaGreat
namespace Go.Proofs.YtlfahohbkgdabaaGreat
open Go Go.RowKit
end Go.Proofs.YtlfahohbkgdabaaGreat
namespace Go.Proofs.YtlfahohbkgdabaaGreat
open Go Go.RowKit
end Go.Proofs.YtlfahohbkgdabaaGreat
namespace Go.Proofs.YtlfahohbkgdabaaGreat
open Go Go.RowKit
variable {dfs : List Deferred}
section
variable {P : Program}
end
end Go.Proofs.YtlfahohbkgdabaaGreat
namespace Go.Proofs.YtlfahohbkgdabaaGreat
open Go Go.RowKit
variable {P : Program} {dfs : List Deferred} {n : Nat} {w0 : World} {L : List (Tmp × Value)} {T : List Ent} {Q : Exit → Act → World → Prop}
end Go.Proofs.YtlfahohbkgdabaaGreat
namespace Go.Proofs.YtlfahohbkgdabaaGreat
open Go Go.RowKit
section
variable {P : Program}
end
end Go.Proofs.YtlfahohbkgdabaaGreat
namespace Go.Proofs.YtlfahohbkgdabaaGreat
open Go Go.RowKit
variable {P : Program} {dfs : List Deferred} {n : Nat} {w0 : World} {L : List (Tmp × Value)} {T : List Ent} {Q : Exit → Act → World → Prop}
end Go.Proofs.YtlfahohbkgdabaaGreat
namespace Go.Proofs.YtlfahohbkgdabaaGreat
open Go Go.RowKit
variable {dfs : List Deferred}
end Go.Proofs.YtlfahohbkgdabaaGreat
namespace Go.Proofs.YtlfahohbkgdabaaGreat
open Go Go.RowKit
section
variable {P : Program} {dfs : List Deferred} {Q : Exit → Act → World → Prop} {n : Nat} {w0 : World} {L : List (Nat × Value)} {T : List Ent}
end
theorem co_may {t : TS} (h : AllMay t.px) (x y : Int) (hok : ImgOk t.W t.H t.n t.px) : mayB (t.co x y) = true := by
  unfold TS.co pcolC
  split
  · refine fadeC_may _ ?_
    unfold atC
    split
    · rename_i hb
      obtain ⟨h1, h2, h3, h4⟩ := hasB_true.1 hb
      have := hok.place h1 h2 h3 h4
      exact (h.get (by rw [hok.len]; omega)).1
    · decide
  · decide
end Go.Proofs.YtlfahohbkgdabaaGreat
namespace Go.Proofs.YtlfahohbkgdabaaGreat
open Go Go.RowKit
def BackP (n : Nat) (p : List Nat) : Prop := p = (List.range p.length).map (fun k => n - 1 - k) ∧ p.length ≤ n
theorem BackP.nil (n : Nat) : BackP n [] := ⟨rfl, Nat.zero_le _⟩
theorem BackP.step {n : Nat} {p : List Nat} (hp : BackP n p) {x : Nat} (hx : (x : Int) = (n : Int) - 1 - ((p.length : Nat) : Int)) : BackP n (p ++ [x]) := by
  refine ⟨?_, by rw [List.length_append, List.length_singleton]; omega⟩
  rw [List.length_append, List.length_singleton, List.range_succ, List.map_append, ← hp.1]
  have : x = n - 1 - p.length := by omega
  rw [this]; rfl
theorem BackP.last {n : Nat} {p : List Nat} {x : Nat} (hp : BackP n (p ++ [x])) : x = n - 1 - p.length ∧ p.length < n := by
  obtain ⟨h1, h2⟩ := hp
  rw [List.length_append, List.length_singleton] at h1 h2
  rw [List.range_succ, List.map_append] at h1
  have := List.append_inj_right h1 (by simp)
  simp at this
  exact ⟨this, h2⟩
structure RS where
  A : Option Addr
  g : Nat
  n : Nat
  cap : Nat
  xs : List Rect
def RS.nil : RS := ⟨none, 0, 0, 0, []⟩
instance : Inhabited RS := ⟨RS.nil⟩
def RS.cells (t : RS) : List Value := [.slice t.A t.n t.cap]
theorem RS.size (t : RS) : (RS.cells t).length = 1 := rfl
theorem RS.one : ∀ a : RS, ∀ u ∈ RS.cells a, u.oneCell' = true := by
  intro a u hu
  simp only [RS.cells, List.mem_cons, List.not_mem_nil, or_false] at hu
  rcases hu with rfl; rfl
theorem make_rowS {P : Program} {w0 w : World} {T : List Ent} (hT : Tab w0 w T) {t e : TypeId} {kl kc : IntKind} {bytes : Nat} (n : Nat) (ht : P.underlying t = some (.slice e)) (hi : (P.info? e).map (fun i => (i.zero, i.size, i.bytes)) = some (some (.slice none 0 0), 1, bytes)) (hb : bytes * n ≤ 281474976710656) (hn : n ≤ 9223372036854775807) :
    ∃ (x : Nat) (w' : World), (Instr.makeSlice t (.int kl (n : Int)) (.int kc (n : Int))).run P w = .ok (.slice (some ⟨x, 0, none⟩) n n) w' ∧ True ∧ Tab w0 w' (.gen (rowE (some ⟨x, 0, none⟩) x n n e 1 (dvals RS.cells (List.replicate n RS.nil)) true) :: T) := by
  obtain ⟨i, hi1, hi2⟩ := Option.map_eq_some_iff.1 hi
  simp only [Prod.mk.injEq] at hi2
  obtain ⟨hz, hs, hby⟩ := hi2
  obtain ⟨w', hr, hown, hg⟩ := run_make_full (P := P) w 0 t e i (.slice none 0 0) 1 ht hi1 hz hs kl kc n (by rw [hby]; exact hb) (by unfold maxLen; omega) (Nat.zero_le _)
  have hvals : (madeCells (Value.slice none 0 0).cells (n * 1)).toList = dvals RS.cells (List.replicate n RS.nil) := by
    have : (Value.slice none 0 0).cells = #[.slice none 0 0] := rfl
    rw [this, Nat.mul_one, toList_madeCells_one]
    clear hr hown hg hb hn
    induction n with
    | zero => rfl
    | succ n ih => rw [List.replicate_succ, List.replicate_succ, dvals, ← ih]; rfl
  rw [hvals] at hown
  refine ⟨w.heap.size, w', hr, trivial, ?_⟩
  have hbel : Below w.heap.size w w' := ⟨hg.os, hg.tape, hg.output, hg.size, fun k hk => hg.block k hk (by simp)⟩
  exact hT.addRow hbel ⟨hown, fun _ => rfl, fun a ha => by simpa using ha.symm⟩ (fun _ => Nat.le_refl _)
structure JS where
  i : Int
  a : Int
  b : Int
  c : Int
  d : Int
deriving DecidableEq
instance : Inhabited JS := ⟨⟨0, 0, 0, 0, 0⟩⟩
def JS.cells (t : JS) : List Value := [.int .i64 t.i, .int .i64 t.a, .int .i64 t.b, .int .i64 t.c, .int .i64 t.d]
theorem JS.size (t : JS) : (JS.cells t).length = 5 := rfl
theorem JS.one : ∀ a : JS, ∀ u ∈ JS.cells a, u.oneCell' = true := by
  intro a u hu
  simp only [JS.cells, List.mem_cons, List.not_mem_nil, or_false] at hu
  rcases hu with rfl | rfl | rfl | rfl | rfl <;> rfl
def JS.of (i : Int) (r : Rect) : JS := ⟨i, r.x0, r.y0, r.x1, r.y1⟩
theorem jobs_step {xs : List Rect} {i : Nat} (h : i < xs.length) (q : Int) : (xs.take i).map (JS.of q) ++ [(⟨q, (rget xs i).x0, (rget xs i).y0, (rget xs i).x1, (rget xs i).y1⟩ : JS)] = (xs.take (i + 1)).map (JS.of q) := by
  rw [take_succ_rget h, List.map_append]; rfl
theorem lives17_eq : regM andB (canR [(⟨0, 0, 4, 4⟩ : Rect)]) [(⟨0, 0, 4, 4⟩ : Rect)] = [(⟨0, 0, 4, 4⟩ : Rect)] := by
  unfold canR
  rw [← regD_eq (kf := orB) rfl, ← regD_eq (kf := andB) rfl]
  decide +kernel
end Go.Proofs.YtlfahohbkgdabaaGreat
