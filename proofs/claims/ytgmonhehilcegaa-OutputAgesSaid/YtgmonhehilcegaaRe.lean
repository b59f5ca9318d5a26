/- Plain laws of regions: boxes, lengths, areas; what the laws of the layer regions come to. -/
import Derived.Test.YtgmonhehilcegaaRd2
set_option linter.unusedVariables false
set_option linter.unusedSimpArgs false
namespace Go.Proofs.Ytgmonhehilcegaa
open Go Go.RowKit

theorem reg_ext {l l' : List Rect} {F G : Int → Int → Bool} (h : IsReg l F) (h' : IsReg l' G) (e : ∀ x y, F x y = G x y) : l = l' := (h.congr e).unique h'
theorem hasL_or (a b : List Rect) (x y : Int) : hasL (regM orB a b) x y = (hasL a x y || hasL b x y) := (regM_isReg rfl a b).has x y
theorem hasL_and (a b : List Rect) (x y : Int) : hasL (regM andB a b) x y = (hasL a x y && hasL b x y) := (regM_isReg rfl a b).has x y
theorem hasL_less (a b : List Rect) (x y : Int) : hasL (regM lessB a b) x y = (hasL a x y && !hasL b x y) := (regM_isReg rfl a b).has x y
theorem hasL_xor (a b : List Rect) (x y : Int) : hasL (regM xorB a b) x y = (hasL a x y != hasL b x y) := (regM_isReg rfl a b).has x y
theorem hasL_can (a : List Rect) (x y : Int) : hasL (canR a) x y = hasL a x y := (canR_isReg a).has x y
theorem nil_isReg : IsReg [] (fun _ _ => false) := ⟨[], ⟨trivial, fun b hb => by cases hb⟩, rfl, fun _ _ => rfl⟩
theorem reg_nil {kf : Bool → Bool → Bool} (h0 : kf false false = false) {a b : List Rect} (h : ∀ x y, kf (hasL a x y) (hasL b x y) = false) : regM kf a b = [] :=
  reg_ext (regM_isReg h0 a b) nil_isReg h
theorem IsReg.nil_iff {l : List Rect} {F : Int → Int → Bool} (h : IsReg l F) : l = [] ↔ ∀ x y, F x y = false := by
  constructor
  · rintro rfl x y
    rw [← h.has x y]; rfl
  · intro e
    exact reg_ext h nil_isReg e

/-! ### Boxes -/
def Boxed (l : List Rect) : Prop := ∀ x y, hasL l x y = true → -4 ≤ x ∧ x < 32 ∧ -4 ≤ y ∧ y < 32
theorem Boxed.op {kf : Bool → Bool → Bool} (h0 : kf false false = false) {a b : List Rect} (ha : Boxed a) (hb : Boxed b) : Boxed (regM kf a b) := by
  intro x y h
  rw [(regM_isReg h0 a b).has] at h
  unfold keepF at h
  cases e1 : hasL a x y with
  | true => exact ha x y e1
  | false =>
    cases e2 : hasL b x y with
    | true => exact hb x y e2
    | false => rw [e1, e2, h0] at h; cases h
theorem runs_length {β : Type} {lo : Int} : ∀ {l : List (Run β)} {hi : Int}, RunsOk l → (∀ r ∈ l, lo ≤ r.1 ∧ r.2.1 ≤ hi) → lo ≤ hi → (l.length : Int) ≤ hi - lo := by
  intro l
  induction l with
  | nil => intro hi _ _ h; simp; omega
  | cons r t ih =>
    intro hi h hb hle
    have h1 := hb r (by simp)
    have h2 := h.1
    have := ih (hi := r.1) h.tail (fun s hs => ⟨(hb s (by simp [hs])).1, h.below s hs⟩) (by omega)
    simp only [List.length_cons]
    omega
theorem look_hi {β : Type} {r : Run β} {t : List (Run β)} (h : RunsOk (r :: t)) : look (r :: t) (r.2.1 - 1) = some r.2.2 := by
  have := h.1
  rw [look, if_pos (by omega)]
theorem look_at {β : Type} : ∀ {l : List (Run β)}, RunsOk l → ∀ r ∈ l, ∀ p, r.1 ≤ p → p < r.2.1 → look l p = some r.2.2 := by
  intro l
  induction l with
  | nil => intro _ r hr; cases hr
  | cons s t ih =>
    intro h r hr p h1 h2
    rcases List.mem_cons.1 hr with rfl | hr
    · rw [look, if_pos ⟨h1, h2⟩]
    · have := h.below r hr
      rw [look, if_neg (by omega)]
      exact ih h.tail r hr p h1 h2
theorem RunsOk.lt {β : Type} : ∀ {l : List (Run β)}, RunsOk l → ∀ r ∈ l, r.1 < r.2.1 := by
  intro l
  induction l with
  | nil => intro _ r hr; cases hr
  | cons s t ih =>
    intro h r hr
    rcases List.mem_cons.1 hr with rfl | hr
    · exact h.1
    · exact ih h.tail r hr
/-- Of a region within a box: its bands and their spans lie there. -/
theorem bands_in {bs : Bands} (h : BandsOk bs) (hb : ∀ x y, memB bs x y = true → -4 ≤ x ∧ x < 32 ∧ -4 ≤ y ∧ y < 32) : ∀ b ∈ bs, (-4 ≤ b.1 ∧ b.2.1 ≤ 32) ∧ ∀ s ∈ b.2.2, -4 ≤ s.1 ∧ s.2.1 ≤ 32 := by
  intro b hm
  obtain ⟨h1, h2⟩ := h.each b hm
  have hlt := h.runs.lt b hm
  have pt : ∀ s ∈ b.2.2, ∀ x y, b.1 ≤ y → y < b.2.1 → s.1 ≤ x → x < s.2.1 → -4 ≤ x ∧ x < 32 ∧ -4 ≤ y ∧ y < 32 := by
    intro s hs x y y0 y1 x0 x1
    refine hb x y ?_
    unfold memB
    rw [look_at h.runs b hm y y0 y1]
    simp only
    rw [look_at h1 s hs x x0 x1]; rfl
  have hspan : ∀ s ∈ b.2.2, -4 ≤ s.1 ∧ s.2.1 ≤ 32 := by
    intro s hs
    have hs1 := h1.lt s hs
    have a1 := pt s hs s.1 b.1 (by omega) hlt (by omega) hs1
    have a2 := pt s hs (s.2.1 - 1) b.1 (by omega) hlt (by omega) (by omega)
    omega
  refine ⟨?_, hspan⟩
  cases e : b.2.2 with
  | nil => exact absurd e h2
  | cons s t =>
    have hs : s ∈ b.2.2 := by rw [e]; simp
    have hs1 := h1.lt s hs
    have a1 := pt s hs s.1 b.1 (by omega) hlt (by omega) hs1
    have a2 := pt s hs s.1 (b.2.1 - 1) (by omega) (by omega) (by omega) hs1
    omega
theorem flatR_length {m : Nat} : ∀ {bs : Bands}, (∀ b ∈ bs, b.2.2.length ≤ m) → (flatR bs).length ≤ bs.length * m := by
  intro bs
  induction bs with
  | nil => intro _; simp [flatR]
  | cons b t ih =>
    intro h
    have h1 := ih (fun c hc => h c (by simp [hc]))
    have h2 := h b (by simp)
    rw [flatR, List.length_append, bandR_length, List.length_cons, Nat.succ_mul]
    omega
theorem boxed_len {l : List Rect} {F : Int → Int → Bool} (h : IsReg l F) (hb : Boxed l) : l.length ≤ 1296 := by
  obtain ⟨bs, h1, rfl, h2⟩ := h
  have hin := bands_in h1 (fun x y hm => hb x y (by rw [hasL_flat h1.runs]; exact hm))
  have e1 := runs_length (lo := -4) (hi := 32) h1.runs (fun r hr => (hin r hr).1) (by omega)
  have e2 : ∀ b ∈ bs, b.2.2.length ≤ 36 := fun b hm => by
    have := runs_length (lo := -4) (hi := 32) (h1.each b hm).1 (fun r hr => (hin b hm).2 r hr) (by omega)
    omega
  have e3 := flatR_length e2
  have e4 : bs.length * 36 ≤ 36 * 36 := Nat.mul_le_mul_right _ (by omega)
  omega
theorem flatR_mem : ∀ {bs : Bands} {r : Rect}, r ∈ flatR bs → ∃ b ∈ bs, ∃ s ∈ b.2.2, r = ⟨s.1, b.1, s.2.1, b.2.1⟩ := by
  intro bs
  induction bs with
  | nil => intro r h; cases h
  | cons b t ih =>
    intro r h
    rw [flatR] at h
    rcases List.mem_append.1 h with h | h
    · obtain ⟨c, hc, s, hs, e⟩ := ih h
      exact ⟨c, by simp [hc], s, hs, e⟩
    · unfold bandR at h
      rw [List.mem_reverse, List.mem_map] at h
      obtain ⟨s, hs, e⟩ := h
      exact ⟨b, by simp, s, hs, e.symm⟩
/-- A rectangle of a region within the box. -/
structure InBox (r : Rect) : Prop where
  x : -4 ≤ r.x0 ∧ r.x0 < r.x1 ∧ r.x1 ≤ 32
  y : -4 ≤ r.y0 ∧ r.y0 < r.y1 ∧ r.y1 ≤ 32
theorem boxed_rects {l : List Rect} {F : Int → Int → Bool} (h : IsReg l F) (hb : Boxed l) : ∀ r ∈ l, InBox r := by
  obtain ⟨bs, h1, rfl, h2⟩ := h
  have hin := bands_in h1 (fun x y hm => hb x y (by rw [hasL_flat h1.runs]; exact hm))
  intro r hr
  obtain ⟨b, hm, s, hs, rfl⟩ := flatR_mem hr
  have a1 := (hin b hm).1
  have a2 := (hin b hm).2 s hs
  have a3 := h1.runs.lt b hm
  have a4 := (h1.each b hm).1.lt s hs
  exact ⟨⟨a2.1, a4, a2.2⟩, ⟨a1.1, a3, a1.2⟩⟩
theorem smallR_box (r : Rect) : -4 ≤ (smallR r).x0 ∧ (smallR r).x0 ≤ (smallR r).x1 ∧ (smallR r).x1 ≤ 31 ∧ -4 ≤ (smallR r).y0 ∧ (smallR r).y0 ≤ (smallR r).y1 ∧ (smallR r).y1 ≤ 31 := by
  have h1 := aroundI_range r.x0 (m := 24) (by omega)
  have h2 := aroundI_range r.y0 (m := 24) (by omega)
  have h3 := aroundI_range r.x1 (m := 13) (by omega)
  have h4 := aroundI_range r.y1 (m := 13) (by omega)
  simp only [smallR]; omega
theorem small_boxed {l : List Rect} (h : ∀ r ∈ l, ∃ q, r = smallR q) : Boxed l := by
  intro x y hh
  obtain ⟨r, hm, h1, h2, h3, h4⟩ := hasL_true.1 hh
  obtain ⟨q, rfl⟩ := h r hm
  have := smallR_box q
  omega
theorem smallL_mem {l : List Rect} {m : Nat} : ∀ r ∈ smallL l m, ∃ q, r = smallR q := by
  intro r hr
  obtain ⟨q, _, e⟩ := List.mem_map.1 hr
  exact ⟨q, e.symm⟩
theorem can_boxed {l : List Rect} (h : Boxed l) : Boxed (canR l) := fun x y hh => h x y (by rw [← hasL_can]; exact hh)
/-- A region that the laws are handed: made of small rectangles. -/
structure Good (l : List Rect) : Prop where
  reg : IsReg l (hasL l)
  box : Boxed l
theorem Good.of (xs : List Rect) (m : Nat) : Good (canR (smallL xs m)) := ⟨(canR_isReg _).self, can_boxed (small_boxed smallL_mem)⟩
theorem Good.one (r : Rect) : Good (canR [smallR r]) := ⟨(canR_isReg _).self, can_boxed (small_boxed (fun q hq => ⟨r, by simpa using hq⟩))⟩
theorem Good.len {l : List Rect} (h : Good l) : l.length ≤ 1296 := boxed_len h.reg h.box
theorem Good.op {kf : Bool → Bool → Bool} (h0 : kf false false = false) {a b : List Rect} (ha : Good a) (hb : Good b) : Good (regM kf a b) := ⟨(regM_isReg h0 a b).self, Boxed.op h0 ha.box hb.box⟩
theorem Good.can {a : List Rect} (ha : Good a) : canR a = a := (canR_isReg a).unique ha.reg
theorem lives2_eq : canR [⟨0, 0, 2, 2⟩, ⟨2, 0, 4, 2⟩] = [⟨0, 0, 4, 2⟩] := by
  unfold canR
  rw [← regD_eq (kf := orB) rfl]
  decide +kernel

/-! ### Areas -/
def areaL (l : List Rect) : Int := (l.map fun r => areaI r.x0 r.y0 r.x1 r.y1).sum
theorem areaL_append (a b : List Rect) : areaL (a ++ b) = areaL a + areaL b := by simp [areaL]
/-- How many of the numbers lo, lo + 1, .. (m of them) a Bool is true of. -/
def cntB (f : Int → Bool) (lo : Int) : Nat → Int
  | 0 => 0
  | m + 1 => cntB f lo m + if f (lo + (m : Int)) then 1 else 0
theorem cntB_add {f g h : Int → Bool} {lo : Int} : ∀ {m : Nat}, (∀ t, lo ≤ t → t < lo + m → h t = (f t || g t) ∧ (f t && g t) = false) → cntB h lo m = cntB f lo m + cntB g lo m := by
  intro m
  induction m with
  | zero => intro _; simp [cntB]
  | succ m ih =>
    intro hh
    have h1 := ih (fun t a b => hh t a (by omega))
    obtain ⟨h2, h3⟩ := hh (lo + (m : Int)) (by omega) (by omega)
    rw [cntB, cntB, cntB, h1, h2]
    cases e1 : f (lo + (m : Int)) <;> cases e2 : g (lo + (m : Int)) <;> simp_all <;> omega
theorem cntB_none {f : Int → Bool} {lo : Int} : ∀ {m : Nat}, (∀ t, lo ≤ t → t < lo + m → f t = false) → cntB f lo m = 0 := by
  intro m
  induction m with
  | zero => intro _; rfl
  | succ m ih =>
    intro h
    rw [cntB, ih (fun t a b => h t a (by omega)), h _ (by omega) (by omega)]; rfl
theorem cntB_congr {f g : Int → Bool} {lo : Int} : ∀ {m : Nat}, (∀ t, lo ≤ t → t < lo + m → f t = g t) → cntB f lo m = cntB g lo m := by
  intro m
  induction m with
  | zero => intro _; rfl
  | succ m ih =>
    intro h
    rw [cntB, cntB, ih (fun t a b => h t a (by omega)), h _ (by omega) (by omega)]
theorem cntB_span {a b lo : Int} : ∀ {m : Nat}, lo ≤ a → a ≤ b → cntB (fun t => decide (a ≤ t ∧ t < b)) lo m = max 0 (min b (lo + m) - a) := by
  intro m
  induction m with
  | zero => intro h1 h2; simp only [cntB]; omega
  | succ m ih =>
    intro h1 h2
    rw [cntB, ih h1 h2]
    by_cases h : a ≤ lo + (m : Int) ∧ lo + (m : Int) < b
    · rw [decide_eq_true h, if_pos rfl]; omega
    · rw [decide_eq_false h, if_neg (by simp)]; omega
/-- A sum over the numbers of a box. -/
def sumB (f : Int → Int) (lo : Int) : Nat → Int
  | 0 => 0
  | m + 1 => sumB f lo m + f (lo + (m : Int))
theorem sumB_add {f g h : Int → Int} {lo : Int} : ∀ {m : Nat}, (∀ t, lo ≤ t → t < lo + m → h t = f t + g t) → sumB h lo m = sumB f lo m + sumB g lo m := by
  intro m
  induction m with
  | zero => intro _; simp [sumB]
  | succ m ih =>
    intro hh
    rw [sumB, sumB, sumB, ih (fun t a b => hh t a (by omega)), hh _ (by omega) (by omega)]; omega
theorem sumB_zero {f : Int → Int} {lo : Int} : ∀ {m : Nat}, (∀ t, lo ≤ t → t < lo + m → f t = 0) → sumB f lo m = 0 := by
  intro m
  induction m with
  | zero => intro _; rfl
  | succ m ih =>
    intro hh
    rw [sumB, ih (fun t a b => hh t a (by omega)), hh _ (by omega) (by omega)]; rfl
theorem sumB_band {c lo y y' : Int} : ∀ {m : Nat}, lo ≤ y → y ≤ y' → sumB (fun t => if decide (y ≤ t ∧ t < y') then c else 0) lo m = max 0 (min y' (lo + m) - y) * c := by
  intro m
  induction m with
  | zero =>
    intro h1 h2
    rw [sumB, show max 0 (min y' (lo + ((0 : Nat) : Int)) - y) = 0 by omega, Int.zero_mul]
  | succ m ih =>
    intro h1 h2
    rw [sumB, ih h1 h2]
    by_cases h : y ≤ lo + (m : Int) ∧ lo + (m : Int) < y'
    · rw [decide_eq_true h, if_pos rfl, show max 0 (min y' (lo + ((m + 1 : Nat) : Int)) - y) = max 0 (min y' (lo + (m : Int)) - y) + 1 by omega, Int.add_mul, Int.one_mul]
    · rw [decide_eq_false h, if_neg (by simp), show max 0 (min y' (lo + ((m + 1 : Nat) : Int)) - y) = max 0 (min y' (lo + (m : Int)) - y) by omega]; omega
/-- The points of the box, counted. -/
def ptsB (F : Int → Int → Bool) : Int := sumB (fun y => cntB (fun x => F x y) (-4) 36) (-4) 36
theorem ptsB_add {F G H : Int → Int → Bool} (h : ∀ x y, H x y = (F x y || G x y) ∧ (F x y && G x y) = false) : ptsB H = ptsB F + ptsB G :=
  sumB_add (fun y _ _ => cntB_add (fun x _ _ => h x y))
theorem ptsB_congr {F G : Int → Int → Bool} (h : ∀ x y, F x y = G x y) : ptsB F = ptsB G := by
  have : F = G := funext fun x => funext fun y => h x y
  rw [this]
theorem cnt_spans {sp : Spans} : RunsOk sp → (∀ s ∈ sp, -4 ≤ s.1 ∧ s.2.1 ≤ 32) → cntB (fun x => (look sp x).isSome) (-4) 36 = (sp.map fun s => s.2.1 - s.1).sum := by
  induction sp with
  | nil => intro _ _; exact cntB_none (fun t _ _ => rfl)
  | cons s t ih =>
    intro h hb
    have h1 := hb s (by simp)
    have h2 := h.1
    have h3 := ih h.tail (fun q hq => hb q (by simp [hq]))
    have h4 := h.below
    have e := cntB_add (f := fun x => decide (s.1 ≤ x ∧ x < s.2.1)) (g := fun x => (look t x).isSome) (h := fun x => (look (s :: t) x).isSome) (lo := -4) (m := 36) (fun x _ _ => by
      rw [look]
      by_cases hx : s.1 ≤ x ∧ x < s.2.1
      · rw [if_pos hx, decide_eq_true hx, look_above h4 hx.1]; simp
      · rw [if_neg hx, decide_eq_false hx]; simp)
    rw [e, h3, cntB_span h1.1 (by omega), List.map_cons, List.sum_cons]
    omega
theorem areaL_band {y y' : Int} (hy : y < y') {sp : Spans} (h : RunsOk sp) : areaL (bandR y y' sp) = (y' - y) * (sp.map fun s => s.2.1 - s.1).sum := by
  induction sp with
  | nil => simp [areaL, bandR]
  | cons s t ih =>
    have e : bandR y y' (s :: t) = bandR y y' t ++ [spR y y' s] := by simp [bandR]
    have h1 := h.1
    rw [e, areaL_append, ih h.tail]
    have : areaL [spR y y' s] = (s.2.1 - s.1) * (y' - y) := by
      simp only [areaL, List.map_cons, List.map_nil, List.sum_cons, List.sum_nil, spR, areaI]
      rw [emptyB_false.2 ⟨h1, hy⟩]
      simp
    rw [this, List.map_cons, List.sum_cons, Int.mul_add, Int.mul_comm (s.2.1 - s.1)]
    omega
theorem area_flat {bs : Bands} : BandsOk bs → (∀ b ∈ bs, (-4 ≤ b.1 ∧ b.2.1 ≤ 32) ∧ ∀ s ∈ b.2.2, -4 ≤ s.1 ∧ s.2.1 ≤ 32) → areaL (flatR bs) = ptsB (memB bs) := by
  induction bs with
  | nil => intro _ _; exact (sumB_zero (fun y _ _ => cntB_none (fun x _ _ => rfl))).symm
  | cons b t ih =>
    intro h hin
    have h1 := ih ⟨h.runs.tail, fun c hc => h.each c (by simp [hc])⟩ (fun c hc => hin c (by simp [hc]))
    obtain ⟨g1, g2⟩ := hin b (by simp)
    obtain ⟨k1, k2⟩ := h.each b (by simp)
    have hlt := h.runs.1
    have hbel := h.runs.below
    have e := ptsB_add (F := fun x y => decide (b.1 ≤ y ∧ y < b.2.1) && (look b.2.2 x).isSome) (G := memB t) (H := memB (b :: t)) (fun x y => by
      unfold memB
      rw [look]
      by_cases hy : b.1 ≤ y ∧ y < b.2.1
      · rw [if_pos hy, decide_eq_true hy, look_above hbel hy.1]; simp
      · rw [if_neg hy, decide_eq_false hy]; simp)
    rw [flatR, areaL_append, h1, areaL_band hlt k1, e]
    have e2 : ptsB (fun x y => decide (b.1 ≤ y ∧ y < b.2.1) && (look b.2.2 x).isSome) = (b.2.1 - b.1) * (b.2.2.map fun s => s.2.1 - s.1).sum := by
      unfold ptsB
      rw [← cnt_spans k1 g2]
      have e3 : (fun y => cntB (fun x => decide (b.1 ≤ y ∧ y < b.2.1) && (look b.2.2 x).isSome) (-4) 36) = fun y => if decide (b.1 ≤ y ∧ y < b.2.1) then cntB (fun x => (look b.2.2 x).isSome) (-4) 36 else 0 := by
        funext y
        by_cases hy : b.1 ≤ y ∧ y < b.2.1
        · rw [decide_eq_true hy]; simp
        · rw [decide_eq_false hy]; simp only [Bool.false_and, Bool.false_eq_true, if_false]; exact cntB_none (fun _ _ _ => rfl)
      rw [e3, sumB_band g1.1 (by omega)]
      congr 1
      omega
    rw [e2]; omega
theorem Good.area {l : List Rect} (h : Good l) : areaL l = ptsB (hasL l) := by
  obtain ⟨bs, h1, e, h2⟩ := h.reg
  have hin := bands_in h1 (fun x y hm => h.box x y (by rw [e, hasL_flat h1.runs]; exact hm))
  conv => lhs; rw [e]
  rw [area_flat h1 hin]
  exact ptsB_congr h2
theorem area_two {p q : List Rect} (hp : Good p) (hq : Good q) : areaL (regM orB p q) + areaL (regM andB p q) = areaL p + areaL q := by
  rw [hp.area, hq.area, (hp.op (kf := orB) rfl hq).area, (hp.op (kf := andB) rfl hq).area]
  -- p or q: p, and q without p; q: q without p, and both
  have e1 : ptsB (hasL (regM orB p q)) = ptsB (hasL p) + ptsB (hasL (regM lessB q p)) := ptsB_add (fun x y => by rw [hasL_or, hasL_less]; cases hasL p x y <;> cases hasL q x y <;> decide)
  have e2 : ptsB (hasL q) = ptsB (hasL (regM lessB q p)) + ptsB (hasL (regM andB p q)) := ptsB_add (fun x y => by rw [hasL_and, hasL_less]; cases hasL p x y <;> cases hasL q x y <;> decide)
  omega
theorem area_parts {p q : List Rect} (hp : Good p) (hq : Good q) : areaL (regM andB p q) + areaL (regM lessB p q) = areaL p := by
  rw [hp.area, (hp.op (kf := lessB) rfl hq).area, (hp.op (kf := andB) rfl hq).area]
  exact (ptsB_add (fun x y => by rw [hasL_and, hasL_less]; cases hasL p x y <;> cases hasL q x y <;> decide)).symm
theorem areaL_range : ∀ {l : List Rect}, (∀ r ∈ l, InBox r) → 0 ≤ areaL l ∧ areaL l ≤ 1296 * l.length := by
  intro l
  induction l with
  | nil => intro _; simp [areaL]
  | cons r t ih =>
    intro h
    obtain ⟨⟨a1, a2, a3⟩, ⟨b1, b2, b3⟩⟩ := h r (by simp)
    have h2 := ih (fun q hq => h q (by simp [hq]))
    have e : areaL (r :: t) = areaI r.x0 r.y0 r.x1 r.y1 + areaL t := by simp [areaL]
    have e2 : areaI r.x0 r.y0 r.x1 r.y1 = (r.x1 - r.x0) * (r.y1 - r.y0) := by unfold areaI; rw [emptyB_false.2 ⟨a2, b2⟩]; simp
    have e3 : (r.x1 - r.x0) * (r.y1 - r.y0) ≤ 36 * 36 := mul_le_of (by omega) (by omega) (by omega) (by omega)
    have e4 : 0 ≤ (r.x1 - r.x0) * (r.y1 - r.y0) := Int.mul_nonneg (by omega) (by omega)
    rw [e, e2]
    simp only [List.length_cons]
    omega
structure FarR (r : Rect) : Prop where
  a : -2000000 ≤ r.x0 ∧ r.x0 ≤ 2000000
  b : -2000000 ≤ r.y0 ∧ r.y0 ≤ 2000000
  c : -2000000 ≤ r.x1 ∧ r.x1 ≤ 2000000
  d : -2000000 ≤ r.y1 ∧ r.y1 ≤ 2000000
theorem InBox.far {r : Rect} (h : InBox r) : FarR r := by
  obtain ⟨⟨a1, a2, a3⟩, ⟨b1, b2, b3⟩⟩ := h
  exact ⟨by omega, by omega, by omega, by omega⟩
theorem areaI_far {r : Rect} (h : FarR r) : 0 ≤ areaI r.x0 r.y0 r.x1 r.y1 ∧ areaI r.x0 r.y0 r.x1 r.y1 ≤ 16000000000000 := by
  obtain ⟨h1, h2, h3, h4⟩ := h
  unfold areaI
  cases e : emptyB r.x0 r.y0 r.x1 r.y1 with
  | true => simp
  | false =>
    have he := emptyB_false.1 e
    simp only [Bool.false_eq_true, if_false]
    have p1 : (r.x1 - r.x0) * (r.y1 - r.y0) ≤ 4000000 * 4000000 := mul_le_of (by omega) (by omega) (by omega) (by omega)
    have p2 : 0 ≤ (r.x1 - r.x0) * (r.y1 - r.y0) := Int.mul_nonneg (by omega) (by omega)
    omega
theorem areaL_far : ∀ {l : List Rect}, (∀ r ∈ l, FarR r) → 0 ≤ areaL l ∧ areaL l ≤ 16000000000000 * l.length := by
  intro l
  induction l with
  | nil => intro _; simp [areaL]
  | cons r t ih =>
    intro h
    have h1 := areaI_far (h r (by simp))
    have h2 := ih (fun q hq => h q (by simp [hq]))
    have e : areaL (r :: t) = areaI r.x0 r.y0 r.x1 r.y1 + areaL t := by simp [areaL]
    rw [e]
    simp only [List.length_cons]
    omega
theorem areaL_far_take {l : List Rect} {i : Nat} (h : ∀ r ∈ l, FarR r) (hi : i ≤ l.length) : 0 ≤ areaL (l.take i) ∧ areaL (l.take i) ≤ 16000000000000 * i := by
  have := areaL_far (l := l.take i) (fun r hr => h r (List.mem_of_mem_take hr))
  rw [List.length_take] at this
  omega
theorem Good.far {l : List Rect} (h : Good l) : ∀ r ∈ l, FarR r := fun r hr => (boxed_rects h.reg h.box r hr).far
theorem areaL_take {l : List Rect} {i : Nat} (h : i < l.length) : areaL (l.take (i + 1)) = areaL (l.take i) + areaI (rget l i).x0 (rget l i).y0 (rget l i).x1 (rget l i).y1 := by
  rw [take_succ_rget h, areaL_append]; simp [areaL]
end Go.Proofs.Ytgmonhehilcegaa
