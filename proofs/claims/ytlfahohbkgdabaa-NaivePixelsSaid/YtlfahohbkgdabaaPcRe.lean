/- Plain laws of regions: boxes, lengths, areas; what the laws of the layer regions come to. -/
import Derived.Test.YtlfahohbkgdabaaPcRd2
set_option linter.unusedVariables false
set_option linter.unusedSimpArgs false
namespace Go.Proofs.Ytlfahohbkgdabaa
open Go Go.RowKit

theorem hasL_can (a : List Rect) (x y : Int) : hasL (canR a) x y = hasL a x y := (canR_isReg a).has x y
/-! ### Boxes -/
def Boxed (l : List Rect) : Prop := ∀ x y, hasL l x y = true → -4 ≤ x ∧ x < 32 ∧ -4 ≤ y ∧ y < 32
theorem Boxed.op {kf : Bool → Bool → Bool} (h0 : kf false false = false) {a b : List Rect} (ha : Boxed a) (hb : Boxed b) : Boxed (regM kf a b) := by
  intro x y h
  rw [(regM_isReg h0 a b).has] at h
  unfold keepF at h
  cases e1 : hasL a x y with
  | true => exact ha x y e1
  | false =>
    cases e2 : hasL b x y with
    | true => exact hb x y e2
    | false => rw [e1, e2, h0] at h; cases h
theorem runs_length {β : Type} {lo : Int} : ∀ {l : List (Run β)} {hi : Int}, RunsOk l → (∀ r ∈ l, lo ≤ r.1 ∧ r.2.1 ≤ hi) → lo ≤ hi → (l.length : Int) ≤ hi - lo := by
  intro l
  induction l with
  | nil => intro hi _ _ h; simp; omega
  | cons r t ih =>
    intro hi h hb hle
    have h1 := hb r (by simp)
    have h2 := h.1
    have := ih (hi := r.1) h.tail (fun s hs => ⟨(hb s (by simp [hs])).1, h.below s hs⟩) (by omega)
    simp only [List.length_cons]
    omega
theorem look_at {β : Type} : ∀ {l : List (Run β)}, RunsOk l → ∀ r ∈ l, ∀ p, r.1 ≤ p → p < r.2.1 → look l p = some r.2.2 := by
  intro l
  induction l with
  | nil => intro _ r hr; cases hr
  | cons s t ih =>
    intro h r hr p h1 h2
    rcases List.mem_cons.1 hr with rfl | hr
    · rw [look, if_pos ⟨h1, h2⟩]
    · have := h.below r hr
      rw [look, if_neg (by omega)]
      exact ih h.tail r hr p h1 h2
theorem RunsOk.lt {β : Type} : ∀ {l : List (Run β)}, RunsOk l → ∀ r ∈ l, r.1 < r.2.1 := by
  intro l
  induction l with
  | nil => intro _ r hr; cases hr
  | cons s t ih =>
    intro h r hr
    rcases List.mem_cons.1 hr with rfl | hr
    · exact h.1
    · exact ih h.tail r hr
/-- Of a region within a box: its bands and their spans lie there. -/
theorem bands_in {bs : Bands} (h : BandsOk bs) (hb : ∀ x y, memB bs x y = true → -4 ≤ x ∧ x < 32 ∧ -4 ≤ y ∧ y < 32) : ∀ b ∈ bs, (-4 ≤ b.1 ∧ b.2.1 ≤ 32) ∧ ∀ s ∈ b.2.2, -4 ≤ s.1 ∧ s.2.1 ≤ 32 := by
  intro b hm
  obtain ⟨h1, h2⟩ := h.each b hm
  have hlt := h.runs.lt b hm
  have pt : ∀ s ∈ b.2.2, ∀ x y, b.1 ≤ y → y < b.2.1 → s.1 ≤ x → x < s.2.1 → -4 ≤ x ∧ x < 32 ∧ -4 ≤ y ∧ y < 32 := by
    intro s hs x y y0 y1 x0 x1
    refine hb x y ?_
    unfold memB
    rw [look_at h.runs b hm y y0 y1]
    simp only
    rw [look_at h1 s hs x x0 x1]; rfl
  have hspan : ∀ s ∈ b.2.2, -4 ≤ s.1 ∧ s.2.1 ≤ 32 := by
    intro s hs
    have hs1 := h1.lt s hs
    have a1 := pt s hs s.1 b.1 (by omega) hlt (by omega) hs1
    have a2 := pt s hs (s.2.1 - 1) b.1 (by omega) hlt (by omega) (by omega)
    omega
  refine ⟨?_, hspan⟩
  cases e : b.2.2 with
  | nil => exact absurd e h2
  | cons s t =>
    have hs : s ∈ b.2.2 := by rw [e]; simp
    have hs1 := h1.lt s hs
    have a1 := pt s hs s.1 b.1 (by omega) hlt (by omega) hs1
    have a2 := pt s hs s.1 (b.2.1 - 1) (by omega) (by omega) (by omega) hs1
    omega
theorem flatR_length {m : Nat} : ∀ {bs : Bands}, (∀ b ∈ bs, b.2.2.length ≤ m) → (flatR bs).length ≤ bs.length * m := by
  intro bs
  induction bs with
  | nil => intro _; simp [flatR]
  | cons b t ih =>
    intro h
    have h1 := ih (fun c hc => h c (by simp [hc]))
    have h2 := h b (by simp)
    rw [flatR, List.length_append, bandR_length, List.length_cons, Nat.succ_mul]
    omega
theorem boxed_len {l : List Rect} {F : Int → Int → Bool} (h : IsReg l F) (hb : Boxed l) : l.length ≤ 1296 := by
  obtain ⟨bs, h1, rfl, h2⟩ := h
  have hin := bands_in h1 (fun x y hm => hb x y (by rw [hasL_flat h1.runs]; exact hm))
  have e1 := runs_length (lo := -4) (hi := 32) h1.runs (fun r hr => (hin r hr).1) (by omega)
  have e2 : ∀ b ∈ bs, b.2.2.length ≤ 36 := fun b hm => by
    have := runs_length (lo := -4) (hi := 32) (h1.each b hm).1 (fun r hr => (hin b hm).2 r hr) (by omega)
    omega
  have e3 := flatR_length e2
  have e4 : bs.length * 36 ≤ 36 * 36 := Nat.mul_le_mul_right _ (by omega)
  omega
theorem smallR_box (r : Rect) : -4 ≤ (smallR r).x0 ∧ (smallR r).x0 ≤ (smallR r).x1 ∧ (smallR r).x1 ≤ 31 ∧ -4 ≤ (smallR r).y0 ∧ (smallR r).y0 ≤ (smallR r).y1 ∧ (smallR r).y1 ≤ 31 := by
  have h1 := aroundI_range r.x0 (m := 24) (by omega)
  have h2 := aroundI_range r.y0 (m := 24) (by omega)
  have h3 := aroundI_range r.x1 (m := 13) (by omega)
  have h4 := aroundI_range r.y1 (m := 13) (by omega)
  simp only [smallR]; omega
theorem small_boxed {l : List Rect} (h : ∀ r ∈ l, ∃ q, r = smallR q) : Boxed l := by
  intro x y hh
  obtain ⟨r, hm, h1, h2, h3, h4⟩ := hasL_true.1 hh
  obtain ⟨q, rfl⟩ := h r hm
  have := smallR_box q
  omega
theorem can_boxed {l : List Rect} (h : Boxed l) : Boxed (canR l) := fun x y hh => h x y (by rw [← hasL_can]; exact hh)
/-- A region that the laws are handed: made of small rectangles. -/
structure Good (l : List Rect) : Prop where
  reg : IsReg l (hasL l)
  box : Boxed l
theorem Good.one (r : Rect) : Good (canR [smallR r]) := ⟨(canR_isReg _).self, can_boxed (small_boxed (fun q hq => ⟨r, by simpa using hq⟩))⟩
theorem Good.len {l : List Rect} (h : Good l) : l.length ≤ 1296 := boxed_len h.reg h.box
theorem Good.op {kf : Bool → Bool → Bool} (h0 : kf false false = false) {a b : List Rect} (ha : Good a) (hb : Good b) : Good (regM kf a b) := ⟨(regM_isReg h0 a b).self, Boxed.op h0 ha.box hb.box⟩
/-! ### Areas -/
end Go.Proofs.Ytlfahohbkgdabaa

