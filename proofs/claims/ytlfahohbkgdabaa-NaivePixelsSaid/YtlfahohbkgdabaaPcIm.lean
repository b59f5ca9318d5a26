/- Plain words of the layers: rectangles, colors, images, as Lean data; an image in memory. -/
import Derived.Test.YtlfahohbkgdabaaPcSd
set_option linter.unusedVariables false
set_option linter.unusedSimpArgs false
namespace Go.Proofs.Ytlfahohbkgdabaa
open Go Go.RowKit

/-! ### Rectangles -/
structure Rect where
  x0 : Int
  y0 : Int
  x1 : Int
  y1 : Int
  deriving DecidableEq
def hasB (a b c d x y : Int) : Bool := decide (a ≤ x) && decide (x < c) && decide (b ≤ y) && decide (y < d)
def emptyB (a b c d : Int) : Bool := decide (a ≥ c) || decide (b ≥ d)
def cutR (a b c d a' b' c' d' : Int) : Rect := if emptyB (max a a') (max b b') (min c c') (min d d') then ⟨0, 0, 0, 0⟩ else ⟨max a a', max b b', min c c', min d d'⟩
theorem emptyB_true {a b c d : Int} : emptyB a b c d = true ↔ a ≥ c ∨ b ≥ d := by simp [emptyB]
theorem emptyB_false {a b c d : Int} : emptyB a b c d = false ↔ a < c ∧ b < d := by simp [emptyB]
theorem hasB_true {a b c d x y : Int} : hasB a b c d x y = true ↔ a ≤ x ∧ x < c ∧ b ≤ y ∧ y < d := by simp [hasB, and_assoc]

/-! ### Colors -/
def clip (n : Int) : Int := min (max n 0) 255
theorem clip_range (n : Int) : 0 ≤ clip n ∧ clip n ≤ 255 := by unfold clip; omega
def mkC (a r g b : Int) : Int := clip a * 16777216 + clip r * 65536 + clip g * 256 + clip b
theorem mkC_range (a r g b : Int) : 0 ≤ mkC a r g b ∧ mkC a r g b < 4294967296 := by
  have := clip_range a; have := clip_range r; have := clip_range g; have := clip_range b
  unfold mkC; omega
def pa (c : Int) : Int := c / 16777216
def pr (c : Int) : Int := c / 65536 % 256
def pg (c : Int) : Int := c / 256 % 256
def pb (c : Int) : Int := c % 256
def mayB (c : Int) : Bool := decide (pr c ≤ pa c) && decide (pg c ≤ pa c) && decide (pb c ≤ pa c)
def InC (c : Int) : Prop := 0 ≤ c ∧ c < 4294967296

/-! ### An image in memory -/
structure Img (tI tC : TypeId) (w : World) (m : Nat) (W H : Int) (r n cap : Nat) (px : List Int) : Prop where
  hdr : w.heap[m]? = some (.cells #[.int .i64 W, .int .i64 H, .slice (some ⟨r, 0, none⟩) n cap] tI (0, 0))
  row : Row w (some ⟨r, 0, none⟩) r n cap tC 1 (ivals .u32 px)
  ne : m ≠ r
/-- What an image of the program is: sides from 1 to 256, its colors. -/
structure ImgOk (W H : Int) (n : Nat) (px : List Int) : Prop where
  w1 : 1 ≤ W
  w2 : W ≤ 256
  h1 : 1 ≤ H
  h2 : H ≤ 256
  num : (n : Int) = W * H
  len : px.length = n
  rng : ∀ c, c ∈ px → InC c

theorem mul_le_of {a b c d : Int} (h1 : a ≤ c) (h2 : b ≤ d) (h3 : 0 ≤ b) (h4 : 0 ≤ c) : a * b ≤ c * d := Int.mul_le_mul h1 h2 h3 h4
theorem ImgOk.le {W H : Int} {n : Nat} {px : List Int} (h : ImgOk W H n px) : (n : Int) ≤ 65536 ∧ 1 ≤ n := by
  have h1 : W * H ≤ 256 * 256 := mul_le_of h.w2 h.h2 (by have := h.h1; omega) (by omega)
  have h2 : 1 * 1 ≤ W * H := mul_le_of h.w1 h.h1 (by omega) (by have := h.w1; omega)
  have := h.num
  omega
/-- A point's place. -/
theorem ImgOk.place {W H : Int} {n : Nat} {px : List Int} (h : ImgOk W H n px) {x y : Int} (hx0 : 0 ≤ x) (hx : x < W) (hy0 : 0 ≤ y) (hy : y < H) : 0 ≤ y * W ∧ y * W ≤ 65536 ∧ y * W + x < (n : Int) := by
  have e1 : 0 ≤ y * W := Int.mul_nonneg hy0 (by have := h.w1; omega)
  have e2 : (y + 1) * W ≤ H * W := Int.mul_le_mul_of_nonneg_right (by omega) (by have := h.w1; omega)
  have e3 : (y + 1) * W = y * W + W := by rw [Int.add_mul]; omega
  have e4 : H * W = (n : Int) := by rw [h.num, Int.mul_comm]
  have := h.le
  omega

theorem Img.below {tI tC : TypeId} {w w' : World} {m : Nat} {W H : Int} {r n cap : Nat} {px : List Int} (h : Img tI tC w m W H r n cap px) (hb : Below w.heap.size w w') : Img tI tC w' m W H r n cap px :=
  ⟨(hb.block m (Array.getElem?_eq_some_iff.1 h.hdr).1).trans h.hdr, h.row.mono hb, h.ne⟩
theorem Img.lt {tI tC : TypeId} {w : World} {m : Nat} {W H : Int} {r n cap : Nat} {px : List Int} (h : Img tI tC w m W H r n cap px) : m < w.heap.size ∧ r < w.heap.size :=
  ⟨(Array.getElem?_eq_some_iff.1 h.hdr).1, (rowE (some ⟨r, 0, none⟩) r n cap tC 1 (ivals .u32 px) true).inb w r h.row ⟨rfl, by simp⟩⟩
theorem Img.cellAt {tI tC : TypeId} {w : World} {m : Nat} {W H : Int} {r n cap : Nat} {px : List Int} (h : Img tI tC w m W H r n cap px) (j : Nat) (hj : j < px.length) : w.cell? ⟨r, j, none⟩ = some (.int .u32 (px.getD j 0)) :=
  h.row.cell j _ (ivals_get hj)
/-- The entries of an image whose colors are written. -/
theorem Img.tabRw {tI tC : TypeId} {w : World} {m : Nat} {W H : Int} {r n cap : Nat} {px : List Int} (h : Img tI tC w m W H r n cap px) :
    Tab w w [.ro m [.int .i64 W, .int .i64 H, .slice (some ⟨r, 0, none⟩) n cap] tI, .gen (rowE (some ⟨r, 0, none⟩) r n cap tC 1 (ivals .u32 px) false)] := by
  refine Tab.addOld (Tab.addOld (Tab.start w) (.gen (rowE (some ⟨r, 0, none⟩) r n cap tC 1 (ivals .u32 px) false)) h.row rfl (fun i x hx => by simp at hx)) (.ro m _ tI) h.hdr rfl (fun i x hx hw k hk hk' => ?_)
  cases i with
  | zero =>
    simp at hx; subst hx
    have h1 : k = m := hk
    have h2 : k = r := hk'.1
    exact h.ne (h1.symm.trans h2)
  | succ i => simp at hx

/-- An image, as it is read. -/
structure ImgR (tI : TypeId) (w : World) (m : Nat) (W H : Int) (r n cap : Nat) (px : List Int) : Prop where
  hdr : w.heap[m]? = some (.cells #[.int .i64 W, .int .i64 H, .slice (some ⟨r, 0, none⟩) n cap] tI (0, 0))
  rd : Rd w (some ⟨r, 0, none⟩) r 0 n 1 (ivals .u32 px)
  cap : n ≤ cap
theorem ImgR.tab {tI : TypeId} {w : World} {m : Nat} {W H : Int} {r n cap : Nat} {px : List Int} (h : ImgR tI w m W H r n cap px) :
    Tab w w [.ro m [.int .i64 W, .int .i64 H, .slice (some ⟨r, 0, none⟩) n cap] tI, .gen (rdE (some ⟨r, 0, none⟩) r 0 n 1 (ivals .u32 px))] := by
  refine Tab.addOld (Tab.addOld (Tab.start w) (.gen (rdE (some ⟨r, 0, none⟩) r 0 n 1 (ivals .u32 px))) h.rd rfl (fun i x hx => by simp at hx)) (.ro m _ tI) h.hdr rfl (fun i x hx hw => ?_)
  cases i with
  | zero => simp at hx; subst hx; simp [Ent.wr, rdE] at hw
  | succ i => simp at hx
/-- A point's color; 0 outside. -/
def atC (W H : Int) (px : List Int) (x y : Int) : Int := if hasB 0 0 W H x y then px.getD (y * W + x).toNat 0 else 0
theorem ImgOk.atC_range {W H : Int} {n : Nat} {px : List Int} (h : ImgOk W H n px) (x y : Int) : 0 ≤ atC W H px x y ∧ atC W H px x y < 4294967296 := by
  unfold atC
  split
  · rename_i hb
    have hb := hasB_true.1 hb
    have hp := h.place hb.1 hb.2.1 hb.2.2.1 hb.2.2.2
    have hlt : (y * W + x).toNat < px.length := by rw [h.len]; omega
    have := h.rng (px.getD (y * W + x).toNat 0) (by rw [List.getD_eq_getElem?_getD, List.getElem?_eq_getElem hlt]; simp)
    exact this
  · omega
/-- A new image. -/
structure NewImg (tI tC : TypeId) (w w' : World) (b : Nat) (W H : Int) (r n cap : Nat) (px : List Int) : Prop where
  img : Img tI tC w' b W H r n cap px
  b1 : w.heap.size ≤ b
  r1 : w.heap.size ≤ r
  bel : Below w.heap.size w w'
theorem newImg_of_tab {tI tC : TypeId} {w w' : World} {b : Nat} {W H : Int} {r n cap : Nat} {px : List Int} (hT : Tab w w' [.cells b [.int .i64 W, .int .i64 H, .slice (some ⟨r, 0, none⟩) n cap] tI true, .gen (rowE (some ⟨r, 0, none⟩) r n cap tC 1 (ivals .u32 px) true)]) : NewImg tI tC w w' b W H r n cap px :=
  ⟨⟨hT.ok 0 _ rfl, hT.ok 1 _ rfl, fun h => hT.disj 0 1 _ _ (by omega) rfl rfl (.inl rfl) b rfl ⟨h, by simp⟩⟩, hT.own 0 _ rfl rfl b rfl, hT.own 1 _ rfl rfl r ⟨rfl, by simp⟩, hT.post rfl⟩
theorem ImgOk.set {W H : Int} {n : Nat} {px : List Int} (h : ImgOk W H n px) (j : Nat) {c : Int} (hc : InC c) : ImgOk W H n (px.set j c) :=
  ⟨h.w1, h.w2, h.h1, h.h2, h.num, by rw [List.length_set]; exact h.len, fun x hx => by
    rcases List.mem_or_eq_of_mem_set hx with hx | rfl
    · exact h.rng x hx
    · exact hc⟩

/-- Everything but one block is as it was; new blocks may have come. -/
structure KeepBut (w w' : World) (r : Nat) : Prop where
  os : w'.os = w.os
  tape : w'.tape = w.tape
  output : w'.output = w.output
  size : w.heap.size ≤ w'.heap.size
  block : ∀ k, k < w.heap.size → k ≠ r → w'.heap[k]? = w.heap[k]?

/-- Two new entries that a call gives back. -/
theorem Tab.two {w0 w w' : World} {T : List Ent} (hT : Tab w0 w T) (hb : Below w.heap.size w w') (e f : Ent) (he : e.ok w') (hf : f.ok w') (hen : ∀ k, e.blk k → w.heap.size ≤ k) (hfn : ∀ k, f.blk k → w.heap.size ≤ k) (hef : ∀ k, e.blk k → ¬ f.blk k) : Tab w0 w' (e :: f :: T) := by
  have h1 := hT.push (e := f) hb.os hb.tape hb.output hb.size (fun k hk => hb.block k hk) hf hfn
  refine ⟨h1.os, h1.tape, h1.output, h1.size, ?_, ?_, ?_, ?_⟩
  · intro i x hx
    cases i with
    | zero => simp at hx; subst hx; exact he
    | succ i => exact h1.ok i x (by simpa using hx)
  · intro k hk hno
    exact h1.frame k hk (fun i x hx => hno (i + 1) x (by simpa using hx))
  · intro i x hx hxo k hk
    cases i with
    | zero => simp at hx; subst hx; exact Nat.le_trans hT.size (hen k hk)
    | succ i => exact h1.own i x (by simpa using hx) hxo k hk
  · have key : ∀ (i : Nat) (x : Ent), (f :: T)[i]? = some x → ∀ k, e.blk k → ¬ x.blk k := by
      intro i x hx k hk hk'
      cases i with
      | zero => simp at hx; subst hx; exact hef k hk hk'
      | succ i =>
        simp at hx
        have := x.inb w k (hT.ok i x hx) hk'
        have := hen k hk
        omega
    intro i j x y hij hx hy hxy k hk hk'
    cases i with
    | zero =>
      cases j with
      | zero => exact hij rfl
      | succ j => simp only [List.getElem?_cons_zero, Option.some.injEq] at hx; subst hx; exact key j y (by simpa using hy) k hk hk'
    | succ i =>
      cases j with
      | zero => simp only [List.getElem?_cons_zero, Option.some.injEq] at hy; subst hy; exact key i x (by simpa using hx) k hk' hk
      | succ j => exact h1.disj i j x y (by omega) (by simpa using hx) (by simpa using hy) hxy k hk hk'

theorem Tab.addImg {tI tC : TypeId} {w0 w w' : World} {T : List Ent} (hT : Tab w0 w T) {b : Nat} {W H : Int} {r n cap : Nat} {px : List Int} (h : NewImg tI tC w w' b W H r n cap px) :
    Tab w0 w' (.cells b [.int .i64 W, .int .i64 H, .slice (some ⟨r, 0, none⟩) n cap] tI true :: .gen (rowE (some ⟨r, 0, none⟩) r n cap tC 1 (ivals .u32 px) true) :: T) :=
  hT.two h.bel (.cells b [.int .i64 W, .int .i64 H, .slice (some ⟨r, 0, none⟩) n cap] tI true) (.gen (rowE (some ⟨r, 0, none⟩) r n cap tC 1 (ivals .u32 px) true)) h.img.hdr h.img.row (fun k hk => by have : k = b := hk; rw [this]; exact h.b1) (fun k hk => by rw [hk.1]; exact h.r1)
    (fun k hk hk' => h.img.ne ((show k = b from hk).symm.trans hk'.1))
/-- A call that writes one row of the table. -/
theorem Tab.keepBut {w0 w w' : World} {T : List Ent} (hT : Tab w0 w T) {r : Nat} (hk : KeepBut w w' r) {i n cap n' cap' : Nat} {e sz : Nat} {vals vals' : List Value} {own : Bool} (h : T[i]? = some (.gen (rowE (some ⟨r, 0, none⟩) r n cap e sz vals own)))
    (hrow : Row w' (some ⟨r, 0, none⟩) r n' cap' e sz vals') : Tab w0 w' (T.set i (.gen (rowE (some ⟨r, 0, none⟩) r n' cap' e sz vals' own))) :=
  hT.replace (e := .gen (rowE (some ⟨r, 0, none⟩) r n cap e sz vals own)) (e' := .gen (rowE (some ⟨r, 0, none⟩) r n' cap' e sz vals' own)) h rfl rfl id (fun k hk => .inl hk) (fun k _ hk _ => hk) hk.os hk.tape hk.output hk.size
    (fun k hlt hne => hk.block k hlt (fun he => hne ⟨he, by simp⟩)) hrow

theorem Tab.keep {w w' : World} {T : List Ent} (hT : Tab w w' T) (i : Nat) {r n cap : Nat} {e : TypeId} {sz : Nat} {vals : List Value} {own : Bool} (h : T[i]? = some (.gen (rowE (some ⟨r, 0, none⟩) r n cap e sz vals own))) (ho : ownT (T.eraseIdx i) = true) : KeepBut w w' r := by
  refine ⟨hT.os, hT.tape, hT.output, hT.size, fun k hk hne => hT.frame k hk (fun j x hx hw hb => ?_)⟩
  by_cases hji : j = i
  · subst hji
    rw [h] at hx; cases hx
    exact hne hb.1
  · have : ∀ (T : List Ent), ownT T = true → ∀ (i : Nat) (e : Ent), T[i]? = some e → e.wr = true → e.own = true := by
      intro T
      induction T with
      | nil => intro _ i e he; simp at he
      | cons x r ih =>
        intro h i e he hw
        simp only [ownT, Bool.and_eq_true] at h
        cases i with
        | zero =>
          simp at he; subst he
          have := h.1
          simp [hw] at this; exact this
        | succ i => exact ih h.2 i e (by simpa using he) hw
    have hxo : x.own = true := by
      rcases Nat.lt_or_ge j i with hlt | hge
      · exact this _ ho j x (by rw [List.getElem?_eraseIdx, if_pos hlt]; exact hx) hw
      · exact this _ ho (j - 1) x (by rw [List.getElem?_eraseIdx, if_neg (by omega), show j - 1 + 1 = j by omega]; exact hx) hw
    have := hT.own j x hx hxo k hb
    omega
theorem KeepBut.img {tI tC : TypeId} {w w' : World} {m : Nat} {W H : Int} {r n cap : Nat} {px px' : List Int} (hk : KeepBut w w' r) (h : Img tI tC w m W H r n cap px) (hr : Row w' (some ⟨r, 0, none⟩) r n cap tC 1 (ivals .u32 px')) : Img tI tC w' m W H r n cap px' :=
  ⟨(hk.block m h.lt.1 h.ne).trans h.hdr, hr, h.ne⟩

/-! ### Points that are filled -/
/-- A rectangle cut to an image's box lies in it. -/
theorem cut_in (a b c d : Int) {W H : Int} (hW : 1 ≤ W) (hH : 1 ≤ H) : 0 ≤ (cutR a b c d 0 0 W H).x0 ∧ (cutR a b c d 0 0 W H).x0 ≤ (cutR a b c d 0 0 W H).x1 ∧ (cutR a b c d 0 0 W H).x1 ≤ W ∧ 0 ≤ (cutR a b c d 0 0 W H).y0 ∧ (cutR a b c d 0 0 W H).y0 ≤ (cutR a b c d 0 0 W H).y1 ∧ (cutR a b c d 0 0 W H).y1 ≤ H := by
  unfold cutR
  cases h : emptyB (max a 0) (max b 0) (min c W) (min d H) with
  | true => simp; omega
  | false =>
    have := emptyB_false.1 h
    simp
    omega
theorem hasB_no {a b c d x y : Int} (h : ¬ (a ≤ x ∧ x < c ∧ b ≤ y ∧ y < d)) : hasB a b c d x y = false := by
  rw [Bool.eq_false_iff]
  intro hb
  exact h (hasB_true.1 hb)
theorem wf64 {x : Int} (h : (Lit.int .i64 x).wf = true) : -9223372036854775808 ≤ x ∧ x ≤ 9223372036854775807 := by
  simp [Lit.wf, IntKind.min, IntKind.max, IntKind.bits, IntKind.signed] at h
  omega
theorem wf32 {x : Int} (h : (Lit.int .u32 x).wf = true) : 0 ≤ x ∧ x < 4294967296 := by
  simp [Lit.wf, IntKind.min, IntKind.max, IntKind.bits, IntKind.signed] at h
  omega

end Go.Proofs.Ytlfahohbkgdabaa

