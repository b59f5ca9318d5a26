/- Plain words of the layers: rectangles, colors, images, as Lean data; an image in memory. -/
import Derived.Test.YtekgdfaggagfmaaPeSd
set_option linter.unusedVariables false
set_option linter.unusedSimpArgs false
namespace Go.Proofs.Ytekgdfaggagfmaa
open Go Go.RowKit

/-! ### Rectangles -/
structure Rect where
  x0 : Int
  y0 : Int
  x1 : Int
  y1 : Int
  deriving DecidableEq
/-! ### Colors -/
def pa (c : Int) : Int := c / 16777216
def InC (c : Int) : Prop := 0 ≤ c ∧ c < 4294967296

/-! ### An image in memory -/
structure Img (tI tC : TypeId) (w : World) (m : Nat) (W H : Int) (r n cap : Nat) (px : List Int) : Prop where
  hdr : w.heap[m]? = some (.cells #[.int .i64 W, .int .i64 H, .slice (some ⟨r, 0, none⟩) n cap] tI (0, 0))
  row : Row w (some ⟨r, 0, none⟩) r n cap tC 1 (ivals .u32 px)
  ne : m ≠ r
/-- What an image of the program is: sides from 1 to 256, its colors. -/
structure ImgOk (W H : Int) (n : Nat) (px : List Int) : Prop where
  w1 : 1 ≤ W
  w2 : W ≤ 256
  h1 : 1 ≤ H
  h2 : H ≤ 256
  num : (n : Int) = W * H
  len : px.length = n
  rng : ∀ c, c ∈ px → InC c

theorem mul_le_of {a b c d : Int} (h1 : a ≤ c) (h2 : b ≤ d) (h3 : 0 ≤ b) (h4 : 0 ≤ c) : a * b ≤ c * d := Int.mul_le_mul h1 h2 h3 h4
theorem ImgOk.le {W H : Int} {n : Nat} {px : List Int} (h : ImgOk W H n px) : (n : Int) ≤ 65536 ∧ 1 ≤ n := by
  have h1 : W * H ≤ 256 * 256 := mul_le_of h.w2 h.h2 (by have := h.h1; omega) (by omega)
  have h2 : 1 * 1 ≤ W * H := mul_le_of h.w1 h.h1 (by omega) (by have := h.w1; omega)
  have := h.num
  omega
theorem Img.below {tI tC : TypeId} {w w' : World} {m : Nat} {W H : Int} {r n cap : Nat} {px : List Int} (h : Img tI tC w m W H r n cap px) (hb : Below w.heap.size w w') : Img tI tC w' m W H r n cap px :=
  ⟨(hb.block m (Array.getElem?_eq_some_iff.1 h.hdr).1).trans h.hdr, h.row.mono hb, h.ne⟩
theorem Img.lt {tI tC : TypeId} {w : World} {m : Nat} {W H : Int} {r n cap : Nat} {px : List Int} (h : Img tI tC w m W H r n cap px) : m < w.heap.size ∧ r < w.heap.size :=
  ⟨(Array.getElem?_eq_some_iff.1 h.hdr).1, (rowE (some ⟨r, 0, none⟩) r n cap tC 1 (ivals .u32 px) true).inb w r h.row ⟨rfl, by simp⟩⟩
theorem Img.cellAt {tI tC : TypeId} {w : World} {m : Nat} {W H : Int} {r n cap : Nat} {px : List Int} (h : Img tI tC w m W H r n cap px) (j : Nat) (hj : j < px.length) : w.cell? ⟨r, j, none⟩ = some (.int .u32 (px.getD j 0)) :=
  h.row.cell j _ (ivals_get hj)
theorem ImgOk.set {W H : Int} {n : Nat} {px : List Int} (h : ImgOk W H n px) (j : Nat) {c : Int} (hc : InC c) : ImgOk W H n (px.set j c) :=
  ⟨h.w1, h.w2, h.h1, h.h2, h.num, by rw [List.length_set]; exact h.len, fun x hx => by
    rcases List.mem_or_eq_of_mem_set hx with hx | rfl
    · exact h.rng x hx
    · exact hc⟩

/-- Two new entries that a call gives back. -/
theorem Tab.two {w0 w w' : World} {T : List Ent} (hT : Tab w0 w T) (hb : Below w.heap.size w w') (e f : Ent) (he : e.ok w') (hf : f.ok w') (hen : ∀ k, e.blk k → w.heap.size ≤ k) (hfn : ∀ k, f.blk k → w.heap.size ≤ k) (hef : ∀ k, e.blk k → ¬ f.blk k) : Tab w0 w' (e :: f :: T) := by
  have h1 := hT.push (e := f) hb.os hb.tape hb.output hb.size (fun k hk => hb.block k hk) hf hfn
  refine ⟨h1.os, h1.tape, h1.output, h1.size, ?_, ?_, ?_, ?_⟩
  · intro i x hx
    cases i with
    | zero => simp at hx; subst hx; exact he
    | succ i => exact h1.ok i x (by simpa using hx)
  · intro k hk hno
    exact h1.frame k hk (fun i x hx => hno (i + 1) x (by simpa using hx))
  · intro i x hx hxo k hk
    cases i with
    | zero => simp at hx; subst hx; exact Nat.le_trans hT.size (hen k hk)
    | succ i => exact h1.own i x (by simpa using hx) hxo k hk
  · have key : ∀ (i : Nat) (x : Ent), (f :: T)[i]? = some x → ∀ k, e.blk k → ¬ x.blk k := by
      intro i x hx k hk hk'
      cases i with
      | zero => simp at hx; subst hx; exact hef k hk hk'
      | succ i =>
        simp at hx
        have := x.inb w k (hT.ok i x hx) hk'
        have := hen k hk
        omega
    intro i j x y hij hx hy hxy k hk hk'
    cases i with
    | zero =>
      cases j with
      | zero => exact hij rfl
      | succ j => simp only [List.getElem?_cons_zero, Option.some.injEq] at hx; subst hx; exact key j y (by simpa using hy) k hk hk'
    | succ i =>
      cases j with
      | zero => simp only [List.getElem?_cons_zero, Option.some.injEq] at hy; subst hy; exact key i x (by simpa using hx) k hk' hk
      | succ j => exact h1.disj i j x y (by omega) (by simpa using hx) (by simpa using hy) hxy k hk hk'

/-! ### Points that are filled -/
theorem wf64 {x : Int} (h : (Lit.int .i64 x).wf = true) : -9223372036854775808 ≤ x ∧ x ≤ 9223372036854775807 := by
  simp [Lit.wf, IntKind.min, IntKind.max, IntKind.bits, IntKind.signed] at h
  omega
end Go.Proofs.Ytekgdfaggagfmaa

