/- Texts of this proof's own, put together: what each holds is told ahead of it. -/
import Derived.Test.YtlfahohbkgdabaaPhG5
import Derived.Test.YtlfahohbkgdabaaProg
import Derived.Test.YtlfahohbkgdabaaPhG3
import Derived.Test.YtlfahohbkgdabaaPhG1
import Derived.Test.YtlfahohbkgdabaaPhG0
import Derived.Maps.RangeRun
import Derived.Test.YtlfahohbkgdabaaPhG4
set_option linter.unusedSimpArgs false
set_option linter.unusedVariables false
namespace Go.Proofs.Ytlfahohbkgdabaa
open Go Go.RowKit
theorem regP_area : ∀ {R : List Rect}, (∀ r ∈ R, emptyR r = false) → (((regP R).length : Nat) : Int) = areaL R := by
  intro R
  induction R with
  | nil => intro _; rfl
  | cons r R ih =>
    intro h
    have h1 := emptyB_false.1 (show emptyB r.x0 r.y0 r.x1 r.y1 = false from h r (List.mem_cons_self ..))
    have e : regP (r :: R) = rectP r (Int.toNat (r.y1 - r.y0)) ++ regP R := by simp [regP]
    have e2 : areaL (r :: R) = areaI r.x0 r.y0 r.x1 r.y1 + areaL R := by simp [areaL]
    rw [e, e2, List.length_append, Int.natCast_add, ih (fun q hq => h q (List.mem_cons_of_mem _ hq)), rectP_length]
    unfold areaI
    rw [if_neg (by rw [show emptyB r.x0 r.y0 r.x1 r.y1 = false from h r (List.mem_cons_self ..)]; simp), Int.natCast_mul, Int.toNat_of_nonneg (by omega), Int.toNat_of_nonneg (by omega), Int.mul_comm (r.y1 - r.y0)]
theorem reg_ne {R : List Rect} {F : Int → Int → Bool} {W H : Int} (hR : IsReg R F) (hin : OnImg W H R) : ∀ r ∈ R, emptyR r = false := fun r hr => by
  have := reg_in hR hin r hr
  exact emptyB_false.2 ⟨this.2.1, this.2.2.2.2.1⟩
theorem clear_area {W H : Int} {n : Nat} {R : List Rect} {F : Int → Int → Bool} (hR : IsReg R F) (hin : OnImg W H R) (hW : 1 ≤ W) (hn : (n : Int) = W * H) : areaL R = ((cntL W n R : Nat) : Int) := by
  rw [← regP_len hR hin hW hn, regP_area (reg_ne hR hin)]
end Go.Proofs.Ytlfahohbkgdabaa
namespace Go.Proofs.Ytlfahohbkgdabaa
open Go Go.RowKit
set_option maxRecDepth 100000
set_option maxHeartbeats 8000000
end Go.Proofs.Ytlfahohbkgdabaa
namespace Go.Proofs.Ytlfahohbkgdabaa
open Go Go.RowKit
def shQ (W H X Y s : Int) (r : Rect) : Rect := shwR W H X Y s r.x0 r.y0 r.x1 r.y1
theorem map_put {f : Rect → Rect} {R : List Rect} {i : Nat} (h : i < R.length) : (R.take i).map f ++ [(⟨(f (rget R i)).x0, (f (rget R i)).y0, (f (rget R i)).x1, (f (rget R i)).y1⟩ : Rect)] = (R.take (i + 1)).map f := by
  rw [take_succ_rget h, List.map_append]; rfl
theorem hasL_shown {W H X Y s : Int} (hs : 1 ≤ s ∧ s ≤ 8) (hX : -1000000 ≤ X ∧ X ≤ 1000000) (hY : -1000000 ≤ Y ∧ Y ≤ 1000000) (hw : 1 ≤ W ∧ W ≤ 256) (hh : 1 ≤ H ∧ H ≤ 256) (R : List Rect) (p q : Int) :
    hasL (R.map (shQ W H X Y s)) p q = (hasB 0 0 W H ((p - X) / s) ((q - Y) / s) && hasL R ((p - X) / s) ((q - Y) / s)) := by
  induction R with
  | nil => simp [hasL]
  | cons r R ih =>
    have e : hasL ((r :: R).map (shQ W H X Y s)) p q = (hasB (shQ W H X Y s r).x0 (shQ W H X Y s r).y0 (shQ W H X Y s r).x1 (shQ W H X Y s r).y1 p q || hasL (R.map (shQ W H X Y s)) p q) := by simp [hasL]
    have e2 : hasL (r :: R) ((p - X) / s) ((q - Y) / s) = (hasB r.x0 r.y0 r.x1 r.y1 ((p - X) / s) ((q - Y) / s) || hasL R ((p - X) / s) ((q - Y) / s)) := by simp [hasL]
    rw [e, e2, ih]
    unfold shQ
    rw [pcol_box hs hX hY hw hh]
    unfold pcolB
    cases hasB 0 0 W H ((p - X) / s) ((q - Y) / s) <;> simp
def placeP (W H X Y s : Int) (l : List Rect) (r : Rect) : List Rect := canR ((regM andB (canR l) (canR [r])).map (shQ W H X Y s))
theorem hasL_one (r : Rect) (x y : Int) : hasL [r] x y = hasB r.x0 r.y0 r.x1 r.y1 x y := by simp [hasL]
theorem hasL_place {W H X Y s : Int} (hs : 1 ≤ s ∧ s ≤ 8) (hX : -1000000 ≤ X ∧ X ≤ 1000000) (hY : -1000000 ≤ Y ∧ Y ≤ 1000000) (hw : 1 ≤ W ∧ W ≤ 256) (hh : 1 ≤ H ∧ H ≤ 256) (l : List Rect) (r : Rect) (p q : Int) :
    hasL (placeP W H X Y s l r) p q = (hasB 0 0 W H ((p - X) / s) ((q - Y) / s) && (hasB r.x0 r.y0 r.x1 r.y1 ((p - X) / s) ((q - Y) / s) && hasL l ((p - X) / s) ((q - Y) / s))) := by
  unfold placeP
  rw [hasL_can, hasL_shown hs hX hY hw hh, hasL_and, hasL_can, hasL_can, hasL_one]
  congr 1
  exact Bool.and_comm _ _
def plcL (W X Y s : Int) (B : Int → Int → Bool) (i : Nat) : List Rect := (List.range i).flatMap fun k => if B (((k : Nat) : Int) % W) (((k : Nat) : Int) / W) then [(⟨X + ((k : Nat) : Int) % W * s, Y + ((k : Nat) : Int) / W * s, X + ((k : Nat) : Int) % W * s + s, Y + ((k : Nat) : Int) / W * s + s⟩ : Rect)] else []
theorem plcL_zero (W X Y s : Int) (B : Int → Int → Bool) : plcL W X Y s B 0 = [] := rfl
theorem plcL_yes {W X Y s : Int} {B : Int → Int → Bool} {i : Nat} (h : B (((i : Nat) : Int) % W) (((i : Nat) : Int) / W) = true) : plcL W X Y s B i ++ [(⟨X + ((i : Nat) : Int) % W * s, Y + ((i : Nat) : Int) / W * s, X + ((i : Nat) : Int) % W * s + s, Y + ((i : Nat) : Int) / W * s + s⟩ : Rect)] = plcL W X Y s B (i + 1) := by
  simp [plcL, List.range_succ, List.flatMap_append, h]
theorem plcL_no {W X Y s : Int} {B : Int → Int → Bool} {i : Nat} (h : B (((i : Nat) : Int) % W) (((i : Nat) : Int) / W) = false) : plcL W X Y s B i = plcL W X Y s B (i + 1) := by
  simp [plcL, List.range_succ, List.flatMap_append, h]
theorem plcL_len (W X Y s : Int) (B : Int → Int → Bool) : ∀ i, (plcL W X Y s B i).length ≤ i := by
  intro i
  induction i with
  | zero => simp [plcL]
  | succ i ih =>
    cases h : B (((i : Nat) : Int) % W) (((i : Nat) : Int) / W) with
    | true => rw [← plcL_yes h, List.length_append]; simp; omega
    | false => rw [← plcL_no h]; omega
theorem cell_iff {u p X s : Int} (hs : 1 ≤ s) : (X + u * s ≤ p ∧ p < X + u * s + s) ↔ (p - X) / s = u := by
  have h1 := Int.mul_ediv_add_emod (p - X) s
  have h2 := Int.emod_nonneg (p - X) (show s ≠ 0 by omega)
  have h3 := Int.emod_lt_of_pos (p - X) (show 0 < s by omega)
  constructor
  · rintro ⟨a, b⟩
    refine Int.le_antisymm ?_ ?_
    · have := Int.ediv_lt_of_lt_mul (a := p - X) (b := u + 1) (c := s) (by omega) (by rw [Int.add_mul]; omega)
      omega
    · exact Int.le_ediv_of_mul_le (by omega) (by omega)
  · rintro rfl
    rw [Int.mul_comm] at h1
    omega
theorem hasL_plc {W H X Y s : Int} {n : Nat} {B : Int → Int → Bool} (hs : 1 ≤ s) (hW : 1 ≤ W) (hn : (n : Int) = W * H) (p q : Int) :
    hasL (plcL W X Y s B n) p q = (hasB 0 0 W H ((p - X) / s) ((q - Y) / s) && B ((p - X) / s) ((q - Y) / s)) := by
  rw [Bool.eq_iff_iff, Bool.and_eq_true]
  constructor
  · intro h
    obtain ⟨r, hr, hb⟩ := List.any_eq_true.1 h
    obtain ⟨k, hk, hr⟩ := List.mem_flatMap.1 hr
    have hk := List.mem_range.1 hk
    split at hr
    · rename_i hB
      have hr := List.mem_singleton.1 hr
      subst hr
      obtain ⟨h1, h2, h3, h4⟩ := hasB_true.1 hb
      simp only at h1 h2 h3 h4
      rw [(cell_iff hs).1 ⟨h1, h2⟩, (cell_iff hs).1 ⟨h3, h4⟩]
      exact ⟨in_box hW hn hk, hB⟩
    · cases hr
  · rintro ⟨h1, h2⟩
    obtain ⟨a0, a1, b0, b1⟩ := hasB_true.1 h1
    generalize hu : (p - X) / s = u at *
    generalize hv : (q - Y) / s = v at *
    have h5 : 0 ≤ v * W := Int.mul_nonneg b0 (by omega)
    have h6 : (v + 1) * W ≤ H * W := Int.mul_le_mul_of_nonneg_right (by omega) (by omega)
    have h7 : (v + 1) * W = v * W + W := by rw [Int.add_mul]; omega
    have h8 : H * W = (n : Int) := by rw [hn, Int.mul_comm]
    have hp := pt_eq (p := (u, v)) (k := (v * W + u).toNat) a0 a1 b0 rfl
    have e1 : u = (((v * W + u).toNat : Nat) : Int) % W := congrArg Prod.fst hp
    have e2 : v = (((v * W + u).toNat : Nat) : Int) / W := congrArg Prod.snd hp
    refine List.any_eq_true.2 ⟨⟨X + u * s, Y + v * s, X + u * s + s, Y + v * s + s⟩, List.mem_flatMap.2 ⟨(v * W + u).toNat, List.mem_range.2 (by omega), ?_⟩, hasB_true.2 ?_⟩
    · rw [← e1, ← e2, if_pos h2]; simp
    · have k1 := (cell_iff (X := X) hs).2 hu
      have k2 := (cell_iff (X := Y) hs).2 hv
      exact ⟨k1.1, k1.2, k2.1, k2.2⟩
def plcB (a b c d : Int) (l : List Rect) (x y : Int) : Bool := hasB a b c d x y && hasL l x y
theorem place_same {W H X Y s a b c d : Int} {n : Nat} (l : List Rect) (hs : 1 ≤ s ∧ s ≤ 8) (hX : -1000000 ≤ X ∧ X ≤ 1000000) (hY : -1000000 ≤ Y ∧ Y ≤ 1000000) (hw : 1 ≤ W ∧ W ≤ 256) (hh : 1 ≤ H ∧ H ≤ 256) (hn : (n : Int) = W * H) :
    placeP W H X Y s l ⟨a, b, c, d⟩ = canR (plcL W X Y s (plcB a b c d l) n) :=
  reg_ext (canR_isReg _) (canR_isReg _) (fun p q => by
    have h1 := hasL_place hs hX hY hw hh l ⟨a, b, c, d⟩ p q
    rw [show hasL (placeP W H X Y s l ⟨a, b, c, d⟩) p q = hasL ((regM andB (canR l) (canR [⟨a, b, c, d⟩])).map (shQ W H X Y s)) p q from hasL_can _ _ _] at h1
    rw [h1, hasL_plc hs.1 hw.1 hn]; rfl)
theorem areaL_ge : ∀ {R : List Rect}, (∀ r ∈ R, emptyR r = false) → ((R.length : Nat) : Int) ≤ areaL R := by
  intro R
  induction R with
  | nil => intro _; exact Int.le_refl _
  | cons r R ih =>
    intro h
    have h1 := emptyB_false.1 (show emptyB r.x0 r.y0 r.x1 r.y1 = false from h r (List.mem_cons_self ..))
    have e2 : areaL (r :: R) = areaI r.x0 r.y0 r.x1 r.y1 + areaL R := by simp [areaL]
    have := ih (fun q hq => h q (List.mem_cons_of_mem _ hq))
    have h3 : (1 : Int) * 1 ≤ (r.x1 - r.x0) * (r.y1 - r.y0) := Int.mul_le_mul (by omega) (by omega) (by omega) (by omega)
    rw [e2]
    unfold areaI
    rw [if_neg (by rw [show emptyB r.x0 r.y0 r.x1 r.y1 = false from h r (List.mem_cons_self ..)]; simp)]
    simp only [List.length_cons]
    omega
theorem reg_len_img {W H : Int} {n : Nat} {R : List Rect} {F : Int → Int → Bool} (hR : IsReg R F) (hin : OnImg W H R) (hW : 1 ≤ W) (hn : (n : Int) = W * H) : R.length ≤ n := by
  have h1 := areaL_ge (reg_ne hR hin)
  have h2 := clear_area hR hin hW hn
  have h3 := cntL_le W n R
  omega
theorem onImg_andl {W H : Int} {a : List Rect} (b : List Rect) (ha : OnImg W H a) : OnImg W H (regM andB a b) := fun x y h => ha x y (by rw [hasL_and] at h; exact (Bool.and_eq_true_iff.1 h).1)
theorem cell_bd {u s : Int} (h0 : 0 ≤ u) (h1 : u < 256) (hs : 1 ≤ s ∧ s ≤ 8) : 0 ≤ u * s ∧ u * s ≤ 2048 :=
  ⟨Int.mul_nonneg h0 (by omega), by have := Int.mul_le_mul (a := u) (b := s) (c := 256) (d := 8) (by omega) (by omega) (by omega) (by omega); omega⟩
theorem box_bd {W H : Int} {n i : Nat} (hw : 1 ≤ W ∧ W ≤ 256) (hh : 1 ≤ H ∧ H ≤ 256) (hn : (n : Int) = W * H) (hi : i < n) : 0 ≤ (i : Int) % W ∧ (i : Int) % W < 256 ∧ 0 ≤ (i : Int) / W ∧ (i : Int) / W < 256 := by
  obtain ⟨a, b, c, d⟩ := hasB_true.1 (in_box hw.1 hn hi)
  omega
theorem plcB_yes {a b c d : Int} {l : List Rect} {x y : Int} (h1 : hasB a b c d x y = true) (h2 : hasL l x y = true) : plcB a b c d l x y = true := by unfold plcB; rw [h1, h2]; rfl
theorem plcB_no {a b c d : Int} {l : List Rect} {x y : Int} (h : hasB a b c d x y = false ∨ hasL l x y = false) : plcB a b c d l x y = false := by
  unfold plcB
  rcases h with h | h <;> rw [h] <;> simp
theorem canR_lenB {l : List Rect} (h : l.length ≤ 262144) : (canR l).length ≤ 274877906944 := regM_length (a := l) (b := []) (by simpa using h)
theorem plc_lenB (W X Y s : Int) (B : Int → Int → Bool) {n : Nat} (h : n ≤ 262144) : (canR (plcL W X Y s B n)).length ≤ 274877906944 := canR_lenB (Nat.le_trans (plcL_len W X Y s B n) h)
end Go.Proofs.Ytlfahohbkgdabaa
namespace Go.Proofs.Ytlfahohbkgdabaa
open Go Go.RowKit
set_option maxRecDepth 100000
set_option maxHeartbeats 8000000
theorem payPlace (m : Nat) (W H : Int) (r n cap : Nat) (px : List Int) (X Y s al ca cb cc cd : Int) (Az : Option Addr) (gz oz nz capz : Nat) (xsz : List Rect) (w : World) (hT0 : Tab w w [.ro m [iQ W, iQ H, sL r n cap] 118, rD (some ⟨r, 0, none⟩) r 0 n 1 (cV px), rD (Az) gz oz nz 4 (rvals xsz)]) (R : List Rect) (hR : R = regM andB (canR xsz) (canR [(⟨ca, cb, cc, cd⟩ : Rect)])) (hcap : n ≤ cap) (hok : ImgOk W H n px) (hs : 1 ≤ s ∧ s ≤ 8) (hX : -1000000 ≤ X ∧ X ≤ 1000000) (hY : -1000000 ≤ Y ∧ Y ≤ 1000000) (hnz : nz ≤ 200000) (hcz : (canR xsz).length ≤ 200000) (hRl : R.length ≤ 200000) :
    Calls Try.prog 104 #[.agg #[pT m, iQ X, iQ Y, iQ s, iQ al, iQ ca, iQ cb, iQ cc, iQ cd], .slice Az nz capz] w fun e w' => ∃ (A_ : Option Addr) (g_ k_ cp_ : Nat), e = .returned (.slice A_ k_ cp_) ∧ Tab w w' [.gen (rowE (A_) g_ k_ cp_ 53 4 (rvals (canR (R.map (shQ W H X Y s)))) true)] := by
 have hw1 := hok.w1
 have hw2 := hok.w2
 have hh1 := hok.h1
 have hh2 := hok.h2
 have hnum := hok.num
 have hlen := hok.len
 have hle := hok.le
 obtain ⟨hraz, hrlz⟩ := Rd.factsR (hT0.ok 2 _ rfl)
 refine eN [(0, .agg #[.pointer (pB m), iq X, iq Y, iq s, iq al, iq ca, iq cb, iq cc, iq cd]), (1, .slice Az nz capz)] Try.func104 Try.ntmps104 rfl hT0 ?_
 refine zSR 2 <| bW [0, 0] 2 0 (fun b1 => [(1, .slice Az nz capz), (2, .pointer (pB b1))]) (fun b1 => [.cells b1 [.pointer (pB m), iq X, iq Y, iq s, iq al, iq ca, iq cb, iq cc, iq cd] 106 true, .ro m [iq W, iq H, .slice (pB r) n cap] 118, rD (pB r) r 0 n 1 (cV px), rD (Az) gz oz nz 4 (rvals xsz)]) [1, 2] fun b1 => ?_
 refine zDNSR 1 <| bD [0] 1 0 [(5, .slice none 0 0)] [] <| zDNSSR 6 <| bD [0, 0, 0] 3 3 [(10, .slice Az nz capz), (12, .agg #[iq ca, iq cb, iq cc, iq cd])] [11] <| pS 4 2 <| cG (d := 13) (α := Option Addr × Nat × Nat × Nat) (fun x_ => .slice x_.1 x_.2.2.1 x_.2.2.2) (fun x_ => [.gen (rowE (x_.1) x_.2.1 x_.2.2.1 x_.2.2.2 53 4 (rvals (regM andB (canR xsz) (canR [(⟨ca, cb, cc, cd⟩ : Rect)]))) true), .cells b1 [.pointer (pB m), iq X, iq Y, iq s, iq al, iq ca, iq cb, iq cc, iq cd] 106 true, .ro m [iq W, iq H, .slice (pB r) n cap] 118, rD (pB r) r 0 n 1 (cV px), rD (Az) gz oz nz 4 (rvals xsz)]) (fun x_ => True) (fun w hT => (payWithin Az gz oz nz capz xsz ca cb cc cd w (hT.viewRo (.cons (i := 3) rfl Vw.rd .nil) rfl) hnz hcz).mono fun e w' ⟨A2, g3, k4, cp5, he_, ht_⟩ => ⟨(A2, g3, k4, cp5), he_, trivial, hT.news ht_ rfl⟩) ?_
 rintro ⟨A2, g3, k4, cp5⟩ hf6_
 refine fR 0 k4 A2 g3 cp5 (regM andB (canR xsz) (canR [(⟨ca, cb, cc, cd⟩ : Rect)])) rfl fun hr7_a hr7_l hr7_c hr7_m => ?_
 refine bD [0, 0] 6 0 [(14, iq (k4 : Int)), (15, iq 0)] [] <| zDNB <| cont_rowEqR 0 (regM andB (canR xsz) (canR [(⟨ca, cb, cc, cd⟩ : Rect)])) (R) rfl hR.symm ?_
 refine fR 0 k4 A2 g3 cp5 R rfl fun hr8_a hr8_l hr8_c hr8_m => ?_
 refine cont_nilrow 53 4 ?_
 refine cont_rowEqR 0 ([]) ((R.take 0).map (shQ W H X Y s)) rfl rfl ?_
 refine cL (α := Nat × Option Addr × Nat × Nat) (fun x_ : Nat × Option Addr × Nat × Nat => x_.1 ≤ k4) (fun x_ : Nat × Option Addr × Nat × Nat => [(2, .pointer (pB b1)), (5, .slice x_.2.1 x_.1 x_.2.2.2), (13, .slice A2 k4 cp5), (14, iq (k4 : Int)), (15, iq ((x_.1 : Nat) : Int))]) (fun x_ : Nat × Option Addr × Nat × Nat => [.gen (rowE (x_.2.1) x_.2.2.1 x_.1 x_.2.2.2 53 4 (rvals ((R.take x_.1).map (shQ W H X Y s))) true), .gen (rowE (A2) g3 k4 cp5 53 4 (rvals R) true), .cells b1 [.pointer (pB m), iq X, iq Y, iq s, iq al, iq ca, iq cb, iq cc, iq cd] 106 true, .ro m [iq W, iq H, .slice (pB r) n cap] 118, rD (pB r) r 0 n 1 (cV px), rD (Az) gz oz nz 4 (rvals xsz)]) (fun x_ : Nat × Option Addr × Nat × Nat => k4 - x_.1) (0, none, 0, 0) (show (0) ≤ k4 from (by omega)) ?_
 rintro ⟨i, Aq, gq, cq⟩ hinv10_
 replace hinv10_ : i ≤ k4 := hinv10_
 have hi := hinv10_
 refine zSR 1 <| bD [0] 1 0 [(16, .bool (decide (((i : Nat) : Int) < (k4 : Int))))] [] <| zDNS <| sD 16 rfl (fun c11_ => ?_) fun c11_ => ?_
 ·
  refine zTKNSBSR 4 <| pS 1 3 <| rC 13 (.slice (pB g3) k4 cp5) rfl (by rw [hr8_a (by omega)]) <| sS 17 (Instr.indexAt 58 (.slice (pB g3) k4 cp5) (iq ((i : Nat) : Int))) (.pointer (some ⟨g3, (i : Nat) * 4, none⟩)) (fun w hT => rI 53 4 w) <| pS 2 2 <| sS 18 (Instr.loadAt 53 (.pointer (some ⟨g3, (i : Nat) * 4, none⟩))) (.agg #[iq ((rget R (i : Nat)).x0), iq ((rget R (i : Nat)).y0), iq ((rget R (i : Nat)).x1), iq ((rget R (i : Nat)).y1)]) (fun w hT => rM 4 (rcells (rget R (i : Nat))) (Rd.rect0 (Row.rd (hT.ok 1 _ rfl)) (by omega))) <| bW [0, 0] 4 0 (fun b12 => [(2, .pointer (pB b1)), (5, .slice Aq i cq), (7, .pointer (pB b12)), (13, .slice (pB g3) k4 cp5), (14, iq (k4 : Int)), (15, iq ((i : Nat) : Int))]) (fun b12 => [.cells b12 [iq ((rget R (i : Nat)).x0), iq ((rget R (i : Nat)).y0), iq ((rget R (i : Nat)).x1), iq ((rget R (i : Nat)).y1)] 53 true, .gen (rowE (Aq) gq i cq 53 4 (rvals ((R.take i).map (shQ W H X Y s))) true), .gen (rowE (A2) g3 k4 cp5 53 4 (rvals R) true), .cells b1 [.pointer (pB m), iq X, iq Y, iq s, iq al, iq ca, iq cb, iq cc, iq cd] 106 true, .ro m [iq W, iq H, .slice (pB r) n cap] 118, rD (pB r) r 0 n 1 (cV px), rD (Az) gz oz nz 4 (rvals xsz)]) [2, 5, 7, 13, 14, 15] fun b12 => ?_
  refine zDNSR 9 <| bD [3, 0] 2 7 [(20, .agg #[.pointer (pB m), iq X, iq Y, iq s, iq al, iq ca, iq cb, iq cc, iq cd]), (21, .agg #[iq ((rget R (i : Nat)).x0), iq ((rget R (i : Nat)).y0), iq ((rget R (i : Nat)).x1), iq ((rget R (i : Nat)).y1)])] [] <| fG 0 <| pS 3 6 <| cP 22 (.tuple #[.agg #[iq ((shwR W H X Y s ((rget R (i : Nat)).x0) ((rget R (i : Nat)).y0) ((rget R (i : Nat)).x1) ((rget R (i : Nat)).y1)).x0), iq ((shwR W H X Y s ((rget R (i : Nat)).x0) ((rget R (i : Nat)).y0) ((rget R (i : Nat)).x1) ((rget R (i : Nat)).y1)).y0), iq ((shwR W H X Y s ((rget R (i : Nat)).x0) ((rget R (i : Nat)).y0) ((rget R (i : Nat)).x1) ((rget R (i : Nat)).y1)).x1), iq ((shwR W H X Y s ((rget R (i : Nat)).x0) ((rget R (i : Nat)).y0) ((rget R (i : Nat)).x1) ((rget R (i : Nat)).y1)).y1)], .bool (shwB W H X Y s ((rget R (i : Nat)).x0) ((rget R (i : Nat)).y0) ((rget R (i : Nat)).x1) ((rget R (i : Nat)).y1))]) (fun w hT => layShown m W H r n cap px X Y s al ca cb cc cd ((rget R (i : Nat)).x0) ((rget R (i : Nat)).y0) ((rget R (i : Nat)).x1) ((rget R (i : Nat)).y1) w ⟨hT.ok 3 _ rfl, hT.ok 4 _ rfl, by omega⟩ hok) <| bW [0, 0, 0, 0, 0, 0] 9 0 (fun b13 => [(2, .pointer (pB b1)), (5, .slice Aq i cq), (8, .pointer (pB b13)), (13, .slice (pB g3) k4 cp5), (14, iq (k4 : Int)), (15, iq ((i : Nat) : Int))]) (fun b13 => [.cells b13 [iq ((shwR W H X Y s ((rget R (i : Nat)).x0) ((rget R (i : Nat)).y0) ((rget R (i : Nat)).x1) ((rget R (i : Nat)).y1)).x0), iq ((shwR W H X Y s ((rget R (i : Nat)).x0) ((rget R (i : Nat)).y0) ((rget R (i : Nat)).x1) ((rget R (i : Nat)).y1)).y0), iq ((shwR W H X Y s ((rget R (i : Nat)).x0) ((rget R (i : Nat)).y0) ((rget R (i : Nat)).x1) ((rget R (i : Nat)).y1)).x1), iq ((shwR W H X Y s ((rget R (i : Nat)).x0) ((rget R (i : Nat)).y0) ((rget R (i : Nat)).x1) ((rget R (i : Nat)).y1)).y1)] 53 true, .gen (rowE (Aq) gq i cq 53 4 (rvals ((R.take i).map (shQ W H X Y s))) true), .gen (rowE (A2) g3 k4 cp5 53 4 (rvals R) true), .cells b1 [.pointer (pB m), iq X, iq Y, iq s, iq al, iq ca, iq cb, iq cc, iq cd] 106 true, .ro m [iq W, iq H, .slice (pB r) n cap] 118, rD (pB r) r 0 n 1 (cV px), rD (Az) gz oz nz 4 (rvals xsz)]) [2, 5, 8, 13, 14, 15] fun b13 => ?_
  refine zDNR 5 <| bW [0, 0, 0] 3 2 (fun b14 => [(2, .pointer (pB b1)), (13, .slice (pB g3) k4 cp5), (14, iq (k4 : Int)), (15, iq ((i : Nat) : Int)), (25, .slice Aq i cq), (27, .slice (pB b14) 1 1)]) (fun b14 => [.cells b14 [iq ((shwR W H X Y s ((rget R (i : Nat)).x0) ((rget R (i : Nat)).y0) ((rget R (i : Nat)).x1) ((rget R (i : Nat)).y1)).x0), iq ((shwR W H X Y s ((rget R (i : Nat)).x0) ((rget R (i : Nat)).y0) ((rget R (i : Nat)).x1) ((rget R (i : Nat)).y1)).y0), iq ((shwR W H X Y s ((rget R (i : Nat)).x0) ((rget R (i : Nat)).y0) ((rget R (i : Nat)).x1) ((rget R (i : Nat)).y1)).x1), iq ((shwR W H X Y s ((rget R (i : Nat)).x0) ((rget R (i : Nat)).y0) ((rget R (i : Nat)).x1) ((rget R (i : Nat)).y1)).y1)] 53 true, .cells b13 [iq ((shwR W H X Y s ((rget R (i : Nat)).x0) ((rget R (i : Nat)).y0) ((rget R (i : Nat)).x1) ((rget R (i : Nat)).y1)).x0), iq ((shwR W H X Y s ((rget R (i : Nat)).x0) ((rget R (i : Nat)).y0) ((rget R (i : Nat)).x1) ((rget R (i : Nat)).y1)).y0), iq ((shwR W H X Y s ((rget R (i : Nat)).x0) ((rget R (i : Nat)).y0) ((rget R (i : Nat)).x1) ((rget R (i : Nat)).y1)).x1), iq ((shwR W H X Y s ((rget R (i : Nat)).x0) ((rget R (i : Nat)).y0) ((rget R (i : Nat)).x1) ((rget R (i : Nat)).y1)).y1)] 53 true, .gen (rowE (Aq) gq i cq 53 4 (rvals ((R.take i).map (shQ W H X Y s))) true), .gen (rowE (A2) g3 k4 cp5 53 4 (rvals R) true), .cells b1 [.pointer (pB m), iq X, iq Y, iq s, iq al, iq ca, iq cb, iq cc, iq cd] 106 true, .ro m [iq W, iq H, .slice (pB r) n cap] 118, rD (pB r) r 0 n 1 (cV px), rD (Az) gz oz nz 4 (rvals xsz)]) [2, 13, 14, 15, 25, 27] fun b14 => ?_
  refine fG 1 <| pS 4 1 <| sSW (α := Option Addr × Nat × Nat) 28 (Builtin.append_ #[58, 58] 58 #[.slice Aq i cq, .slice (pB b14) 1 1]) (fun x_ => .slice x_.1 (i + 1) x_.2.2) (fun x_ => [.cells b14 [iq ((shwR W H X Y s ((rget R (i : Nat)).x0) ((rget R (i : Nat)).y0) ((rget R (i : Nat)).x1) ((rget R (i : Nat)).y1)).x0), iq ((shwR W H X Y s ((rget R (i : Nat)).x0) ((rget R (i : Nat)).y0) ((rget R (i : Nat)).x1) ((rget R (i : Nat)).y1)).y0), iq ((shwR W H X Y s ((rget R (i : Nat)).x0) ((rget R (i : Nat)).y0) ((rget R (i : Nat)).x1) ((rget R (i : Nat)).y1)).x1), iq ((shwR W H X Y s ((rget R (i : Nat)).x0) ((rget R (i : Nat)).y0) ((rget R (i : Nat)).x1) ((rget R (i : Nat)).y1)).y1)] 53 true, .gen (rowE (x_.1) x_.2.1 (i + 1) x_.2.2 53 4 (rvals (((R.take i).map (shQ W H X Y s)) ++ [(⟨(shwR W H X Y s ((rget R (i : Nat)).x0) ((rget R (i : Nat)).y0) ((rget R (i : Nat)).x1) ((rget R (i : Nat)).y1)).x0, (shwR W H X Y s ((rget R (i : Nat)).x0) ((rget R (i : Nat)).y0) ((rget R (i : Nat)).x1) ((rget R (i : Nat)).y1)).y0, (shwR W H X Y s ((rget R (i : Nat)).x0) ((rget R (i : Nat)).y0) ((rget R (i : Nat)).x1) ((rget R (i : Nat)).y1)).x1, (shwR W H X Y s ((rget R (i : Nat)).x0) ((rget R (i : Nat)).y0) ((rget R (i : Nat)).x1) ((rget R (i : Nat)).y1)).y1⟩ : Rect)])) true), .gen (rowE (A2) g3 k4 cp5 53 4 (rvals R) true), .cells b1 [.pointer (pB m), iq X, iq Y, iq s, iq al, iq ca, iq cb, iq cc, iq cd] 106 true, .ro m [iq W, iq H, .slice (pB r) n cap] 118, rD (pB r) r 0 n 1 (cV px), rD (Az) gz oz nz 4 (rvals xsz)]) (fun _ => True) (by kernel_rfl) (fun w hT => append_own (n' := (i + 1)) (z := .agg #[iq 0, iq 0, iq 0, iq 0]) hT (i := 1) (bytes := 32) rfl (by kernel_rfl) (by kernel_rfl) rfl (by decide) (by decide) (Rd.ofCells (vals := rvals [(⟨(shwR W H X Y s ((rget R (i : Nat)).x0) ((rget R (i : Nat)).y0) ((rget R (i : Nat)).x1) ((rget R (i : Nat)).y1)).x0, (shwR W H X Y s ((rget R (i : Nat)).x0) ((rget R (i : Nat)).y0) ((rget R (i : Nat)).x1) ((rget R (i : Nat)).y1)).y0, (shwR W H X Y s ((rget R (i : Nat)).x0) ((rget R (i : Nat)).y0) ((rget R (i : Nat)).x1) ((rget R (i : Nat)).y1)).x1, (shwR W H X Y s ((rget R (i : Nat)).x0) ((rget R (i : Nat)).y0) ((rget R (i : Nat)).x1) ((rget R (i : Nat)).y1)).y1⟩ : Rect)]) (hT.ok 0 _ rfl) rfl rfl) (rvals_one [(⟨(shwR W H X Y s ((rget R (i : Nat)).x0) ((rget R (i : Nat)).y0) ((rget R (i : Nat)).x1) ((rget R (i : Nat)).y1)).x0, (shwR W H X Y s ((rget R (i : Nat)).x0) ((rget R (i : Nat)).y0) ((rget R (i : Nat)).x1) ((rget R (i : Nat)).y1)).y0, (shwR W H X Y s ((rget R (i : Nat)).x0) ((rget R (i : Nat)).y0) ((rget R (i : Nat)).x1) ((rget R (i : Nat)).y1)).x1, (shwR W H X Y s ((rget R (i : Nat)).x0) ((rget R (i : Nat)).y0) ((rget R (i : Nat)).x1) ((rget R (i : Nat)).y1)).y1⟩ : Rect)]) (by omega) (rvals_append ((R.take i).map (shQ W H X Y s)) [(⟨(shwR W H X Y s ((rget R (i : Nat)).x0) ((rget R (i : Nat)).y0) ((rget R (i : Nat)).x1) ((rget R (i : Nat)).y1)).x0, (shwR W H X Y s ((rget R (i : Nat)).x0) ((rget R (i : Nat)).y0) ((rget R (i : Nat)).x1) ((rget R (i : Nat)).y1)).y0, (shwR W H X Y s ((rget R (i : Nat)).x0) ((rget R (i : Nat)).y0) ((rget R (i : Nat)).x1) ((rget R (i : Nat)).y1)).x1, (shwR W H X Y s ((rget R (i : Nat)).x0) ((rget R (i : Nat)).y0) ((rget R (i : Nat)).x1) ((rget R (i : Nat)).y1)).y1⟩ : Rect)]) rfl) ?_
  rintro ⟨A15, g15, cp15⟩ -
  refine fR 1 (i + 1) A15 g15 cp15 (((R.take i).map (shQ W H X Y s)) ++ [(⟨(shwR W H X Y s ((rget R (i : Nat)).x0) ((rget R (i : Nat)).y0) ((rget R (i : Nat)).x1) ((rget R (i : Nat)).y1)).x0, (shwR W H X Y s ((rget R (i : Nat)).x0) ((rget R (i : Nat)).y0) ((rget R (i : Nat)).x1) ((rget R (i : Nat)).y1)).y0, (shwR W H X Y s ((rget R (i : Nat)).x0) ((rget R (i : Nat)).y0) ((rget R (i : Nat)).x1) ((rget R (i : Nat)).y1)).x1, (shwR W H X Y s ((rget R (i : Nat)).x0) ((rget R (i : Nat)).y0) ((rget R (i : Nat)).x1) ((rget R (i : Nat)).y1)).y1⟩ : Rect)]) rfl fun hr16_a hr16_l hr16_c hr16_m => ?_
  refine bD [0] 5 0 [(5, .slice A15 (i + 1) cp15)] [] <| fG 0 <| zDbNR 2 <| bD [0] 1 1 [(29, iq (IntKind.i64.wrap (((i : Nat) : Int) + 1)))] [] <| wI 29 (((i : Nat) : Int) + 1) <| bD [0] 2 0 [(15, iq (((i : Nat) : Int) + 1))] [] <| zDN <| rC 13 (.slice A2 k4 cp5) rfl (by rw [hr8_a (by omega)]) <| cont_rowEqR 0 (((R.take i).map (shQ W H X Y s)) ++ [(⟨(shwR W H X Y s ((rget R (i : Nat)).x0) ((rget R (i : Nat)).y0) ((rget R (i : Nat)).x1) ((rget R (i : Nat)).y1)).x0, (shwR W H X Y s ((rget R (i : Nat)).x0) ((rget R (i : Nat)).y0) ((rget R (i : Nat)).x1) ((rget R (i : Nat)).y1)).y0, (shwR W H X Y s ((rget R (i : Nat)).x0) ((rget R (i : Nat)).y0) ((rget R (i : Nat)).x1) ((rget R (i : Nat)).y1)).x1, (shwR W H X Y s ((rget R (i : Nat)).x0) ((rget R (i : Nat)).y0) ((rget R (i : Nat)).x1) ((rget R (i : Nat)).y1)).y1⟩ : Rect)]) ((R.take (i + 1)).map (shQ W H X Y s)) rfl (map_put (f := (shQ W H X Y s)) (by omega)) ?_
  refine cA (i + 1, A15, g15, cp15) (show (i + 1) ≤ k4 from (by omega))
 refine zFXxxeNSR 3 <| bS [0] 1 2 [(30, .slice Aq i cq)] <| fG 2 <| pS 2 1 <| cG (d := 31) (α := Option Addr × Nat × Nat × Nat) (fun x_ => .slice x_.1 x_.2.2.1 x_.2.2.2) (fun x_ => [.gen (rowE (x_.1) x_.2.1 x_.2.2.1 x_.2.2.2 53 4 (rvals (canR ((R.take i).map (shQ W H X Y s)))) true), .gen (rowE (Aq) gq i cq 53 4 (rvals ((R.take i).map (shQ W H X Y s))) true), .gen (rowE (A2) g3 k4 cp5 53 4 (rvals R) true), .ro m [iq W, iq H, .slice (pB r) n cap] 118, rD (pB r) r 0 n 1 (cV px), rD (Az) gz oz nz 4 (rvals xsz)]) (fun x_ => True) (fun w hT => (regOf Aq gq 0 i cq ((R.take i).map (shQ W H X Y s)) w (hT.viewRo (.cons (i := 0) rfl Vw.rowRd .nil) rfl) (by omega)).mono fun e w' ⟨A17, g18, k19, cp20, he_, ht_⟩ => ⟨(A17, g18, k19, cp20), he_, trivial, hT.news ht_ rfl⟩) ?_
 rintro ⟨A17, g18, k19, cp20⟩ hf21_
 refine fR 0 k19 A17 g18 cp20 (canR ((R.take i).map (shQ W H X Y s))) rfl fun hr22_a hr22_l hr22_c hr22_m => ?_
 refine bS [0] 3 0 [(4, .slice A17 k19 cp20)] <| zDNr <| rA rfl 0 (.slice A17 k19 cp20) fun w hT => ?_
 replace hT := hT.erase 5 (fun e h hw => by cases h; first | rfl | cases hw)
 replace hT := hT.erase 4 (fun e h hw => by cases h; first | rfl | cases hw)
 replace hT := hT.erase 3 (fun e h hw => by cases h; first | rfl | cases hw)
 replace hT := hT.erase 2 (fun e h hw => by cases h; first | rfl | cases hw)
 replace hT := hT.erase 1 (fun e h hw => by cases h; first | rfl | cases hw)
 have hik : i = R.length := by omega
 subst hik
 rw [List.take_length] at hT
 exact ⟨_, _, _, _, rfl, hT⟩
end Go.Proofs.Ytlfahohbkgdabaa
namespace Go.Proofs.Ytlfahohbkgdabaa
open Go Go.RowKit
set_option maxRecDepth 100000
set_option maxHeartbeats 8000000
end Go.Proofs.Ytlfahohbkgdabaa
namespace Go.Proofs.Ytlfahohbkgdabaa
open Go Go.RowKit
end Go.Proofs.Ytlfahohbkgdabaa
namespace Go.Proofs.Ytlfahohbkgdabaa
open Go Go.RowKit
end Go.Proofs.Ytlfahohbkgdabaa
namespace Go.Proofs.Ytlfahohbkgdabaa
open Go Go.RowKit
variable {dfs : List Deferred}
section
variable {P : Program}
end
end Go.Proofs.Ytlfahohbkgdabaa
namespace Go.Proofs.Ytlfahohbkgdabaa
open Go Go.RowKit
variable {P : Program} {dfs : List Deferred} {n : Nat} {w0 : World} {L : List (Tmp × Value)} {T : List Ent} {Q : Exit → Act → World → Prop}
end Go.Proofs.Ytlfahohbkgdabaa
namespace Go.Proofs.Ytlfahohbkgdabaa
open Go Go.RowKit
section
variable {P : Program}
end
end Go.Proofs.Ytlfahohbkgdabaa
namespace Go.Proofs.Ytlfahohbkgdabaa
open Go Go.RowKit
variable {P : Program} {dfs : List Deferred} {n : Nat} {w0 : World} {L : List (Tmp × Value)} {T : List Ent} {Q : Exit → Act → World → Prop}
end Go.Proofs.Ytlfahohbkgdabaa
namespace Go.Proofs.Ytlfahohbkgdabaa
open Go Go.RowKit
variable {dfs : List Deferred}
end Go.Proofs.Ytlfahohbkgdabaa
namespace Go.Proofs.Ytlfahohbkgdabaa
open Go Go.RowKit
section
variable {P : Program} {dfs : List Deferred} {Q : Exit → Act → World → Prop} {n : Nat} {w0 : World} {L : List (Nat × Value)} {T : List Ent}
end
end Go.Proofs.Ytlfahohbkgdabaa
namespace Go.Proofs.Ytlfahohbkgdabaa
open Go Go.RowKit
def BackP (n : Nat) (p : List Nat) : Prop := p = (List.range p.length).map (fun k => n - 1 - k) ∧ p.length ≤ n
theorem BackP.nil (n : Nat) : BackP n [] := ⟨rfl, Nat.zero_le _⟩
theorem BackP.step {n : Nat} {p : List Nat} (hp : BackP n p) {x : Nat} (hx : (x : Int) = (n : Int) - 1 - ((p.length : Nat) : Int)) : BackP n (p ++ [x]) := by
  refine ⟨?_, by rw [List.length_append, List.length_singleton]; omega⟩
  rw [List.length_append, List.length_singleton, List.range_succ, List.map_append, ← hp.1]
  have : x = n - 1 - p.length := by omega
  rw [this]; rfl
theorem BackP.last {n : Nat} {p : List Nat} {x : Nat} (hp : BackP n (p ++ [x])) : x = n - 1 - p.length ∧ p.length < n := by
  obtain ⟨h1, h2⟩ := hp
  rw [List.length_append, List.length_singleton] at h1 h2
  rw [List.range_succ, List.map_append] at h1
  have := List.append_inj_right h1 (by simp)
  simp at this
  exact ⟨this, h2⟩
structure RS where
  A : Option Addr
  g : Nat
  n : Nat
  cap : Nat
  xs : List Rect
def RS.nil : RS := ⟨none, 0, 0, 0, []⟩
instance : Inhabited RS := ⟨RS.nil⟩
def RS.cells (t : RS) : List Value := [.slice t.A t.n t.cap]
theorem RS.size (t : RS) : (RS.cells t).length = 1 := rfl
theorem RS.one : ∀ a : RS, ∀ u ∈ RS.cells a, u.oneCell' = true := by
  intro a u hu
  simp only [RS.cells, List.mem_cons, List.not_mem_nil, or_false] at hu
  rcases hu with rfl; rfl
theorem make_rowS {P : Program} {w0 w : World} {T : List Ent} (hT : Tab w0 w T) {t e : TypeId} {kl kc : IntKind} {bytes : Nat} (n : Nat) (ht : P.underlying t = some (.slice e)) (hi : (P.info? e).map (fun i => (i.zero, i.size, i.bytes)) = some (some (.slice none 0 0), 1, bytes)) (hb : bytes * n ≤ 281474976710656) (hn : n ≤ 9223372036854775807) :
    ∃ (x : Nat) (w' : World), (Instr.makeSlice t (.int kl (n : Int)) (.int kc (n : Int))).run P w = .ok (.slice (some ⟨x, 0, none⟩) n n) w' ∧ True ∧ Tab w0 w' (.gen (rowE (some ⟨x, 0, none⟩) x n n e 1 (dvals RS.cells (List.replicate n RS.nil)) true) :: T) := by
  obtain ⟨i, hi1, hi2⟩ := Option.map_eq_some_iff.1 hi
  simp only [Prod.mk.injEq] at hi2
  obtain ⟨hz, hs, hby⟩ := hi2
  obtain ⟨w', hr, hown, hg⟩ := run_make_full (P := P) w 0 t e i (.slice none 0 0) 1 ht hi1 hz hs kl kc n (by rw [hby]; exact hb) (by unfold maxLen; omega) (Nat.zero_le _)
  have hvals : (madeCells (Value.slice none 0 0).cells (n * 1)).toList = dvals RS.cells (List.replicate n RS.nil) := by
    have : (Value.slice none 0 0).cells = #[.slice none 0 0] := rfl
    rw [this, Nat.mul_one, toList_madeCells_one]
    clear hr hown hg hb hn
    induction n with
    | zero => rfl
    | succ n ih => rw [List.replicate_succ, List.replicate_succ, dvals, ← ih]; rfl
  rw [hvals] at hown
  refine ⟨w.heap.size, w', hr, trivial, ?_⟩
  have hbel : Below w.heap.size w w' := ⟨hg.os, hg.tape, hg.output, hg.size, fun k hk => hg.block k hk (by simp)⟩
  exact hT.addRow hbel ⟨hown, fun _ => rfl, fun a ha => by simpa using ha.symm⟩ (fun _ => Nat.le_refl _)
structure JS where
  i : Int
  a : Int
  b : Int
  c : Int
  d : Int
deriving DecidableEq
instance : Inhabited JS := ⟨⟨0, 0, 0, 0, 0⟩⟩
def JS.cells (t : JS) : List Value := [.int .i64 t.i, .int .i64 t.a, .int .i64 t.b, .int .i64 t.c, .int .i64 t.d]
theorem JS.size (t : JS) : (JS.cells t).length = 5 := rfl
theorem JS.one : ∀ a : JS, ∀ u ∈ JS.cells a, u.oneCell' = true := by
  intro a u hu
  simp only [JS.cells, List.mem_cons, List.not_mem_nil, or_false] at hu
  rcases hu with rfl | rfl | rfl | rfl | rfl <;> rfl
def JS.of (i : Int) (r : Rect) : JS := ⟨i, r.x0, r.y0, r.x1, r.y1⟩
theorem jobs_step {xs : List Rect} {i : Nat} (h : i < xs.length) (q : Int) : (xs.take i).map (JS.of q) ++ [(⟨q, (rget xs i).x0, (rget xs i).y0, (rget xs i).x1, (rget xs i).y1⟩ : JS)] = (xs.take (i + 1)).map (JS.of q) := by
  rw [take_succ_rget h, List.map_append]; rfl
theorem lives17_eq : regM andB (canR [(⟨0, 0, 4, 4⟩ : Rect)]) [(⟨0, 0, 4, 4⟩ : Rect)] = [(⟨0, 0, 4, 4⟩ : Rect)] := by
  unfold canR
  rw [← regD_eq (kf := orB) rfl, ← regD_eq (kf := andB) rfl]
  decide +kernel
end Go.Proofs.Ytlfahohbkgdabaa
namespace Go.Proofs.Ytlfahohbkgdabaa
open Go Go.RowKit
set_option maxRecDepth 100000
set_option maxHeartbeats 8000000
theorem backIter0 (kb : Nat) (A : Option Addr) (g o n cap : Nat) (its : List IT) (hn : n ≤ 100) (hra : 0 < n → A = some ⟨g, o, none⟩) (hrl : its.length = n) (w0 : World) {β : Type} (Inv : List Nat → β → Prop) (Tr : β → List Ent) (Jx : World → Prop) (l_ : Nat) (e1 e2 : Ent) (w : World) (b0 : β) (hJx : ∀ w w', Jx w → Below w.heap.size w w' → Jx w') (hY : ∀ (pre : List Nat) (x : Nat) (b : β) W1 z, (z.wr = true → z.own = true) → Inv pre b → BackP n (pre ++ [x]) → Tab w0 W1 (z :: e1 :: e2 :: (.ro kb [.slice A n cap] 27) :: (rD (A) g o n 14 (dvals IT.cells its)) :: (Tr b)) → YieldAt Fence.wide 0 Try.prog l_ #[iQ (x : Int), .agg #[iQ 0, iQ 0, .pointer (some ⟨(dget its x).b, 0, none⟩), iQ ((dget its x).t.X), iQ ((dget its x).t.Y), iQ ((dget its x).t.s), iQ ((dget its x).t.al), iQ ((dget its x).t.ca), iQ ((dget its x).t.cb), iQ ((dget its x).t.cc), iQ ((dget its x).t.cd), .slice ((dget its x).t.A) ((dget its x).t.k) ((dget its x).t.cp), .string ⟨#[]⟩, iQ 0]] W1 fun e W' => (e = .returned (.bool true) ∧ ∃ b', Inv (pre ++ [x]) b' ∧ Tab w0 W' (z :: e1 :: e2 :: (.ro kb [.slice A n cap] 27) :: (rD (A) g o n 14 (dvals IT.cells its)) :: (Tr b'))) ∨ (e = .returned (.bool false) ∧ Jx W')) (h0 : Inv [] b0) (hT0 : Tab w0 w (e1 :: e2 :: (.ro kb [.slice A n cap] 27) :: (rD (A) g o n 14 (dvals IT.cells its)) :: (Tr b0))) :
    Calls Try.prog 102 #[.func (.yield l_) #[] #[], pT kb] w fun e W' => (∃ v, e = .returned v) ∧ ((∃ xs_ b', (BackP n xs_ ∧ xs_.length = n) ∧ Inv xs_ b' ∧ Tab w0 W' (e1 :: e2 :: (.ro kb [.slice A n cap] 27) :: (rD (A) g o n 14 (dvals IT.cells its)) :: (Tr b'))) ∨ Jx W') := by
  refine enterI 19 [(0, .func (.yield l_) #[] #[]), (1, pT kb)] (e1 :: e2 :: (.ro kb [.slice A n cap] 27) :: (rD (A) g o n 14 (dvals IT.cells its)) :: (Tr b0)) Try.func102 rfl Try.ntmps102 rfl (by kernel_rfl) hT0 (fun _ h_ => by simp at h_) ?_
  refine mcont_seq ?_
  refine mcont_region 4 rfl (by kernel_rfl) ?_
  refine bD [2, 0, 0] 3 1 [(6, iQ (IntKind.i64.wrap ((n : Int) - 1)))] [4, 5] <| wI 6 ((n : Int) - 1) <| bD [0] 4 0 [(3, iQ ((n : Int) - 1))] [] <| zDN <| mcont_block ?_
  refine cont_nilrow 24 1 ?_
  refine cM ?_
  refine rC 3 (iQ ((n : Int) - 1 - ((([] : List Nat).length : Nat) : Int))) rfl (congrArg (Value.int .i64) (by simp)) <| mcont_loop (α := List Nat × β) (fun x_ : List Nat × β => BackP n x_.1 ∧ Inv x_.1 x_.2) (fun x_ : List Nat × β => [(0, .func (.yield l_) #[] #[]), (1, pT kb), (3, iQ ((n : Int) - 1 - ((x_.1.length : Nat) : Int)))]) (fun x_ : List Nat × β => ((.gen (rowE (none) 0 0 0 24 1 (ivals .u32 []) true)) :: e1 :: e2 :: (.ro kb [.slice A n cap] 27) :: (rD (A) g o n 14 (dvals IT.cells its)) :: (Tr x_.2))) (fun x_ : List Nat × β => n - x_.1.length) ([], b0) (show BackP n ([]) ∧ Inv ([]) (b0) from ⟨BackP.nil _, h0⟩) (by kernel_rfl) (by kernel_rfl) ?_
  rintro ⟨pre, b⟩ hinv2_
  replace hinv2_ : BackP n pre ∧ Inv pre b := hinv2_
  refine cM ?_
  obtain ⟨hP, hI⟩ := hinv2_
  have hpl := hP.2
  refine mcont_seq ?_
  refine mcont_seq ?_
  refine mcont_region 2 rfl (by kernel_rfl) ?_
  refine bD [0, 0] 2 0 [(8, .bool (decide (((n : Int) - 1 - ((pre.length : Nat) : Int)) ≥ 0)))] [7] <| zDN <| sD 8 rfl (fun c3_ => ?_) fun c3_ => ?_
  ·
    refine mcont_true rfl ?_
    refine mcont_skip ?_
    refine zN <| mcont_seq ?_
    refine mcont_block ?_
    refine mcont_seq ?_
    refine icont_region 8 rfl ?_
    refine pli_ops 6 2 6 rfl rfl (by kernel_rfl) ?_
    obtain ⟨x, hx⟩ : ∃ y_ : Nat, (y_ : Int) = (n : Int) - 1 - ((pre.length : Nat) : Int) := ⟨n - 1 - pre.length, by omega⟩
    refine rC 3 (iQ (x : Int)) rfl (congrArg (Value.int .i64) hx.symm) ?_
    have hP2 : BackP n (pre ++ [x]) := hP.step hx
    refine bD [0, 0, 3, 0] 4 2 [(11, .func (.yield l_) #[] #[]), (12, iQ (x : Int)), (13, .slice A n cap), (14, iQ (x : Int))] [] <| pS 5 1 <| rC 13 (.slice (some ⟨g, o, none⟩) n cap) rfl (by rw [hra (by omega)]) <| sS 15 (Instr.indexAt 27 (.slice (some ⟨g, o, none⟩) n cap) (iQ (x : Int))) (.pointer (some ⟨g, o + x * 14, none⟩)) (fun w hT => rI 103 14 w) <| pS 6 0 <| sS 16 (Instr.loadAt 103 (.pointer (some ⟨g, o + x * 14, none⟩))) (.agg #[iQ 0, iQ 0, .pointer (some ⟨(dget its x).b, 0, none⟩), iQ ((dget its x).t.X), iQ ((dget its x).t.Y), iQ ((dget its x).t.s), iQ ((dget its x).t.al), iQ ((dget its x).t.ca), iQ ((dget its x).t.cb), iQ ((dget its x).t.cc), iQ ((dget its x).t.cd), .slice ((dget its x).t.A) ((dget its x).t.k) ((dget its x).t.cp), .string ⟨#[]⟩, iQ 0]) (fun w hT => rM 14 ([iQ 0, iQ 0, .pointer (some ⟨(dget its x).b, 0, none⟩), iQ ((dget its x).t.X), iQ ((dget its x).t.Y), iQ ((dget its x).t.s), iQ ((dget its x).t.al), iQ ((dget its x).t.ca), iQ ((dget its x).t.cb), iQ ((dget its x).t.cc), iQ ((dget its x).t.cd), .slice ((dget its x).t.A) ((dget its x).t.k) ((dget its x).t.cp), .string ⟨#[]⟩, iQ 0]) (Rd.dcell IT.size (hT.ok 4 _ rfl) (i := x) (by omega))) <| zDN <| pli_yield 17 7 1 rfl rfl (by kernel_rfl) (by kernel_rfl) (R := fun v_ w_ => (v_ = .bool true ∧ ∃ b_, Inv (pre ++ [x]) b_ ∧ Tab w0 w_ ((.gen (rowE (none) 0 0 0 24 1 (ivals .u32 []) true)) :: e1 :: e2 :: (.ro kb [.slice A n cap] 27) :: (rD (A) g o n 14 (dvals IT.cells its)) :: (Tr b_))) ∨ (v_ = .bool false ∧ Jx w_)) (fun w_ hT_ => YieldAt.weaken (hY pre x b w_ _ (fun _ => rfl) hI hP2 hT_) (fun e_ w_ h_ => by rcases h_ with ⟨rfl, hh_⟩ | ⟨rfl, hh_⟩; exact ⟨_, rfl, .inl ⟨rfl, hh_⟩⟩; exact ⟨_, rfl, .inr ⟨rfl, hh_⟩⟩)) ?_
    rintro a_ w_ v_ ha_ hf_ (⟨rfl, b, hI, hT_⟩ | ⟨rfl, hJ⟩)
    ·
      refine Cont.go ?_ ha_ hf_ hT_
      refine cM ?_
      refine pli_ops 1 0 8 rfl rfl (by kernel_rfl) ?_
      refine bD [0] 8 0 [(18, .bool false)] [] <| zDN <| pli_done ?_
      refine zN <| mcont_false rfl ?_
      refine mcont_skip ?_
      refine blk_normal <| zN <| mcont_region 3 rfl (by kernel_rfl) ?_
      refine bD [0, 0] 2 1 [(10, iQ (IntKind.i64.wrap ((x : Int) - 1)))] [9] <| wI 10 ((x : Int) - 1) <| bD [0] 3 0 [(3, iQ ((x : Int) - 1))] [] <| zDN <| rC 3 (iQ ((n : Int) - 1 - (((pre ++ [x]).length : Nat) : Int))) rfl (congrArg (Value.int .i64) (by rw [List.length_append, List.length_singleton]; omega)) <| cA (pre ++ [x], b) (show BackP n (pre ++ [x]) ∧ Inv (pre ++ [x]) (b) from ⟨hP2, hI⟩) (show n - (pre ++ [x]).length < n - pre.length from by rw [List.length_append, List.length_singleton]; omega)
    ·
      refine Cont.go ?_ ha_ hf_ (Tab.start w_)
      refine cM ?_
      refine pli_ops 1 0 8 rfl rfl (by kernel_rfl) ?_
      refine bD [0] 8 0 [(18, .bool true)] [] <| zDN <| pli_done ?_
      refine zN <| mcont_true rfl ?_
      refine mcont_ret ?_
      refine blk_ret <| then_ret <| then_ret <| blk_ret ?_
      refine ret_none (.inl rfl) rfl (fun w hT => ?_)
      exact ⟨⟨_, rfl⟩, .inr (hJx _ _ hJ (hT.toBelow (fun i e h => by simp at h)))⟩
  refine mcont_false rfl ?_
  refine mcont_exit ?_
  refine then_exit <| then_exit <| blk_exit ?_
  refine ret_none (.inr rfl) rfl (fun w hT => ?_)
  exact ⟨⟨_, rfl⟩, .inl ⟨pre, b, ⟨hP, by omega⟩, hI, hT.drop (fun _ => rfl)⟩⟩
theorem backIter (kb : Nat) (A : Option Addr) (g o n cap : Nat) (its : List IT) (hn : n ≤ 100) (hra : 0 < n → A = some ⟨g, o, none⟩) (hrl : its.length = n) (w0 : World) : IterC Try.prog 102 #[pT kb] (fun z_ : Nat => #[iQ (z_ : Int), .agg #[iQ 0, iQ 0, .pointer (some ⟨(dget its z_).b, 0, none⟩), iQ ((dget its z_).t.X), iQ ((dget its z_).t.Y), iQ ((dget its z_).t.s), iQ ((dget its z_).t.al), iQ ((dget its z_).t.ca), iQ ((dget its z_).t.cb), iQ ((dget its z_).t.cc), iQ ((dget its z_).t.cd), .slice ((dget its z_).t.A) ((dget its z_).t.k) ((dget its z_).t.cp), .string ⟨#[]⟩, iQ 0]]) w0 [.ro kb [.slice A n cap] 27, rD (A) g o n 14 (dvals IT.cells its)] (fun _ => []) (fun xs_ => BackP n xs_ ∧ xs_.length = n) (fun p_ => BackP n p_) :=
  fun Inv Tr Jx l e1 e2 W1 b0 hJx hY h0 hT => backIter0 kb A g o n cap its hn hra hrl w0 Inv Tr Jx l e1 e2 W1 b0 hJx hY h0 hT
theorem backOf (A : Option Addr) (n cap : Nat) (w : World) :
    Calls Try.prog 82 #[.slice A n cap] w fun e w' => ∃ kb : Nat, e = .returned (.func (.func 102) #[] #[pT kb]) ∧ Tab w w' [.cells kb [.slice A n cap] 27 true] := by
 refine eN [(0, .slice A n cap)] Try.func82 Try.ntmps82 rfl (Tab.start w) ?_
 refine zSR 2 <| bW [0, 0] 2 0 (fun b1 => [(1, .pointer (pB b1))]) (fun b1 => [.cells b1 [.slice A n cap] 27 true]) [1] fun b1 => ?_
 refine zDNSR 2 <| bS [0, 0] 2 0 [(2, .func (.func 102) #[] #[.pointer (pB b1)])] <| zDNr <| rA rfl 0 (.func (.func 102) #[] #[.pointer (pB b1)]) fun w hT => ?_
 exact ⟨_, rfl, hT⟩
theorem planjobs0 (A : Option Addr) (g o n cap : Nat) (xs : List Rect) (q : Int) (w : World) (hT0 : Tab w w [rD (A) g o n 4 (rvals xs)]) (hn : n ≤ 274877906944) :
    Calls Try.prog 62 #[.slice none 0 0, iQ q, .slice A n cap] w fun e w' => ∃ (A_ : Option Addr) (g_ cp_ : Nat), e = .returned (.slice A_ n cp_) ∧ Tab w w' [.gen (rowE (A_) g_ n cp_ 74 5 (dvals JS.cells (xs.map (JS.of q))) true)] := by
  obtain ⟨hra, hrl⟩ := Rd.factsR (hT0.ok 0 _ rfl)
  refine eN [(0, .slice none 0 0), (1, iQ q), (2, .slice A n cap)] Try.func62 Try.ntmps62 rfl hT0 ?_
  refine zSR 1 <| bD [0] 1 0 [] [6] <| zDNSSR 3 <| bD [0, 0, 0] 3 0 [(9, .slice A n cap), (10, iQ (n : Int)), (11, iQ 0)] [] <| zDNB <| cont_nilrow 74 5 ?_
  refine cM ?_
  refine cont_rowEqD (cel := JS.cells) (z := 5) 0 ([]) (((xs.take 0).map (JS.of q))) rfl rfl ?_
  refine cL (α := Nat × Option Addr × Nat × Nat) (fun x_ : Nat × Option Addr × Nat × Nat => x_.1 ≤ n) (fun x_ : Nat × Option Addr × Nat × Nat => [(0, .slice x_.2.1 x_.1 x_.2.2.2), (1, iQ q), (9, .slice A n cap), (10, iQ (n : Int)), (11, iQ (x_.1 : Int))]) (fun x_ : Nat × Option Addr × Nat × Nat => [.gen (rowE (x_.2.1) x_.2.2.1 x_.1 x_.2.2.2 74 5 (dvals JS.cells ((xs.take x_.1).map (JS.of q))) true), rD (A) g o n 4 (rvals xs)]) (fun x_ : Nat × Option Addr × Nat × Nat => n - x_.1) (0, none, 0, 0) (show (0) ≤ n from (by omega)) ?_
  rintro ⟨i, Ao, gw, co⟩ hinv2_
  replace hinv2_ : i ≤ n := hinv2_
  refine cM ?_
  have hi := hinv2_
  refine zSR 1 <| bD [0] 1 0 [(12, .bool (decide ((i : Int) < (n : Int))))] [] <| zDNS <| sD 12 rfl (fun c3_ => ?_) fun c3_ => ?_
  ·
    refine zTKNSBSR 4 <| pS 1 3 <| rC 9 (.slice (some ⟨g, o, none⟩) n cap) rfl (by rw [hra (by omega)]) <| sS 13 (Instr.indexAt 58 (.slice (some ⟨g, o, none⟩) n cap) (iQ (i : Int))) (.pointer (some ⟨g, o + i * 4, none⟩)) (fun w hT => rI 53 4 w) <| pS 2 2 <| sS 14 (Instr.loadAt 53 (.pointer (some ⟨g, o + i * 4, none⟩))) (.agg #[iQ ((rget xs i).x0), iQ ((rget xs i).y0), iQ ((rget xs i).x1), iQ ((rget xs i).y1)]) (fun w hT => rM 4 (rcells (rget xs i)) (Rd.rect (hT.ok 1 _ rfl) (by omega))) <| bW [0, 0] 4 0 (fun b4 => [(0, .slice Ao i co), (1, iQ q), (8, pT b4), (9, .slice (some ⟨g, o, none⟩) n cap), (10, iQ (n : Int)), (11, iQ (i : Int))]) (fun b4 => [.cells b4 [iQ ((rget xs i).x0), iQ ((rget xs i).y0), iQ ((rget xs i).x1), iQ ((rget xs i).y1)] 53 true, .gen (rowE (Ao) gw i co 74 5 (dvals JS.cells ((xs.take i).map (JS.of q))) true), rD (A) g o n 4 (rvals xs)]) [0, 1, 8, 9, 10, 11] fun b4 => ?_
    refine zDNR 7 <| bW [0, 0, 0, 0, 0] 5 2 (fun b5 => [(1, iQ q), (9, .slice (some ⟨g, o, none⟩) n cap), (10, iQ (n : Int)), (11, iQ (i : Int)), (15, .slice Ao i co), (19, sL b5 1 1)]) (fun b5 => [.cells b5 [iQ q, iQ ((rget xs i).x0), iQ ((rget xs i).y0), iQ ((rget xs i).x1), iQ ((rget xs i).y1)] 74 true, .cells b4 [iQ ((rget xs i).x0), iQ ((rget xs i).y0), iQ ((rget xs i).x1), iQ ((rget xs i).y1)] 53 true, .gen (rowE (Ao) gw i co 74 5 (dvals JS.cells ((xs.take i).map (JS.of q))) true), rD (A) g o n 4 (rvals xs)]) [1, 9, 10, 11, 15, 19] fun b5 => ?_
    refine fG 1 <| pS 6 1 <| sSW (α := Option Addr × Nat × Nat) 20 (Builtin.append_ #[71, 71] 71 #[.slice Ao i co, sL b5 1 1]) (fun x_ => .slice x_.1 (i + 1) x_.2.2) (fun x_ => [.cells b5 [iQ q, iQ ((rget xs i).x0), iQ ((rget xs i).y0), iQ ((rget xs i).x1), iQ ((rget xs i).y1)] 74 true, .gen (rowE (x_.1) x_.2.1 (i + 1) x_.2.2 74 5 (dvals JS.cells (((xs.take i).map (JS.of q)) ++ [(⟨q, (rget xs i).x0, (rget xs i).y0, (rget xs i).x1, (rget xs i).y1⟩ : JS)])) true), rD (A) g o n 4 (rvals xs)]) (fun _ => True) (by kernel_rfl) (fun w hT => append_own (n' := (i + 1)) (z := .agg #[iQ 0, iQ 0, iQ 0, iQ 0, iQ 0]) hT (i := 1) (bytes := 40) rfl (by kernel_rfl) (by kernel_rfl) rfl (by decide) (by decide) (Rd.ofCells (vals := dvals JS.cells [(⟨q, (rget xs i).x0, (rget xs i).y0, (rget xs i).x1, (rget xs i).y1⟩ : JS)]) (hT.ok 0 _ rfl) rfl rfl) (dvals_one JS.one [(⟨q, (rget xs i).x0, (rget xs i).y0, (rget xs i).x1, (rget xs i).y1⟩ : JS)]) (by omega) (dvals_append ((xs.take i).map (JS.of q)) [(⟨q, (rget xs i).x0, (rget xs i).y0, (rget xs i).x1, (rget xs i).y1⟩ : JS)]) rfl) ?_
    rintro ⟨A6, g6, cp6⟩ -
    refine cM ?_
    refine cont_fact (F := (0 < (i + 1) → (A6 : Option Addr) = some ⟨g6, 0, none⟩) ∧ (((xs.take i).map (JS.of q)) ++ [(⟨q, (rget xs i).x0, (rget xs i).y0, (rget xs i).x1, (rget xs i).y1⟩ : JS)]).length = (i + 1) ∧ (i + 1) ≤ cp6 ∧ cp6 ≤ maxLen) (fun w hT => Row.factsD JS.size (by decide) (hT.ok 1 _ rfl)) (fun hr7_ => ?_)
    obtain ⟨hr7_a, hr7_l, hr7_c, hr7_m⟩ := hr7_
    unfold maxLen at hr7_m
    refine bD [0] 7 0 [(0, .slice A6 (i + 1) cp6)] [] <| fG 0 <| zDbNR 2 <| bD [0] 1 1 [(21, iQ (IntKind.i64.wrap ((i : Int) + 1)))] [] <| wI 21 ((i : Int) + 1) <| bD [0] 2 0 [(11, iQ ((i : Int) + 1))] [] <| zDN <| rC 9 (.slice A n cap) rfl (by rw [hra (by omega)]) <| cont_rowEqD (cel := JS.cells) (z := 5) 0 (((xs.take i).map (JS.of q)) ++ [(⟨q, (rget xs i).x0, (rget xs i).y0, (rget xs i).x1, (rget xs i).y1⟩ : JS)]) (((xs.take (i + 1)).map (JS.of q))) rfl (jobs_step (by omega) q) ?_
    refine cA (i + 1, A6, g6, cp6) (show (i + 1) ≤ n from (by omega))
  refine zFXxxeNSR 2 <| bS [0, 0] 2 0 [(6, .slice Ao i co)] <| zDNr <| rA rfl 0 (.slice Ao i co) fun w hT => ?_
  replace hT := hT.erase 1 (fun e h hw => by cases h; first | rfl | cases hw)
  obtain rfl : i = n := by omega
  rw [List.take_of_length_le (by omega)] at hT
  exact ⟨_, _, _, rfl, hT⟩
theorem splitE (a b c d : Int) (w : World) :
    Calls Try.prog 61 #[.agg #[iQ 0, .slice none 0 0], .agg #[iQ a, iQ b, iQ c, iQ d]] w fun e w' => ∃ (r_ : Nat) (A_ : Option Addr) (g_ k_ cp_ : Nat), e = .returned (.tuple #[sL r_ 0 0, .slice A_ k_ cp_]) ∧ Tab w w' [.gen (rowE (A_) g_ k_ cp_ 53 4 (rvals (canR [(⟨a, b, c, d⟩ : Rect)])) true), oE r_ 0 0 58 1 (dvals RS.cells ([] : List RS))] := by
  refine enterM 39 [(0, .agg #[iQ 0, .slice none 0 0]), (1, .agg #[iQ a, iQ b, iQ c, iQ d])] [] Try.func61 rfl Try.ntmps61 rfl (by kernel_rfl) (Tab.start w) ?_
  refine zSR 4 <| batch2 [0, 0, 0, 0] 4 0 (fun b1 b2 => [(2, pT b1), (3, pT b2)]) (fun b1 b2 => [.cells b2 [iQ a, iQ b, iQ c, iQ d] 53 true, .cells b1 [iQ 0, .slice none 0 0] 29 true]) rfl rfl [2, 3] (fun _ _ => rfl) (fun b1 b2 => by kernel_rfl) (fun b1 b2 => by kernel_rfl) (fun b1 b2 => ?_)
  refine zDNSR 6 <| bD [0, 1, 0] 3 3 [(12, iQ 0)] [10, 11] <| pS 4 2 <| sSW 13 (Instr.makeSlice 77 (iQ 0) (iQ 0)) (fun r3 => sL r3 0 0) (fun r3 => [oE r3 0 0 58 1 (dvals RS.cells (List.replicate 0 RS.nil)), .cells b2 [iQ a, iQ b, iQ c, iQ d] 53 true, .cells b1 [iQ 0, .slice none 0 0] 29 true]) (fun _ => True) (by kernel_rfl) (fun w hT => make_rowS hT (bytes := 24) 0 (by kernel_rfl) (by kernel_rfl) (by omega) (by omega)) (fun r3 _ => ?_)
  refine bW [0, 0] 6 0 (fun b4 => [(2, pT b1), (3, pT b2), (6, pT b4)]) (fun b4 => [.cells b4 [sL r3 0 0] 77 true, oE r3 0 0 58 1 (dvals RS.cells (List.replicate 0 RS.nil)), .cells b2 [iQ a, iQ b, iQ c, iQ d] 53 true, .cells b1 [iQ 0, .slice none 0 0] 29 true]) [2, 3, 6] fun b4 => ?_
  refine zDNSR 5 <| bW [2, 0] 2 3 (fun b5 => [(2, pT b1), (6, pT b4), (15, sL b5 1 1)]) (fun b5 => [.cells b5 [iQ a, iQ b, iQ c, iQ d] 53 true, .cells b4 [sL r3 0 0] 77 true, oE r3 0 0 58 1 (dvals RS.cells (List.replicate 0 RS.nil)), .cells b2 [iQ a, iQ b, iQ c, iQ d] 53 true, .cells b1 [iQ 0, .slice none 0 0] 29 true]) [2, 6, 15] fun b5 => ?_
  refine fG 3 <| pS 3 2 <| cont_asRow 0 1 4 rfl (vals := rvals [(⟨a, b, c, d⟩ : Rect)]) rfl rfl (by decide) ?_
  refine cG (d := 16) (α := Option Addr × Nat × Nat × Nat) (fun x_ => .slice x_.1 x_.2.2.1 x_.2.2.2) (fun x_ => [.gen (rowE (x_.1) x_.2.1 x_.2.2.1 x_.2.2.2 53 4 (rvals (canR [(⟨a, b, c, d⟩ : Rect)])) true), oE b5 1 1 53 4 (rvals [(⟨a, b, c, d⟩ : Rect)]), .cells b4 [sL r3 0 0] 77 true, oE r3 0 0 58 1 (dvals RS.cells (List.replicate 0 RS.nil)), .cells b1 [iQ 0, .slice none 0 0] 29 true]) (fun x_ => True) (fun w hT => (regOf (some ⟨b5, 0, none⟩) b5 0 1 1 [(⟨a, b, c, d⟩ : Rect)] w (hT.viewRo (.cons (i := 0) rfl Vw.rowRd .nil) rfl) (by omega)).mono fun e w' ⟨A6, g7, k8, cp9, he_, ht_⟩ => ⟨(A6, g7, k8, cp9), he_, trivial, hT.news ht_ rfl⟩) ?_
  rintro ⟨A6, g7, k8, cp9⟩ hf10_
  refine cM ?_
  refine fR 0 k8 A6 g7 cp9 (canR [(⟨a, b, c, d⟩ : Rect)]) rfl fun hr11_a hr11_l hr11_c hr11_m => ?_
  refine bW [0, 0] 5 0 (fun b12 => [(2, pT b1), (6, pT b4), (7, pT b12)]) (fun b12 => [.cells b12 [.slice A6 k8 cp9] 58 true, .gen (rowE (A6) g7 k8 cp9 53 4 (rvals (canR [(⟨a, b, c, d⟩ : Rect)])) true), oE b5 1 1 53 4 (rvals [(⟨a, b, c, d⟩ : Rect)]), .cells b4 [sL r3 0 0] 77 true, oE r3 0 0 58 1 (dvals RS.cells (List.replicate 0 RS.nil)), .cells b1 [iQ 0, .slice none 0 0] 29 true]) [2, 6, 7] fun b12 => ?_
  refine zDNSSR 3 <| bD [0, 5] 2 1 [(18, .slice none 0 0)] [17] <| fG 5 <| pS 3 0 <| cG (d := 19) (α := Nat) (fun x_ => .func (.func 102) #[] #[pT x_]) (fun x_ => [.cells x_ [.slice none 0 0] 27 true, .cells b12 [.slice A6 k8 cp9] 58 true, .gen (rowE (A6) g7 k8 cp9 53 4 (rvals (canR [(⟨a, b, c, d⟩ : Rect)])) true), oE b5 1 1 53 4 (rvals [(⟨a, b, c, d⟩ : Rect)]), .cells b4 [sL r3 0 0] 77 true, oE r3 0 0 58 1 (dvals RS.cells (List.replicate 0 RS.nil))]) (fun x_ => True) (fun w hT => (backOf none 0 0 w).mono fun e w' ⟨kb13, he_, ht_⟩ => ⟨kb13, he_, trivial, hT.news ht_ rfl⟩) ?_
  rintro kb13 hf14_
  refine cM ?_
  refine zDNB <| cont_nilrow 103 14 ?_
  refine cM ?_
  refine cont_rowEqD (cel := IT.cells) (z := 14) 0 ([]) (([] : List IT)) rfl rfl ?_
  refine cont_weaken 1 (.ro kb13 [.slice none 0 0] 27) rfl rfl Vw.roc rfl ?_
  refine cM ?_
  refine cont_weaken 0 (rD (none) 0 0 0 14 (dvals IT.cells ([] : List IT))) rfl rfl Vw.rowRd rfl ?_
  refine cM ?_
  refine cont_pick [1, 0, 2, 3, 4, 5, 6] [.ro kb13 [.slice none 0 0] 27, rD (none) 0 0 0 14 (dvals IT.cells ([] : List IT)), .cells b12 [.slice A6 k8 cp9] 58 true, .gen (rowE (A6) g7 k8 cp9 53 4 (rvals (canR [(⟨a, b, c, d⟩ : Rect)])) true), oE b5 1 1 53 4 (rvals [(⟨a, b, c, d⟩ : Rect)]), .cells b4 [sL r3 0 0] 77 true, oE r3 0 0 58 1 (dvals RS.cells (List.replicate 0 RS.nil))] (by decide) rfl rfl ?_
  refine cont_rangeFunc (X := Nat) (β := Unit) (γ := Unit) (gf := 102) (lb := #[pT kb13]) (fun z_ : Nat => #[iQ (z_ : Int), .agg #[iQ 0, iQ 0, .pointer (some ⟨(dget ([] : List IT) z_).b, 0, none⟩), iQ ((dget ([] : List IT) z_).t.X), iQ ((dget ([] : List IT) z_).t.Y), iQ ((dget ([] : List IT) z_).t.s), iQ ((dget ([] : List IT) z_).t.al), iQ ((dget ([] : List IT) z_).t.ca), iQ ((dget ([] : List IT) z_).t.cb), iQ ((dget ([] : List IT) z_).t.cc), iQ ((dget ([] : List IT) z_).t.cd), .slice ((dget ([] : List IT) z_).t.A) ((dget ([] : List IT) z_).t.k) ((dget ([] : List IT) z_).t.cp), .string ⟨#[]⟩, iQ 0]]) [.ro kb13 [.slice none 0 0] 27, rD (none) 0 0 0 14 (dvals IT.cells ([] : List IT))] (fun z_ : Nat => []) (fun xs_ => BackP 0 xs_ ∧ xs_.length = 0) (fun xs_ => BackP 0 xs_) (fun (pre : List (Nat)) (x_ : Unit) => True) (fun x_ : Unit => [.cells b12 [.slice A6 k8 cp9] 58 true, .gen (rowE (A6) g7 k8 cp9 53 4 (rvals (canR [(⟨a, b, c, d⟩ : Rect)])) true), oE b5 1 1 53 4 (rvals [(⟨a, b, c, d⟩ : Rect)]), .cells b4 [sL r3 0 0] 77 true, oE r3 0 0 58 1 (dvals RS.cells (List.replicate 0 RS.nil))]) (fun (_ : Code) (_ : Unit) => False) (fun x_ : Unit => []) () rfl (fun _ _ => rfl) (fun _ => rfl) (by kernel_rfl) (backIter kb13 none 0 0 0 0 ([] : List IT) (by omega) (fun h_ => absurd h_ (by decide)) rfl _) trivial rfl ?_ ?_ ?_ ?_
  ·
    rintro l_ z16_ e16_ e16b_ e16q_ pre x ⟨⟩ B_ hz_ hinv17_ hsp_ hB_
    replace hinv17_ : True := hinv17_
    replace hsp_ : BackP 0 (pre ++ [(x)]) := hsp_
    exact absurd hsp_.last.2 (Nat.not_lt_zero _)
  ·
    rintro D19_ xs_ ⟨⟩ hS_ hinv18_
    replace hinv18_ : True := hinv18_
    replace hS_ : BackP 0 xs_ ∧ xs_.length = 0 := hS_
    refine cM ?_
    refine blk_normal <| zN <| cSq <| drawn_enter 4 [] rfl (by kernel_rfl) ?_
    refine tD 0 [] [(0, 6), (1, 3), (2, 0), (3, 0)] 0 [3, 2, 1, 0] [(4, sL r3 0 0), (5, .slice A6 k8 cp9)] [37, 38] ?_ (hpo := (pok_then pok_np))
    refine dD <| zN <| cont_ret <| mark_end 0 rfl (.inl rfl) ?_
    refine cM ?_
    refine rB rfl 0 0 (sL r3 0 0) (.slice A6 k8 cp9) fun w hT => ?_
    replace hT := hT.erase 6 (fun e h hw => by cases h; first | rfl | cases hw)
    replace hT := hT.erase 5 (fun e h hw => by cases h; first | rfl | cases hw)
    replace hT := hT.erase 3 (fun e h hw => by cases h; first | rfl | cases hw)
    replace hT := hT.erase 2 (fun e h hw => by cases h; first | rfl | cases hw)
    replace hT := hT.erase 1 (fun e h hw => by cases h; first | rfl | cases hw)
    replace hT := hT.erase 0 (fun e h hw => by cases h; first | rfl | cases hw)
    exact ⟨_, _, _, _, _, rfl, hT⟩
  ·
    intro D_  c_ h_; exact h_.elim
  ·
    intro D_ id_ c_ h_; exact h_.elim
theorem planJobsE (A : Option Addr) (g o n cap : Nat) (xs : List Rect) (a b c d : Int) (w : World) (hT0 : Tab w w [rD (A) g o n 4 (rvals xs)]) (hn : n ≤ 65536) :
    Calls Try.prog 32 #[.agg #[iQ 0, .slice none 0 0], .agg #[iQ a, iQ b, iQ c, iQ d], .slice A n cap] w fun e w' => ∃ (A_ : Option Addr) (g_ k_ cp_ : Nat), e = .returned (.slice A_ k_ cp_) ∧ Tab w w' [.gen (rowE (A_) g_ k_ cp_ 74 5 (dvals JS.cells ((regM andB (canR [(⟨a, b, c, d⟩ : Rect)]) xs).map (JS.of (-1)))) true)] := by
  obtain ⟨hra, hrl⟩ := Rd.factsR (hT0.ok 0 _ rfl)
  refine eN [(0, .agg #[iQ 0, .slice none 0 0]), (1, .agg #[iQ a, iQ b, iQ c, iQ d]), (2, .slice A n cap)] Try.func32 Try.ntmps32 rfl hT0 ?_
  refine zSR 3 <| batch2 [0, 0, 0] 3 0 (fun b1 b2 => [(2, .slice A n cap), (3, pT b1), (4, pT b2)]) (fun b1 b2 => [.cells b2 [iQ a, iQ b, iQ c, iQ d] 53 true, .cells b1 [iQ 0, .slice none 0 0] 29 true, rD (A) g o n 4 (rvals xs)]) rfl rfl [2, 3, 4] (fun _ _ => rfl) (fun b1 b2 => by kernel_rfl) (fun b1 b2 => by kernel_rfl) (fun b1 b2 => ?_)
  refine zDNSR 8 <| bD [1, 0] 2 6 [(13, .agg #[iQ 0, .slice none 0 0]), (14, .agg #[iQ a, iQ b, iQ c, iQ d])] [] <| fG 0 <| fG 0 <| pS 3 5 <| cG (d := 15) (α := Nat × Option Addr × Nat × Nat × Nat) (fun x_ => .tuple #[sL x_.1 0 0, .slice x_.2.1 x_.2.2.2.1 x_.2.2.2.2]) (fun x_ => [.gen (rowE (x_.2.1) x_.2.2.1 x_.2.2.2.1 x_.2.2.2.2 53 4 (rvals (canR [(⟨a, b, c, d⟩ : Rect)])) true), .gen (rowE (some ⟨x_.1, 0, none⟩) x_.1 0 0 58 1 (dvals RS.cells ([] : List RS)) true), rD (A) g o n 4 (rvals xs)]) (fun x_ => True) (fun w hT => (splitE a b c d w).mono fun e w' ⟨r3, A4, g5, k6, cp7, he_, ht_⟩ => ⟨(r3, A4, g5, k6, cp7), he_, trivial, hT.news ht_ rfl⟩) ?_
  rintro ⟨r3, A4, g5, k6, cp7⟩ hf8_
  refine cM ?_
  refine fR 0 k6 A4 g5 cp7 (canR [(⟨a, b, c, d⟩ : Rect)]) rfl fun hr9_a hr9_l hr9_c hr9_m => ?_
  have hcs_ : (canR [(⟨a, b, c, d⟩ : Rect)]).length ≤ 784 := canR_small (by simp)
  refine bD [0, 0, 0, 0, 0] 8 0 [(7, sL r3 0 0), (8, .slice A4 k6 cp7)] [12, 16, 17] <| zDNSR 5 <| bD [0, 0] 2 3 [(18, .slice A4 k6 cp7), (19, .slice A n cap)] [] <| pS 3 2 <| cG (d := 20) (α := Option Addr × Nat × Nat × Nat) (fun x_ => .slice x_.1 x_.2.2.1 x_.2.2.2) (fun x_ => [.gen (rowE (x_.1) x_.2.1 x_.2.2.1 x_.2.2.2 53 4 (rvals (regM andB (canR [(⟨a, b, c, d⟩ : Rect)]) xs)) true), .gen (rowE (A4) g5 k6 cp7 53 4 (rvals (canR [(⟨a, b, c, d⟩ : Rect)])) true), oE r3 0 0 58 1 (dvals RS.cells ([] : List RS)), rD (A) g o n 4 (rvals xs)]) (fun x_ => True) (fun w hT => (regCut A4 g5 0 k6 cp7 (canR [(⟨a, b, c, d⟩ : Rect)]) A g o n cap xs w (hT.viewRo (.cons (i := 0) rfl Vw.rowRd (.cons (i := 2) rfl Vw.rd .nil)) rfl) (by omega)).mono fun e w' ⟨A10, g11, k12, cp13, he_, ht_⟩ => ⟨(A10, g11, k12, cp13), he_, trivial, hT.news ht_ rfl⟩) ?_
  rintro ⟨A10, g11, k12, cp13⟩ hf14_
  refine cM ?_
  refine fR 0 k12 A10 g11 cp13 (regM andB (canR [(⟨a, b, c, d⟩ : Rect)]) xs) rfl fun hr15_a hr15_l hr15_c hr15_m => ?_
  have hrl9_ := regM_length (kf := andB) (a := (canR [(⟨a, b, c, d⟩ : Rect)])) (b := xs) (by omega)
  refine pS 4 1 <| cG (d := 21) (α := Option Addr × Nat × Nat) (fun x_ => .slice x_.1 k12 x_.2.2) (fun x_ => [.gen (rowE (x_.1) x_.2.1 k12 x_.2.2 74 5 (dvals JS.cells ((regM andB (canR [(⟨a, b, c, d⟩ : Rect)]) xs).map (JS.of (-1)))) true), .gen (rowE (A10) g11 k12 cp13 53 4 (rvals (regM andB (canR [(⟨a, b, c, d⟩ : Rect)]) xs)) true), .gen (rowE (A4) g5 k6 cp7 53 4 (rvals (canR [(⟨a, b, c, d⟩ : Rect)])) true), oE r3 0 0 58 1 (dvals RS.cells ([] : List RS)), rD (A) g o n 4 (rvals xs)]) (fun x_ => True) (fun w hT => (planjobs0 A10 g11 0 k12 cp13 (regM andB (canR [(⟨a, b, c, d⟩ : Rect)]) xs) (-1) w (hT.viewRo (.cons (i := 0) rfl Vw.rowRd .nil) rfl) (by omega)).mono fun e w' ⟨A16, g17, cp18, he_, ht_⟩ => ⟨(A16, g17, cp18), he_, trivial, hT.news ht_ rfl⟩) ?_
  rintro ⟨A16, g17, cp18⟩ hf19_
  refine cM ?_
  refine cont_fact (F := (0 < k12 → (A16 : Option Addr) = some ⟨g17, 0, none⟩) ∧ ((regM andB (canR [(⟨a, b, c, d⟩ : Rect)]) xs).map (JS.of (-1))).length = k12 ∧ k12 ≤ cp18 ∧ cp18 ≤ maxLen) (fun w hT => Row.factsD JS.size (by decide) (hT.ok 0 _ rfl)) (fun hr20_ => ?_)
  obtain ⟨hr20_a, hr20_l, hr20_c, hr20_m⟩ := hr20_
  unfold maxLen at hr20_m
  refine bD [0] 5 0 [(9, .slice A16 k12 cp18)] [] <| zDNSSR 3 <| bD [0, 0, 0] 3 0 [(22, sL r3 0 0), (23, iQ 0), (24, iQ 0)] [] <| zDNB <| cont_rounds 1 ?_
  refine cont_round 1 0 rfl ?_
  refine zSR 1 <| bD [0] 1 0 [(25, .bool false)] [] <| zDNS <| zFXxxeNSR 2 <| bS [0, 0] 2 0 [(6, .slice A16 k12 cp18)] <| zDNr <| rA rfl 0 (.slice A16 k12 cp18) fun w hT => ?_
  replace hT := hT.erase 4 (fun e h hw => by cases h; first | rfl | cases hw)
  replace hT := hT.erase 3 (fun e h hw => by cases h; first | rfl | cases hw)
  replace hT := hT.erase 2 (fun e h hw => by cases h; first | rfl | cases hw)
  replace hT := hT.erase 1 (fun e h hw => by cases h; first | rfl | cases hw)
  exact ⟨_, _, _, _, rfl, hT⟩
theorem lives17 (w : World) :
    Calls Try.prog 35 #[] w fun e w' => e = .returned (.bool true) ∧ Below w.heap.size w w' := by
  refine eN [] Try.func35 Try.ntmps35 rfl (Tab.start w) ?_
  refine zSR 1 <| bS [0] 1 0 [] <| zDNSR 3 <| bW [0, 0, 0] 3 0 (fun b1 => [(1, sL b1 1 1)]) (fun b1 => [.cells b1 [iQ 0, iQ 0, iQ 4, iQ 4] 53 true]) [1] fun b1 => ?_
  refine zDNSR 7 <| bD [0, 0, 0, 0, 0] 5 2 [(5, .agg #[iQ 0, .slice none 0 0]), (8, .agg #[iQ 0, iQ 0, iQ 4, iQ 4]), (9, sL b1 1 1)] [6, 7] <| pS 6 1 <| cont_asRow 0 1 4 rfl (vals := rvals [(⟨0, 0, 4, 4⟩ : Rect)]) rfl rfl (by decide) ?_
  refine cG (d := 10) (α := Option Addr × Nat × Nat × Nat) (fun x_ => .slice x_.1 x_.2.2.1 x_.2.2.2) (fun x_ => [.gen (rowE (x_.1) x_.2.1 x_.2.2.1 x_.2.2.2 74 5 (dvals JS.cells ((regM andB (canR [(⟨0, 0, 4, 4⟩ : Rect)]) [(⟨0, 0, 4, 4⟩ : Rect)]).map (JS.of (-1)))) true), oE b1 1 1 53 4 (rvals [(⟨0, 0, 4, 4⟩ : Rect)])]) (fun x_ => True) (fun w hT => (planJobsE (some ⟨b1, 0, none⟩) b1 0 1 1 [(⟨0, 0, 4, 4⟩ : Rect)] 0 0 4 4 w (hT.viewRo (.cons (i := 0) rfl Vw.rowRd .nil) rfl) (by omega)).mono fun e w' ⟨A2, g3, k4, cp5, he_, ht_⟩ => ⟨(A2, g3, k4, cp5), he_, trivial, hT.news ht_ rfl⟩) ?_
  rintro ⟨A2, g3, k4, cp5⟩ hf6_
  refine cM ?_
  refine cont_fact (F := (0 < k4 → (A2 : Option Addr) = some ⟨g3, 0, none⟩) ∧ ((regM andB (canR [(⟨0, 0, 4, 4⟩ : Rect)]) [(⟨0, 0, 4, 4⟩ : Rect)]).map (JS.of (-1))).length = k4 ∧ k4 ≤ cp5 ∧ cp5 ≤ maxLen) (fun w hT => Row.factsD JS.size (by decide) (hT.ok 0 _ rfl)) (fun hr7_ => ?_)
  obtain ⟨hr7_a, hr7_l, hr7_c, hr7_m⟩ := hr7_
  unfold maxLen at hr7_m
  refine bD [0] 7 0 [(2, .slice A2 k4 cp5)] [] <| zDNSSR 3 ?_
  have hLL : ((regM andB (canR [(⟨0, 0, 4, 4⟩ : Rect)]) [(⟨0, 0, 4, 4⟩ : Rect)]).map (JS.of (-1))) = [(⟨-1, 0, 0, 4, 4⟩ : JS)] := by rw [lives17_eq]; rfl
  obtain ⟨LJ, hLJ⟩ : ∃ y_ : List JS, y_ = [(⟨-1, 0, 0, 4, 4⟩ : JS)] := ⟨_, rfl⟩
  have hk9 : k4 = 1 := by rw [← hr7_l, hLL]; rfl
  have hlj : LJ.length = 1 := by rw [hLJ]; rfl
  refine cont_rowEqD (cel := JS.cells) (z := 5) 0 (((regM andB (canR [(⟨0, 0, 4, 4⟩ : Rect)]) [(⟨0, 0, 4, 4⟩ : Rect)]).map (JS.of (-1)))) (LJ) rfl (hLL.trans hLJ.symm) ?_
  refine bD [0, 0, 0] 3 0 [(13, .bool ((k4 : Int) != 1))] [11, 12] <| zDN <| rC 13 (.bool false) rfl (congrArg Value.bool (by rw [hk9]; decide)) <| cFa rfl <| cont_skip <| zN <| cSq <| drawn_enter 16 [] rfl (by kernel_rfl) ?_
  refine tD 0 [] [(0, 0)] 15 [0] [(14, .slice A2 k4 cp5)] [] <| rC 14 (sL g3 k4 cp5) rfl (by rw [hr7_a (by omega)]) <| sT 0 [] 1 14 15 (Instr.indexAt 71 (sL g3 k4 cp5) (iQ 0)) (.pointer (some ⟨g3, 0 * 5, none⟩)) (fun w hT => rI 74 5 w) <| tD 0 [] [(2, 0)] 13 [2, 1, 0] [(16, .pointer (some ⟨g3, 0 * 5, none⟩))] [] <| sT 0 [] 3 12 17 (Instr.loadAt 3 (.pointer (some ⟨g3, 0 * 5, none⟩))) (iQ ((dget LJ 0).i)) (fun w hT => rL (Rd.dcell1 JS.size (Row.rd (hT 0 _ rfl)) (i := 0) (by first | (show 0 < LJ.length; omega) | (show 0 < [(⟨0, 0, 4, 4⟩ : Rect)].length; decide)) 0 rfl)) <| tD 0 [] [(4, 0), (5, 0)] 10 [5, 4, 3, 2, 1, 0] [(19, .bool (((dget LJ 0).i) == (-1)))] [18] <| rC 19 (.bool true) rfl (congrArg Value.bool (by rw [hLJ]; decide)) <| tD 0 [] [(6, 0), (10, 0)] 8 [10, 6, 5, 4, 3, 2, 1, 0] [(20, .slice A2 k4 cp5), (24, sL b1 1 1)] [] <| rC 20 (sL g3 k4 cp5) rfl (by rw [hr7_a (by omega)]) <| sT 0 [] 7 7 21 (Instr.indexAt 71 (sL g3 k4 cp5) (iQ 0)) (.pointer (some ⟨g3, 0 * 5, none⟩)) (fun w hT => rI 74 5 w) <| tD 0 [] [(8, 0)] 6 [8, 7, 10, 6, 5, 4, 3, 2, 1, 0] [(22, .pointer (some ⟨g3, 0 * 5 + 1, none⟩))] [] <| sT 0 [] 9 5 23 (Instr.loadAt 53 (.pointer (some ⟨g3, 0 * 5 + 1, none⟩))) (.agg #[iQ ((dget LJ 0).a), iQ ((dget LJ 0).b), iQ ((dget LJ 0).c), iQ ((dget LJ 0).d)]) (fun w hT => rM 4 ([iQ ((dget LJ 0).a), iQ ((dget LJ 0).b), iQ ((dget LJ 0).c), iQ ((dget LJ 0).d)]) (Rd.dsub JS.size (Row.rd (hT 0 _ rfl)) (i := 0) (by first | (show 0 < LJ.length; omega) | (show 0 < [(⟨0, 0, 4, 4⟩ : Rect)].length; decide)) 1 4 rfl)) <| sT 0 [] 11 4 25 (Instr.indexAt 58 (sL b1 1 1) (iQ 0)) (.pointer (some ⟨b1, 0 * 4, none⟩)) (fun w hT => rI 53 4 w) <| sT 0 [] 12 3 26 (Instr.loadAt 53 (.pointer (some ⟨b1, 0 * 4, none⟩))) (.agg #[iQ ((rget [(⟨0, 0, 4, 4⟩ : Rect)] 0).x0), iQ ((rget [(⟨0, 0, 4, 4⟩ : Rect)] 0).y0), iQ ((rget [(⟨0, 0, 4, 4⟩ : Rect)] 0).x1), iQ ((rget [(⟨0, 0, 4, 4⟩ : Rect)] 0).y1)]) (fun w hT => rM 4 (rcells (rget [(⟨0, 0, 4, 4⟩ : Rect)] 0)) (Rd.rect0 (Row.rd (hT 1 _ rfl)) (by first | (show 0 < LJ.length; omega) | (show 0 < [(⟨0, 0, 4, 4⟩ : Rect)].length; decide)))) <| sT 0 [] 13 2 27 (bopS .eql 53 (.tmp 23) (.tmp 26) (.agg #[iQ ((dget LJ 0).a), iQ ((dget LJ 0).b), iQ ((dget LJ 0).c), iQ ((dget LJ 0).d)]) (.agg #[iQ ((rget [(⟨0, 0, 4, 4⟩ : Rect)] 0).x0), iQ ((rget [(⟨0, 0, 4, 4⟩ : Rect)] 0).y0), iQ ((rget [(⟨0, 0, 4, 4⟩ : Rect)] 0).x1), iQ ((rget [(⟨0, 0, 4, 4⟩ : Rect)] 0).y1)])) (.bool (eqInts [(dget LJ 0).a, (dget LJ 0).b, (dget LJ 0).c, (dget LJ 0).d] [(rget [(⟨0, 0, 4, 4⟩ : Rect)] 0).x0, (rget [(⟨0, 0, 4, 4⟩ : Rect)] 0).y0, (rget [(⟨0, 0, 4, 4⟩ : Rect)] 0).x1, (rget [(⟨0, 0, 4, 4⟩ : Rect)] 0).y1])) (fun w hT => run_eqS [(dget LJ 0).a, (dget LJ 0).b, (dget LJ 0).c, (dget LJ 0).d] [(rget [(⟨0, 0, 4, 4⟩ : Rect)] 0).x0, (rget [(⟨0, 0, 4, 4⟩ : Rect)] 0).y0, (rget [(⟨0, 0, 4, 4⟩ : Rect)] 0).x1, (rget [(⟨0, 0, 4, 4⟩ : Rect)] 0).y1] (by kernel_rfl) (by kernel_rfl) (by kernel_rfl) (by kernel_rfl) rfl rfl w) <| tD 0 [] [(14, 0), (15, 0)] 0 [15, 14, 13, 12, 11, 9, 8, 7, 10, 6, 5, 4, 3, 2, 1, 0] [(0, .bool (eqInts [(dget LJ 0).a, (dget LJ 0).b, (dget LJ 0).c, (dget LJ 0).d] [(rget [(⟨0, 0, 4, 4⟩ : Rect)] 0).x0, (rget [(⟨0, 0, 4, 4⟩ : Rect)] 0).y0, (rget [(⟨0, 0, 4, 4⟩ : Rect)] 0).x1, (rget [(⟨0, 0, 4, 4⟩ : Rect)] 0).y1]))] [28] <| dD <| zN <| cont_ret ?_
  refine rA rfl 0 (.bool (eqInts [(dget LJ 0).a, (dget LJ 0).b, (dget LJ 0).c, (dget LJ 0).d] [(rget [(⟨0, 0, 4, 4⟩ : Rect)] 0).x0, (rget [(⟨0, 0, 4, 4⟩ : Rect)] 0).y0, (rget [(⟨0, 0, 4, 4⟩ : Rect)] 0).x1, (rget [(⟨0, 0, 4, 4⟩ : Rect)] 0).y1])) fun w hT => ?_
  exact ⟨ret_bool (by rw [hLJ]; decide +kernel), hT.post rfl⟩
end Go.Proofs.Ytlfahohbkgdabaa
namespace Go.Proofs.Ytlfahohbkgdabaa
open Go Go.RowKit
theorem bands_inG {lo hi : Int} {bs : Bands} (h : BandsOk bs) (hb : ∀ x y, memB bs x y = true → lo ≤ x ∧ x < hi ∧ lo ≤ y ∧ y < hi) : ∀ b ∈ bs, (lo ≤ b.1 ∧ b.2.1 ≤ hi) ∧ ∀ s ∈ b.2.2, lo ≤ s.1 ∧ s.2.1 ≤ hi := by
  intro b hm
  obtain ⟨h1, h2⟩ := h.each b hm
  have hlt := h.runs.lt b hm
  have pt : ∀ s ∈ b.2.2, ∀ x y, b.1 ≤ y → y < b.2.1 → s.1 ≤ x → x < s.2.1 → lo ≤ x ∧ x < hi ∧ lo ≤ y ∧ y < hi := by
    intro s hs x y y0 y1 x0 x1
    refine hb x y ?_
    unfold memB
    rw [look_at h.runs b hm y y0 y1]
    simp only
    rw [look_at h1 s hs x x0 x1]; rfl
  have hspan : ∀ s ∈ b.2.2, lo ≤ s.1 ∧ s.2.1 ≤ hi := by
    intro s hs
    have hs1 := h1.lt s hs
    have a1 := pt s hs s.1 b.1 (by omega) hlt (by omega) hs1
    have a2 := pt s hs (s.2.1 - 1) b.1 (by omega) hlt (by omega) (by omega)
    omega
  refine ⟨?_, hspan⟩
  cases e : b.2.2 with
  | nil => exact absurd e h2
  | cons s t =>
    have hs : s ∈ b.2.2 := by rw [e]; simp
    have hs1 := h1.lt s hs
    have a1 := pt s hs s.1 b.1 (by omega) hlt (by omega) hs1
    have a2 := pt s hs s.1 (b.2.1 - 1) (by omega) (by omega) (by omega) hs1
    omega
theorem square_len {l : List Rect} {F : Int → Int → Bool} (h : IsReg l F) (hb : ∀ x y, hasL l x y = true → -8 ≤ x ∧ x < 72 ∧ -8 ≤ y ∧ y < 72) : l.length ≤ 6400 := by
  obtain ⟨bs, h1, rfl, h2⟩ := h
  have hin := bands_inG h1 (fun x y hm => hb x y (by rw [hasL_flat h1.runs]; exact hm))
  have e1 := runs_length (lo := -8) (hi := 72) h1.runs (fun r hr => (hin r hr).1) (by omega)
  have e2 : ∀ b ∈ bs, b.2.2.length ≤ 80 := fun b hm => by
    have := runs_length (lo := -8) (hi := 72) (h1.each b hm).1 (fun r hr => (hin b hm).2 r hr) (by omega)
    omega
  have e3 := flatR_length e2
  have e4 : bs.length * 80 ≤ 80 * 80 := Nat.mul_le_mul_right _ (by omega)
  omega
def hidP (W H X Y s al : Int) (op : List Rect) (r : Rect) : List Rect := if al = 255 then placeP W H X Y s op r else []
theorem hidP_yes {W H X Y s al : Int} {op : List Rect} {r : Rect} (h : al = 255) : hidP W H X Y s al op r = placeP W H X Y s op r := if_pos h
theorem hidP_no {W H X Y s al : Int} {op : List Rect} {r : Rect} (h : al ≠ 255) : hidP W H X Y s al op r = [] := if_neg h
def TS.hid (t : TS) : List Rect := hidP t.W t.H t.X t.Y t.s t.al t.op ⟨t.ca, t.cb, t.cc, t.cd⟩
def TS.bx (t : TS) : Rect := shwR t.W t.H t.X t.Y t.s t.ca t.cb t.cc t.cd
theorem div_in {W X s p : Int} (hs : 1 ≤ s ∧ s ≤ 3) (hX : -6 ≤ X ∧ X ≤ 17) (hW : W ≤ 16) (h : 0 ≤ (p - X) / s ∧ (p - X) / s < W) : -8 ≤ p ∧ p < 72 := by
  have : s = 1 ∨ s = 2 ∨ s = 3 := by omega
  rcases this with rfl | rfl | rfl <;> omega
theorem hid_len {t : TS} (h : TS.Ok t) : t.hid.length ≤ 6400 := by
  unfold TS.hid
  by_cases ha : t.al = 255
  · rw [hidP_yes ha]
    refine square_len (F := _) (canR_isReg _) (fun x y hh => ?_)
    have hw := h.img.w1; have hw2 := h.w16; have hh1 := h.img.h1; have hh2 := h.h16; have hx := h.x_; have hy := h.y_; have hs := h.s_
    have h9 : hasL (placeP t.W t.H t.X t.Y t.s t.op ⟨t.ca, t.cb, t.cc, t.cd⟩) x y = true := hh
    rw [hasL_place (by omega) (by omega) (by omega) (by omega) (by omega)] at h9
    have h2 := hasB_true.1 (Bool.and_eq_true_iff.1 h9).1
    have e1 := div_in (W := t.W) (X := t.X) (p := x) hs hx hw2 (by omega)
    have e2 := div_in (W := t.H) (X := t.Y) (p := y) hs hy hh2 (by omega)
    omega
  · rw [hidP_no ha]; simp
theorem op_len {t : TS} (h : TS.Ok t) : t.op.length ≤ 200000 ∧ (canR t.op).length ≤ 200000 ∧ (regM andB (canR t.op) (canR [(⟨t.ca, t.cb, t.cc, t.cd⟩ : Rect)])).length ≤ 200000 := by
  obtain ⟨l, ho, hl, hs⟩ := h.opq
  have hw := h.img.w1; have hh := h.img.h1; have hw2 := h.w16; have hh2 := h.h16; have hn := h.img.num; have hpl := h.img.len; have hnle := h.img.le
  have on0 : OnImg t.W t.H l := fun x y hx => by
    obtain ⟨r, hr, h1⟩ := hasL_true.1 hx
    obtain ⟨i, hi, rfl, _⟩ := hs r hr
    simp only at h1
    have h3 := hasB_true.1 (in_box hw hn (i := i) (by omega))
    omega
  have on1 : OnImg t.W t.H t.op := by rw [ho]; exact onImg_can on0
  have l1 : t.op.length ≤ t.n := by rw [ho]; exact reg_len_img (canR_isReg _) (onImg_can on0) hw hn
  have l2 := reg_len_img (canR_isReg t.op) (onImg_can on1) hw hn
  have l3 := reg_len_img (R := regM andB (canR t.op) (canR [(⟨t.ca, t.cb, t.cc, t.cd⟩ : Rect)])) (regM_isReg rfl _ _) (onImg_andl _ (onImg_can on1)) hw hn
  omega
def leftL (b : Rect) (l : List TS) : List Rect := l.foldr (fun t o => regM lessB o t.hid) (canR [b])
def seenL (b : Rect) (ts : List TS) (i : Nat) : List Rect := regM andB (leftL b (ts.drop (i + 1))) (canR [(dget ts i).bx])
theorem leftL_step {b : Rect} {ts : List TS} {i : Nat} (h : i < ts.length) : leftL b (ts.drop i) = regM lessB (leftL b (ts.drop (i + 1))) (dget ts i).hid := by
  rw [List.drop_eq_getElem_cons h]
  have : dget ts i = ts[i] := by unfold dget; rw [List.getD_eq_getElem?_getD, List.getElem?_eq_getElem h]; rfl
  rw [this]; rfl
theorem leftL_reg (b : Rect) (l : List TS) : IsReg (leftL b l) (hasL (leftL b l)) := by
  cases l with
  | nil => exact (canR_isReg [b]).self
  | cons t l => exact (regM_isReg (kf := lessB) rfl (leftL b l) t.hid).self
theorem leftL_has (b : Rect) (x y : Int) : ∀ l : List TS, hasL (leftL b l) x y = (hasB b.x0 b.y0 b.x1 b.y1 x y && !(l.any fun t => hasL t.hid x y)) := by
  intro l
  induction l with
  | nil => show hasL (canR [b]) x y = _; rw [hasL_can, hasL_one]; simp
  | cons t l ih => show hasL (regM lessB (leftL b l) t.hid) x y = _; rw [hasL_less, ih, List.any_cons]; cases hasL t.hid x y <;> cases hasB b.x0 b.y0 b.x1 b.y1 x y <;> simp
theorem leftL_on {W H : Int} (l : List TS) : OnImg W H (leftL ⟨0, 0, W, H⟩ l) := fun x y h => by
  rw [leftL_has] at h
  have := hasB_true.1 (Bool.and_eq_true_iff.1 h).1
  simp only at this
  omega
theorem leftL_len {W H : Int} (hW : 1 ≤ W ∧ W ≤ 256) (hH : 1 ≤ H ∧ H ≤ 256) (l : List TS) : (leftL ⟨0, 0, W, H⟩ l).length ≤ 65536 := by
  have h1 : W * H ≤ 256 * 256 := mul_le_of (by omega) (by omega) (by omega) (by omega)
  have h0 : 0 ≤ W * H := Int.mul_nonneg (by omega) (by omega)
  have := reg_len_img (n := (W * H).toNat) (leftL_reg ⟨0, 0, W, H⟩ l) (leftL_on l) hW.1 (by omega)
  omega
theorem seenL_len {W H : Int} (hW : 1 ≤ W ∧ W ≤ 256) (hH : 1 ≤ H ∧ H ≤ 256) (ts : List TS) (i : Nat) : (seenL ⟨0, 0, W, H⟩ ts i).length ≤ 65536 := by
  have h1 : W * H ≤ 256 * 256 := mul_le_of (by omega) (by omega) (by omega) (by omega)
  have h0 : 0 ≤ W * H := Int.mul_nonneg (by omega) (by omega)
  have := reg_len_img (R := seenL ⟨0, 0, W, H⟩ ts i) (n := (W * H).toNat) (regM_isReg rfl _ _) (onImg_andl _ (leftL_on _)) hW.1 (by omega)
  omega
def RS.rwG (t : RS) : GenEnt := rdE t.A t.g 0 t.n 4 (rvals t.xs)
def RS.rws (l : List RS) (i : Nat) : GenEnt := (dget l i).rwG
theorem RS.rws_app {l : List RS} {t : RS} {m : Nat} (h : l.length = m) : (∀ k, k < m → RS.rws (l ++ [t]) k = RS.rws l k) ∧ RS.rws (l ++ [t]) m = t.rwG :=
  ⟨fun k hk => by unfold RS.rws; rw [dget_app (by omega)], by unfold RS.rws; rw [dget_end h]⟩
def SeenOk (b : Rect) (ts : List TS) (n : Nat) (rs : List RS) : Prop := ∀ j, j < rs.length → (dget rs j).xs = seenL b ts (n - 1 - j)
theorem SeenOk.nil (b : Rect) (ts : List TS) (n : Nat) : SeenOk b ts n [] := fun j h => absurd h (Nat.not_lt_zero _)
theorem SeenOk.step {b : Rect} {ts : List TS} {n x : Nat} {rs : List RS} {r : RS} (h : SeenOk b ts n rs) (hx : x + 1 + rs.length = n) (hr : r.xs = seenL b ts x) : SeenOk b ts n (rs ++ [r]) := fun j hj => by
  rw [List.length_append, List.length_singleton] at hj
  by_cases hl : j < rs.length
  · rw [dget_app hl]; exact h j hl
  · have : j = rs.length := by omega
    subst this
    rw [dget_end rfl, hr, show n - 1 - rs.length = x by omega]
def seenR (n : Nat) (rs : List RS) : List RS := List.replicate (n - rs.length) RS.nil ++ rs.reverse
theorem seenR_nil (n : Nat) : seenR n [] = List.replicate n RS.nil := by simp [seenR]
theorem seenR_len {n : Nat} {rs : List RS} (h : rs.length ≤ n) : (seenR n rs).length = n := by simp [seenR]; omega
theorem seenR_all {n : Nat} {rs : List RS} (h : rs.length = n) : seenR n rs = rs.reverse := by simp [seenR, h]
theorem seenR_set {n x : Nat} {rs : List RS} {r : RS} (hx : x + 1 + rs.length = n) : (seenR n rs).set x r = seenR n (rs ++ [r]) := by
  unfold seenR
  rw [List.length_append, List.length_singleton, show n - rs.length = x + 1 by omega, show n - (rs.length + 1) = x by omega, List.reverse_append, List.replicate_succ', List.append_assoc, List.set_append_right _ _ (by simp)]
  simp
theorem dget_rev {rs : List RS} {i : Nat} (h : i < rs.length) : dget rs.reverse i = dget rs (rs.length - 1 - i) := by
  unfold dget
  rw [List.getD_eq_getElem?_getD, List.getD_eq_getElem?_getD, List.getElem?_reverse h]
theorem store_rowS {P : Program} {w0 w : World} {T : List Ent} (hT : Tab w0 w T) {t e : TypeId} {A : Option Addr} {i g n cap J : Nat} {xs : List RS} {own : Bool} (v : RS) (hi : T[i]? = some (.gen (rowE A g n cap e 1 (dvals RS.cells xs) own))) (hsz : (P.info? t).map (·.size) = some 1) (hJ : J < xs.length) :
    ∃ (x : Unit) (w' : World), (Instr.storeAt t (.pointer (some ⟨g, J, none⟩)) (.slice v.A v.n v.cap)).run P w = .ok () w' ∧ True ∧ Tab w0 w' (T.set i (.gen (rowE A g n cap e 1 (dvals RS.cells (xs.set J v)) own))) := by
  have hrow : Row w A g n cap e 1 (dvals RS.cells xs) := hT.ok i _ hi
  have hd : ∀ l : List RS, dvals RS.cells l = l.map (fun v => .slice v.A v.n v.cap) := fun l => by
    induction l with
    | nil => rfl
    | cons a l ih => rw [dvals, ih]; rfl
  have hlen : xs.length = n := by have := hrow.own.1; rw [hd, List.length_map] at this; omega
  have hn : 0 < n := by omega
  refine ⟨(), _, run_store1 hsz rfl (hrow.cell J (.slice xs[J].A xs[J].n xs[J].cap) (by rw [hd, List.getElem?_map, List.getElem?_eq_getElem hJ]; rfl)) (hrow.free hn J), trivial, ?_⟩
  have := hT.rowSet hi hn J (.slice v.A v.n v.cap)
  rw [hd, ← List.map_set (f := fun v : RS => Value.slice v.A v.n v.cap), ← hd] at this
  exact this
def BackI (its : List IT) (n : Nat) (p : List (Nat × IT)) : Prop := p = (List.range p.length).map (fun k => (n - 1 - k, dget its (n - 1 - k))) ∧ p.length ≤ n
theorem BackI.nil (its : List IT) (n : Nat) : BackI its n [] := ⟨rfl, Nat.zero_le _⟩
theorem BackI.step {its : List IT} {n : Nat} {p : List (Nat × IT)} (hp : BackI its n p) {x : Nat} (hx : (x : Int) = (n : Int) - 1 - ((p.length : Nat) : Int)) : BackI its n (p ++ [(x, dget its x)]) := by
  refine ⟨?_, by rw [List.length_append, List.length_singleton]; omega⟩
  rw [List.length_append, List.length_singleton, List.range_succ, List.map_append, ← hp.1]
  have : x = n - 1 - p.length := by omega
  rw [this]; rfl
theorem BackI.last {its : List IT} {n : Nat} {p : List (Nat × IT)} {x : Nat} {it : IT} (hp : BackI its n (p ++ [(x, it)])) : x + 1 + p.length = n ∧ it = dget its x := by
  obtain ⟨h1, h2⟩ := hp
  rw [List.length_append, List.length_singleton] at h1 h2
  rw [List.range_succ, List.map_append] at h1
  have := List.append_inj_right h1 (by simp)
  simp only [List.map_cons, List.map_nil, List.cons.injEq, Prod.mk.injEq, and_true] at this
  obtain ⟨e1, e2⟩ := this
  subst e1
  exact ⟨by omega, e2⟩
theorem Rd.dcell1z {α : Type} [Inhabited α] {w : World} {A : Option Addr} {g n : Nat} {cel : α → List Value} {l : List α} (hz : ∀ a, (cel a).length = 1) (h : Rd w A g 0 n 1 (dvals cel l)) {i : Nat} (hi : i < l.length) {v : Value} (hv : (cel (dget l i))[0]? = some v) : w.cell? ⟨g, i, none⟩ = some v := by
  have h2 := Rd.dcell1 hz h hi 0 hv
  rw [show 0 + i * 1 + 0 = i by omega] at h2
  exact h2
end Go.Proofs.Ytlfahohbkgdabaa
namespace Go.Proofs.Ytlfahohbkgdabaa
open Go Go.RowKit
set_option maxRecDepth 100000
set_option maxHeartbeats 8000000
theorem surfBox (m : Nat) (W H : Int) (r n cap : Nat) (px : List Int) (X Y s al ca cb cc cd : Int) (A : Option Addr) (k cp : Nat) (w : World) (hT0 : Tab w w [.ro m [iQ W, iQ H, sL r n cap] 118, rD (some ⟨r, 0, none⟩) r 0 n 1 (cV px)]) (hcap : n ≤ cap) (hok : ImgOk W H n px) (hs : 1 ≤ s ∧ s ≤ 8) (hX : -1000000 ≤ X ∧ X ≤ 1000000) (hY : -1000000 ≤ Y ∧ Y ≤ 1000000) :
    Calls Try.prog 83 #[.agg #[pT m, iQ X, iQ Y, iQ s, iQ al, iQ ca, iQ cb, iQ cc, iQ cd, .slice A k cp, .string ⟨#[]⟩]] w fun e w' => e = .returned (.agg #[iQ ((shwR W H X Y s ca cb cc cd).x0), iQ ((shwR W H X Y s ca cb cc cd).y0), iQ ((shwR W H X Y s ca cb cc cd).x1), iQ ((shwR W H X Y s ca cb cc cd).y1)]) ∧ Below w.heap.size w w' := by
  have hw1 := hok.w1
  have hw2 := hok.w2
  have hh1 := hok.h1
  have hh2 := hok.h2
  have hnum := hok.num
  have hlen := hok.len
  have hle := hok.le
  refine eN [(0, .agg #[pT m, iQ X, iQ Y, iQ s, iQ al, iQ ca, iQ cb, iQ cc, iQ cd, .slice A k cp, .string ⟨#[]⟩])] Try.func83 Try.ntmps83 rfl hT0 ?_
  refine zSR 2 <| batch2 [0, 0] 2 0 (fun b1 b2 => [(1, pT b1), (2, pT b2)]) (fun b1 b2 => [.cells b2 [iQ 0, iQ 0, iQ 0, iQ 0] 53 true, .cells b1 [pT m, iQ X, iQ Y, iQ s, iQ al, iQ ca, iQ cb, iQ cc, iQ cd, .slice A k cp, .string ⟨#[]⟩] 99 true, .ro m [iQ W, iQ H, sL r n cap] 118, rD (some ⟨r, 0, none⟩) r 0 n 1 (cV px)]) rfl rfl [1, 2] (fun _ _ => rfl) (fun b1 b2 => by kernel_rfl) (fun b1 b2 => by kernel_rfl) (fun b1 b2 => ?_)
  refine zDNSSR 3 <| bD [0, 1, 0] 3 0 [(5, .bool false)] [3, 4] <| zDNFKNSR 4 <| bD [1] 1 3 [(7, .agg #[pT m, iQ X, iQ Y, iQ s, iQ al, iQ ca, iQ cb, iQ cc, iQ cd, .slice A k cp, .string ⟨#[]⟩])] [] <| fG 1 <| pS 2 2 <| cP 8 (.agg #[pT m, iQ X, iQ Y, iQ s, iQ al, iQ ca, iQ cb, iQ cc, iQ cd]) (fun w hT => surfLayer m X Y s al ca cb cc cd A k cp w) <| pS 3 1 <| cP 9 (.agg #[iQ ((shwR W H X Y s ca cb cc cd).x0), iQ ((shwR W H X Y s ca cb cc cd).y0), iQ ((shwR W H X Y s ca cb cc cd).x1), iQ ((shwR W H X Y s ca cb cc cd).y1)]) (fun w hT => layBox m W H r n cap px X Y s al ca cb cc cd w ⟨hT.ok 1 _ rfl, hT.ok 2 _ rfl, by omega⟩ hok) <| bZ [0] 4 0 [(2, pT b2)] [.cells b2 [iQ ((shwR W H X Y s ca cb cc cd).x0), iQ ((shwR W H X Y s ca cb cc cd).y0), iQ ((shwR W H X Y s ca cb cc cd).x1), iQ ((shwR W H X Y s ca cb cc cd).y1)] 53 true, .ro m [iQ W, iQ H, sL r n cap] 118, rD (some ⟨r, 0, none⟩) r 0 n 1 (cV px)] <| zDNr <| rA rfl 0 (.agg #[iQ ((shwR W H X Y s ca cb cc cd).x0), iQ ((shwR W H X Y s ca cb cc cd).y0), iQ ((shwR W H X Y s ca cb cc cd).x1), iQ ((shwR W H X Y s ca cb cc cd).y1)]) fun w hT => ?_
  exact ⟨rfl, hT.post rfl⟩
theorem surfHides (m : Nat) (W H : Int) (r n cap : Nat) (px : List Int) (X Y s al ca cb cc cd : Int) (Az : Option Addr) (gz oz nz capz : Nat) (xsz : List Rect) (w : World) (hT0 : Tab w w [.ro m [iQ W, iQ H, sL r n cap] 118, rD (some ⟨r, 0, none⟩) r 0 n 1 (cV px), rD (Az) gz oz nz 4 (rvals xsz)]) (hcap : n ≤ cap) (hok : ImgOk W H n px) (hs : 1 ≤ s ∧ s ≤ 8) (hX : -1000000 ≤ X ∧ X ≤ 1000000) (hY : -1000000 ≤ Y ∧ Y ≤ 1000000) (hop : xsz.length ≤ 200000 ∧ (canR xsz).length ≤ 200000 ∧ (regM andB (canR xsz) (canR [(⟨ca, cb, cc, cd⟩ : Rect)])).length ≤ 200000) :
    Calls Try.prog 85 #[.agg #[pT m, iQ X, iQ Y, iQ s, iQ al, iQ ca, iQ cb, iQ cc, iQ cd, .slice Az nz capz, .string ⟨#[]⟩]] w fun e w' => ∃ (A_ : Option Addr) (g_ k_ cp_ : Nat), e = .returned (.slice A_ k_ cp_) ∧ Tab w w' [.gen (rowE (A_) g_ k_ cp_ 53 4 (rvals (hidP W H X Y s al xsz ⟨ca, cb, cc, cd⟩)) true)] := by
  have hw1 := hok.w1
  have hw2 := hok.w2
  have hh1 := hok.h1
  have hh2 := hok.h2
  have hnum := hok.num
  have hlen := hok.len
  have hle := hok.le
  obtain ⟨hraz, hrlz⟩ := Rd.factsR (hT0.ok 2 _ rfl)
  obtain ⟨hop1, hop2, hop3⟩ := hop
  refine eN [(0, .agg #[pT m, iQ X, iQ Y, iQ s, iQ al, iQ ca, iQ cb, iQ cc, iQ cd, .slice Az nz capz, .string ⟨#[]⟩])] Try.func85 Try.ntmps85 rfl hT0 ?_
  refine zSR 2 <| bW [0, 0] 2 0 (fun b1 => [(1, pT b1)]) (fun b1 => [.cells b1 [pT m, iQ X, iQ Y, iQ s, iQ al, iQ ca, iQ cb, iQ cc, iQ cd, .slice Az nz capz, .string ⟨#[]⟩] 99 true, .ro m [iQ W, iQ H, sL r n cap] 118, rD (some ⟨r, 0, none⟩) r 0 n 1 (cV px), rD (Az) gz oz nz 4 (rvals xsz)]) [1] fun b1 => ?_
  refine zDNSSR 8 <| bD [0, 0, 0, 0, 0, 0, 0, 0] 8 0 [(10, .bool (al != 255))] [3, 4, 5, 6, 7, 8, 9] <| zDN <| sN 10 rfl (fun c2_ => ?_) fun c2_ => ?_
  ·
    refine zTSR 1 <| bS [0] 1 0 [(2, .slice none 0 0)] <| fG 0 <| zDNrt <| rA rfl 0 (.slice none 0 0) fun w hT => ?_
    replace hT := hT.erase 2 (fun e h hw => by cases h; first | rfl | cases hw)
    replace hT := hT.erase 1 (fun e h hw => by cases h; first | rfl | cases hw)
    replace hT := hT.erase 0 (fun e h hw => by cases h; first | rfl | cases hw)
    have hT9 := hT.nilR 53 4
    rw [hidP_no (by omega)]
    exact ⟨none, 0, 0, 0, rfl, hT9⟩
  refine cFa rfl <| cont_skip <| zN <| cSq <| drawn_enter 6 [] rfl (by kernel_rfl) ?_
  refine tD 0 [] [(0, 0), (2, 0), (3, 0)] 3 [3, 2, 0] [(11, .agg #[pT m, iQ X, iQ Y, iQ s, iQ al, iQ ca, iQ cb, iQ cc, iQ cd, .slice Az nz capz, .string ⟨#[]⟩]), (14, .slice Az nz capz)] [13] <| dO 1 2 <| cP 12 (.agg #[pT m, iQ X, iQ Y, iQ s, iQ al, iQ ca, iQ cb, iQ cc, iQ cd]) (fun w hT => surfLayer m X Y s al ca cb cc cd Az nz capz w) <| dX 0 [] <| dO 4 1 <| cG (d := 15) (α := Option Addr × Nat × Nat × Nat) (fun x_ => .slice x_.1 x_.2.2.1 x_.2.2.2) (fun x_ => [.gen (rowE (x_.1) x_.2.1 x_.2.2.1 x_.2.2.2 53 4 (rvals (placeP W H X Y s xsz ⟨ca, cb, cc, cd⟩)) true), .cells b1 [pT m, iQ X, iQ Y, iQ s, iQ al, iQ ca, iQ cb, iQ cc, iQ cd, .slice Az nz capz, .string ⟨#[]⟩] 99 true, .ro m [iQ W, iQ H, sL r n cap] 118, rD (some ⟨r, 0, none⟩) r 0 n 1 (cV px), rD (Az) gz oz nz 4 (rvals xsz)]) (fun x_ => True) (fun w hT => (payPlace m W H r n cap px X Y s al ca cb cc cd Az gz oz nz capz xsz w (hT.viewRo (.cons (i := 1) rfl Vw.ro (.cons (i := 2) rfl Vw.rd (.cons (i := 3) rfl Vw.rd .nil))) rfl) _ rfl (by omega) hok (by omega) (by omega) (by omega) (by omega) hop2 hop3).mono fun e w' ⟨A3, g4, k5, cp6, he_, ht_⟩ => ⟨(A3, g4, k5, cp6), he_, trivial, hT.news ht_ rfl⟩) ?_
  rintro ⟨A3, g4, k5, cp6⟩ hf7_
  refine cM ?_
  refine fR 0 k5 A3 g4 cp6 (placeP W H X Y s xsz ⟨ca, cb, cc, cd⟩) rfl fun hr8_a hr8_l hr8_c hr8_m => ?_
  refine dX 1 [] <| tD 1 [] [(5, 0)] 0 [5, 4, 1, 3, 2, 0] [(2, .slice A3 k5 cp6)] [] <| dD <| zN <| cont_ret ?_
  refine rA rfl 0 (.slice A3 k5 cp6) fun w hT => ?_
  replace hT := hT.erase 4 (fun e h hw => by cases h; first | rfl | cases hw)
  replace hT := hT.erase 3 (fun e h hw => by cases h; first | rfl | cases hw)
  replace hT := hT.erase 2 (fun e h hw => by cases h; first | rfl | cases hw)
  replace hT := hT.erase 1 (fun e h hw => by cases h; first | rfl | cases hw)
  rw [hidP_yes (by omega)]
  exact ⟨_, _, _, _, rfl, hT⟩
theorem backItem0 (kb : Nat) (A : Option Addr) (g o n cap : Nat) (its : List IT) (hn : n ≤ 100) (hra : 0 < n → A = some ⟨g, o, none⟩) (hrl : its.length = n) (w0 : World) {β : Type} (Inv : List (Nat × IT) → β → Prop) (Tr : β → List Ent) (Jx : World → Prop) (l_ : Nat) (e1 e2 : Ent) (w : World) (b0 : β) (hJx : ∀ w w', Jx w → Below w.heap.size w w' → Jx w') (hY : ∀ (pre : List (Nat × IT)) (x : Nat × IT) (b : β) W1 z, (z.wr = true → z.own = true) → Inv pre b → BackI its n (pre ++ [x]) → Tab w0 W1 (z :: e1 :: e2 :: (.ro kb [.slice A n cap] 27) :: (rD (A) g o n 14 (dvals IT.cells its)) :: (Tr b)) → YieldAt Fence.wide 0 Try.prog l_ #[iQ (x.1 : Int), .agg #[iQ 0, iQ 0, pT x.2.b, iQ x.2.t.X, iQ x.2.t.Y, iQ x.2.t.s, iQ x.2.t.al, iQ x.2.t.ca, iQ x.2.t.cb, iQ x.2.t.cc, iQ x.2.t.cd, .slice x.2.t.A x.2.t.k x.2.t.cp, .string ⟨#[]⟩, iQ 0]] W1 fun e W' => (e = .returned (.bool true) ∧ ∃ b', Inv (pre ++ [x]) b' ∧ Tab w0 W' (z :: e1 :: e2 :: (.ro kb [.slice A n cap] 27) :: (rD (A) g o n 14 (dvals IT.cells its)) :: (Tr b'))) ∨ (e = .returned (.bool false) ∧ Jx W')) (h0 : Inv [] b0) (hT0 : Tab w0 w (e1 :: e2 :: (.ro kb [.slice A n cap] 27) :: (rD (A) g o n 14 (dvals IT.cells its)) :: (Tr b0))) :
    Calls Try.prog 102 #[.func (.yield l_) #[] #[], pT kb] w fun e W' => (∃ v, e = .returned v) ∧ ((∃ xs_ b', (BackI its n xs_ ∧ xs_.length = n) ∧ Inv xs_ b' ∧ Tab w0 W' (e1 :: e2 :: (.ro kb [.slice A n cap] 27) :: (rD (A) g o n 14 (dvals IT.cells its)) :: (Tr b'))) ∨ Jx W') := by
  refine enterI 19 [(0, .func (.yield l_) #[] #[]), (1, pT kb)] (e1 :: e2 :: (.ro kb [.slice A n cap] 27) :: (rD (A) g o n 14 (dvals IT.cells its)) :: (Tr b0)) Try.func102 rfl Try.ntmps102 rfl (by kernel_rfl) hT0 (fun _ h_ => by simp at h_) ?_
  refine mcont_seq ?_
  refine mcont_region 4 rfl (by kernel_rfl) ?_
  refine bD [2, 0, 0] 3 1 [(6, iQ (IntKind.i64.wrap ((n : Int) - 1)))] [4, 5] <| wI 6 ((n : Int) - 1) <| bD [0] 4 0 [(3, iQ ((n : Int) - 1))] [] <| zDN <| mcont_block ?_
  refine cont_nilrow 24 1 ?_
  refine cM ?_
  refine rC 3 (iQ ((n : Int) - 1 - ((([] : List (Nat × IT)).length : Nat) : Int))) rfl (congrArg (Value.int .i64) (by simp)) <| mcont_loop (α := List (Nat × IT) × β) (fun x_ : List (Nat × IT) × β => BackI its n x_.1 ∧ Inv x_.1 x_.2) (fun x_ : List (Nat × IT) × β => [(0, .func (.yield l_) #[] #[]), (1, pT kb), (3, iQ ((n : Int) - 1 - ((x_.1.length : Nat) : Int)))]) (fun x_ : List (Nat × IT) × β => ((.gen (rowE (none) 0 0 0 24 1 (ivals .u32 []) true)) :: e1 :: e2 :: (.ro kb [.slice A n cap] 27) :: (rD (A) g o n 14 (dvals IT.cells its)) :: (Tr x_.2))) (fun x_ : List (Nat × IT) × β => n - x_.1.length) ([], b0) (show BackI its n ([]) ∧ Inv ([]) (b0) from ⟨BackI.nil _ _, h0⟩) (by kernel_rfl) (by kernel_rfl) ?_
  rintro ⟨pre, b⟩ hinv2_
  replace hinv2_ : BackI its n pre ∧ Inv pre b := hinv2_
  refine cM ?_
  obtain ⟨hP, hI⟩ := hinv2_
  have hpl := hP.2
  refine mcont_seq ?_
  refine mcont_seq ?_
  refine mcont_region 2 rfl (by kernel_rfl) ?_
  refine bD [0, 0] 2 0 [(8, .bool (decide (((n : Int) - 1 - ((pre.length : Nat) : Int)) ≥ 0)))] [7] <| zDN <| sD 8 rfl (fun c3_ => ?_) fun c3_ => ?_
  ·
    refine mcont_true rfl ?_
    refine mcont_skip ?_
    refine zN <| mcont_seq ?_
    refine mcont_block ?_
    refine mcont_seq ?_
    refine icont_region 8 rfl ?_
    refine pli_ops 6 2 6 rfl rfl (by kernel_rfl) ?_
    obtain ⟨x, hx⟩ : ∃ y_ : Nat, (y_ : Int) = (n : Int) - 1 - ((pre.length : Nat) : Int) := ⟨n - 1 - pre.length, by omega⟩
    refine rC 3 (iQ (x : Int)) rfl (congrArg (Value.int .i64) hx.symm) ?_
    have hP2 : BackI its n (pre ++ [(x, dget its x)]) := hP.step hx
    refine bD [0, 0, 3, 0] 4 2 [(11, .func (.yield l_) #[] #[]), (12, iQ (x : Int)), (13, .slice A n cap), (14, iQ (x : Int))] [] <| pS 5 1 <| rC 13 (.slice (some ⟨g, o, none⟩) n cap) rfl (by rw [hra (by omega)]) <| sS 15 (Instr.indexAt 27 (.slice (some ⟨g, o, none⟩) n cap) (iQ (x : Int))) (.pointer (some ⟨g, o + x * 14, none⟩)) (fun w hT => rI 103 14 w) <| pS 6 0 <| sS 16 (Instr.loadAt 103 (.pointer (some ⟨g, o + x * 14, none⟩))) (.agg #[iQ 0, iQ 0, .pointer (some ⟨(dget its x).b, 0, none⟩), iQ ((dget its x).t.X), iQ ((dget its x).t.Y), iQ ((dget its x).t.s), iQ ((dget its x).t.al), iQ ((dget its x).t.ca), iQ ((dget its x).t.cb), iQ ((dget its x).t.cc), iQ ((dget its x).t.cd), .slice ((dget its x).t.A) ((dget its x).t.k) ((dget its x).t.cp), .string ⟨#[]⟩, iQ 0]) (fun w hT => rM 14 ([iQ 0, iQ 0, .pointer (some ⟨(dget its x).b, 0, none⟩), iQ ((dget its x).t.X), iQ ((dget its x).t.Y), iQ ((dget its x).t.s), iQ ((dget its x).t.al), iQ ((dget its x).t.ca), iQ ((dget its x).t.cb), iQ ((dget its x).t.cc), iQ ((dget its x).t.cd), .slice ((dget its x).t.A) ((dget its x).t.k) ((dget its x).t.cp), .string ⟨#[]⟩, iQ 0]) (Rd.dcell IT.size (hT.ok 4 _ rfl) (i := x) (by omega))) <| zDN <| pli_yield 17 7 1 rfl rfl (by kernel_rfl) (by kernel_rfl) (R := fun v_ w_ => (v_ = .bool true ∧ ∃ b_, Inv (pre ++ [(x, dget its x)]) b_ ∧ Tab w0 w_ ((.gen (rowE (none) 0 0 0 24 1 (ivals .u32 []) true)) :: e1 :: e2 :: (.ro kb [.slice A n cap] 27) :: (rD (A) g o n 14 (dvals IT.cells its)) :: (Tr b_))) ∨ (v_ = .bool false ∧ Jx w_)) (fun w_ hT_ => YieldAt.weaken (hY pre (x, dget its x) b w_ _ (fun _ => rfl) hI hP2 hT_) (fun e_ w_ h_ => by rcases h_ with ⟨rfl, hh_⟩ | ⟨rfl, hh_⟩; exact ⟨_, rfl, .inl ⟨rfl, hh_⟩⟩; exact ⟨_, rfl, .inr ⟨rfl, hh_⟩⟩)) ?_
    rintro a_ w_ v_ ha_ hf_ (⟨rfl, b, hI, hT_⟩ | ⟨rfl, hJ⟩)
    ·
      refine Cont.go ?_ ha_ hf_ hT_
      refine cM ?_
      refine pli_ops 1 0 8 rfl rfl (by kernel_rfl) ?_
      refine bD [0] 8 0 [(18, .bool false)] [] <| zDN <| pli_done ?_
      refine zN <| mcont_false rfl ?_
      refine mcont_skip ?_
      refine blk_normal <| zN <| mcont_region 3 rfl (by kernel_rfl) ?_
      refine bD [0, 0] 2 1 [(10, iQ (IntKind.i64.wrap ((x : Int) - 1)))] [9] <| wI 10 ((x : Int) - 1) <| bD [0] 3 0 [(3, iQ ((x : Int) - 1))] [] <| zDN <| rC 3 (iQ ((n : Int) - 1 - (((pre ++ [(x, dget its x)]).length : Nat) : Int))) rfl (congrArg (Value.int .i64) (by rw [List.length_append, List.length_singleton]; omega)) <| cA (pre ++ [(x, dget its x)], b) (show BackI its n (pre ++ [(x, dget its x)]) ∧ Inv (pre ++ [(x, dget its x)]) (b) from ⟨hP2, hI⟩) (show n - (pre ++ [(x, dget its x)]).length < n - pre.length from by rw [List.length_append, List.length_singleton]; omega)
    ·
      refine Cont.go ?_ ha_ hf_ (Tab.start w_)
      refine cM ?_
      refine pli_ops 1 0 8 rfl rfl (by kernel_rfl) ?_
      refine bD [0] 8 0 [(18, .bool true)] [] <| zDN <| pli_done ?_
      refine zN <| mcont_true rfl ?_
      refine mcont_ret ?_
      refine blk_ret <| then_ret <| then_ret <| blk_ret ?_
      refine ret_none (.inl rfl) rfl (fun w hT => ?_)
      exact ⟨⟨_, rfl⟩, .inr (hJx _ _ hJ (hT.toBelow (fun i e h => by simp at h)))⟩
  refine mcont_false rfl ?_
  refine mcont_exit ?_
  refine then_exit <| then_exit <| blk_exit ?_
  refine ret_none (.inr rfl) rfl (fun w hT => ?_)
  exact ⟨⟨_, rfl⟩, .inl ⟨pre, b, ⟨hP, by omega⟩, hI, hT.drop (fun _ => rfl)⟩⟩
theorem backItem (kb : Nat) (A : Option Addr) (g o n cap : Nat) (its : List IT) (hn : n ≤ 100) (hra : 0 < n → A = some ⟨g, o, none⟩) (hrl : its.length = n) (w0 : World) : IterC Try.prog 102 #[pT kb] (fun z_ : Nat × IT => #[iQ (z_.1 : Int), .agg #[iQ 0, iQ 0, pT z_.2.b, iQ z_.2.t.X, iQ z_.2.t.Y, iQ z_.2.t.s, iQ z_.2.t.al, iQ z_.2.t.ca, iQ z_.2.t.cb, iQ z_.2.t.cc, iQ z_.2.t.cd, .slice z_.2.t.A z_.2.t.k z_.2.t.cp, .string ⟨#[]⟩, iQ 0]]) w0 [.ro kb [.slice A n cap] 27, rD (A) g o n 14 (dvals IT.cells its)] (fun _ => []) (fun xs_ => BackI its n xs_ ∧ xs_.length = n) (fun p_ => BackI its n p_) :=
  fun Inv Tr Jx l e1 e2 W1 b0 hJx hY h0 hT => backItem0 kb A g o n cap its hn hra hrl w0 Inv Tr Jx l e1 e2 W1 b0 hJx hY h0 hT
theorem planSplit (K : Int) (A : Option Addr) (g o n cap : Nat) (its : List IT) (ts : List TS) (W H : Int) (w : World) (hT0 : Tab w w [rD (A) g o n 14 (dvals IT.cells its), .gen (subE n (IT.hds 118 its)), .gen (subE n (IT.pxs its)), .gen (subE n (TS.ops ts))]) (hmap : its.map (·.t) = ts) (hts : ∀ t ∈ ts, TS.Ok t) (hn : n ≤ 100) (hW : 1 ≤ W ∧ W ≤ 256) (hH : 1 ≤ H ∧ H ≤ 256) :
    Calls Try.prog 61 #[.agg #[iQ K, .slice A n cap], .agg #[iQ 0, iQ 0, iQ W, iQ H]] w fun e w' => ∃ (rs_ : List RS) (r_ : Nat) (A_ : Option Addr) (g_ k_ cp_ : Nat), e = .returned (.tuple #[sL r_ n n, .slice A_ k_ cp_]) ∧ (rs_.length = n ∧ SeenOk (⟨0, 0, W, H⟩ : Rect) ts n rs_) ∧ Tab w w' [.gen (bunO n (RS.rws rs_)), .gen (rowE (A_) g_ k_ cp_ 53 4 (rvals (leftL (⟨0, 0, W, H⟩ : Rect) ts)) true), oE r_ n n 58 1 (dvals RS.cells rs_.reverse)] := by
  obtain ⟨hra, hrl⟩ := Rd.factsD IT.size (by decide) (hT0.ok 0 _ rfl)
  have hits := okIT hmap hts
  have htl : ts.length = n := by rw [← hmap, List.length_map]; exact hrl
  refine enterM 39 [(0, .agg #[iQ K, .slice A n cap]), (1, .agg #[iQ 0, iQ 0, iQ W, iQ H])] [rD (A) g o n 14 (dvals IT.cells its), .gen (subE n (IT.hds 118 its)), .gen (subE n (IT.pxs its)), .gen (subE n (TS.ops ts))] Try.func61 rfl Try.ntmps61 rfl (by kernel_rfl) hT0 ?_
  refine zSR 4 <| batch2 [0, 0, 0, 0] 4 0 (fun b1 b2 => [(2, pT b1), (3, pT b2)]) (fun b1 b2 => [.cells b2 [iQ 0, iQ 0, iQ W, iQ H] 53 true, .cells b1 [iQ K, .slice A n cap] 29 true, rD (A) g o n 14 (dvals IT.cells its), .gen (subE n (IT.hds 118 its)), .gen (subE n (IT.pxs its)), .gen (subE n (TS.ops ts))]) rfl rfl [2, 3] (fun _ _ => rfl) (fun b1 b2 => by kernel_rfl) (fun b1 b2 => by kernel_rfl) (fun b1 b2 => ?_)
  refine zDNSR 6 <| bD [0, 1, 0] 3 3 [(12, iQ (n : Int))] [10, 11] <| pS 4 2 <| sSW 13 (Instr.makeSlice 77 (iQ (n : Int)) (iQ (n : Int))) (fun r3 => sL r3 n n) (fun r3 => [oE r3 n n 58 1 (dvals RS.cells (List.replicate n RS.nil)), .cells b2 [iQ 0, iQ 0, iQ W, iQ H] 53 true, .cells b1 [iQ K, .slice A n cap] 29 true, rD (A) g o n 14 (dvals IT.cells its), .gen (subE n (IT.hds 118 its)), .gen (subE n (IT.pxs its)), .gen (subE n (TS.ops ts))]) (fun _ => True) (by kernel_rfl) (fun w hT => make_rowS hT (bytes := 24) n (by kernel_rfl) (by kernel_rfl) (by omega) (by omega)) (fun r3 _ => ?_)
  refine bW [0, 0] 6 0 (fun b4 => [(2, pT b1), (3, pT b2), (6, pT b4)]) (fun b4 => [.cells b4 [sL r3 n n] 77 true, oE r3 n n 58 1 (dvals RS.cells (List.replicate n RS.nil)), .cells b2 [iQ 0, iQ 0, iQ W, iQ H] 53 true, .cells b1 [iQ K, .slice A n cap] 29 true, rD (A) g o n 14 (dvals IT.cells its), .gen (subE n (IT.hds 118 its)), .gen (subE n (IT.pxs its)), .gen (subE n (TS.ops ts))]) [2, 3, 6] fun b4 => ?_
  refine zDNSR 5 <| bW [2, 0] 2 3 (fun b5 => [(2, pT b1), (6, pT b4), (15, sL b5 1 1)]) (fun b5 => [.cells b5 [iQ 0, iQ 0, iQ W, iQ H] 53 true, .cells b4 [sL r3 n n] 77 true, oE r3 n n 58 1 (dvals RS.cells (List.replicate n RS.nil)), .cells b2 [iQ 0, iQ 0, iQ W, iQ H] 53 true, .cells b1 [iQ K, .slice A n cap] 29 true, rD (A) g o n 14 (dvals IT.cells its), .gen (subE n (IT.hds 118 its)), .gen (subE n (IT.pxs its)), .gen (subE n (TS.ops ts))]) [2, 6, 15] fun b5 => ?_
  refine fG 3 <| pS 3 2 <| cont_asRow 0 1 4 rfl (vals := rvals [(⟨0, 0, W, H⟩ : Rect)]) rfl rfl (by decide) ?_
  refine cG (d := 16) (α := Option Addr × Nat × Nat × Nat) (fun x_ => .slice x_.1 x_.2.2.1 x_.2.2.2) (fun x_ => [.gen (rowE (x_.1) x_.2.1 x_.2.2.1 x_.2.2.2 53 4 (rvals (canR [(⟨0, 0, W, H⟩ : Rect)])) true), oE b5 1 1 53 4 (rvals [(⟨0, 0, W, H⟩ : Rect)]), .cells b4 [sL r3 n n] 77 true, oE r3 n n 58 1 (dvals RS.cells (List.replicate n RS.nil)), .cells b1 [iQ K, .slice A n cap] 29 true, rD (A) g o n 14 (dvals IT.cells its), .gen (subE n (IT.hds 118 its)), .gen (subE n (IT.pxs its)), .gen (subE n (TS.ops ts))]) (fun x_ => True) (fun w hT => (regOf (some ⟨b5, 0, none⟩) b5 0 1 1 [(⟨0, 0, W, H⟩ : Rect)] w (hT.viewRo (.cons (i := 0) rfl Vw.rowRd .nil) rfl) (by omega)).mono fun e w' ⟨A6, g7, k8, cp9, he_, ht_⟩ => ⟨(A6, g7, k8, cp9), he_, trivial, hT.news ht_ rfl⟩) ?_
  rintro ⟨A6, g7, k8, cp9⟩ hf10_
  refine cM ?_
  refine fR 0 k8 A6 g7 cp9 (canR [(⟨0, 0, W, H⟩ : Rect)]) rfl fun hr11_a hr11_l hr11_c hr11_m => ?_
  have hcs12_ := canR_small (l := [(⟨0, 0, W, H⟩ : Rect)]) (by simp)
  refine bW [0, 0] 5 0 (fun b13 => [(2, pT b1), (6, pT b4), (7, pT b13)]) (fun b13 => [.cells b13 [.slice A6 k8 cp9] 58 true, .gen (rowE (A6) g7 k8 cp9 53 4 (rvals (canR [(⟨0, 0, W, H⟩ : Rect)])) true), oE b5 1 1 53 4 (rvals [(⟨0, 0, W, H⟩ : Rect)]), .cells b4 [sL r3 n n] 77 true, oE r3 n n 58 1 (dvals RS.cells (List.replicate n RS.nil)), .cells b1 [iQ K, .slice A n cap] 29 true, rD (A) g o n 14 (dvals IT.cells its), .gen (subE n (IT.hds 118 its)), .gen (subE n (IT.pxs its)), .gen (subE n (TS.ops ts))]) [2, 6, 7] fun b13 => ?_
  refine zDNSSR 3 <| bD [0, 5] 2 1 [(18, .slice A n cap)] [17] <| fG 5 <| pS 3 0 <| cG (d := 19) (α := Nat) (fun x_ => .func (.func 102) #[] #[pT x_]) (fun x_ => [.cells x_ [.slice A n cap] 27 true, .cells b13 [.slice A6 k8 cp9] 58 true, .gen (rowE (A6) g7 k8 cp9 53 4 (rvals (canR [(⟨0, 0, W, H⟩ : Rect)])) true), oE b5 1 1 53 4 (rvals [(⟨0, 0, W, H⟩ : Rect)]), .cells b4 [sL r3 n n] 77 true, oE r3 n n 58 1 (dvals RS.cells (List.replicate n RS.nil)), rD (A) g o n 14 (dvals IT.cells its), .gen (subE n (IT.hds 118 its)), .gen (subE n (IT.pxs its)), .gen (subE n (TS.ops ts))]) (fun x_ => True) (fun w hT => (backOf A n cap w).mono fun e w' ⟨kb14, he_, ht_⟩ => ⟨kb14, he_, trivial, hT.news ht_ rfl⟩) ?_
  rintro kb14 hf15_
  refine cM ?_
  refine zDNB <| cont_rowEqD (cel := RS.cells) (z := 1) 5 (List.replicate n RS.nil) (seenR n []) rfl ((seenR_nil n).symm) ?_
  refine cont_rowEqR 2 (canR [(⟨0, 0, W, H⟩ : Rect)]) (leftL (⟨0, 0, W, H⟩ : Rect) (ts.drop (n - 0))) rfl (by rw [Nat.sub_zero, List.drop_of_length_le (by omega)]; rfl) ?_
  refine cont_nilbun (RS.rws ([] : List RS)) ?_
  refine cM ?_
  refine cont_weaken 1 (.ro kb14 [.slice A n cap] 27) rfl rfl Vw.roc rfl ?_
  refine cM ?_
  refine cont_pick [1, 7, 0, 2, 3, 4, 5, 6, 8, 9, 10] [.ro kb14 [.slice A n cap] 27, rD (A) g o n 14 (dvals IT.cells its), .gen (bunO 0 (RS.rws ([] : List RS))), .cells b13 [.slice A6 k8 cp9] 58 true, .gen (rowE (A6) g7 k8 cp9 53 4 (rvals (leftL (⟨0, 0, W, H⟩ : Rect) (ts.drop (n - 0)))) true), oE b5 1 1 53 4 (rvals [(⟨0, 0, W, H⟩ : Rect)]), .cells b4 [sL r3 n n] 77 true, oE r3 n n 58 1 (dvals RS.cells (seenR n [])), .gen (subE n (IT.hds 118 its)), .gen (subE n (IT.pxs its)), .gen (subE n (TS.ops ts))] (by decide) rfl rfl ?_
  refine cont_rangeFunc (X := Nat × IT) (β := Nat × List RS × Option Addr × Nat × Nat × Nat) (γ := Unit) (gf := 102) (lb := #[pT kb14]) (fun z_ : Nat × IT => #[iQ (z_.1 : Int), .agg #[iQ 0, iQ 0, pT z_.2.b, iQ z_.2.t.X, iQ z_.2.t.Y, iQ z_.2.t.s, iQ z_.2.t.al, iQ z_.2.t.ca, iQ z_.2.t.cb, iQ z_.2.t.cc, iQ z_.2.t.cd, .slice z_.2.t.A z_.2.t.k z_.2.t.cp, .string ⟨#[]⟩, iQ 0]]) [.ro kb14 [.slice A n cap] 27, rD (A) g o n 14 (dvals IT.cells its)] (fun z_ : Nat × IT => []) (fun xs_ => BackI its n xs_ ∧ xs_.length = n) (fun xs_ => BackI its n xs_) (fun (pre : List (Nat × IT)) (x_ : Nat × List RS × Option Addr × Nat × Nat × Nat) => x_.2.1.length = x_.1 ∧ x_.1 = pre.length ∧ SeenOk (⟨0, 0, W, H⟩ : Rect) ts n x_.2.1) (fun x_ : Nat × List RS × Option Addr × Nat × Nat × Nat => [.gen (bunO x_.1 (RS.rws x_.2.1)), .cells b13 [.slice x_.2.2.1 x_.2.2.2.2.1 x_.2.2.2.2.2] 58 true, .gen (rowE (x_.2.2.1) x_.2.2.2.1 x_.2.2.2.2.1 x_.2.2.2.2.2 53 4 (rvals (leftL (⟨0, 0, W, H⟩ : Rect) (ts.drop (n - x_.1)))) true), oE b5 1 1 53 4 (rvals [(⟨0, 0, W, H⟩ : Rect)]), .cells b4 [sL r3 n n] 77 true, oE r3 n n 58 1 (dvals RS.cells (seenR n x_.2.1)), .gen (subE n (IT.hds 118 its)), .gen (subE n (IT.pxs its)), .gen (subE n (TS.ops ts))]) (fun (_ : Code) (_ : Unit) => False) (fun x_ : Unit => []) (0, ([] : List RS), A6, g7, k8, cp9) rfl (fun _ _ => rfl) (fun _ => rfl) (by kernel_rfl) (backItem kb14 A g o n cap its (by omega) hra hrl _) (⟨rfl, rfl, SeenOk.nil _ _ _⟩) rfl ?_ ?_ ?_ ?_
  ·
    rintro l_ z16_ e16_ e16b_ e16q_ pre ⟨x, it⟩ ⟨k, rs, Al, gl, kl, cl⟩ B_ hz_ hinv17_ hsp_ hB_
    replace hinv17_ : rs.length = k ∧ k = pre.length ∧ SeenOk (⟨0, 0, W, H⟩ : Rect) ts n rs := hinv17_
    replace hsp_ : BackI its n (pre ++ [(x, it)]) := hsp_
    refine cM ?_
    refine mcont_seq ?_
    refine mcont_region 1 rfl (by kernel_rfl) ?_
    refine bD [0] 1 0 [(8, iQ (x : Int))] [] <| zDN <| mcont_region 2 rfl (by kernel_rfl) ?_
    refine bW [0, 0] 2 0 (fun b18 => [(6, pT b4), (7, pT b13), (8, iQ (x : Int)), (9, pT b18)]) (fun b18 => [.cells b18 [iQ 0, iQ 0, pT it.b, iQ it.t.X, iQ it.t.Y, iQ it.t.s, iQ it.t.al, iQ it.t.ca, iQ it.t.cb, iQ it.t.cc, iQ it.t.cd, .slice it.t.A it.t.k it.t.cp, .string ⟨#[]⟩, iQ 0] 103 true, z16_, e16_, e16q_, .ro kb14 [.slice A n cap] 27, rD (A) g o n 14 (dvals IT.cells its), .gen (bunO k (RS.rws rs)), .cells b13 [.slice Al kl cl] 58 true, .gen (rowE (Al) gl kl cl 53 4 (rvals (leftL (⟨0, 0, W, H⟩ : Rect) (ts.drop (n - k)))) true), oE b5 1 1 53 4 (rvals [(⟨0, 0, W, H⟩ : Rect)]), .cells b4 [sL r3 n n] 77 true, oE r3 n n 58 1 (dvals RS.cells (seenR n rs)), .gen (subE n (IT.hds 118 its)), .gen (subE n (IT.pxs its)), .gen (subE n (TS.ops ts))]) [6, 7, 8, 9] fun b18 => ?_
    refine zDN <| hB_ _ [.cells b18 [iQ 0, iQ 0, pT it.b, iQ it.t.X, iQ it.t.Y, iQ it.t.s, iQ it.t.al, iQ it.t.ca, iQ it.t.cb, iQ it.t.cc, iQ it.t.cd, .slice it.t.A it.t.k it.t.cp, .string ⟨#[]⟩, iQ 0] 103 true, z16_] [e16q_, .ro kb14 [.slice A n cap] 27, rD (A) g o n 14 (dvals IT.cells its), .gen (bunO k (RS.rws rs)), .cells b13 [.slice Al kl cl] 58 true, .gen (rowE (Al) gl kl cl 53 4 (rvals (leftL (⟨0, 0, W, H⟩ : Rect) (ts.drop (n - k)))) true), oE b5 1 1 53 4 (rvals [(⟨0, 0, W, H⟩ : Rect)]), .cells b4 [sL r3 n n] 77 true, oE r3 n n 58 1 (dvals RS.cells (seenR n rs)), .gen (subE n (IT.hds 118 its)), .gen (subE n (IT.pxs its)), .gen (subE n (TS.ops ts))] ?_
    refine cM ?_
    obtain ⟨hk, hkp, hrs⟩ := hinv17_
    obtain ⟨hx, hit⟩ := hsp_.last
    refine mcont_block ?_
    refine mcont_seq ?_
    refine fR 8 kl Al gl cl (leftL (⟨0, 0, W, H⟩ : Rect) (ts.drop (n - k))) rfl fun hr19_a hr19_l hr19_c hr19_m => ?_
    have hral := hr19_a
    have hll := leftL_len hW hH (ts.drop (n - k))
    have hitk : TS.Ok it.t := by rw [hit]; exact hits _ (dget_mem (l := its) (i := x) (by omega))
    obtain ⟨hitw1, hitw2⟩ : 1 ≤ it.t.W ∧ it.t.W ≤ 16 := ⟨hitk.img.w1, hitk.w16⟩
    obtain ⟨hith1, hith2⟩ : 1 ≤ it.t.H ∧ it.t.H ≤ 16 := ⟨hitk.img.h1, hitk.h16⟩
    obtain ⟨hits1, hits2⟩ := hitk.s_
    obtain ⟨hitx1, hitx2⟩ := hitk.x_
    obtain ⟨hity1, hity2⟩ := hitk.y_
    obtain ⟨hita1, hita2⟩ := hitk.a_
    have hitl := hitk.img.le
    have hite : dget its x = it := hit.symm
    refine cont_see 13 (rD (some ⟨it.q, 0, none⟩) it.q 0 it.t.n 1 (cV it.t.px)) rfl rfl (by rw [← hite]; exact Vw.subAt x (by omega) rfl rfl) rfl ?_
    refine cM ?_
    refine cont_see 13 (.ro it.b [iQ it.t.W, iQ it.t.H, sL it.q it.t.n it.t.n] 118) rfl rfl (by rw [← hite]; exact Vw.subAtRo x (by omega) rfl) rfl ?_
    refine cM ?_
    have hto : dget ts x = it.t := by rw [hit]; exact (dget_mapT hmap (by omega)).symm
    refine cont_see 16 (rD (it.t.A) it.t.g 0 it.t.k 4 (rvals it.t.op)) rfl rfl (by rw [← hto]; exact Vw.subAt x (by omega) rfl rfl) rfl ?_
    refine cM ?_
    have hhl : (hidP it.t.W it.t.H it.t.X it.t.Y it.t.s it.t.al it.t.op ⟨it.t.ca, it.t.cb, it.t.cc, it.t.cd⟩).length ≤ 6400 := hid_len hitk
    refine cM ?_
    refine mdrawn_enter 11 [14] rfl (by kernel_rfl) (by kernel_rfl) ?_
    refine tD 0 [14] [(0, 13), (1, 0), (2, 10), (3, 0), (4, 3)] 6 [4, 3, 2, 1, 0] [(22, sL r3 n n), (23, iQ (x : Int)), (24, .slice Al kl cl), (26, .agg #[pT it.b, iQ it.t.X, iQ it.t.Y, iQ it.t.s, iQ it.t.al, iQ it.t.ca, iQ it.t.cb, iQ it.t.cc, iQ it.t.cd, .slice it.t.A it.t.k it.t.cp, .string ⟨#[]⟩])] [25] ?_ (hpo := (pok_then (pok_blk pok_rq)))
    refine dO 5 5 <| cP 27 (.agg #[iQ ((shwR it.t.W it.t.H it.t.X it.t.Y it.t.s it.t.ca it.t.cb it.t.cc it.t.cd).x0), iQ ((shwR it.t.W it.t.H it.t.X it.t.Y it.t.s it.t.ca it.t.cb it.t.cc it.t.cd).y0), iQ ((shwR it.t.W it.t.H it.t.X it.t.Y it.t.s it.t.ca it.t.cb it.t.cc it.t.cd).x1), iQ ((shwR it.t.W it.t.H it.t.X it.t.Y it.t.s it.t.ca it.t.cb it.t.cc it.t.cd).y1)]) (fun w hT => surfBox it.b it.t.W it.t.H it.q it.t.n it.t.n it.t.px it.t.X it.t.Y it.t.s it.t.al it.t.ca it.t.cb it.t.cc it.t.cd it.t.A it.t.k it.t.cp w (hT.viewRo (.cons (i := 1) rfl Vw.ro (.cons (i := 2) rfl Vw.rd .nil)) rfl) (by omega) hitk.img (by omega) (by omega) (by omega)) <| dX 0 [14] <| dO 6 4 <| one_step1 0 (fun b20 => [(7, pT b13), (9, pT b18), (22, sL r3 n n), (23, iQ (x : Int)), (24, .slice Al kl cl), (28, sL b20 1 1)]) (fun b20 => [.cells b20 [iQ ((shwR it.t.W it.t.H it.t.X it.t.Y it.t.s it.t.ca it.t.cb it.t.cc it.t.cd).x0), iQ ((shwR it.t.W it.t.H it.t.X it.t.Y it.t.s it.t.ca it.t.cb it.t.cc it.t.cd).y0), iQ ((shwR it.t.W it.t.H it.t.X it.t.Y it.t.s it.t.ca it.t.cb it.t.cc it.t.cd).x1), iQ ((shwR it.t.W it.t.H it.t.X it.t.Y it.t.s it.t.ca it.t.cb it.t.cc it.t.cd).y1)] 53 true, rD (it.t.A) it.t.g 0 it.t.k 4 (rvals it.t.op), .ro it.b [iQ it.t.W, iQ it.t.H, sL it.q it.t.n it.t.n] 118, rD (some ⟨it.q, 0, none⟩) it.q 0 it.t.n 1 (cV it.t.px), .cells b18 [iQ 0, iQ 0, pT it.b, iQ it.t.X, iQ it.t.Y, iQ it.t.s, iQ it.t.al, iQ it.t.ca, iQ it.t.cb, iQ it.t.cc, iQ it.t.cd, .slice it.t.A it.t.k it.t.cp, .string ⟨#[]⟩, iQ 0] 103 true, z16_, e16b_, e16q_, .ro kb14 [.slice A n cap] 27, rD (A) g o n 14 (dvals IT.cells its), .gen (bunO k (RS.rws rs)), .cells b13 [.slice Al kl cl] 58 true, .gen (rowE (Al) gl kl cl 53 4 (rvals (leftL (⟨0, 0, W, H⟩ : Rect) (ts.drop (n - k)))) true), oE b5 1 1 53 4 (rvals [(⟨0, 0, W, H⟩ : Rect)]), .cells b4 [sL r3 n n] 77 true, oE r3 n n 58 1 (dvals RS.cells (seenR n rs)), .gen (subE n (IT.hds 118 its)), .gen (subE n (IT.pxs its)), .gen (subE n (TS.ops ts))]) (fun b20 => by kernel_rfl) (fun b20 => by kernel_rfl) (fun b20 => ?_)
    refine dX 1 [14] <| dO 7 3 <| cont_asRow 0 1 4 rfl (vals := rvals [(⟨(shwR it.t.W it.t.H it.t.X it.t.Y it.t.s it.t.ca it.t.cb it.t.cc it.t.cd).x0, (shwR it.t.W it.t.H it.t.X it.t.Y it.t.s it.t.ca it.t.cb it.t.cc it.t.cd).y0, (shwR it.t.W it.t.H it.t.X it.t.Y it.t.s it.t.ca it.t.cb it.t.cc it.t.cd).x1, (shwR it.t.W it.t.H it.t.X it.t.Y it.t.s it.t.ca it.t.cb it.t.cc it.t.cd).y1⟩ : Rect)]) rfl rfl (by decide) ?_
    refine cG (d := 29) (α := Option Addr × Nat × Nat × Nat) (fun x_ => .slice x_.1 x_.2.2.1 x_.2.2.2) (fun x_ => [.gen (rowE (x_.1) x_.2.1 x_.2.2.1 x_.2.2.2 53 4 (rvals (canR [(⟨(shwR it.t.W it.t.H it.t.X it.t.Y it.t.s it.t.ca it.t.cb it.t.cc it.t.cd).x0, (shwR it.t.W it.t.H it.t.X it.t.Y it.t.s it.t.ca it.t.cb it.t.cc it.t.cd).y0, (shwR it.t.W it.t.H it.t.X it.t.Y it.t.s it.t.ca it.t.cb it.t.cc it.t.cd).x1, (shwR it.t.W it.t.H it.t.X it.t.Y it.t.s it.t.ca it.t.cb it.t.cc it.t.cd).y1⟩ : Rect)])) true), oE b20 1 1 53 4 (rvals [(⟨(shwR it.t.W it.t.H it.t.X it.t.Y it.t.s it.t.ca it.t.cb it.t.cc it.t.cd).x0, (shwR it.t.W it.t.H it.t.X it.t.Y it.t.s it.t.ca it.t.cb it.t.cc it.t.cd).y0, (shwR it.t.W it.t.H it.t.X it.t.Y it.t.s it.t.ca it.t.cb it.t.cc it.t.cd).x1, (shwR it.t.W it.t.H it.t.X it.t.Y it.t.s it.t.ca it.t.cb it.t.cc it.t.cd).y1⟩ : Rect)]), rD (it.t.A) it.t.g 0 it.t.k 4 (rvals it.t.op), .ro it.b [iQ it.t.W, iQ it.t.H, sL it.q it.t.n it.t.n] 118, rD (some ⟨it.q, 0, none⟩) it.q 0 it.t.n 1 (cV it.t.px), .cells b18 [iQ 0, iQ 0, pT it.b, iQ it.t.X, iQ it.t.Y, iQ it.t.s, iQ it.t.al, iQ it.t.ca, iQ it.t.cb, iQ it.t.cc, iQ it.t.cd, .slice it.t.A it.t.k it.t.cp, .string ⟨#[]⟩, iQ 0] 103 true, z16_, e16b_, e16q_, .ro kb14 [.slice A n cap] 27, rD (A) g o n 14 (dvals IT.cells its), .gen (bunO k (RS.rws rs)), .cells b13 [.slice Al kl cl] 58 true, .gen (rowE (Al) gl kl cl 53 4 (rvals (leftL (⟨0, 0, W, H⟩ : Rect) (ts.drop (n - k)))) true), oE b5 1 1 53 4 (rvals [(⟨0, 0, W, H⟩ : Rect)]), .cells b4 [sL r3 n n] 77 true, oE r3 n n 58 1 (dvals RS.cells (seenR n rs)), .gen (subE n (IT.hds 118 its)), .gen (subE n (IT.pxs its)), .gen (subE n (TS.ops ts))]) (fun x_ => True) (fun w hT => (regOf (some ⟨b20, 0, none⟩) b20 0 1 1 [(⟨(shwR it.t.W it.t.H it.t.X it.t.Y it.t.s it.t.ca it.t.cb it.t.cc it.t.cd).x0, (shwR it.t.W it.t.H it.t.X it.t.Y it.t.s it.t.ca it.t.cb it.t.cc it.t.cd).y0, (shwR it.t.W it.t.H it.t.X it.t.Y it.t.s it.t.ca it.t.cb it.t.cc it.t.cd).x1, (shwR it.t.W it.t.H it.t.X it.t.Y it.t.s it.t.ca it.t.cb it.t.cc it.t.cd).y1⟩ : Rect)] w (hT.viewRo (.cons (i := 0) rfl Vw.rowRd .nil) rfl) (by omega)).mono fun e w' ⟨A21, g22, k23, cp24, he_, ht_⟩ => ⟨(A21, g22, k23, cp24), he_, trivial, hT.news ht_ rfl⟩) ?_
    rintro ⟨A21, g22, k23, cp24⟩ hf25_
    refine cM ?_
    refine fR 0 k23 A21 g22 cp24 (canR [(⟨(shwR it.t.W it.t.H it.t.X it.t.Y it.t.s it.t.ca it.t.cb it.t.cc it.t.cd).x0, (shwR it.t.W it.t.H it.t.X it.t.Y it.t.s it.t.ca it.t.cb it.t.cc it.t.cd).y0, (shwR it.t.W it.t.H it.t.X it.t.Y it.t.s it.t.ca it.t.cb it.t.cc it.t.cd).x1, (shwR it.t.W it.t.H it.t.X it.t.Y it.t.s it.t.ca it.t.cb it.t.cc it.t.cd).y1⟩ : Rect)]) rfl fun hr26_a hr26_l hr26_c hr26_m => ?_
    have hcs27_ := canR_small (l := [(⟨(shwR it.t.W it.t.H it.t.X it.t.Y it.t.s it.t.ca it.t.cb it.t.cc it.t.cd).x0, (shwR it.t.W it.t.H it.t.X it.t.Y it.t.s it.t.ca it.t.cb it.t.cc it.t.cd).y0, (shwR it.t.W it.t.H it.t.X it.t.Y it.t.s it.t.ca it.t.cb it.t.cc it.t.cd).x1, (shwR it.t.W it.t.H it.t.X it.t.Y it.t.s it.t.ca it.t.cb it.t.cc it.t.cd).y1⟩ : Rect)]) (by simp)
    refine dX 2 [14] <| dO 8 2 <| cG (d := 30) (α := Option Addr × Nat × Nat × Nat) (fun x_ => .slice x_.1 x_.2.2.1 x_.2.2.2) (fun x_ => [.gen (rowE (x_.1) x_.2.1 x_.2.2.1 x_.2.2.2 53 4 (rvals (regM andB (leftL (⟨0, 0, W, H⟩ : Rect) (ts.drop (n - k))) (canR [(⟨(shwR it.t.W it.t.H it.t.X it.t.Y it.t.s it.t.ca it.t.cb it.t.cc it.t.cd).x0, (shwR it.t.W it.t.H it.t.X it.t.Y it.t.s it.t.ca it.t.cb it.t.cc it.t.cd).y0, (shwR it.t.W it.t.H it.t.X it.t.Y it.t.s it.t.ca it.t.cb it.t.cc it.t.cd).x1, (shwR it.t.W it.t.H it.t.X it.t.Y it.t.s it.t.ca it.t.cb it.t.cc it.t.cd).y1⟩ : Rect)]))) true), .gen (rowE (A21) g22 k23 cp24 53 4 (rvals (canR [(⟨(shwR it.t.W it.t.H it.t.X it.t.Y it.t.s it.t.ca it.t.cb it.t.cc it.t.cd).x0, (shwR it.t.W it.t.H it.t.X it.t.Y it.t.s it.t.ca it.t.cb it.t.cc it.t.cd).y0, (shwR it.t.W it.t.H it.t.X it.t.Y it.t.s it.t.ca it.t.cb it.t.cc it.t.cd).x1, (shwR it.t.W it.t.H it.t.X it.t.Y it.t.s it.t.ca it.t.cb it.t.cc it.t.cd).y1⟩ : Rect)])) true), oE b20 1 1 53 4 (rvals [(⟨(shwR it.t.W it.t.H it.t.X it.t.Y it.t.s it.t.ca it.t.cb it.t.cc it.t.cd).x0, (shwR it.t.W it.t.H it.t.X it.t.Y it.t.s it.t.ca it.t.cb it.t.cc it.t.cd).y0, (shwR it.t.W it.t.H it.t.X it.t.Y it.t.s it.t.ca it.t.cb it.t.cc it.t.cd).x1, (shwR it.t.W it.t.H it.t.X it.t.Y it.t.s it.t.ca it.t.cb it.t.cc it.t.cd).y1⟩ : Rect)]), rD (it.t.A) it.t.g 0 it.t.k 4 (rvals it.t.op), .ro it.b [iQ it.t.W, iQ it.t.H, sL it.q it.t.n it.t.n] 118, rD (some ⟨it.q, 0, none⟩) it.q 0 it.t.n 1 (cV it.t.px), .cells b18 [iQ 0, iQ 0, pT it.b, iQ it.t.X, iQ it.t.Y, iQ it.t.s, iQ it.t.al, iQ it.t.ca, iQ it.t.cb, iQ it.t.cc, iQ it.t.cd, .slice it.t.A it.t.k it.t.cp, .string ⟨#[]⟩, iQ 0] 103 true, z16_, e16b_, e16q_, .ro kb14 [.slice A n cap] 27, rD (A) g o n 14 (dvals IT.cells its), .gen (bunO k (RS.rws rs)), .cells b13 [.slice Al kl cl] 58 true, .gen (rowE (Al) gl kl cl 53 4 (rvals (leftL (⟨0, 0, W, H⟩ : Rect) (ts.drop (n - k)))) true), oE b5 1 1 53 4 (rvals [(⟨0, 0, W, H⟩ : Rect)]), .cells b4 [sL r3 n n] 77 true, oE r3 n n 58 1 (dvals RS.cells (seenR n rs)), .gen (subE n (IT.hds 118 its)), .gen (subE n (IT.pxs its)), .gen (subE n (TS.ops ts))]) (fun x_ => True) (fun w hT => (regCut Al gl 0 kl cl (leftL (⟨0, 0, W, H⟩ : Rect) (ts.drop (n - k))) A21 g22 0 k23 cp24 (canR [(⟨(shwR it.t.W it.t.H it.t.X it.t.Y it.t.s it.t.ca it.t.cb it.t.cc it.t.cd).x0, (shwR it.t.W it.t.H it.t.X it.t.Y it.t.s it.t.ca it.t.cb it.t.cc it.t.cd).y0, (shwR it.t.W it.t.H it.t.X it.t.Y it.t.s it.t.ca it.t.cb it.t.cc it.t.cd).x1, (shwR it.t.W it.t.H it.t.X it.t.Y it.t.s it.t.ca it.t.cb it.t.cc it.t.cd).y1⟩ : Rect)]) w (hT.viewRo (.cons (i := 13) rfl Vw.rowRd (.cons (i := 0) rfl Vw.rowRd .nil)) rfl) (by omega)).mono fun e w' ⟨A28, g29, k30, cp31, he_, ht_⟩ => ⟨(A28, g29, k30, cp31), he_, trivial, hT.news ht_ rfl⟩) ?_
    rintro ⟨A28, g29, k30, cp31⟩ hf32_
    refine cM ?_
    refine fR 0 k30 A28 g29 cp31 (regM andB (leftL (⟨0, 0, W, H⟩ : Rect) (ts.drop (n - k))) (canR [(⟨(shwR it.t.W it.t.H it.t.X it.t.Y it.t.s it.t.ca it.t.cb it.t.cc it.t.cd).x0, (shwR it.t.W it.t.H it.t.X it.t.Y it.t.s it.t.ca it.t.cb it.t.cc it.t.cd).y0, (shwR it.t.W it.t.H it.t.X it.t.Y it.t.s it.t.ca it.t.cb it.t.cc it.t.cd).x1, (shwR it.t.W it.t.H it.t.X it.t.Y it.t.s it.t.ca it.t.cb it.t.cc it.t.cd).y1⟩ : Rect)])) rfl fun hr33_a hr33_l hr33_c hr33_m => ?_
    refine dX 3 [14] <| sem_take 3 [14] 9 1 31 (Instr.indexAt 77 (sL r3 n n) (iQ (x : Int))) (.pointer (some ⟨r3, x, none⟩)) (by kernel_rfl) (pok_then (pok_blk pok_rq)) (by kernel_rfl) rfl (by kernel_rfl) (by kernel_rfl) (fun w hT => rI 58 1 w) ?_
    refine dO 10 0 ?_
    obtain ⟨rr34, hrr34⟩ : ∃ y_ : RS, y_ = (⟨A28, g29, k30, cp31, regM andB (leftL (⟨0, 0, W, H⟩ : Rect) (ts.drop (n - k))) (canR [(⟨(shwR it.t.W it.t.H it.t.X it.t.Y it.t.s it.t.ca it.t.cb it.t.cc it.t.cd).x0, (shwR it.t.W it.t.H it.t.X it.t.Y it.t.s it.t.ca it.t.cb it.t.cc it.t.cd).y0, (shwR it.t.W it.t.H it.t.X it.t.Y it.t.s it.t.ca it.t.cb it.t.cc it.t.cd).x1, (shwR it.t.W it.t.H it.t.X it.t.Y it.t.s it.t.ca it.t.cb it.t.cc it.t.cd).y1⟩ : Rect)])⟩ : RS) := ⟨_, rfl⟩
    refine sem_stepU (Instr.storeAt 58 (.pointer (some ⟨r3, x, none⟩)) (.slice A28 k30 cp31)) (fun _ => [.gen (rowE (A28) g29 k30 cp31 53 4 (rvals (regM andB (leftL (⟨0, 0, W, H⟩ : Rect) (ts.drop (n - k))) (canR [(⟨(shwR it.t.W it.t.H it.t.X it.t.Y it.t.s it.t.ca it.t.cb it.t.cc it.t.cd).x0, (shwR it.t.W it.t.H it.t.X it.t.Y it.t.s it.t.ca it.t.cb it.t.cc it.t.cd).y0, (shwR it.t.W it.t.H it.t.X it.t.Y it.t.s it.t.ca it.t.cb it.t.cc it.t.cd).x1, (shwR it.t.W it.t.H it.t.X it.t.Y it.t.s it.t.ca it.t.cb it.t.cc it.t.cd).y1⟩ : Rect)]))) true), .gen (rowE (A21) g22 k23 cp24 53 4 (rvals (canR [(⟨(shwR it.t.W it.t.H it.t.X it.t.Y it.t.s it.t.ca it.t.cb it.t.cc it.t.cd).x0, (shwR it.t.W it.t.H it.t.X it.t.Y it.t.s it.t.ca it.t.cb it.t.cc it.t.cd).y0, (shwR it.t.W it.t.H it.t.X it.t.Y it.t.s it.t.ca it.t.cb it.t.cc it.t.cd).x1, (shwR it.t.W it.t.H it.t.X it.t.Y it.t.s it.t.ca it.t.cb it.t.cc it.t.cd).y1⟩ : Rect)])) true), oE b20 1 1 53 4 (rvals [(⟨(shwR it.t.W it.t.H it.t.X it.t.Y it.t.s it.t.ca it.t.cb it.t.cc it.t.cd).x0, (shwR it.t.W it.t.H it.t.X it.t.Y it.t.s it.t.ca it.t.cb it.t.cc it.t.cd).y0, (shwR it.t.W it.t.H it.t.X it.t.Y it.t.s it.t.ca it.t.cb it.t.cc it.t.cd).x1, (shwR it.t.W it.t.H it.t.X it.t.Y it.t.s it.t.ca it.t.cb it.t.cc it.t.cd).y1⟩ : Rect)]), rD (it.t.A) it.t.g 0 it.t.k 4 (rvals it.t.op), .ro it.b [iQ it.t.W, iQ it.t.H, sL it.q it.t.n it.t.n] 118, rD (some ⟨it.q, 0, none⟩) it.q 0 it.t.n 1 (cV it.t.px), .cells b18 [iQ 0, iQ 0, pT it.b, iQ it.t.X, iQ it.t.Y, iQ it.t.s, iQ it.t.al, iQ it.t.ca, iQ it.t.cb, iQ it.t.cc, iQ it.t.cd, .slice it.t.A it.t.k it.t.cp, .string ⟨#[]⟩, iQ 0] 103 true, z16_, e16b_, e16q_, .ro kb14 [.slice A n cap] 27, rD (A) g o n 14 (dvals IT.cells its), .gen (bunO k (RS.rws rs)), .cells b13 [.slice Al kl cl] 58 true, .gen (rowE (Al) gl kl cl 53 4 (rvals (leftL (⟨0, 0, W, H⟩ : Rect) (ts.drop (n - k)))) true), oE b5 1 1 53 4 (rvals [(⟨0, 0, W, H⟩ : Rect)]), .cells b4 [sL r3 n n] 77 true, oE r3 n n 58 1 (dvals RS.cells ((seenR n rs).set x (⟨A28, g29, k30, cp31, regM andB (leftL (⟨0, 0, W, H⟩ : Rect) (ts.drop (n - k))) (canR [(⟨(shwR it.t.W it.t.H it.t.X it.t.Y it.t.s it.t.ca it.t.cb it.t.cc it.t.cd).x0, (shwR it.t.W it.t.H it.t.X it.t.Y it.t.s it.t.ca it.t.cb it.t.cc it.t.cd).y0, (shwR it.t.W it.t.H it.t.X it.t.Y it.t.s it.t.ca it.t.cb it.t.cc it.t.cd).x1, (shwR it.t.W it.t.H it.t.X it.t.Y it.t.s it.t.ca it.t.cb it.t.cc it.t.cd).y1⟩ : Rect)])⟩ : RS))), .gen (subE n (IT.hds 118 its)), .gen (subE n (IT.pxs its)), .gen (subE n (TS.ops ts))]) (fun _ => True) (by kernel_rfl) (fun w hT => store_rowS hT (i := 17) (J := x) (⟨A28, g29, k30, cp31, regM andB (leftL (⟨0, 0, W, H⟩ : Rect) (ts.drop (n - k))) (canR [(⟨(shwR it.t.W it.t.H it.t.X it.t.Y it.t.s it.t.ca it.t.cb it.t.cc it.t.cd).x0, (shwR it.t.W it.t.H it.t.X it.t.Y it.t.s it.t.ca it.t.cb it.t.cc it.t.cd).y0, (shwR it.t.W it.t.H it.t.X it.t.Y it.t.s it.t.ca it.t.cb it.t.cc it.t.cd).x1, (shwR it.t.W it.t.H it.t.X it.t.Y it.t.s it.t.ca it.t.cb it.t.cc it.t.cd).y1⟩ : Rect)])⟩ : RS) rfl (by kernel_rfl) (by (rw [seenR_len (by omega)]; omega))) (fun _ _ => ?_)
    refine dX 3 [14] <| dD <| zN <| mdrawn_enter 6 [13] rfl (by kernel_rfl) (by kernel_rfl) ?_
    refine tD 0 [13] [(1, 0), (2, 6)] 4 [2, 1] [(34, .agg #[pT it.b, iQ it.t.X, iQ it.t.Y, iQ it.t.s, iQ it.t.al, iQ it.t.ca, iQ it.t.cb, iQ it.t.cc, iQ it.t.cd, .slice it.t.A it.t.k it.t.cp, .string ⟨#[]⟩])] [33] ?_ (hpo := (pok_blk pok_rq))
    refine drawn_two 0 3 3 rfl (by kernel_rfl) ?_ ?_
    ·
      refine oS 13 [(7, pT b13), (32, .slice Al kl cl), (34, .agg #[pT it.b, iQ it.t.X, iQ it.t.Y, iQ it.t.s, iQ it.t.al, iQ it.t.ca, iQ it.t.cb, iQ it.t.cc, iQ it.t.cd, .slice it.t.A it.t.k it.t.cp, .string ⟨#[]⟩])] [.gen (rowE (A28) g29 k30 cp31 53 4 (rvals (regM andB (leftL (⟨0, 0, W, H⟩ : Rect) (ts.drop (n - k))) (canR [(⟨(shwR it.t.W it.t.H it.t.X it.t.Y it.t.s it.t.ca it.t.cb it.t.cc it.t.cd).x0, (shwR it.t.W it.t.H it.t.X it.t.Y it.t.s it.t.ca it.t.cb it.t.cc it.t.cd).y0, (shwR it.t.W it.t.H it.t.X it.t.Y it.t.s it.t.ca it.t.cb it.t.cc it.t.cd).x1, (shwR it.t.W it.t.H it.t.X it.t.Y it.t.s it.t.ca it.t.cb it.t.cc it.t.cd).y1⟩ : Rect)]))) true), .gen (rowE (A21) g22 k23 cp24 53 4 (rvals (canR [(⟨(shwR it.t.W it.t.H it.t.X it.t.Y it.t.s it.t.ca it.t.cb it.t.cc it.t.cd).x0, (shwR it.t.W it.t.H it.t.X it.t.Y it.t.s it.t.ca it.t.cb it.t.cc it.t.cd).y0, (shwR it.t.W it.t.H it.t.X it.t.Y it.t.s it.t.ca it.t.cb it.t.cc it.t.cd).x1, (shwR it.t.W it.t.H it.t.X it.t.Y it.t.s it.t.ca it.t.cb it.t.cc it.t.cd).y1⟩ : Rect)])) true), oE b20 1 1 53 4 (rvals [(⟨(shwR it.t.W it.t.H it.t.X it.t.Y it.t.s it.t.ca it.t.cb it.t.cc it.t.cd).x0, (shwR it.t.W it.t.H it.t.X it.t.Y it.t.s it.t.ca it.t.cb it.t.cc it.t.cd).y0, (shwR it.t.W it.t.H it.t.X it.t.Y it.t.s it.t.ca it.t.cb it.t.cc it.t.cd).x1, (shwR it.t.W it.t.H it.t.X it.t.Y it.t.s it.t.ca it.t.cb it.t.cc it.t.cd).y1⟩ : Rect)]), rD (it.t.A) it.t.g 0 it.t.k 4 (rvals it.t.op), .ro it.b [iQ it.t.W, iQ it.t.H, sL it.q it.t.n it.t.n] 118, rD (some ⟨it.q, 0, none⟩) it.q 0 it.t.n 1 (cV it.t.px), .cells b18 [iQ 0, iQ 0, pT it.b, iQ it.t.X, iQ it.t.Y, iQ it.t.s, iQ it.t.al, iQ it.t.ca, iQ it.t.cb, iQ it.t.cc, iQ it.t.cd, .slice it.t.A it.t.k it.t.cp, .string ⟨#[]⟩, iQ 0] 103 true, z16_, e16b_, e16q_, .ro kb14 [.slice A n cap] 27, rD (A) g o n 14 (dvals IT.cells its), .gen (bunO k (RS.rws rs)), .cells b13 [.slice Al kl cl] 58 true, .gen (rowE (Al) gl kl cl 53 4 (rvals (leftL (⟨0, 0, W, H⟩ : Rect) (ts.drop (n - k)))) true), oE b5 1 1 53 4 (rvals [(⟨0, 0, W, H⟩ : Rect)]), .cells b4 [sL r3 n n] 77 true, oE r3 n n 58 1 (dvals RS.cells ((seenR n rs).set x (⟨A28, g29, k30, cp31, regM andB (leftL (⟨0, 0, W, H⟩ : Rect) (ts.drop (n - k))) (canR [(⟨(shwR it.t.W it.t.H it.t.X it.t.Y it.t.s it.t.ca it.t.cb it.t.cc it.t.cd).x0, (shwR it.t.W it.t.H it.t.X it.t.Y it.t.s it.t.ca it.t.cb it.t.cc it.t.cd).y0, (shwR it.t.W it.t.H it.t.X it.t.Y it.t.s it.t.ca it.t.cb it.t.cc it.t.cd).x1, (shwR it.t.W it.t.H it.t.X it.t.Y it.t.s it.t.ca it.t.cb it.t.cc it.t.cd).y1⟩ : Rect)])⟩ : RS))), .gen (subE n (IT.hds 118 its)), .gen (subE n (IT.pxs its)), .gen (subE n (TS.ops ts))] <| dX 0 [13] <| dO 3 2 <| cG (d := 35) (α := Option Addr × Nat × Nat × Nat) (fun x_ => .slice x_.1 x_.2.2.1 x_.2.2.2) (fun x_ => [.gen (rowE (x_.1) x_.2.1 x_.2.2.1 x_.2.2.2 53 4 (rvals (hidP it.t.W it.t.H it.t.X it.t.Y it.t.s it.t.al it.t.op ⟨it.t.ca, it.t.cb, it.t.cc, it.t.cd⟩)) true), .gen (rowE (A28) g29 k30 cp31 53 4 (rvals (regM andB (leftL (⟨0, 0, W, H⟩ : Rect) (ts.drop (n - k))) (canR [(⟨(shwR it.t.W it.t.H it.t.X it.t.Y it.t.s it.t.ca it.t.cb it.t.cc it.t.cd).x0, (shwR it.t.W it.t.H it.t.X it.t.Y it.t.s it.t.ca it.t.cb it.t.cc it.t.cd).y0, (shwR it.t.W it.t.H it.t.X it.t.Y it.t.s it.t.ca it.t.cb it.t.cc it.t.cd).x1, (shwR it.t.W it.t.H it.t.X it.t.Y it.t.s it.t.ca it.t.cb it.t.cc it.t.cd).y1⟩ : Rect)]))) true), .gen (rowE (A21) g22 k23 cp24 53 4 (rvals (canR [(⟨(shwR it.t.W it.t.H it.t.X it.t.Y it.t.s it.t.ca it.t.cb it.t.cc it.t.cd).x0, (shwR it.t.W it.t.H it.t.X it.t.Y it.t.s it.t.ca it.t.cb it.t.cc it.t.cd).y0, (shwR it.t.W it.t.H it.t.X it.t.Y it.t.s it.t.ca it.t.cb it.t.cc it.t.cd).x1, (shwR it.t.W it.t.H it.t.X it.t.Y it.t.s it.t.ca it.t.cb it.t.cc it.t.cd).y1⟩ : Rect)])) true), oE b20 1 1 53 4 (rvals [(⟨(shwR it.t.W it.t.H it.t.X it.t.Y it.t.s it.t.ca it.t.cb it.t.cc it.t.cd).x0, (shwR it.t.W it.t.H it.t.X it.t.Y it.t.s it.t.ca it.t.cb it.t.cc it.t.cd).y0, (shwR it.t.W it.t.H it.t.X it.t.Y it.t.s it.t.ca it.t.cb it.t.cc it.t.cd).x1, (shwR it.t.W it.t.H it.t.X it.t.Y it.t.s it.t.ca it.t.cb it.t.cc it.t.cd).y1⟩ : Rect)]), rD (it.t.A) it.t.g 0 it.t.k 4 (rvals it.t.op), .ro it.b [iQ it.t.W, iQ it.t.H, sL it.q it.t.n it.t.n] 118, rD (some ⟨it.q, 0, none⟩) it.q 0 it.t.n 1 (cV it.t.px), .cells b18 [iQ 0, iQ 0, pT it.b, iQ it.t.X, iQ it.t.Y, iQ it.t.s, iQ it.t.al, iQ it.t.ca, iQ it.t.cb, iQ it.t.cc, iQ it.t.cd, .slice it.t.A it.t.k it.t.cp, .string ⟨#[]⟩, iQ 0] 103 true, z16_, e16b_, e16q_, .ro kb14 [.slice A n cap] 27, rD (A) g o n 14 (dvals IT.cells its), .gen (bunO k (RS.rws rs)), .cells b13 [.slice Al kl cl] 58 true, .gen (rowE (Al) gl kl cl 53 4 (rvals (leftL (⟨0, 0, W, H⟩ : Rect) (ts.drop (n - k)))) true), oE b5 1 1 53 4 (rvals [(⟨0, 0, W, H⟩ : Rect)]), .cells b4 [sL r3 n n] 77 true, oE r3 n n 58 1 (dvals RS.cells ((seenR n rs).set x (⟨A28, g29, k30, cp31, regM andB (leftL (⟨0, 0, W, H⟩ : Rect) (ts.drop (n - k))) (canR [(⟨(shwR it.t.W it.t.H it.t.X it.t.Y it.t.s it.t.ca it.t.cb it.t.cc it.t.cd).x0, (shwR it.t.W it.t.H it.t.X it.t.Y it.t.s it.t.ca it.t.cb it.t.cc it.t.cd).y0, (shwR it.t.W it.t.H it.t.X it.t.Y it.t.s it.t.ca it.t.cb it.t.cc it.t.cd).x1, (shwR it.t.W it.t.H it.t.X it.t.Y it.t.s it.t.ca it.t.cb it.t.cc it.t.cd).y1⟩ : Rect)])⟩ : RS))), .gen (subE n (IT.hds 118 its)), .gen (subE n (IT.pxs its)), .gen (subE n (TS.ops ts))]) (fun x_ => True) (fun w hT => (surfHides it.b it.t.W it.t.H it.q it.t.n it.t.n it.t.px it.t.X it.t.Y it.t.s it.t.al it.t.ca it.t.cb it.t.cc it.t.cd it.t.A it.t.g 0 it.t.k it.t.cp it.t.op w (hT.viewRo (.cons (i := 4) rfl Vw.ro (.cons (i := 5) rfl Vw.rd (.cons (i := 3) rfl Vw.rd .nil))) rfl) (by omega) hitk.img (by omega) (by omega) (by omega) (op_len hitk)).mono fun e w' ⟨A35, g36, k37, cp38, he_, ht_⟩ => ⟨(A35, g36, k37, cp38), he_, trivial, hT.news ht_ rfl⟩) ?_
      rintro ⟨A35, g36, k37, cp38⟩ hf39_
      refine cM ?_
      refine fR 0 k37 A35 g36 cp38 (hidP it.t.W it.t.H it.t.X it.t.Y it.t.s it.t.al it.t.op ⟨it.t.ca, it.t.cb, it.t.cc, it.t.cd⟩) rfl fun hr40_a hr40_l hr40_c hr40_m => ?_
      refine dX 1 [13] <| dO 4 1 <| cG (d := 36) (α := Option Addr × Nat × Nat × Nat) (fun x_ => .slice x_.1 x_.2.2.1 x_.2.2.2) (fun x_ => [.gen (rowE (x_.1) x_.2.1 x_.2.2.1 x_.2.2.2 53 4 (rvals (regM lessB (leftL (⟨0, 0, W, H⟩ : Rect) (ts.drop (n - k))) (hidP it.t.W it.t.H it.t.X it.t.Y it.t.s it.t.al it.t.op ⟨it.t.ca, it.t.cb, it.t.cc, it.t.cd⟩))) true), .gen (rowE (A35) g36 k37 cp38 53 4 (rvals (hidP it.t.W it.t.H it.t.X it.t.Y it.t.s it.t.al it.t.op ⟨it.t.ca, it.t.cb, it.t.cc, it.t.cd⟩)) true), .gen (rowE (A28) g29 k30 cp31 53 4 (rvals (regM andB (leftL (⟨0, 0, W, H⟩ : Rect) (ts.drop (n - k))) (canR [(⟨(shwR it.t.W it.t.H it.t.X it.t.Y it.t.s it.t.ca it.t.cb it.t.cc it.t.cd).x0, (shwR it.t.W it.t.H it.t.X it.t.Y it.t.s it.t.ca it.t.cb it.t.cc it.t.cd).y0, (shwR it.t.W it.t.H it.t.X it.t.Y it.t.s it.t.ca it.t.cb it.t.cc it.t.cd).x1, (shwR it.t.W it.t.H it.t.X it.t.Y it.t.s it.t.ca it.t.cb it.t.cc it.t.cd).y1⟩ : Rect)]))) true), .gen (rowE (A21) g22 k23 cp24 53 4 (rvals (canR [(⟨(shwR it.t.W it.t.H it.t.X it.t.Y it.t.s it.t.ca it.t.cb it.t.cc it.t.cd).x0, (shwR it.t.W it.t.H it.t.X it.t.Y it.t.s it.t.ca it.t.cb it.t.cc it.t.cd).y0, (shwR it.t.W it.t.H it.t.X it.t.Y it.t.s it.t.ca it.t.cb it.t.cc it.t.cd).x1, (shwR it.t.W it.t.H it.t.X it.t.Y it.t.s it.t.ca it.t.cb it.t.cc it.t.cd).y1⟩ : Rect)])) true), oE b20 1 1 53 4 (rvals [(⟨(shwR it.t.W it.t.H it.t.X it.t.Y it.t.s it.t.ca it.t.cb it.t.cc it.t.cd).x0, (shwR it.t.W it.t.H it.t.X it.t.Y it.t.s it.t.ca it.t.cb it.t.cc it.t.cd).y0, (shwR it.t.W it.t.H it.t.X it.t.Y it.t.s it.t.ca it.t.cb it.t.cc it.t.cd).x1, (shwR it.t.W it.t.H it.t.X it.t.Y it.t.s it.t.ca it.t.cb it.t.cc it.t.cd).y1⟩ : Rect)]), rD (it.t.A) it.t.g 0 it.t.k 4 (rvals it.t.op), .ro it.b [iQ it.t.W, iQ it.t.H, sL it.q it.t.n it.t.n] 118, rD (some ⟨it.q, 0, none⟩) it.q 0 it.t.n 1 (cV it.t.px), .cells b18 [iQ 0, iQ 0, pT it.b, iQ it.t.X, iQ it.t.Y, iQ it.t.s, iQ it.t.al, iQ it.t.ca, iQ it.t.cb, iQ it.t.cc, iQ it.t.cd, .slice it.t.A it.t.k it.t.cp, .string ⟨#[]⟩, iQ 0] 103 true, z16_, e16b_, e16q_, .ro kb14 [.slice A n cap] 27, rD (A) g o n 14 (dvals IT.cells its), .gen (bunO k (RS.rws rs)), .cells b13 [.slice Al kl cl] 58 true, .gen (rowE (Al) gl kl cl 53 4 (rvals (leftL (⟨0, 0, W, H⟩ : Rect) (ts.drop (n - k)))) true), oE b5 1 1 53 4 (rvals [(⟨0, 0, W, H⟩ : Rect)]), .cells b4 [sL r3 n n] 77 true, oE r3 n n 58 1 (dvals RS.cells ((seenR n rs).set x (⟨A28, g29, k30, cp31, regM andB (leftL (⟨0, 0, W, H⟩ : Rect) (ts.drop (n - k))) (canR [(⟨(shwR it.t.W it.t.H it.t.X it.t.Y it.t.s it.t.ca it.t.cb it.t.cc it.t.cd).x0, (shwR it.t.W it.t.H it.t.X it.t.Y it.t.s it.t.ca it.t.cb it.t.cc it.t.cd).y0, (shwR it.t.W it.t.H it.t.X it.t.Y it.t.s it.t.ca it.t.cb it.t.cc it.t.cd).x1, (shwR it.t.W it.t.H it.t.X it.t.Y it.t.s it.t.ca it.t.cb it.t.cc it.t.cd).y1⟩ : Rect)])⟩ : RS))), .gen (subE n (IT.hds 118 its)), .gen (subE n (IT.pxs its)), .gen (subE n (TS.ops ts))]) (fun x_ => True) (fun w hT => (regLess Al gl 0 kl cl (leftL (⟨0, 0, W, H⟩ : Rect) (ts.drop (n - k))) A35 g36 0 k37 cp38 (hidP it.t.W it.t.H it.t.X it.t.Y it.t.s it.t.al it.t.op ⟨it.t.ca, it.t.cb, it.t.cc, it.t.cd⟩) w (hT.viewRo (.cons (i := 15) rfl Vw.rowRd (.cons (i := 0) rfl Vw.rowRd .nil)) rfl) (by omega)).mono fun e w' ⟨A41, g42, k43, cp44, he_, ht_⟩ => ⟨(A41, g42, k43, cp44), he_, trivial, hT.news ht_ rfl⟩) ?_
      rintro ⟨A41, g42, k43, cp44⟩ hf45_
      refine cM ?_
      refine fR 0 k43 A41 g42 cp44 (regM lessB (leftL (⟨0, 0, W, H⟩ : Rect) (ts.drop (n - k))) (hidP it.t.W it.t.H it.t.X it.t.Y it.t.s it.t.al it.t.op ⟨it.t.ca, it.t.cb, it.t.cc, it.t.cd⟩)) rfl fun hr46_a hr46_l hr46_c hr46_m => ?_
      refine dX 2 [13] <| dO 5 0 <| oS 15 [] [.gen (rowE (A41) g42 k43 cp44 53 4 (rvals (regM lessB (leftL (⟨0, 0, W, H⟩ : Rect) (ts.drop (n - k))) (hidP it.t.W it.t.H it.t.X it.t.Y it.t.s it.t.al it.t.op ⟨it.t.ca, it.t.cb, it.t.cc, it.t.cd⟩))) true), .gen (rowE (A35) g36 k37 cp38 53 4 (rvals (hidP it.t.W it.t.H it.t.X it.t.Y it.t.s it.t.al it.t.op ⟨it.t.ca, it.t.cb, it.t.cc, it.t.cd⟩)) true), .gen (rowE (A28) g29 k30 cp31 53 4 (rvals (regM andB (leftL (⟨0, 0, W, H⟩ : Rect) (ts.drop (n - k))) (canR [(⟨(shwR it.t.W it.t.H it.t.X it.t.Y it.t.s it.t.ca it.t.cb it.t.cc it.t.cd).x0, (shwR it.t.W it.t.H it.t.X it.t.Y it.t.s it.t.ca it.t.cb it.t.cc it.t.cd).y0, (shwR it.t.W it.t.H it.t.X it.t.Y it.t.s it.t.ca it.t.cb it.t.cc it.t.cd).x1, (shwR it.t.W it.t.H it.t.X it.t.Y it.t.s it.t.ca it.t.cb it.t.cc it.t.cd).y1⟩ : Rect)]))) true), .gen (rowE (A21) g22 k23 cp24 53 4 (rvals (canR [(⟨(shwR it.t.W it.t.H it.t.X it.t.Y it.t.s it.t.ca it.t.cb it.t.cc it.t.cd).x0, (shwR it.t.W it.t.H it.t.X it.t.Y it.t.s it.t.ca it.t.cb it.t.cc it.t.cd).y0, (shwR it.t.W it.t.H it.t.X it.t.Y it.t.s it.t.ca it.t.cb it.t.cc it.t.cd).x1, (shwR it.t.W it.t.H it.t.X it.t.Y it.t.s it.t.ca it.t.cb it.t.cc it.t.cd).y1⟩ : Rect)])) true), oE b20 1 1 53 4 (rvals [(⟨(shwR it.t.W it.t.H it.t.X it.t.Y it.t.s it.t.ca it.t.cb it.t.cc it.t.cd).x0, (shwR it.t.W it.t.H it.t.X it.t.Y it.t.s it.t.ca it.t.cb it.t.cc it.t.cd).y0, (shwR it.t.W it.t.H it.t.X it.t.Y it.t.s it.t.ca it.t.cb it.t.cc it.t.cd).x1, (shwR it.t.W it.t.H it.t.X it.t.Y it.t.s it.t.ca it.t.cb it.t.cc it.t.cd).y1⟩ : Rect)]), rD (it.t.A) it.t.g 0 it.t.k 4 (rvals it.t.op), .ro it.b [iQ it.t.W, iQ it.t.H, sL it.q it.t.n it.t.n] 118, rD (some ⟨it.q, 0, none⟩) it.q 0 it.t.n 1 (cV it.t.px), .cells b18 [iQ 0, iQ 0, pT it.b, iQ it.t.X, iQ it.t.Y, iQ it.t.s, iQ it.t.al, iQ it.t.ca, iQ it.t.cb, iQ it.t.cc, iQ it.t.cd, .slice it.t.A it.t.k it.t.cp, .string ⟨#[]⟩, iQ 0] 103 true, z16_, e16b_, e16q_, .ro kb14 [.slice A n cap] 27, rD (A) g o n 14 (dvals IT.cells its), .gen (bunO k (RS.rws rs)), .cells b13 [.slice A41 k43 cp44] 58 true, .gen (rowE (Al) gl kl cl 53 4 (rvals (leftL (⟨0, 0, W, H⟩ : Rect) (ts.drop (n - k)))) true), oE b5 1 1 53 4 (rvals [(⟨0, 0, W, H⟩ : Rect)]), .cells b4 [sL r3 n n] 77 true, oE r3 n n 58 1 (dvals RS.cells ((seenR n rs).set x (⟨A28, g29, k30, cp31, regM andB (leftL (⟨0, 0, W, H⟩ : Rect) (ts.drop (n - k))) (canR [(⟨(shwR it.t.W it.t.H it.t.X it.t.Y it.t.s it.t.ca it.t.cb it.t.cc it.t.cd).x0, (shwR it.t.W it.t.H it.t.X it.t.Y it.t.s it.t.ca it.t.cb it.t.cc it.t.cd).y0, (shwR it.t.W it.t.H it.t.X it.t.Y it.t.s it.t.ca it.t.cb it.t.cc it.t.cd).x1, (shwR it.t.W it.t.H it.t.X it.t.Y it.t.s it.t.ca it.t.cb it.t.cc it.t.cd).y1⟩ : Rect)])⟩ : RS))), .gen (subE n (IT.hds 118 its)), .gen (subE n (IT.pxs its)), .gen (subE n (TS.ops ts))] <| dX 2 [13] <| dD <| blk_normal <| cont_rowEqD (cel := RS.cells) (z := 1) 19 ((seenR n rs).set x (⟨A28, g29, k30, cp31, regM andB (leftL (⟨0, 0, W, H⟩ : Rect) (ts.drop (n - k))) (canR [(⟨(shwR it.t.W it.t.H it.t.X it.t.Y it.t.s it.t.ca it.t.cb it.t.cc it.t.cd).x0, (shwR it.t.W it.t.H it.t.X it.t.Y it.t.s it.t.ca it.t.cb it.t.cc it.t.cd).y0, (shwR it.t.W it.t.H it.t.X it.t.Y it.t.s it.t.ca it.t.cb it.t.cc it.t.cd).x1, (shwR it.t.W it.t.H it.t.X it.t.Y it.t.s it.t.ca it.t.cb it.t.cc it.t.cd).y1⟩ : Rect)])⟩ : RS)) (seenR n (rs ++ [rr34])) rfl (by rw [hrr34]; exact seenR_set (by omega)) ?_
      refine cM ?_
      have hpa := RS.rws_app (t := rr34) hk
      refine cont_bun 2 14 k (RS.rws rs) (RS.rws (rs ++ [rr34])) rr34.rwG rfl rfl (by rw [hrr34]; exact Vw.rowRd) rfl (by decide) hpa.1 hpa.2 ?_
      refine nL [] ?_
      refine fG 15 <| cont_rowEqR 0 (regM lessB (leftL (⟨0, 0, W, H⟩ : Rect) (ts.drop (n - k))) (hidP it.t.W it.t.H it.t.X it.t.Y it.t.s it.t.al it.t.op ⟨it.t.ca, it.t.cb, it.t.cc, it.t.cd⟩)) (leftL (⟨0, 0, W, H⟩ : Rect) (ts.drop (n - (k + 1)))) rfl (by rw [show n - k = x + 1 by omega, show n - (k + 1) = x by omega, leftL_step (ts := ts) (i := x) (by omega), hto]; rfl) ?_
      refine fG 7 <| fG 6 <| fG 5 <| fG 4 <| fG 3 <| fG 2 <| fG 1 <| cont_pick [1, 2, 3, 4, 5, 6, 7, 0, 8, 9, 10, 11, 12, 13] [z16_, e16b_, e16q_, .ro kb14 [.slice A n cap] 27, rD (A) g o n 14 (dvals IT.cells its), .gen (bunO (k + 1) (RS.rws (rs ++ [rr34]))), .cells b13 [.slice A41 k43 cp44] 58 true, .gen (rowE (A41) g42 k43 cp44 53 4 (rvals (leftL (⟨0, 0, W, H⟩ : Rect) (ts.drop (n - (k + 1))))) true), oE b5 1 1 53 4 (rvals [(⟨0, 0, W, H⟩ : Rect)]), .cells b4 [sL r3 n n] 77 true, oE r3 n n 58 1 (dvals RS.cells (seenR n (rs ++ [rr34]))), .gen (subE n (IT.hds 118 its)), .gen (subE n (IT.pxs its)), .gen (subE n (TS.ops ts))] (by decide) rfl rfl ?_
      refine rq_next (k + 1, rs ++ [rr34], A41, g42, k43, cp44) (show (rs ++ [rr34]).length = (k + 1) ∧ (k + 1) = (pre ++ [(x, it)]).length ∧ SeenOk (⟨0, 0, W, H⟩ : Rect) ts n (rs ++ [rr34]) from ⟨by rw [List.length_append, List.length_singleton, hk], by rw [List.length_append, List.length_singleton]; omega, hrs.step (x := x) (by omega) (by rw [hrr34, show n - k = x + 1 by omega]; show _ = regM andB _ (canR [(dget ts x).bx]); rw [hto]; rfl)⟩) rfl
    refine cG (d := 35) (α := Option Addr × Nat × Nat × Nat) (fun x_ => .slice x_.1 x_.2.2.1 x_.2.2.2) (fun x_ => [.gen (rowE (x_.1) x_.2.1 x_.2.2.1 x_.2.2.2 53 4 (rvals (hidP it.t.W it.t.H it.t.X it.t.Y it.t.s it.t.al it.t.op ⟨it.t.ca, it.t.cb, it.t.cc, it.t.cd⟩)) true), .gen (rowE (A28) g29 k30 cp31 53 4 (rvals (regM andB (leftL (⟨0, 0, W, H⟩ : Rect) (ts.drop (n - k))) (canR [(⟨(shwR it.t.W it.t.H it.t.X it.t.Y it.t.s it.t.ca it.t.cb it.t.cc it.t.cd).x0, (shwR it.t.W it.t.H it.t.X it.t.Y it.t.s it.t.ca it.t.cb it.t.cc it.t.cd).y0, (shwR it.t.W it.t.H it.t.X it.t.Y it.t.s it.t.ca it.t.cb it.t.cc it.t.cd).x1, (shwR it.t.W it.t.H it.t.X it.t.Y it.t.s it.t.ca it.t.cb it.t.cc it.t.cd).y1⟩ : Rect)]))) true), .gen (rowE (A21) g22 k23 cp24 53 4 (rvals (canR [(⟨(shwR it.t.W it.t.H it.t.X it.t.Y it.t.s it.t.ca it.t.cb it.t.cc it.t.cd).x0, (shwR it.t.W it.t.H it.t.X it.t.Y it.t.s it.t.ca it.t.cb it.t.cc it.t.cd).y0, (shwR it.t.W it.t.H it.t.X it.t.Y it.t.s it.t.ca it.t.cb it.t.cc it.t.cd).x1, (shwR it.t.W it.t.H it.t.X it.t.Y it.t.s it.t.ca it.t.cb it.t.cc it.t.cd).y1⟩ : Rect)])) true), oE b20 1 1 53 4 (rvals [(⟨(shwR it.t.W it.t.H it.t.X it.t.Y it.t.s it.t.ca it.t.cb it.t.cc it.t.cd).x0, (shwR it.t.W it.t.H it.t.X it.t.Y it.t.s it.t.ca it.t.cb it.t.cc it.t.cd).y0, (shwR it.t.W it.t.H it.t.X it.t.Y it.t.s it.t.ca it.t.cb it.t.cc it.t.cd).x1, (shwR it.t.W it.t.H it.t.X it.t.Y it.t.s it.t.ca it.t.cb it.t.cc it.t.cd).y1⟩ : Rect)]), rD (it.t.A) it.t.g 0 it.t.k 4 (rvals it.t.op), .ro it.b [iQ it.t.W, iQ it.t.H, sL it.q it.t.n it.t.n] 118, rD (some ⟨it.q, 0, none⟩) it.q 0 it.t.n 1 (cV it.t.px), .cells b18 [iQ 0, iQ 0, pT it.b, iQ it.t.X, iQ it.t.Y, iQ it.t.s, iQ it.t.al, iQ it.t.ca, iQ it.t.cb, iQ it.t.cc, iQ it.t.cd, .slice it.t.A it.t.k it.t.cp, .string ⟨#[]⟩, iQ 0] 103 true, z16_, e16b_, e16q_, .ro kb14 [.slice A n cap] 27, rD (A) g o n 14 (dvals IT.cells its), .gen (bunO k (RS.rws rs)), .cells b13 [.slice Al kl cl] 58 true, .gen (rowE (Al) gl kl cl 53 4 (rvals (leftL (⟨0, 0, W, H⟩ : Rect) (ts.drop (n - k)))) true), oE b5 1 1 53 4 (rvals [(⟨0, 0, W, H⟩ : Rect)]), .cells b4 [sL r3 n n] 77 true, oE r3 n n 58 1 (dvals RS.cells ((seenR n rs).set x (⟨A28, g29, k30, cp31, regM andB (leftL (⟨0, 0, W, H⟩ : Rect) (ts.drop (n - k))) (canR [(⟨(shwR it.t.W it.t.H it.t.X it.t.Y it.t.s it.t.ca it.t.cb it.t.cc it.t.cd).x0, (shwR it.t.W it.t.H it.t.X it.t.Y it.t.s it.t.ca it.t.cb it.t.cc it.t.cd).y0, (shwR it.t.W it.t.H it.t.X it.t.Y it.t.s it.t.ca it.t.cb it.t.cc it.t.cd).x1, (shwR it.t.W it.t.H it.t.X it.t.Y it.t.s it.t.ca it.t.cb it.t.cc it.t.cd).y1⟩ : Rect)])⟩ : RS))), .gen (subE n (IT.hds 118 its)), .gen (subE n (IT.pxs its)), .gen (subE n (TS.ops ts))]) (fun x_ => True) (fun w hT => (surfHides it.b it.t.W it.t.H it.q it.t.n it.t.n it.t.px it.t.X it.t.Y it.t.s it.t.al it.t.ca it.t.cb it.t.cc it.t.cd it.t.A it.t.g 0 it.t.k it.t.cp it.t.op w (hT.viewRo (.cons (i := 4) rfl Vw.ro (.cons (i := 5) rfl Vw.rd (.cons (i := 3) rfl Vw.rd .nil))) rfl) (by omega) hitk.img (by omega) (by omega) (by omega) (op_len hitk)).mono fun e w' ⟨A47, g48, k49, cp50, he_, ht_⟩ => ⟨(A47, g48, k49, cp50), he_, trivial, hT.news ht_ rfl⟩) ?_
    rintro ⟨A47, g48, k49, cp50⟩ hf51_
    refine cM ?_
    refine fR 0 k49 A47 g48 cp50 (hidP it.t.W it.t.H it.t.X it.t.Y it.t.s it.t.al it.t.op ⟨it.t.ca, it.t.cb, it.t.cc, it.t.cd⟩) rfl fun hr52_a hr52_l hr52_c hr52_m => ?_
    refine dX 1 [13] <| dO 0 2 <| oS 14 [(7, pT b13), (32, .slice Al kl cl), (35, .slice A47 k49 cp50)] [.gen (rowE (A47) g48 k49 cp50 53 4 (rvals (hidP it.t.W it.t.H it.t.X it.t.Y it.t.s it.t.al it.t.op ⟨it.t.ca, it.t.cb, it.t.cc, it.t.cd⟩)) true), .gen (rowE (A28) g29 k30 cp31 53 4 (rvals (regM andB (leftL (⟨0, 0, W, H⟩ : Rect) (ts.drop (n - k))) (canR [(⟨(shwR it.t.W it.t.H it.t.X it.t.Y it.t.s it.t.ca it.t.cb it.t.cc it.t.cd).x0, (shwR it.t.W it.t.H it.t.X it.t.Y it.t.s it.t.ca it.t.cb it.t.cc it.t.cd).y0, (shwR it.t.W it.t.H it.t.X it.t.Y it.t.s it.t.ca it.t.cb it.t.cc it.t.cd).x1, (shwR it.t.W it.t.H it.t.X it.t.Y it.t.s it.t.ca it.t.cb it.t.cc it.t.cd).y1⟩ : Rect)]))) true), .gen (rowE (A21) g22 k23 cp24 53 4 (rvals (canR [(⟨(shwR it.t.W it.t.H it.t.X it.t.Y it.t.s it.t.ca it.t.cb it.t.cc it.t.cd).x0, (shwR it.t.W it.t.H it.t.X it.t.Y it.t.s it.t.ca it.t.cb it.t.cc it.t.cd).y0, (shwR it.t.W it.t.H it.t.X it.t.Y it.t.s it.t.ca it.t.cb it.t.cc it.t.cd).x1, (shwR it.t.W it.t.H it.t.X it.t.Y it.t.s it.t.ca it.t.cb it.t.cc it.t.cd).y1⟩ : Rect)])) true), oE b20 1 1 53 4 (rvals [(⟨(shwR it.t.W it.t.H it.t.X it.t.Y it.t.s it.t.ca it.t.cb it.t.cc it.t.cd).x0, (shwR it.t.W it.t.H it.t.X it.t.Y it.t.s it.t.ca it.t.cb it.t.cc it.t.cd).y0, (shwR it.t.W it.t.H it.t.X it.t.Y it.t.s it.t.ca it.t.cb it.t.cc it.t.cd).x1, (shwR it.t.W it.t.H it.t.X it.t.Y it.t.s it.t.ca it.t.cb it.t.cc it.t.cd).y1⟩ : Rect)]), rD (it.t.A) it.t.g 0 it.t.k 4 (rvals it.t.op), .ro it.b [iQ it.t.W, iQ it.t.H, sL it.q it.t.n it.t.n] 118, rD (some ⟨it.q, 0, none⟩) it.q 0 it.t.n 1 (cV it.t.px), .cells b18 [iQ 0, iQ 0, pT it.b, iQ it.t.X, iQ it.t.Y, iQ it.t.s, iQ it.t.al, iQ it.t.ca, iQ it.t.cb, iQ it.t.cc, iQ it.t.cd, .slice it.t.A it.t.k it.t.cp, .string ⟨#[]⟩, iQ 0] 103 true, z16_, e16b_, e16q_, .ro kb14 [.slice A n cap] 27, rD (A) g o n 14 (dvals IT.cells its), .gen (bunO k (RS.rws rs)), .cells b13 [.slice Al kl cl] 58 true, .gen (rowE (Al) gl kl cl 53 4 (rvals (leftL (⟨0, 0, W, H⟩ : Rect) (ts.drop (n - k)))) true), oE b5 1 1 53 4 (rvals [(⟨0, 0, W, H⟩ : Rect)]), .cells b4 [sL r3 n n] 77 true, oE r3 n n 58 1 (dvals RS.cells ((seenR n rs).set x (⟨A28, g29, k30, cp31, regM andB (leftL (⟨0, 0, W, H⟩ : Rect) (ts.drop (n - k))) (canR [(⟨(shwR it.t.W it.t.H it.t.X it.t.Y it.t.s it.t.ca it.t.cb it.t.cc it.t.cd).x0, (shwR it.t.W it.t.H it.t.X it.t.Y it.t.s it.t.ca it.t.cb it.t.cc it.t.cd).y0, (shwR it.t.W it.t.H it.t.X it.t.Y it.t.s it.t.ca it.t.cb it.t.cc it.t.cd).x1, (shwR it.t.W it.t.H it.t.X it.t.Y it.t.s it.t.ca it.t.cb it.t.cc it.t.cd).y1⟩ : Rect)])⟩ : RS))), .gen (subE n (IT.hds 118 its)), .gen (subE n (IT.pxs its)), .gen (subE n (TS.ops ts))] <| dX 1 [13] <| dO 4 1 <| cG (d := 36) (α := Option Addr × Nat × Nat × Nat) (fun x_ => .slice x_.1 x_.2.2.1 x_.2.2.2) (fun x_ => [.gen (rowE (x_.1) x_.2.1 x_.2.2.1 x_.2.2.2 53 4 (rvals (regM lessB (leftL (⟨0, 0, W, H⟩ : Rect) (ts.drop (n - k))) (hidP it.t.W it.t.H it.t.X it.t.Y it.t.s it.t.al it.t.op ⟨it.t.ca, it.t.cb, it.t.cc, it.t.cd⟩))) true), .gen (rowE (A47) g48 k49 cp50 53 4 (rvals (hidP it.t.W it.t.H it.t.X it.t.Y it.t.s it.t.al it.t.op ⟨it.t.ca, it.t.cb, it.t.cc, it.t.cd⟩)) true), .gen (rowE (A28) g29 k30 cp31 53 4 (rvals (regM andB (leftL (⟨0, 0, W, H⟩ : Rect) (ts.drop (n - k))) (canR [(⟨(shwR it.t.W it.t.H it.t.X it.t.Y it.t.s it.t.ca it.t.cb it.t.cc it.t.cd).x0, (shwR it.t.W it.t.H it.t.X it.t.Y it.t.s it.t.ca it.t.cb it.t.cc it.t.cd).y0, (shwR it.t.W it.t.H it.t.X it.t.Y it.t.s it.t.ca it.t.cb it.t.cc it.t.cd).x1, (shwR it.t.W it.t.H it.t.X it.t.Y it.t.s it.t.ca it.t.cb it.t.cc it.t.cd).y1⟩ : Rect)]))) true), .gen (rowE (A21) g22 k23 cp24 53 4 (rvals (canR [(⟨(shwR it.t.W it.t.H it.t.X it.t.Y it.t.s it.t.ca it.t.cb it.t.cc it.t.cd).x0, (shwR it.t.W it.t.H it.t.X it.t.Y it.t.s it.t.ca it.t.cb it.t.cc it.t.cd).y0, (shwR it.t.W it.t.H it.t.X it.t.Y it.t.s it.t.ca it.t.cb it.t.cc it.t.cd).x1, (shwR it.t.W it.t.H it.t.X it.t.Y it.t.s it.t.ca it.t.cb it.t.cc it.t.cd).y1⟩ : Rect)])) true), oE b20 1 1 53 4 (rvals [(⟨(shwR it.t.W it.t.H it.t.X it.t.Y it.t.s it.t.ca it.t.cb it.t.cc it.t.cd).x0, (shwR it.t.W it.t.H it.t.X it.t.Y it.t.s it.t.ca it.t.cb it.t.cc it.t.cd).y0, (shwR it.t.W it.t.H it.t.X it.t.Y it.t.s it.t.ca it.t.cb it.t.cc it.t.cd).x1, (shwR it.t.W it.t.H it.t.X it.t.Y it.t.s it.t.ca it.t.cb it.t.cc it.t.cd).y1⟩ : Rect)]), rD (it.t.A) it.t.g 0 it.t.k 4 (rvals it.t.op), .ro it.b [iQ it.t.W, iQ it.t.H, sL it.q it.t.n it.t.n] 118, rD (some ⟨it.q, 0, none⟩) it.q 0 it.t.n 1 (cV it.t.px), .cells b18 [iQ 0, iQ 0, pT it.b, iQ it.t.X, iQ it.t.Y, iQ it.t.s, iQ it.t.al, iQ it.t.ca, iQ it.t.cb, iQ it.t.cc, iQ it.t.cd, .slice it.t.A it.t.k it.t.cp, .string ⟨#[]⟩, iQ 0] 103 true, z16_, e16b_, e16q_, .ro kb14 [.slice A n cap] 27, rD (A) g o n 14 (dvals IT.cells its), .gen (bunO k (RS.rws rs)), .cells b13 [.slice Al kl cl] 58 true, .gen (rowE (Al) gl kl cl 53 4 (rvals (leftL (⟨0, 0, W, H⟩ : Rect) (ts.drop (n - k)))) true), oE b5 1 1 53 4 (rvals [(⟨0, 0, W, H⟩ : Rect)]), .cells b4 [sL r3 n n] 77 true, oE r3 n n 58 1 (dvals RS.cells ((seenR n rs).set x (⟨A28, g29, k30, cp31, regM andB (leftL (⟨0, 0, W, H⟩ : Rect) (ts.drop (n - k))) (canR [(⟨(shwR it.t.W it.t.H it.t.X it.t.Y it.t.s it.t.ca it.t.cb it.t.cc it.t.cd).x0, (shwR it.t.W it.t.H it.t.X it.t.Y it.t.s it.t.ca it.t.cb it.t.cc it.t.cd).y0, (shwR it.t.W it.t.H it.t.X it.t.Y it.t.s it.t.ca it.t.cb it.t.cc it.t.cd).x1, (shwR it.t.W it.t.H it.t.X it.t.Y it.t.s it.t.ca it.t.cb it.t.cc it.t.cd).y1⟩ : Rect)])⟩ : RS))), .gen (subE n (IT.hds 118 its)), .gen (subE n (IT.pxs its)), .gen (subE n (TS.ops ts))]) (fun x_ => True) (fun w hT => (regLess Al gl 0 kl cl (leftL (⟨0, 0, W, H⟩ : Rect) (ts.drop (n - k))) A47 g48 0 k49 cp50 (hidP it.t.W it.t.H it.t.X it.t.Y it.t.s it.t.al it.t.op ⟨it.t.ca, it.t.cb, it.t.cc, it.t.cd⟩) w (hT.viewRo (.cons (i := 15) rfl Vw.rowRd (.cons (i := 0) rfl Vw.rowRd .nil)) rfl) (by omega)).mono fun e w' ⟨A53, g54, k55, cp56, he_, ht_⟩ => ⟨(A53, g54, k55, cp56), he_, trivial, hT.news ht_ rfl⟩) ?_
    rintro ⟨A53, g54, k55, cp56⟩ hf57_
    refine cM ?_
    refine fR 0 k55 A53 g54 cp56 (regM lessB (leftL (⟨0, 0, W, H⟩ : Rect) (ts.drop (n - k))) (hidP it.t.W it.t.H it.t.X it.t.Y it.t.s it.t.al it.t.op ⟨it.t.ca, it.t.cb, it.t.cc, it.t.cd⟩)) rfl fun hr58_a hr58_l hr58_c hr58_m => ?_
    refine dX 2 [13] <| dO 5 0 <| oS 15 [] [.gen (rowE (A53) g54 k55 cp56 53 4 (rvals (regM lessB (leftL (⟨0, 0, W, H⟩ : Rect) (ts.drop (n - k))) (hidP it.t.W it.t.H it.t.X it.t.Y it.t.s it.t.al it.t.op ⟨it.t.ca, it.t.cb, it.t.cc, it.t.cd⟩))) true), .gen (rowE (A47) g48 k49 cp50 53 4 (rvals (hidP it.t.W it.t.H it.t.X it.t.Y it.t.s it.t.al it.t.op ⟨it.t.ca, it.t.cb, it.t.cc, it.t.cd⟩)) true), .gen (rowE (A28) g29 k30 cp31 53 4 (rvals (regM andB (leftL (⟨0, 0, W, H⟩ : Rect) (ts.drop (n - k))) (canR [(⟨(shwR it.t.W it.t.H it.t.X it.t.Y it.t.s it.t.ca it.t.cb it.t.cc it.t.cd).x0, (shwR it.t.W it.t.H it.t.X it.t.Y it.t.s it.t.ca it.t.cb it.t.cc it.t.cd).y0, (shwR it.t.W it.t.H it.t.X it.t.Y it.t.s it.t.ca it.t.cb it.t.cc it.t.cd).x1, (shwR it.t.W it.t.H it.t.X it.t.Y it.t.s it.t.ca it.t.cb it.t.cc it.t.cd).y1⟩ : Rect)]))) true), .gen (rowE (A21) g22 k23 cp24 53 4 (rvals (canR [(⟨(shwR it.t.W it.t.H it.t.X it.t.Y it.t.s it.t.ca it.t.cb it.t.cc it.t.cd).x0, (shwR it.t.W it.t.H it.t.X it.t.Y it.t.s it.t.ca it.t.cb it.t.cc it.t.cd).y0, (shwR it.t.W it.t.H it.t.X it.t.Y it.t.s it.t.ca it.t.cb it.t.cc it.t.cd).x1, (shwR it.t.W it.t.H it.t.X it.t.Y it.t.s it.t.ca it.t.cb it.t.cc it.t.cd).y1⟩ : Rect)])) true), oE b20 1 1 53 4 (rvals [(⟨(shwR it.t.W it.t.H it.t.X it.t.Y it.t.s it.t.ca it.t.cb it.t.cc it.t.cd).x0, (shwR it.t.W it.t.H it.t.X it.t.Y it.t.s it.t.ca it.t.cb it.t.cc it.t.cd).y0, (shwR it.t.W it.t.H it.t.X it.t.Y it.t.s it.t.ca it.t.cb it.t.cc it.t.cd).x1, (shwR it.t.W it.t.H it.t.X it.t.Y it.t.s it.t.ca it.t.cb it.t.cc it.t.cd).y1⟩ : Rect)]), rD (it.t.A) it.t.g 0 it.t.k 4 (rvals it.t.op), .ro it.b [iQ it.t.W, iQ it.t.H, sL it.q it.t.n it.t.n] 118, rD (some ⟨it.q, 0, none⟩) it.q 0 it.t.n 1 (cV it.t.px), .cells b18 [iQ 0, iQ 0, pT it.b, iQ it.t.X, iQ it.t.Y, iQ it.t.s, iQ it.t.al, iQ it.t.ca, iQ it.t.cb, iQ it.t.cc, iQ it.t.cd, .slice it.t.A it.t.k it.t.cp, .string ⟨#[]⟩, iQ 0] 103 true, z16_, e16b_, e16q_, .ro kb14 [.slice A n cap] 27, rD (A) g o n 14 (dvals IT.cells its), .gen (bunO k (RS.rws rs)), .cells b13 [.slice A53 k55 cp56] 58 true, .gen (rowE (Al) gl kl cl 53 4 (rvals (leftL (⟨0, 0, W, H⟩ : Rect) (ts.drop (n - k)))) true), oE b5 1 1 53 4 (rvals [(⟨0, 0, W, H⟩ : Rect)]), .cells b4 [sL r3 n n] 77 true, oE r3 n n 58 1 (dvals RS.cells ((seenR n rs).set x (⟨A28, g29, k30, cp31, regM andB (leftL (⟨0, 0, W, H⟩ : Rect) (ts.drop (n - k))) (canR [(⟨(shwR it.t.W it.t.H it.t.X it.t.Y it.t.s it.t.ca it.t.cb it.t.cc it.t.cd).x0, (shwR it.t.W it.t.H it.t.X it.t.Y it.t.s it.t.ca it.t.cb it.t.cc it.t.cd).y0, (shwR it.t.W it.t.H it.t.X it.t.Y it.t.s it.t.ca it.t.cb it.t.cc it.t.cd).x1, (shwR it.t.W it.t.H it.t.X it.t.Y it.t.s it.t.ca it.t.cb it.t.cc it.t.cd).y1⟩ : Rect)])⟩ : RS))), .gen (subE n (IT.hds 118 its)), .gen (subE n (IT.pxs its)), .gen (subE n (TS.ops ts))] <| dX 2 [13] <| dD <| blk_normal <| cont_rowEqD (cel := RS.cells) (z := 1) 19 ((seenR n rs).set x (⟨A28, g29, k30, cp31, regM andB (leftL (⟨0, 0, W, H⟩ : Rect) (ts.drop (n - k))) (canR [(⟨(shwR it.t.W it.t.H it.t.X it.t.Y it.t.s it.t.ca it.t.cb it.t.cc it.t.cd).x0, (shwR it.t.W it.t.H it.t.X it.t.Y it.t.s it.t.ca it.t.cb it.t.cc it.t.cd).y0, (shwR it.t.W it.t.H it.t.X it.t.Y it.t.s it.t.ca it.t.cb it.t.cc it.t.cd).x1, (shwR it.t.W it.t.H it.t.X it.t.Y it.t.s it.t.ca it.t.cb it.t.cc it.t.cd).y1⟩ : Rect)])⟩ : RS)) (seenR n (rs ++ [rr34])) rfl (by rw [hrr34]; exact seenR_set (by omega)) ?_
    refine cM ?_
    have hpa := RS.rws_app (t := rr34) hk
    refine cont_bun 2 14 k (RS.rws rs) (RS.rws (rs ++ [rr34])) rr34.rwG rfl rfl (by rw [hrr34]; exact Vw.rowRd) rfl (by decide) hpa.1 hpa.2 ?_
    refine nL [] ?_
    refine fG 15 <| cont_rowEqR 0 (regM lessB (leftL (⟨0, 0, W, H⟩ : Rect) (ts.drop (n - k))) (hidP it.t.W it.t.H it.t.X it.t.Y it.t.s it.t.al it.t.op ⟨it.t.ca, it.t.cb, it.t.cc, it.t.cd⟩)) (leftL (⟨0, 0, W, H⟩ : Rect) (ts.drop (n - (k + 1)))) rfl (by rw [show n - k = x + 1 by omega, show n - (k + 1) = x by omega, leftL_step (ts := ts) (i := x) (by omega), hto]; rfl) ?_
    refine fG 7 <| fG 6 <| fG 5 <| fG 4 <| fG 3 <| fG 2 <| fG 1 <| cont_pick [1, 2, 3, 4, 5, 6, 7, 0, 8, 9, 10, 11, 12, 13] [z16_, e16b_, e16q_, .ro kb14 [.slice A n cap] 27, rD (A) g o n 14 (dvals IT.cells its), .gen (bunO (k + 1) (RS.rws (rs ++ [rr34]))), .cells b13 [.slice A53 k55 cp56] 58 true, .gen (rowE (A53) g54 k55 cp56 53 4 (rvals (leftL (⟨0, 0, W, H⟩ : Rect) (ts.drop (n - (k + 1))))) true), oE b5 1 1 53 4 (rvals [(⟨0, 0, W, H⟩ : Rect)]), .cells b4 [sL r3 n n] 77 true, oE r3 n n 58 1 (dvals RS.cells (seenR n (rs ++ [rr34]))), .gen (subE n (IT.hds 118 its)), .gen (subE n (IT.pxs its)), .gen (subE n (TS.ops ts))] (by decide) rfl rfl ?_
    refine rq_next (k + 1, rs ++ [rr34], A53, g54, k55, cp56) (show (rs ++ [rr34]).length = (k + 1) ∧ (k + 1) = (pre ++ [(x, it)]).length ∧ SeenOk (⟨0, 0, W, H⟩ : Rect) ts n (rs ++ [rr34]) from ⟨by rw [List.length_append, List.length_singleton, hk], by rw [List.length_append, List.length_singleton]; omega, hrs.step (x := x) (by omega) (by rw [hrr34, show n - k = x + 1 by omega]; show _ = regM andB _ (canR [(dget ts x).bx]); rw [hto]; rfl)⟩) rfl
  ·
    rintro D60_ xs_ ⟨k, rs, Al, gl, kl, cl⟩ hS_ hinv59_
    replace hinv59_ : rs.length = k ∧ k = xs_.length ∧ SeenOk (⟨0, 0, W, H⟩ : Rect) ts n rs := hinv59_
    replace hS_ : BackI its n xs_ ∧ xs_.length = n := hS_
    refine cM ?_
    obtain ⟨hk, hkp, hrs⟩ := hinv59_
    have hkn : k = n := by rw [hkp]; exact hS_.2
    refine cont_rowEqD (cel := RS.cells) (z := 1) 8 (seenR n rs) (rs.reverse) rfl (seenR_all (by omega)) ?_
    refine cont_rowEqR 5 (leftL (⟨0, 0, W, H⟩ : Rect) (ts.drop (n - k))) (leftL (⟨0, 0, W, H⟩ : Rect) ts) rfl (by rw [show n - k = 0 by omega]; rfl) ?_
    refine blk_normal <| zN <| cSq <| drawn_enter 4 [] rfl (by kernel_rfl) ?_
    refine tD 0 [] [(0, 7), (1, 4), (2, 0), (3, 0)] 0 [3, 2, 1, 0] [(4, sL r3 n n), (5, .slice Al kl cl)] [37, 38] ?_ (hpo := (pok_then pok_np))
    refine dD <| zN <| cont_ret <| mark_end 0 rfl (.inl rfl) ?_
    refine cM ?_
    refine rB rfl 0 0 (sL r3 n n) (.slice Al kl cl) fun w hT => ?_
    replace hT := hT.erase 11 (fun e h hw => by cases h; first | rfl | cases hw)
    replace hT := hT.erase 10 (fun e h hw => by cases h; first | rfl | cases hw)
    replace hT := hT.erase 9 (fun e h hw => by cases h; first | rfl | cases hw)
    replace hT := hT.erase 7 (fun e h hw => by cases h; first | rfl | cases hw)
    replace hT := hT.erase 6 (fun e h hw => by cases h; first | rfl | cases hw)
    replace hT := hT.erase 4 (fun e h hw => by cases h; first | rfl | cases hw)
    replace hT := hT.erase 2 (fun e h hw => by cases h; first | rfl | cases hw)
    replace hT := hT.erase 1 (fun e h hw => by cases h; first | rfl | cases hw)
    replace hT := hT.erase 0 (fun e h hw => by cases h; first | rfl | cases hw)
    subst hkn
    exact ⟨rs, _, _, _, _, _, rfl, ⟨hk, hrs⟩, hT⟩
  ·
    intro D_  c_ h_; exact h_.elim
  ·
    intro D_ id_ c_ h_; exact h_.elim
end Go.Proofs.Ytlfahohbkgdabaa
namespace Go.Proofs.Ytlfahohbkgdabaa
open Go Go.RowKit
set_option maxRecDepth 100000
set_option maxHeartbeats 8000000
theorem refPlaceF5 (W H : Int) (r n cap : Nat) (px : List Int) (X Y s al ca cb cc cd : Int) (Az : Option Addr) (gz oz nz capz : Nat) (xsz : List Rect) (w : World) (hT0 : Tab w w [rD (some ⟨r, 0, none⟩) r 0 n 1 (cV px), rD (Az) gz oz nz 4 (rvals xsz)]) (hok : ImgOk W H n px) (hs : 1 ≤ s ∧ s ≤ 8) (hX : -1000000 ≤ X ∧ X ≤ 1000000) (hY : -1000000 ≤ Y ∧ Y ≤ 1000000) (hnz : nz ≤ 200000) :
    Calls Try.prog 66 #[.agg #[.bool true, iQ W, iQ H, sL r n cap, iQ X, iQ Y, iQ s, iQ al, iQ ca, iQ cb, iQ cc, iQ cd], .slice Az nz capz, .bool false] w fun e w' => ∃ (A_ : Option Addr) (g_ k_ cp_ : Nat), e = .returned (.slice A_ k_ cp_) ∧ Tab w w' [.gen (rowE (A_) g_ k_ cp_ 53 4 (rvals (canR (plcL W X Y s (plcB ca cb cc cd xsz) n))) true)] := by
 have hw1 := hok.w1
 have hw2 := hok.w2
 have hh1 := hok.h1
 have hh2 := hok.h2
 have hnum := hok.num
 have hlen := hok.len
 have hle := hok.le
 obtain ⟨hraz, hrlz⟩ := Rd.factsR (hT0.ok 1 _ rfl)
 refine eN [(0, .agg #[.bool true, iq W, iq H, .slice (pB r) n cap, iq X, iq Y, iq s, iq al, iq ca, iq cb, iq cc, iq cd]), (1, .slice Az nz capz), (2, .bool false)] Try.func66 Try.ntmps66 rfl hT0 ?_
 refine zSR 2 <| bW [0, 0] 2 0 (fun b1 => [(1, .slice Az nz capz), (2, .bool false), (3, .pointer (pB b1))]) (fun b1 => [.cells b1 [.bool true, iq W, iq H, .slice (pB r) n cap, iq X, iq Y, iq s, iq al, iq ca, iq cb, iq cc, iq cd] 93 true, rD (pB r) r 0 n 1 (cV px), rD (Az) gz oz nz 4 (rvals xsz)]) [1, 2, 3] fun b1 => ?_
 refine zDNSR 1 <| bD [0] 1 0 [(7, .slice none 0 0)] [] <| zDNSSR 1 <| bD [0] 1 0 [(8, iq 0)] [] <| zDNB <| cont_nilrow 53 4 ?_
 refine cont_rowEqR 0 ([]) (plcL W X Y s (plcB ca cb cc cd xsz) 0) rfl ((plcL_zero _ _ _ _ _).symm) ?_
 refine cL (α := Nat × Option Addr × Nat × Nat × Nat) (fun x_ : Nat × Option Addr × Nat × Nat × Nat => x_.1 ≤ n) (fun x_ : Nat × Option Addr × Nat × Nat × Nat => [(1, .slice Az nz capz), (2, .bool false), (3, .pointer (pB b1)), (7, .slice x_.2.1 x_.2.2.2.1 x_.2.2.2.2), (8, iq ((x_.1 : Nat) : Int))]) (fun x_ : Nat × Option Addr × Nat × Nat × Nat => [.gen (rowE (x_.2.1) x_.2.2.1 x_.2.2.2.1 x_.2.2.2.2 53 4 (rvals (plcL W X Y s (plcB ca cb cc cd xsz) x_.1)) true), .cells b1 [.bool true, iq W, iq H, .slice (pB r) n cap, iq X, iq Y, iq s, iq al, iq ca, iq cb, iq cc, iq cd] 93 true, rD (pB r) r 0 n 1 (cV px), rD (Az) gz oz nz 4 (rvals xsz)]) (fun x_ : Nat × Option Addr × Nat × Nat × Nat => n - x_.1) (0, none, 0, 0, 0) (show (0) ≤ n from (by omega)) ?_
 rintro ⟨i, A, g, k, cp⟩ hinv3_
 replace hinv3_ : i ≤ n := hinv3_
 have hi := hinv3_
 have hem := emod_range i hw1
 have hpl := plcL_len W X Y s (plcB ca cb cc cd xsz) i
 have hbx : i < n → _ := fun h_ => box_bd (W := W) (H := H) (i := i) ⟨hw1, hw2⟩ ⟨hh1, hh2⟩ hnum h_
 have hge : i < n → InC (px.getD i 0) := fun h_ => hok.get h_
 refine zSSR 6 <| bD [0, 0, 0, 1, 0, 0] 6 0 [(17, .bool (decide (((i : Nat) : Int) < (n : Int))))] [12, 13, 14, 15, 16] <| zDN <| sD 17 rfl (fun c4_ => ?_) fun c4_ => ?_
 ·
  refine zTKNSBSR 6 <| bD [0, 0, 0, 1] 4 2 [(20, iq ((i : Nat) : Int)), (23, iq W)] [21, 22] <| pS 5 1 <| sS 24 (bopS .rem 3 (.tmp 20) (.tmp 23) (iq ((i : Nat) : Int)) (iq W)) (iq (((i : Nat) : Int).tmod W)) (fun w hT => run_rem (by omega) w) <| rC 24 (iq (((i : Nat) : Int) % W)) rfl (tmodI (by omega)) <| bD [0] 6 0 [(9, iq (((i : Nat) : Int) % W))] [] <| zDNSR 6 <| bD [0, 0, 0, 1] 4 2 [(25, iq ((i : Nat) : Int)), (28, iq W)] [26, 27] <| pS 5 1 <| sS 29 (bopS .quo 3 (.tmp 25) (.tmp 28) (iq ((i : Nat) : Int)) (iq W)) (iq (IntKind.i64.wrap (((i : Nat) : Int).tdiv W))) (fun w hT => run_quo (by omega) w) <| rC 29 (iq (((i : Nat) : Int) / W)) rfl (tdivI (by omega) (by omega) (by omega)) <| bD [0] 6 0 [(10, iq (((i : Nat) : Int) / W))] [] <| zDNSR 9 <| bD [0, 0, 1, 0] 4 5 [(32, .slice (pB r) n cap), (33, iq ((i : Nat) : Int))] [30, 31] <| pS 5 4 <| sS 34 (Instr.indexAt 39 (.slice (pB r) n cap) (iq ((i : Nat) : Int))) (.pointer (some ⟨r, (i : Nat), none⟩)) (fun w hT => rI 24 1 w) <| pS 6 3 <| sS 35 (Instr.loadAt 24 (.pointer (some ⟨r, (i : Nat), none⟩))) (cQ (px.getD (i : Nat) 0)) (fun w hT => rL (Rd.cell0 (hT.ok 2 _ rfl) ((i : Nat)) _ (ivals_get (by omega)))) ?_
  obtain ⟨hge0, hge1⟩ := hge (by omega)
  refine pS 7 2 <| cP 36 (.agg #[iq (pa (px.getD (i : Nat) 0)), iq (pr (px.getD (i : Nat) 0)), iq (pg (px.getD (i : Nat) 0)), iq (pb (px.getD (i : Nat) 0))]) (fun w hT => refParts (px.getD (i : Nat) 0) w (by omega) (by omega)) <| bW [0, 0] 9 0 (fun b5 => [(1, .slice Az nz capz), (2, .bool false), (3, .pointer (pB b1)), (7, .slice A k cp), (8, iq ((i : Nat) : Int)), (9, iq (((i : Nat) : Int) % W)), (10, iq (((i : Nat) : Int) / W)), (11, .pointer (pB b5))]) (fun b5 => [.cells b5 [iq (pa (px.getD (i : Nat) 0)), iq (pr (px.getD (i : Nat) 0)), iq (pg (px.getD (i : Nat) 0)), iq (pb (px.getD (i : Nat) 0))] 49 true, .gen (rowE (A) g k cp 53 4 (rvals (plcL W X Y s (plcB ca cb cc cd xsz) i)) true), .cells b1 [.bool true, iq W, iq H, .slice (pB r) n cap, iq X, iq Y, iq s, iq al, iq ca, iq cb, iq cc, iq cd] 93 true, rD (pB r) r 0 n 1 (cV px), rD (Az) gz oz nz 4 (rvals xsz)]) [1, 2, 3, 7, 8, 9, 10, 11] fun b5 => ?_
  refine zDNSSR 11 <| bD [0, 0, 0, 0, 0, 0, 0, 0, 0, 0, 0] 11 0 [(39, undef), (40, undef), (41, undef), (42, undef), (43, undef), (44, undef), (45, undef), (46, undef), (47, .bool false)] [37, 38] <| fG 0 <| zDNFKNSR 11 <| bD [0, 1, 0, 0] 4 7 [(49, .agg #[iq ca, iq cb, iq cc, iq cd]), (50, iq (((i : Nat) : Int) % W)), (51, iq (((i : Nat) : Int) / W))] [48] <| pS 5 6 <| cP 52 (.bool (hasB ca cb cc cd (((i : Nat) : Int) % W) (((i : Nat) : Int) / W))) (fun w hT => refHas ca cb cc cd (((i : Nat) : Int) % W) (((i : Nat) : Int) / W) w) <| bD [0] 6 5 [(53, .bool (hasB ca cb cc cd (((i : Nat) : Int) % W) (((i : Nat) : Int) / W)))] [] <| cSp 53 _ rfl (fun c6_ => ?_) fun c6_ => ?_
  ·
   refine bD [0, 0, 0] 9 2 [(54, .slice Az nz capz), (55, iq (((i : Nat) : Int) % W)), (56, iq (((i : Nat) : Int) / W))] [] <| pS 10 1 <| cP 57 (.bool (hasL xsz (((i : Nat) : Int) % W) (((i : Nat) : Int) / W))) (fun w hT => refHasL Az gz oz nz capz xsz (((i : Nat) : Int) % W) (((i : Nat) : Int) / W) w (hT.viewRo (.cons (i := 3) rfl Vw.rd .nil) rfl) (by omega)) <| bD [0] 11 0 [(58, .bool (hasL xsz (((i : Nat) : Int) % W) (((i : Nat) : Int) / W)))] [] <| zDN <| cSp 58 _ rfl (fun c7_ => ?_) fun c7_ => ?_
   ·
    refine rC 57 (.bool true) rfl (congrArg Value.bool c7_) ?_
    have hB_ : (plcB ca cb cc cd xsz) ((i : Int) % W) ((i : Int) / W) = true := plcB_yes c6_ c7_
    refine cTr rfl <| cRg 43 rfl ?_
    refine fR 0 k A g cp (plcL W X Y s (plcB ca cb cc cd xsz) i) rfl fun hr8_a hr8_l hr8_c hr8_m => ?_
    obtain ⟨hb0, hb1, hb2, hb3⟩ := hbx (by omega)
    have hcx := cell_bd hb0 hb1 hs
    have hcy := cell_bd hb2 hb3 hs
    refine bD [0, 0, 0, 1, 0, 0, 1, 0] 8 35 [(59, .slice A k cp), (62, iq X), (66, iq (IntKind.i64.wrap ((((i : Nat) : Int) % W) * s)))] [60, 61, 63, 64, 65] <| wI 66 ((((i : Nat) : Int) % W) * s) <| bD [0] 9 34 [(67, iq (IntKind.i64.wrap (X + ((((i : Nat) : Int) % W) * s))))] [] <| wI 67 (X + ((((i : Nat) : Int) % W) * s)) <| bS [0, 0, 1, 0, 0, 1, 0] 16 27 [(1, .slice Az nz capz), (2, .bool false), (3, .pointer (pB b1)), (8, iq ((i : Nat) : Int)), (9, iq (((i : Nat) : Int) % W)), (10, iq (((i : Nat) : Int) / W)), (39, undef), (40, undef), (41, undef), (42, undef), (43, undef), (44, undef), (45, undef), (46, undef), (54, .slice Az nz capz), (55, iq (((i : Nat) : Int) % W)), (56, iq (((i : Nat) : Int) / W)), (57, .bool true), (59, .slice A k cp), (67, iq (X + ((((i : Nat) : Int) % W) * s))), (70, iq Y), (74, iq (IntKind.i64.wrap ((((i : Nat) : Int) / W) * s)))] <| wI 74 ((((i : Nat) : Int) / W) * s) <| bD [0] 17 26 [(75, iq (IntKind.i64.wrap (Y + ((((i : Nat) : Int) / W) * s))))] [] <| wI 75 (Y + ((((i : Nat) : Int) / W) * s)) <| bD [0, 0, 1, 0, 0, 1, 0] 24 19 [(78, iq X), (82, iq (IntKind.i64.wrap ((((i : Nat) : Int) % W) * s)))] [76, 77, 79, 80, 81] <| wI 82 ((((i : Nat) : Int) % W) * s) <| bD [0] 25 18 [(83, iq (IntKind.i64.wrap (X + ((((i : Nat) : Int) % W) * s))))] [] <| wI 83 (X + ((((i : Nat) : Int) % W) * s)) <| bD [0, 1, 0] 28 15 [(86, iq (IntKind.i64.wrap ((X + ((((i : Nat) : Int) % W) * s)) + s)))] [84, 85] <| wI 86 ((X + ((((i : Nat) : Int) % W) * s)) + s) <| bD [0, 0, 1, 0, 0, 1, 0] 35 8 [(89, iq Y), (93, iq (IntKind.i64.wrap ((((i : Nat) : Int) / W) * s)))] [87, 88, 90, 91, 92] <| wI 93 ((((i : Nat) : Int) / W) * s) <| bD [0] 36 7 [(94, iq (IntKind.i64.wrap (Y + ((((i : Nat) : Int) / W) * s))))] [] <| wI 94 (Y + ((((i : Nat) : Int) / W) * s)) <| bD [0, 1, 0] 39 4 [(97, iq (IntKind.i64.wrap ((Y + ((((i : Nat) : Int) / W) * s)) + s)))] [95, 96] <| wI 97 ((Y + ((((i : Nat) : Int) / W) * s)) + s) <| bW [0, 0] 41 2 (fun b9 => [(1, .slice Az nz capz), (2, .bool false), (3, .pointer (pB b1)), (8, iq ((i : Nat) : Int)), (39, undef), (40, undef), (41, undef), (42, undef), (43, undef), (44, undef), (45, undef), (46, undef), (54, .slice Az nz capz), (55, iq (((i : Nat) : Int) % W)), (56, iq (((i : Nat) : Int) / W)), (57, .bool true), (59, .slice A k cp), (99, .slice (pB b9) 1 1)]) (fun b9 => [.cells b9 [iq (X + ((((i : Nat) : Int) % W) * s)), iq (Y + ((((i : Nat) : Int) / W) * s)), iq ((X + ((((i : Nat) : Int) % W) * s)) + s), iq ((Y + ((((i : Nat) : Int) / W) * s)) + s)] 53 true, .gen (rowE (A) g k cp 53 4 (rvals (plcL W X Y s (plcB ca cb cc cd xsz) i)) true), .cells b1 [.bool true, iq W, iq H, .slice (pB r) n cap, iq X, iq Y, iq s, iq al, iq ca, iq cb, iq cc, iq cd] 93 true, rD (pB r) r 0 n 1 (cV px), rD (Az) gz oz nz 4 (rvals xsz)]) [1, 2, 3, 8, 39, 40, 41, 42, 43, 44, 45, 46, 54, 55, 56, 57, 59, 99] fun b9 => ?_
    refine pS 42 1 <| sSW (α := Option Addr × Nat × Nat) 100 (Builtin.append_ #[58, 58] 58 #[.slice A k cp, .slice (pB b9) 1 1]) (fun x_ => .slice x_.1 (k + 1) x_.2.2) (fun x_ => [.cells b9 [iq (X + ((((i : Nat) : Int) % W) * s)), iq (Y + ((((i : Nat) : Int) / W) * s)), iq ((X + ((((i : Nat) : Int) % W) * s)) + s), iq ((Y + ((((i : Nat) : Int) / W) * s)) + s)] 53 true, .gen (rowE (x_.1) x_.2.1 (k + 1) x_.2.2 53 4 (rvals ((plcL W X Y s (plcB ca cb cc cd xsz) i) ++ [(⟨X + ((((i : Nat) : Int) % W) * s), Y + ((((i : Nat) : Int) / W) * s), (X + ((((i : Nat) : Int) % W) * s)) + s, (Y + ((((i : Nat) : Int) / W) * s)) + s⟩ : Rect)])) true), .cells b1 [.bool true, iq W, iq H, .slice (pB r) n cap, iq X, iq Y, iq s, iq al, iq ca, iq cb, iq cc, iq cd] 93 true, rD (pB r) r 0 n 1 (cV px), rD (Az) gz oz nz 4 (rvals xsz)]) (fun _ => True) (by kernel_rfl) (fun w hT => append_own (n' := (k + 1)) (z := .agg #[iq 0, iq 0, iq 0, iq 0]) hT (i := 1) (bytes := 32) rfl (by kernel_rfl) (by kernel_rfl) rfl (by decide) (by decide) (Rd.ofCells (vals := rvals [(⟨X + ((((i : Nat) : Int) % W) * s), Y + ((((i : Nat) : Int) / W) * s), (X + ((((i : Nat) : Int) % W) * s)) + s, (Y + ((((i : Nat) : Int) / W) * s)) + s⟩ : Rect)]) (hT.ok 0 _ rfl) rfl rfl) (rvals_one [(⟨X + ((((i : Nat) : Int) % W) * s), Y + ((((i : Nat) : Int) / W) * s), (X + ((((i : Nat) : Int) % W) * s)) + s, (Y + ((((i : Nat) : Int) / W) * s)) + s⟩ : Rect)]) (by omega) (rvals_append (plcL W X Y s (plcB ca cb cc cd xsz) i) [(⟨X + ((((i : Nat) : Int) % W) * s), Y + ((((i : Nat) : Int) / W) * s), (X + ((((i : Nat) : Int) % W) * s)) + s, (Y + ((((i : Nat) : Int) / W) * s)) + s⟩ : Rect)]) rfl) ?_
    rintro ⟨A10, g10, cp10⟩ -
    refine fR 1 (k + 1) A10 g10 cp10 ((plcL W X Y s (plcB ca cb cc cd xsz) i) ++ [(⟨X + ((((i : Nat) : Int) % W) * s), Y + ((((i : Nat) : Int) / W) * s), (X + ((((i : Nat) : Int) % W) * s)) + s, (Y + ((((i : Nat) : Int) / W) * s)) + s⟩ : Rect)]) rfl fun hr11_a hr11_l hr11_c hr11_m => ?_
    refine bD [0] 43 0 [(7, .slice A10 (k + 1) cp10)] [] <| fG 0 <| zDbNR 3 <| bD [0, 0] 2 1 [(19, iq (IntKind.i64.wrap (((i : Nat) : Int) + 1)))] [18] <| wI 19 (((i : Nat) : Int) + 1) <| bD [0] 3 0 [(8, iq (((i : Nat) : Int) + 1))] [] <| zDN <| cont_rowEqR 0 ((plcL W X Y s (plcB ca cb cc cd xsz) i) ++ [(⟨X + ((((i : Nat) : Int) % W) * s), Y + ((((i : Nat) : Int) / W) * s), (X + ((((i : Nat) : Int) % W) * s)) + s, (Y + ((((i : Nat) : Int) / W) * s)) + s⟩ : Rect)]) (plcL W X Y s (plcB ca cb cc cd xsz) (i + 1)) rfl (plcL_yes hB_) ?_
    refine cA (i + 1, A10, g10, (k + 1), cp10) (show (i + 1) ≤ n from (by omega))
   refine rC 57 (.bool false) rfl (congrArg Value.bool c7_) ?_
   have hB_ : (plcB ca cb cc cd xsz) ((i : Int) % W) ((i : Int) / W) = false := plcB_no (.inr c7_)
   refine zFKbNR 3 <| bD [0, 0] 2 1 [(19, iq (IntKind.i64.wrap (((i : Nat) : Int) + 1)))] [18] <| wI 19 (((i : Nat) : Int) + 1) <| bD [0] 3 0 [(8, iq (((i : Nat) : Int) + 1))] [] <| zDN <| cont_rowEqR 0 (plcL W X Y s (plcB ca cb cc cd xsz) i) (plcL W X Y s (plcB ca cb cc cd xsz) (i + 1)) rfl (plcL_no hB_) ?_
   refine cA (i + 1, A, g, k, cp) (show (i + 1) ≤ n from (by omega))
  have hB_ : (plcB ca cb cc cd xsz) ((i : Int) % W) ((i : Int) / W) = false := plcB_no (.inl c6_)
  refine bD [0, 0, 0, 0, 0] 11 0 [(54, undef), (55, undef), (56, undef), (57, undef), (58, .bool false)] [] <| zDN <| zFKbNR 3 <| bD [0, 0] 2 1 [(19, iq (IntKind.i64.wrap (((i : Nat) : Int) + 1)))] [18] <| wI 19 (((i : Nat) : Int) + 1) <| bD [0] 3 0 [(8, iq (((i : Nat) : Int) + 1))] [] <| zDN <| cont_rowEqR 0 (plcL W X Y s (plcB ca cb cc cd xsz) i) (plcL W X Y s (plcB ca cb cc cd xsz) (i + 1)) rfl (plcL_no hB_) ?_
  refine cA (i + 1, A, g, k, cp) (show (i + 1) ≤ n from (by omega))
 refine zFXxxeNSR 3 <| fR 0 k A g cp (plcL W X Y s (plcB ca cb cc cd xsz) i) rfl fun hr12_a hr12_l hr12_c hr12_m => ?_
 refine bS [0] 1 2 [(101, .slice A k cp)] <| fG 1 <| pS 2 1 <| cG (d := 102) (α := Option Addr × Nat × Nat × Nat) (fun x_ => .slice x_.1 x_.2.2.1 x_.2.2.2) (fun x_ => [.gen (rowE (x_.1) x_.2.1 x_.2.2.1 x_.2.2.2 53 4 (rvals (canR (plcL W X Y s (plcB ca cb cc cd xsz) i))) true), .gen (rowE (A) g k cp 53 4 (rvals (plcL W X Y s (plcB ca cb cc cd xsz) i)) true), rD (pB r) r 0 n 1 (cV px), rD (Az) gz oz nz 4 (rvals xsz)]) (fun x_ => True) (fun w hT => (refOf A g 0 k cp (plcL W X Y s (plcB ca cb cc cd xsz) i) w (hT.viewRo (.cons (i := 0) rfl Vw.rowRd .nil) rfl) (by omega)).mono fun e w' ⟨A13, g14, k15, cp16, he_, ht_⟩ => ⟨(A13, g14, k15, cp16), he_, trivial, hT.news ht_ rfl⟩) ?_
 rintro ⟨A13, g14, k15, cp16⟩ hf17_
 refine fR 0 k15 A13 g14 cp16 (canR (plcL W X Y s (plcB ca cb cc cd xsz) i)) rfl fun hr18_a hr18_l hr18_c hr18_m => ?_
 refine bS [0] 3 0 [(6, .slice A13 k15 cp16)] <| zDNr <| rA rfl 0 (.slice A13 k15 cp16) fun w hT => ?_
 replace hT := hT.erase 3 (fun e h hw => by cases h; first | rfl | cases hw)
 replace hT := hT.erase 2 (fun e h hw => by cases h; first | rfl | cases hw)
 replace hT := hT.erase 1 (fun e h hw => by cases h; first | rfl | cases hw)
 have hin : i = n := by omega
 subst hin
 exact ⟨_, _, _, _, rfl, hT⟩
end Go.Proofs.Ytlfahohbkgdabaa
