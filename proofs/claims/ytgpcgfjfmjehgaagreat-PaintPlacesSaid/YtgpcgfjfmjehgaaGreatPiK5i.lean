/- For every case, every list of rectangles and every color the law PaintPlaces returns true: where a layer's points are shown is the document's, and a change of its image is seen there alone. -/
import Derived.Test.YtgpcgfjfmjehgaaGreatPiW5i
import Derived.Test.YtgpcgfjfmjehgaaGreatPiRowR
set_option linter.unusedVariables false
set_option linter.unusedSimpArgs false
namespace Go.Proofs.YtgpcgfjfmjehgaaGreat
open Go Go.RowKit
set_option maxRecDepth 100000
set_option maxHeartbeats 8000000

section
open Go.ChangeShapes Go.WideShapes Go.ChangeAt Go.RowKit Go.Deep
theorem open32_0_PaintPlaces {H : Type} {enc : TypeId × Value → H} {W : World} {v : Value} {d : DataW H} {ps : List MemPlace} (hval : Value.okWide Tryz.prog W .any 0 32 v) (h : DataW.Trod enc Tryz.prog W 0 (fun _ => true) true 32 v d ps) :
    ∃ (x0 : Bool) (x1 : Int) (x2 : Int) (A3 : Option Addr) (g3 o3 m3 k3 : Nat) (x3 : List Int) (x4 : Int) (x5 : Int) (x6 : Int) (x7 : Int) (x8 : Int) (x9 : Int) (x10 : Int) (x11 : Int) (x12 : Int) (x13 : Int) (A14 : Option Addr) (g14 o14 m14 k14 : Nat) (x14 : List Int), v = .agg #[.bool x0, .int .i64 x1, .int .i64 x2, .slice A3 m3 k3, .int .i64 x4, .int .i64 x5, .int .i64 x6, .int .i64 x7, .int .i64 x8, .int .i64 x9, .int .i64 x10, .int .i64 x11, .int .i64 x12, .int .i64 x13, .slice A14 m14 k14] ∧ (Lit.int .i64 x1).wf = true ∧ (Lit.int .i64 x2).wf = true ∧ Rd W A3 g3 o3 m3 1 (ivals .u32 x3) ∧ x3.length = m3 ∧ m3 ≤ k3 ∧ k3 ≤ maxLen ∧ (∀ x ∈ x3, (Lit.int .u32 x).wf = true) ∧ (Lit.int .i64 x4).wf = true ∧ (Lit.int .i64 x5).wf = true ∧ (Lit.int .i64 x6).wf = true ∧ (Lit.int .i64 x7).wf = true ∧ (Lit.int .i64 x8).wf = true ∧ (Lit.int .i64 x9).wf = true ∧ (Lit.int .i64 x10).wf = true ∧ (Lit.int .i64 x11).wf = true ∧ (Lit.int .i64 x12).wf = true ∧ (Lit.int .i64 x13).wf = true ∧ Rd W A14 g14 o14 m14 1 (ivals .u32 x14) ∧ x14.length = m14 ∧ m14 ≤ k14 ∧ k14 ≤ maxLen ∧ (∀ x ∈ x14, (Lit.int .u32 x).wf = true) := by
  obtain ⟨cs, rfl, hsz⟩ := okWide_struct Tryz.underlying32 hval
  obtain ⟨l⟩ := cs
  have hl : l.length = 15 := hsz.trans (by kernel_rfl)
  match l, hl with
  | [c0, c1, c2, c3, c4, c5, c6, c7, c8, c9, c10, c11, c12, c13, c14], _ =>
    obtain ⟨fuel, hf⟩ := h
    replace hf : DataW.trod enc Tryz.prog W 0 (fun _ => true) true fuel 32 [c0, c1, c2, c3, c4, c5, c6, c7, c8, c9, c10, c11, c12, c13, c14] = _ := hf
    obtain ⟨n1, y1, t1⟩ := trod_sub Tryz.underlying32 hf (i := 0) rfl (ty := 30) rfl (cs' := [c0, c1, c2, c3, c4, c5, c6, c7, c8, c9, c10, c11]) (by kernel_rfl)
    obtain ⟨n2, y2, t2⟩ := trod_sub Tryz.underlying30 t1 (i := 0) rfl (ty := 4) rfl (cs' := [c0]) (by kernel_rfl)
    obtain ⟨x0, rfl⟩ := open_boolC Tryz.underlying4 t2
    obtain ⟨n3, y3, t3⟩ := trod_sub Tryz.underlying30 t1 (i := 1) rfl (ty := 24) rfl (cs' := [c1, c2, c3]) (by kernel_rfl)
    obtain ⟨n4, y4, t4⟩ := trod_sub Tryz.underlying24 t3 (i := 0) rfl (ty := 3) rfl (cs' := [c1]) (by kernel_rfl)
    obtain ⟨x1, rfl, w1⟩ := open_intC Tryz.underlying3 t4
    obtain ⟨n5, y5, t5⟩ := trod_sub Tryz.underlying24 t3 (i := 1) rfl (ty := 3) rfl (cs' := [c2]) (by kernel_rfl)
    obtain ⟨x2, rfl, w2⟩ := open_intC Tryz.underlying3 t5
    obtain ⟨n6, y6, t6⟩ := trod_sub Tryz.underlying24 t3 (i := 2) rfl (ty := 22) rfl (cs' := [c3]) (by kernel_rfl)
    obtain ⟨A3, g3, o3, m3, k3, x3, rfl, hr3, hl3, hc3, hm3, w3⟩ := open_numsC Tryz.underlying22 Tryz.underlying35 (by kernel_rfl) t6
    obtain ⟨n7, y7, t7⟩ := trod_sub Tryz.underlying30 t1 (i := 2) rfl (ty := 26) rfl (cs' := [c4, c5]) (by kernel_rfl)
    obtain ⟨n8, y8, t8⟩ := trod_sub Tryz.underlying26 t7 (i := 0) rfl (ty := 3) rfl (cs' := [c4]) (by kernel_rfl)
    obtain ⟨x4, rfl, w4⟩ := open_intC Tryz.underlying3 t8
    obtain ⟨n9, y9, t9⟩ := trod_sub Tryz.underlying26 t7 (i := 1) rfl (ty := 3) rfl (cs' := [c5]) (by kernel_rfl)
    obtain ⟨x5, rfl, w5⟩ := open_intC Tryz.underlying3 t9
    obtain ⟨n10, y10, t10⟩ := trod_sub Tryz.underlying30 t1 (i := 3) rfl (ty := 3) rfl (cs' := [c6]) (by kernel_rfl)
    obtain ⟨x6, rfl, w6⟩ := open_intC Tryz.underlying3 t10
    obtain ⟨n11, y11, t11⟩ := trod_sub Tryz.underlying30 t1 (i := 4) rfl (ty := 3) rfl (cs' := [c7]) (by kernel_rfl)
    obtain ⟨x7, rfl, w7⟩ := open_intC Tryz.underlying3 t11
    obtain ⟨n12, y12, t12⟩ := trod_sub Tryz.underlying30 t1 (i := 5) rfl (ty := 28) rfl (cs' := [c8, c9, c10, c11]) (by kernel_rfl)
    obtain ⟨n13, y13, t13⟩ := trod_sub Tryz.underlying28 t12 (i := 0) rfl (ty := 3) rfl (cs' := [c8]) (by kernel_rfl)
    obtain ⟨x8, rfl, w8⟩ := open_intC Tryz.underlying3 t13
    obtain ⟨n14, y14, t14⟩ := trod_sub Tryz.underlying28 t12 (i := 1) rfl (ty := 3) rfl (cs' := [c9]) (by kernel_rfl)
    obtain ⟨x9, rfl, w9⟩ := open_intC Tryz.underlying3 t14
    obtain ⟨n15, y15, t15⟩ := trod_sub Tryz.underlying28 t12 (i := 2) rfl (ty := 3) rfl (cs' := [c10]) (by kernel_rfl)
    obtain ⟨x10, rfl, w10⟩ := open_intC Tryz.underlying3 t15
    obtain ⟨n16, y16, t16⟩ := trod_sub Tryz.underlying28 t12 (i := 3) rfl (ty := 3) rfl (cs' := [c11]) (by kernel_rfl)
    obtain ⟨x11, rfl, w11⟩ := open_intC Tryz.underlying3 t16
    obtain ⟨n17, y17, t17⟩ := trod_sub Tryz.underlying32 hf (i := 1) rfl (ty := 3) rfl (cs' := [c12]) (by kernel_rfl)
    obtain ⟨x12, rfl, w12⟩ := open_intC Tryz.underlying3 t17
    obtain ⟨n18, y18, t18⟩ := trod_sub Tryz.underlying32 hf (i := 2) rfl (ty := 3) rfl (cs' := [c13]) (by kernel_rfl)
    obtain ⟨x13, rfl, w13⟩ := open_intC Tryz.underlying3 t18
    obtain ⟨n19, y19, t19⟩ := trod_sub Tryz.underlying32 hf (i := 3) rfl (ty := 22) rfl (cs' := [c14]) (by kernel_rfl)
    obtain ⟨A14, g14, o14, m14, k14, x14, rfl, hr14, hl14, hc14, hm14, w14⟩ := open_numsC Tryz.underlying22 Tryz.underlying35 (by kernel_rfl) t19
    exact ⟨x0, x1, x2, A3, g3, o3, m3, k3, x3, x4, x5, x6, x7, x8, x9, x10, x11, x12, x13, A14, g14, o14, m14, k14, x14, rfl, w1, w2, hr3, hl3, hc3, hm3, w3, w4, w5, w6, w7, w8, w9, w10, w11, w12, w13, hr14, hl14, hc14, hm14, w14⟩
end

namespace paintPlaces
open Go.ChangeShapes Go.WideShapes Go.ChangeAt Go.RowKit Go.Deep
set_option maxRecDepth 100000 in
theorem lifted (os : Os) (started : os.Started) (H : Type) (enc : TypeId × Value → H) :
    ReturnsInHanded {} Tryz.checked os 4 .any (Rows.paintPlacesSpec.pre6 enc Tryz.prog Tryz.f4 Rows.paintPlacesRow.domain false) (Rows.paintPlacesSpec.post enc Tryz.prog Tryz.f4 false true false false) := by
  refine returnsInHanded_of_change (C := Tryz.checked) own0 started (by kernel_rfl) Tryz.func4
    (ChangeSpec.witness6 (enc := enc) (C := Tryz.checked) false ⟨#[], #[.agg #[.bool false, .int .i64 0, .int .i64 0, .slice none 0 0, .int .i64 0, .int .i64 0, .int .i64 0, .int .i64 0, .int .i64 0, .int .i64 0, .int .i64 0, .int .i64 0, .int .i64 0, .int .i64 0, .slice none 0 0], .slice none 0 0, .int .u32 0], []⟩ 8 (by kernel_rfl) (by kernel_rfl) (by kernel_rfl) (by kernel_rfl)) ?_
  intro W base args ds gs before hval0 hW hcnd _
  have hval : ∀ (j : Nat) t v, Tryz.f4.params[j]? = some t → args[j]? = some v → Value.okWide Tryz.prog W .any base t v := hval0
  have hW' := hW
  have hlt : ∀ q ∈ before, q.block < W.heap.size := fun q hq => hW'.lt q hq
  obtain ⟨p, q, hA0, hV, rfl, hfz, hnd⟩ := hW
  have hA : DataW.TrodAll enc Tryz.prog W 0 (fun _ => true) true Tryz.f4.params.toList args.toList ds p := hA0
  rw [Tryz.params4] at hA hval
  obtain ⟨v0, vs0, d0, ds0, p0, q0, hargs, rfl, rfl, h0, r0⟩ := trodAll_cons hA
  obtain ⟨v1, vs1, d1, ds1, p1, q1, rfl, rfl, rfl, h1, r1⟩ := trodAll_cons r0
  obtain ⟨v2, vs2, d2, ds2, p2, q2, rfl, rfl, rfl, h2, r2⟩ := trodAll_cons r1
  obtain ⟨rfl, rfl, rfl⟩ := trodAll_nil r2
  obtain rfl : args = #[v0, v1, v2] := by cases args; simp_all
  obtain ⟨rfl, rfl⟩ := trodVars_none hV
  have hk0 := h0
  obtain ⟨x0_0, x1_0, x2_0, A3_0, g3_0, o3_0, m3_0, k3_0, x3_0, x4_0, x5_0, x6_0, x7_0, x8_0, x9_0, x10_0, x11_0, x12_0, x13_0, A14_0, g14_0, o14_0, m14_0, k14_0, x14_0, rfl, w1_0, w2_0, hr3_0, hl3_0, hc3_0, hm3_0, w3_0, w4_0, w5_0, w6_0, w7_0, w8_0, w9_0, w10_0, w11_0, w12_0, w13_0, hr14_0, hl14_0, hc14_0, hm14_0, w14_0⟩ := open32_0_PaintPlaces (hval 0 32 v0 rfl rfl) h0
  have hk1 := h1
  obtain ⟨A1, g1, o1, n1, cap1, xs1, rfl, hr1, hl1, hc1, hm1, wf1⟩ := open_rects Tryz.underlying33 Tryz.underlying28 rfl rfl rfl rfl rfl rfl rfl rfl Tryz.underlying3 (by kernel_rfl) (by kernel_rfl) (hval 1 33 v1 rfl rfl) h1
  obtain ⟨a2, rfl, rfl, rfl, wf2⟩ := open_int Tryz.underlying35 (hval 2 35 v2 rfl rfl) h2
  clear hA0 hval0
  simp only [List.append_nil] at hW' hlt
  refine (walkPaintPlaces x0_0 x1_0 x2_0 A3_0 g3_0 o3_0 m3_0 k3_0 x3_0 x4_0 x5_0 x6_0 x7_0 x8_0 x9_0 x10_0 x11_0 x12_0 x13_0 A14_0 g14_0 o14_0 m14_0 k14_0 x14_0 A1 g1 o1 n1 cap1 xs1 a2 W (wf64 w1_0) (wf64 w2_0) hr3_0 hl3_0 hc3_0 hm3_0 (fun x hx => wf32 (w3_0 x hx)) (wf64 w4_0) (wf64 w5_0) (wf64 w6_0) (wf64 w7_0) (wf64 w8_0) (wf64 w9_0) (wf64 w10_0) (wf64 w11_0) (wf64 w12_0) (wf64 w13_0) hr14_0 hl14_0 hc14_0 hm14_0 (fun x hx => wf32 (w14_0 x hx)) hr1 hl1 hc1 hm1 wf1 (wf32 wf2)).mono fun e W' ⟨he, hb⟩ => ?_
  subst he
  exact ⟨_, rfl, post_below (pv := []) hW' (fun _ _ _ => (trodAll_cons_mk (shut_bool Tryz.underlying4 _) trodAll_mk0)) (fun sp hsp => (trodAll_cons_mk (trod_keeps laidOut0 (by kernel_rfl) (of_decide_eq_true (by kernel_rfl)) hk0 hb (fun x hx => hlt x (by first | exact hx | simp [hx])) sp (fun q hq => hsp q (by first | exact hq | simp [hq]))) (trodAll_cons_mk (trod_keeps laidOut0 (by kernel_rfl) (of_decide_eq_true (by kernel_rfl)) hk1 hb (fun x hx => hlt x (by first | exact hx | simp [hx])) sp (fun q hq => hsp q (by first | exact hq | simp [hq]))) (trodAll_cons_mk (shut_int Tryz.underlying35 wf2) trodAll_mk0)))) (fun _ _ => rfl) (by simp)
    hb (ok_one (by kernel_rfl) rfl (okWide_bool_mk Tryz.underlying4 _))⟩

theorem over : Rows.paintPlacesRow.holds Tryz.pinned (OpenSpec.ofChange Rows.paintPlacesSpec) :=
  OpenClaim.holds_of_wide 4 Tryz.f4 rfl rfl rfl rfl rfl rfl rfl ⟨rfl, rfl, rfl, rfl, rfl⟩ rfl rfl rfl rfl rfl (by kernel_rfl) Tryz.func4 (by kernel_rfl)
    (of_decide_eq_true (by kernel_rfl)) (by unfold Func.isWrapper; first | (rw [if_pos (by decide +kernel)]; kernel_rfl) | (rw [if_neg (by decide +kernel)]; exact ⟨rfl, rfl⟩))
    (fun os started H enc _ => lifted os started H enc)

theorem proved : Rows.PaintPlacesSaid := over
#print axioms proved
end paintPlaces

end Go.Proofs.YtgpcgfjfmjehgaaGreat

