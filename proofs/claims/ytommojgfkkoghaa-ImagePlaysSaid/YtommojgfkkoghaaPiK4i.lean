/- For every two images made of any numbers and colors, and any deeds, the law ImagePlays returns true: whatever is set, filled, copied and written, the answers, and all colors, are the document's. -/
import Derived.Test.YtommojgfkkoghaaPiW4i
import Derived.Test.YtommojgfkkoghaaPiG5
set_option linter.unusedVariables false
set_option linter.unusedSimpArgs false
namespace Go.Proofs.Ytommojgfkkoghaa
open Go Go.RowKit
set_option maxRecDepth 100000
set_option maxHeartbeats 8000000

namespace imagePlays
open Go.ChangeShapes Go.WideShapes Go.ChangeAt Go.RowKit Go.Deep
set_option maxRecDepth 100000 in
theorem lifted (os : Os) (started : os.Started) (H : Type) (enc : TypeId × Value → H) :
    ReturnsInHanded {} Try.checked os 10 .any (Rows.imagePlaysSpec.pre6 enc Try.prog Try.f10 Rows.imagePlaysRow.domain false) (Rows.imagePlaysSpec.post enc Try.prog Try.f10 false true false false) := by
  refine returnsInHanded_of_change (C := Try.checked) own0 started (by kernel_rfl) Try.func10
    (ChangeSpec.witness6 (enc := enc) (C := Try.checked) false ⟨#[], #[.int .i64 0, .int .i64 0, .slice none 0 0, .slice none 0 0, .slice none 0 0], []⟩ 8 (by kernel_rfl) (by kernel_rfl) (by kernel_rfl) (by kernel_rfl)) ?_
  intro W base args ds gs before hval0 hW hcnd _
  have hval : ∀ (j : Nat) t v, Try.f10.params[j]? = some t → args[j]? = some v → Value.okWide Try.prog W .any base t v := hval0
  have hW' := hW
  have hlt : ∀ q ∈ before, q.block < W.heap.size := fun q hq => hW'.lt q hq
  obtain ⟨p, q, hA0, hV, rfl, hfz, hnd⟩ := hW
  have hA : DataW.TrodAll enc Try.prog W 0 (fun _ => true) true Try.f10.params.toList args.toList ds p := hA0
  rw [Try.params10] at hA hval
  obtain ⟨v0, vs0, d0, ds0, p0, q0, hargs, rfl, rfl, h0, r0⟩ := trodAll_cons hA
  obtain ⟨v1, vs1, d1, ds1, p1, q1, rfl, rfl, rfl, h1, r1⟩ := trodAll_cons r0
  obtain ⟨v2, vs2, d2, ds2, p2, q2, rfl, rfl, rfl, h2, r2⟩ := trodAll_cons r1
  obtain ⟨v3, vs3, d3, ds3, p3, q3, rfl, rfl, rfl, h3, r3⟩ := trodAll_cons r2
  obtain ⟨v4, vs4, d4, ds4, p4, q4, rfl, rfl, rfl, h4, r4⟩ := trodAll_cons r3
  obtain ⟨rfl, rfl, rfl⟩ := trodAll_nil r4
  obtain rfl : args = #[v0, v1, v2, v3, v4] := by cases args; simp_all
  obtain ⟨rfl, rfl⟩ := trodVars_none hV
  obtain ⟨a0, rfl, rfl, rfl, wf0⟩ := open_int Try.underlying3 (hval 0 3 v0 rfl rfl) h0
  obtain ⟨a1, rfl, rfl, rfl, wf1⟩ := open_int Try.underlying3 (hval 1 3 v1 rfl rfl) h1
  have hk2 := h2
  obtain ⟨A2, g2, o2, n2, cap2, xs2, rfl, hr2, hl2, hc2, hm2, wf2⟩ := open_nums Try.underlying35 Try.underlying28 (by kernel_rfl) (hval 2 35 v2 rfl rfl) h2
  have hk3 := h3
  obtain ⟨A3, g3, o3, n3, cap3, xs3, rfl, hr3, hl3, hc3, hm3, wf3⟩ := open_nums Try.underlying35 Try.underlying28 (by kernel_rfl) (hval 3 35 v3 rfl rfl) h3
  have hk4 := h4
  obtain ⟨A4, g4, o4, n4, cap4, xs4, rfl, hr4, hl4, hc4, hm4, hg4⟩ := open_list D04.size (by decide) Try.underlying74 (by kernel_rfl) (good := D04.Good) (fun cs n x hl hf => D04.openC cs n x hl hf) (hval 4 74 v4 rfl rfl) h4
  clear hA0 hval0
  simp only [List.append_nil] at hW' hlt
  refine (walkImagePlays a0 a1 A2 g2 o2 n2 cap2 xs2 A3 g3 o3 n3 cap3 xs3 A4 g4 o4 n4 cap4 xs4 W (wf64 wf0) (wf64 wf1) hr2 hl2 hc2 hm2 (fun x hx => wf32 (wf2 x hx)) hr3 hl3 hc3 hm3 (fun x hx => wf32 (wf3 x hx)) hr4 hl4 hc4 hm4 hg4).mono fun e W' ⟨he, hb⟩ => ?_
  subst he
  exact ⟨_, rfl, post_below (pv := []) hW' (fun _ _ _ => (trodAll_cons_mk (shut_bool Try.underlying4 _) trodAll_mk0)) (fun sp hsp => (trodAll_cons_mk (shut_int Try.underlying3 wf0) (trodAll_cons_mk (shut_int Try.underlying3 wf1) (trodAll_cons_mk (trod_keeps laidOut0 (by kernel_rfl) (of_decide_eq_true (by kernel_rfl)) hk2 hb (fun x hx => hlt x (by first | exact hx | simp [hx])) sp (fun q hq => hsp q (by first | exact hq | simp [hq]))) (trodAll_cons_mk (trod_keeps laidOut0 (by kernel_rfl) (of_decide_eq_true (by kernel_rfl)) hk3 hb (fun x hx => hlt x (by first | exact hx | simp [hx])) sp (fun q hq => hsp q (by first | exact hq | simp [hq]))) (trodAll_cons_mk (trod_keeps laidOut0 (by kernel_rfl) (of_decide_eq_true (by kernel_rfl)) hk4 hb (fun x hx => hlt x (by first | exact hx | simp [hx])) sp (fun q hq => hsp q (by first | exact hq | simp [hq]))) trodAll_mk0)))))) (fun _ _ => rfl) (by simp)
    hb (ok_one (by kernel_rfl) rfl (okWide_bool_mk Try.underlying4 _))⟩

theorem over : Rows.imagePlaysRow.holds Try.pinned (OpenSpec.ofChange Rows.imagePlaysSpec) :=
  OpenClaim.holds_of_wide 10 Try.f10 rfl rfl rfl rfl rfl rfl rfl ⟨rfl, rfl, rfl, rfl, rfl⟩ rfl rfl rfl rfl rfl (by kernel_rfl) Try.func10 (by kernel_rfl)
    (of_decide_eq_true (by kernel_rfl)) (by unfold Func.isWrapper; first | (rw [if_pos (by decide +kernel)]; kernel_rfl) | (rw [if_neg (by decide +kernel)]; exact ⟨rfl, rfl⟩))
    (fun os started H enc _ => lifted os started H enc)

theorem proved : Rows.ImagePlaysSaid := over
#print axioms proved
end imagePlays

end Go.Proofs.Ytommojgfkkoghaa

