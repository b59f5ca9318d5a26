/- Texts of this proof's own, put together: what each holds is told ahead of it. -/
import Derived.Test.YtommojgfkkoghaaPiG3
import Derived.Test.YtommojgfkkoghaaProg
import Derived.Test.YtommojgfkkoghaaPiG0
import Derived.Lib.SlicesCompact
import Derived.Test.YtommojgfkkoghaaPiG1
import Derived.Lib.SliceRun
/- Contracts of functions of the given program, printed by a program of this project. -/
set_option linter.unusedVariables false
set_option linter.unusedSimpArgs false
namespace Go.Proofs.Ytommojgfkkoghaa
open Go Go.RowKit
set_option maxRecDepth 100000
set_option maxHeartbeats 8000000

theorem refCovers (a b c d a' b' c' d' : Int) (w : World) :
    Calls Try.prog 65 #[.agg #[.int .i64 a, .int .i64 b, .int .i64 c, .int .i64 d], .agg #[.int .i64 a', .int .i64 b', .int .i64 c', .int .i64 d']] w fun e w' => e = .returned (.bool (coversB a b c d a' b' c' d')) ∧ Below w.heap.size w w' := by
 refine enter 33 [(0, .agg #[iq a, iq b, iq c, iq d]), (1, .agg #[iq a', iq b', iq c', iq d'])] [] Try.func65 rfl Try.ntmps65 rfl (by kernel_rfl) (Tab.start w) ?_
 refine cont_seq ?_
 refine cont_region 3 rfl ?_
 refine batch2 [0, 0, 0] 3 0 (fun b1 b2 => [(2, .pointer (pB b1)), (3, .pointer (pB b2))]) (fun b1 b2 => [.cells b2 [iq a', iq b', iq c', iq d'] 32 true, .cells b1 [iq a, iq b, iq c, iq d] 32 true]) rfl rfl [2, 3] (fun _ _ => rfl) (fun b1 b2 => by kernel_rfl) (fun b1 b2 => by kernel_rfl) (fun b1 b2 => ?_)
 refine cont_done ?_
 refine then_normal ?_
 refine cont_seq ?_
 refine cont_seq ?_
 refine cont_region 2 rfl ?_
 refine bS [0] 1 1 [(2, .pointer (pB b1)), (3, .pointer (pB b2)), (5, .agg #[iq a', iq b', iq c', iq d'])] ?_
 refine pl_step 2 0 rfl rfl ?_
 refine call_pure (d := 6) (.bool (emptyB a' b' c' d')) (by kernel_rfl) (fun w hT => refEmpty a' b' c' d' w) ?_
 refine cont_done ?_
 refine then_normal ?_
 refine cont_split 6 (emptyB a' b' c' d') rfl (fun c3_ => ?_) (fun c3_ => ?_)
 ·
  refine cont_true rfl ?_
  refine cont_seq ?_
  refine cont_region 1 rfl ?_
  refine bS [0] 1 0 [(4, .bool true)] ?_
  refine cont_forget 0 rfl ?_
  refine cont_forget 0 rfl ?_
  refine cont_done ?_
  refine then_normal ?_
  refine cont_ret ?_
  refine then_ret ?_
  refine ret_one (.inl rfl) rfl 0 (.bool true) (by kernel_rfl) (by kernel_rfl) (fun w hT => ?_)
  exact ⟨ret_bool (by simp [coversB, *] <;> omega), hT.post rfl⟩
 refine cont_false rfl ?_
 refine cont_skip ?_
 refine then_normal ?_
 refine cont_seq ?_
 refine cont_region 27 rfl ?_
 refine bS [0, 1, 0, 0, 0, 0] 6 21 [(2, .pointer (pB b1)), (3, .pointer (pB b2)), (12, .bool (decide (a ≤ a')))] ?_
 refine cont_split 12 (decide (a ≤ a')) rfl (fun c4_ => ?_) (fun c4_ => ?_)
 ·
  replace c4_ := of_decide_eq_true c4_
  refine bS [0, 1, 0, 0, 0, 0, 0] 13 14 [(2, .pointer (pB b1)), (3, .pointer (pB b2)), (19, .bool (decide (b ≤ b')))] ?_
  refine cont_split 19 (decide (b ≤ b')) rfl (fun c5_ => ?_) (fun c5_ => ?_)
  ·
   replace c5_ := of_decide_eq_true c5_
   refine bS [0, 1, 0, 0, 0, 0, 0] 20 7 [(2, .pointer (pB b1)), (3, .pointer (pB b2)), (26, .bool (decide (c ≥ c')))] ?_
   refine cont_split 26 (decide (c ≥ c')) rfl (fun c6_ => ?_) (fun c6_ => ?_)
   ·
    replace c6_ := of_decide_eq_true c6_
    refine bS [0, 1, 0, 0, 0, 0, 0] 27 0 [(4, .bool (decide (d ≥ d')))] ?_
    refine cont_forget 0 rfl ?_
    refine cont_forget 0 rfl ?_
    refine cont_done ?_
    refine then_normal ?_
    refine cont_ret ?_
    refine ret_one (.inl rfl) rfl 0 (.bool (decide (d ≥ d'))) (by kernel_rfl) (by kernel_rfl) (fun w hT => ?_)
    exact ⟨ret_bool (by simp [coversB, *] <;> omega), hT.post rfl⟩
   replace c6_ := of_decide_eq_false c6_
   refine bS [0, 0, 0, 0, 0, 0, 0] 27 0 [(4, .bool false)] ?_
   refine cont_forget 0 rfl ?_
   refine cont_forget 0 rfl ?_
   refine cont_done ?_
   refine then_normal ?_
   refine cont_ret ?_
   refine ret_one (.inl rfl) rfl 0 (.bool false) (by kernel_rfl) (by kernel_rfl) (fun w hT => ?_)
   exact ⟨ret_bool (by simp [coversB, *] <;> omega), hT.post rfl⟩
  replace c5_ := of_decide_eq_false c5_
  refine bS [0, 0, 0, 0, 0, 0, 0, 0, 0, 0, 0, 0, 0, 0] 27 0 [(4, .bool false)] ?_
  refine cont_forget 0 rfl ?_
  refine cont_forget 0 rfl ?_
  refine cont_done ?_
  refine then_normal ?_
  refine cont_ret ?_
  refine ret_one (.inl rfl) rfl 0 (.bool false) (by kernel_rfl) (by kernel_rfl) (fun w hT => ?_)
  exact ⟨ret_bool (by simp [coversB, *] <;> omega), hT.post rfl⟩
 replace c4_ := of_decide_eq_false c4_
 refine bS [0, 0, 0, 0, 0, 0, 0, 0, 0, 0, 0, 0, 0, 0, 0, 0, 0, 0, 0, 0, 0] 27 0 [(4, .bool false)] ?_
 refine cont_forget 0 rfl ?_
 refine cont_forget 0 rfl ?_
 refine cont_done ?_
 refine then_normal ?_
 refine cont_ret ?_
 refine ret_one (.inl rfl) rfl 0 (.bool false) (by kernel_rfl) (by kernel_rfl) (fun w hT => ?_)
 exact ⟨ret_bool (by simp [coversB, *] <;> omega), hT.post rfl⟩

theorem refWriteB (W H : Int) (r n cap : Nat) (px : List Int) (a b c d : Int) (A2 : Option Addr) (g2 o2 n2 cap2 : Nat) (xs2 : List Int) (w : World) (hT0 : Tab w w [.gen (rdE (some ⟨r, 0, none⟩) r 0 n 1 (ivals .u32 px)), .gen (rdE (A2) g2 o2 n2 1 (ivals .u8 xs2))]) (hok : ImgOk W H n px) (hc2 : n2 ≤ cap2) (hx2 : ∀ x ∈ xs2, 0 ≤ x ∧ x ≤ 255) (hE : wrE W H a b c d xs2 ≠ 0) :
    Calls Try.prog 41 #[.agg #[.int .i64 W, .int .i64 H, .slice (some ⟨r, 0, none⟩) n cap], .agg #[.int .i64 a, .int .i64 b, .int .i64 c, .int .i64 d], .slice A2 n2 cap2] w fun e w' => e = .returned (.tuple #[.agg #[.int .i64 W, .int .i64 H, .slice (some ⟨r, 0, none⟩) n cap], .int .i64 (wrE W H a b c d xs2)]) ∧ Below w.heap.size w w' := by
  have hw1 := hok.w1
  have hw2 := hok.w2
  have hh1 := hok.h1
  have hh2 := hok.h2
  have hnum := hok.num
  have hlen := hok.len
  have hle := hok.le
  have hra2 := ((hT0.ok 1 _ rfl : Rd w A2 g2 o2 n2 1 (ivals .u8 xs2)).at_)
  have hl2 : xs2.length = n2 := Rd.flen (hT0.ok 1 _ rfl)
  refine enter 109 [(0, .agg #[.int .i64 W, .int .i64 H, .slice (some ⟨r, 0, none⟩) n cap]), (1, .agg #[.int .i64 a, .int .i64 b, .int .i64 c, .int .i64 d]), (2, .slice A2 n2 cap2)] [.gen (rdE (some ⟨r, 0, none⟩) r 0 n 1 (ivals .u32 px)), .gen (rdE (A2) g2 o2 n2 1 (ivals .u8 xs2))] Try.func41 rfl Try.ntmps41 rfl (by kernel_rfl) hT0 ?_
  refine cont_fact (F := (0 < n2 → (A2 : Option Addr) = some ⟨g2, o2, none⟩) ∧ xs2.length = n2) (fun w hT => Rd.facts (hT.ok 1 _ rfl)) (fun hl1_ => ?_)
  obtain ⟨hl1_a, hl1_l⟩ := hl1_
  refine cont_seq ?_
  refine cont_region 4 rfl ?_
  refine batch3 [0, 0, 0, 0] 4 0 (fun b2 b3 b4 => [(2, .slice A2 n2 cap2), (3, .pointer (some ⟨b2, 0, none⟩)), (4, .pointer (some ⟨b3, 0, none⟩)), (6, .pointer (some ⟨b4, 0, none⟩))]) (fun b2 b3 b4 => [.cells b4 [.int .i64 0, .int .i64 0, .slice none 0 0] 37 true, .cells b3 [.int .i64 a, .int .i64 b, .int .i64 c, .int .i64 d] 32 true, .cells b2 [.int .i64 W, .int .i64 H, .slice (some ⟨r, 0, none⟩) n cap] 37 true, .gen (rdE (some ⟨r, 0, none⟩) r 0 n 1 (ivals .u32 px)), .gen (rdE (A2) g2 o2 n2 1 (ivals .u8 xs2))]) rfl rfl [2, 3, 4, 6] (fun _ _ _ => rfl) (fun b2 b3 b4 => by kernel_rfl) (fun b2 b3 b4 => by kernel_rfl) (fun b2 b3 b4 => ?_)
  refine cont_done ?_
  refine then_normal ?_
  refine cont_seq ?_
  refine drawn_enter 5 [] rfl (by kernel_rfl) ?_
  refine takes 0 [] [(0, 2), (2, 1)] 3 [2, 0] [(2, .slice A2 n2 cap2), (3, .pointer (some ⟨b2, 0, none⟩)), (4, .pointer (some ⟨b3, 0, none⟩)), (6, .pointer (some ⟨b4, 0, none⟩)), (15, .agg #[.int .i64 W, .int .i64 H, .slice (some ⟨r, 0, none⟩) n cap]), (17, .agg #[.int .i64 a, .int .i64 b, .int .i64 c, .int .i64 d])] (by kernel_rfl) (pok_then pok_body) (by kernel_rfl) rfl rfl (by kernel_rfl) (by kernel_rfl) ?_
  refine drawn_one 1 2 rfl (by kernel_rfl) ?_
  refine call_pure (d := 16) (.agg #[.int .i64 0, .int .i64 0, .int .i64 W, .int .i64 H]) (by kernel_rfl) (fun w hT => refBox W H (.slice (some ⟨r, 0, none⟩) n cap) w) ?_
  refine drawn_next 0 [] (by kernel_rfl) ?_
  refine drawn_one 3 1 rfl (by kernel_rfl) ?_
  refine call_pure (d := 18) (.bool (coversB 0 0 W H a b c d)) (by kernel_rfl) (fun w hT => refCovers 0 0 W H a b c d w) ?_
  refine drawn_next 0 [] (by kernel_rfl) ?_
  refine takes 0 [] [(4, 0)] 0 [4, 3, 1, 2, 0] [(2, .slice A2 n2 cap2), (3, .pointer (some ⟨b2, 0, none⟩)), (4, .pointer (some ⟨b3, 0, none⟩)), (6, .pointer (some ⟨b4, 0, none⟩)), (8, .bool (coversB 0 0 W H a b c d))] (by kernel_rfl) (pok_then pok_body) (by kernel_rfl) rfl rfl (by kernel_rfl) (by kernel_rfl) ?_
  refine drawn_done (by kernel_rfl) ?_
  refine then_normal ?_
  refine cont_seq ?_
  refine cont_seq ?_
  refine cont_region 6 rfl ?_
  refine bS [1] 1 5 [(2, .slice A2 n2 cap2), (3, .pointer (some ⟨b2, 0, none⟩)), (4, .pointer (some ⟨b3, 0, none⟩)), (6, .pointer (some ⟨b4, 0, none⟩)), (8, .bool (coversB 0 0 W H a b c d)), (19, .agg #[.int .i64 a, .int .i64 b, .int .i64 c, .int .i64 d])] ?_
  refine pl_step 2 4 rfl rfl ?_
  refine call_pure (d := 20) (.bool (emptyB a b c d)) (by kernel_rfl) (fun w hT => refEmpty a b c d w) ?_
  refine bS [0] 3 3 [(2, .slice A2 n2 cap2), (3, .pointer (some ⟨b2, 0, none⟩)), (4, .pointer (some ⟨b3, 0, none⟩)), (6, .pointer (some ⟨b4, 0, none⟩)), (8, .bool (coversB 0 0 W H a b c d)), (21, .bool (emptyB a b c d))] ?_
  refine cont_split 21 (emptyB a b c d) rfl (fun c5_ => ?_) (fun c5_ => ?_)
  ·
    have hem_ : emptyB a b c d = true := c5_
    refine bS [0, 0, 0] 6 0 [(2, .slice A2 n2 cap2), (3, .pointer (some ⟨b2, 0, none⟩)), (4, .pointer (some ⟨b3, 0, none⟩)), (6, .pointer (some ⟨b4, 0, none⟩)), (24, .bool true)] ?_
    refine cont_done ?_
    refine then_normal ?_
    refine cont_true rfl ?_
    refine cont_seq ?_
    refine cont_region 3 rfl ?_
    refine batch0 [2, 0, 0] 3 0 [(6, .pointer (some ⟨b4, 0, none⟩)), (7, .int .i64 4)] [.cells b4 [.int .i64 W, .int .i64 H, .slice (some ⟨r, 0, none⟩) n cap] 37 true, .cells b3 [.int .i64 a, .int .i64 b, .int .i64 c, .int .i64 d] 32 true, .cells b2 [.int .i64 W, .int .i64 H, .slice (some ⟨r, 0, none⟩) n cap] 37 true, .gen (rdE (some ⟨r, 0, none⟩) r 0 n 1 (ivals .u32 px)), .gen (rdE (A2) g2 o2 n2 1 (ivals .u8 xs2))] rfl rfl (by kernel_rfl) (by kernel_rfl) ?_
    refine cont_forget 1 rfl ?_
    refine cont_forget 1 rfl ?_
    refine cont_done ?_
    refine then_normal ?_
    refine cont_ret ?_
    refine then_ret ?_
    refine ret_two (.inl rfl) rfl 0 0 (.agg #[.int .i64 W, .int .i64 H, .slice (some ⟨r, 0, none⟩) n cap]) (.int .i64 4) (by kernel_rfl) (by kernel_rfl) (by kernel_rfl) (by kernel_rfl) (fun w hT => ?_)
    have hE2 : wrE W H a b c d xs2 = 4 := (by rcases Bool.eq_false_or_eq_true (emptyB a b c d) with h_ | h_; exact wrE_ins (by unfold insB; rw [h_]; rfl); first | exact wrE_ins hgF | exact absurd (h_.symm.trans hem_) (by decide))
    exact ⟨by rw [hE2], hT.post rfl⟩
  have hem_ : emptyB a b c d = false := c5_
  refine bS [0, 0, 0] 6 0 [(2, .slice A2 n2 cap2), (3, .pointer (some ⟨b2, 0, none⟩)), (4, .pointer (some ⟨b3, 0, none⟩)), (6, .pointer (some ⟨b4, 0, none⟩)), (24, .bool (!(coversB 0 0 W H a b c d)))] ?_
  refine cont_done ?_
  refine then_normal ?_
  refine cont_split 24 (!(coversB 0 0 W H a b c d)) rfl (fun c6_ => ?_) (fun c6_ => ?_)
  ·
    replace c6_ : (coversB 0 0 W H a b c d) = false := by simpa using c6_
    have hgF : insB W H a b c d = false := by unfold insB; rw [show coversB 0 0 W H a b c d = false from c6_, Bool.and_false]
    refine cont_true rfl ?_
    refine cont_seq ?_
    refine cont_region 3 rfl ?_
    refine batch0 [2, 0, 0] 3 0 [(6, .pointer (some ⟨b4, 0, none⟩)), (7, .int .i64 4)] [.cells b4 [.int .i64 W, .int .i64 H, .slice (some ⟨r, 0, none⟩) n cap] 37 true, .cells b3 [.int .i64 a, .int .i64 b, .int .i64 c, .int .i64 d] 32 true, .cells b2 [.int .i64 W, .int .i64 H, .slice (some ⟨r, 0, none⟩) n cap] 37 true, .gen (rdE (some ⟨r, 0, none⟩) r 0 n 1 (ivals .u32 px)), .gen (rdE (A2) g2 o2 n2 1 (ivals .u8 xs2))] rfl rfl (by kernel_rfl) (by kernel_rfl) ?_
    refine cont_forget 1 rfl ?_
    refine cont_forget 1 rfl ?_
    refine cont_done ?_
    refine then_normal ?_
    refine cont_ret ?_
    refine then_ret ?_
    refine ret_two (.inl rfl) rfl 0 0 (.agg #[.int .i64 W, .int .i64 H, .slice (some ⟨r, 0, none⟩) n cap]) (.int .i64 4) (by kernel_rfl) (by kernel_rfl) (by kernel_rfl) (by kernel_rfl) (fun w hT => ?_)
    have hE2 : wrE W H a b c d xs2 = 4 := (by rcases Bool.eq_false_or_eq_true (emptyB a b c d) with h_ | h_; exact wrE_ins (by unfold insB; rw [h_]; rfl); first | exact wrE_ins hgF | exact absurd (h_.symm.trans hem_) (by decide))
    exact ⟨by rw [hE2], hT.post rfl⟩
  replace c6_ : (coversB 0 0 W H a b c d) = true := by simpa using c6_
  have hg : insB W H a b c d = true := by unfold insB; rw [show coversB 0 0 W H a b c d = true from c6_, hem_]; rfl
  obtain ⟨hg1, hg2, hg3, hg4, hg5, hg6⟩ := insB_true hg
  obtain ⟨har0, har1, har2⟩ := ins_area hok hg
  refine cont_false rfl ?_
  refine cont_skip ?_
  refine then_normal ?_
  refine cont_seq ?_
  refine cont_region 4 rfl ?_
  refine bS [1] 1 3 [(2, .slice A2 n2 cap2), (3, .pointer (some ⟨b2, 0, none⟩)), (4, .pointer (some ⟨b3, 0, none⟩)), (6, .pointer (some ⟨b4, 0, none⟩)), (26, .agg #[.int .i64 a, .int .i64 b, .int .i64 c, .int .i64 d])] ?_
  refine pl_step 2 2 rfl rfl ?_
  refine call_pure (d := 27) (.int .i64 (areaI a b c d)) (by kernel_rfl) (fun w hT => refArea a b c d w (by omega) (by omega) (by omega) (by omega)) ?_
  refine bS [0] 3 1 [(2, .slice A2 n2 cap2), (3, .pointer (some ⟨b2, 0, none⟩)), (4, .pointer (some ⟨b3, 0, none⟩)), (6, .pointer (some ⟨b4, 0, none⟩)), (28, .int .i64 (IntKind.i64.wrap (4 * (areaI a b c d))))] ?_
  refine cont_recast 28 (.int .i64 (IntKind.i64.wrap (4 * (areaI a b c d)))) (.int .i64 (4 * (areaI a b c d))) rfl (wrapI (by omega) (by omega)) ?_
  refine bS [0] 4 0 [(2, .slice A2 n2 cap2), (3, .pointer (some ⟨b2, 0, none⟩)), (4, .pointer (some ⟨b3, 0, none⟩)), (6, .pointer (some ⟨b4, 0, none⟩)), (9, .int .i64 (4 * (areaI a b c d)))] ?_
  refine cont_done ?_
  refine then_normal ?_
  refine cont_seq ?_
  refine cont_seq ?_
  refine cont_region 4 rfl ?_
  refine bS [0, 0, 0, 0] 4 0 [(2, .slice A2 n2 cap2), (3, .pointer (some ⟨b2, 0, none⟩)), (4, .pointer (some ⟨b3, 0, none⟩)), (6, .pointer (some ⟨b4, 0, none⟩)), (9, .int .i64 (4 * (areaI a b c d))), (32, .bool (decide ((n2 : Int) < (4 * (areaI a b c d)))))] ?_
  refine cont_done ?_
  refine then_normal ?_
  refine cont_split 32 (decide ((n2 : Int) < (4 * (areaI a b c d)))) rfl (fun c7_ => ?_) (fun c7_ => ?_)
  ·
    replace c7_ := of_decide_eq_true c7_
    refine cont_true rfl ?_
    refine cont_seq ?_
    refine cont_region 3 rfl ?_
    refine batch0 [2, 0, 0] 3 0 [(6, .pointer (some ⟨b4, 0, none⟩)), (7, .int .i64 3)] [.cells b4 [.int .i64 W, .int .i64 H, .slice (some ⟨r, 0, none⟩) n cap] 37 true, .cells b3 [.int .i64 a, .int .i64 b, .int .i64 c, .int .i64 d] 32 true, .cells b2 [.int .i64 W, .int .i64 H, .slice (some ⟨r, 0, none⟩) n cap] 37 true, .gen (rdE (some ⟨r, 0, none⟩) r 0 n 1 (ivals .u32 px)), .gen (rdE (A2) g2 o2 n2 1 (ivals .u8 xs2))] rfl rfl (by kernel_rfl) (by kernel_rfl) ?_
    refine cont_forget 1 rfl ?_
    refine cont_forget 1 rfl ?_
    refine cont_done ?_
    refine then_normal ?_
    refine cont_ret ?_
    refine then_ret ?_
    refine ret_two (.inl rfl) rfl 0 0 (.agg #[.int .i64 W, .int .i64 H, .slice (some ⟨r, 0, none⟩) n cap]) (.int .i64 3) (by kernel_rfl) (by kernel_rfl) (by kernel_rfl) (by kernel_rfl) (fun w hT => ?_)
    have hE2 : wrE W H a b c d xs2 = 3 := wrE_short hg (by omega)
    exact ⟨by rw [hE2], hT.post rfl⟩
  replace c7_ := of_decide_eq_false c7_
  refine cont_false rfl ?_
  refine cont_skip ?_
  refine then_normal ?_
  refine cont_seq ?_
  refine cont_seq ?_
  refine cont_region 4 rfl ?_
  refine bS [0, 0, 0, 0] 4 0 [(2, .slice A2 n2 cap2), (3, .pointer (some ⟨b2, 0, none⟩)), (4, .pointer (some ⟨b3, 0, none⟩)), (6, .pointer (some ⟨b4, 0, none⟩)), (9, .int .i64 (4 * (areaI a b c d))), (37, .bool (decide ((n2 : Int) > (4 * (areaI a b c d)))))] ?_
  refine cont_done ?_
  refine then_normal ?_
  refine cont_split 37 (decide ((n2 : Int) > (4 * (areaI a b c d)))) rfl (fun c8_ => ?_) (fun c8_ => ?_)
  ·
    replace c8_ := of_decide_eq_true c8_
    refine cont_true rfl ?_
    refine cont_seq ?_
    refine cont_region 3 rfl ?_
    refine batch0 [2, 0, 0] 3 0 [(6, .pointer (some ⟨b4, 0, none⟩)), (7, .int .i64 2)] [.cells b4 [.int .i64 W, .int .i64 H, .slice (some ⟨r, 0, none⟩) n cap] 37 true, .cells b3 [.int .i64 a, .int .i64 b, .int .i64 c, .int .i64 d] 32 true, .cells b2 [.int .i64 W, .int .i64 H, .slice (some ⟨r, 0, none⟩) n cap] 37 true, .gen (rdE (some ⟨r, 0, none⟩) r 0 n 1 (ivals .u32 px)), .gen (rdE (A2) g2 o2 n2 1 (ivals .u8 xs2))] rfl rfl (by kernel_rfl) (by kernel_rfl) ?_
    refine cont_forget 1 rfl ?_
    refine cont_forget 1 rfl ?_
    refine cont_done ?_
    refine then_normal ?_
    refine cont_ret ?_
    refine then_ret ?_
    refine ret_two (.inl rfl) rfl 0 0 (.agg #[.int .i64 W, .int .i64 H, .slice (some ⟨r, 0, none⟩) n cap]) (.int .i64 2) (by kernel_rfl) (by kernel_rfl) (by kernel_rfl) (by kernel_rfl) (fun w hT => ?_)
    have hE2 : wrE W H a b c d xs2 = 2 := wrE_long hg (by omega)
    exact ⟨by rw [hE2], hT.post rfl⟩
  replace c8_ := of_decide_eq_false c8_
  refine cont_false rfl ?_
  refine cont_skip ?_
  refine then_normal ?_
  refine cont_seq ?_
  refine cont_region 1 rfl ?_
  obtain ⟨N, hN⟩ : ∃ N : Nat, (N : Int) = areaI a b c d := ⟨Int.toNat (areaI a b c d), by omega⟩
  obtain ⟨wn, hwn⟩ : ∃ k_ : Nat, k_ = Int.toNat (c - a) := ⟨_, rfl⟩
  refine bS [0] 1 0 [(2, .slice A2 n2 cap2), (3, .pointer (some ⟨b2, 0, none⟩)), (4, .pointer (some ⟨b3, 0, none⟩)), (6, .pointer (some ⟨b4, 0, none⟩)), (9, .int .i64 (4 * (areaI a b c d))), (10, .slice none 0 0)] ?_
  refine cont_done ?_
  refine then_normal ?_
  refine cont_seq ?_
  refine cont_region 5 rfl ?_
  refine bS [0, 0, 2] 3 2 [(2, .slice A2 n2 cap2), (3, .pointer (some ⟨b2, 0, none⟩)), (4, .pointer (some ⟨b3, 0, none⟩)), (6, .pointer (some ⟨b4, 0, none⟩)), (9, .int .i64 (4 * (areaI a b c d))), (39, .slice none 0 0), (41, .slice (some ⟨r, 0, none⟩) n cap)] ?_
  refine pl_step 4 1 rfl rfl ?_
  refine cont_nilrow 28 1 ?_
  refine sem_stepW (α := Option Addr × Nat × Nat) 42 (Builtin.append_ #[35, 35] 35 #[.slice none 0 0, .slice (some ⟨r, 0, none⟩) n cap]) (fun x_ => .slice x_.1 n x_.2.2) (fun x_ => [.gen (rowE (x_.1) x_.2.1 n x_.2.2 28 1 (ivals .u32 px) true), .cells b4 [.int .i64 0, .int .i64 0, .slice none 0 0] 37 true, .cells b3 [.int .i64 a, .int .i64 b, .int .i64 c, .int .i64 d] 32 true, .cells b2 [.int .i64 W, .int .i64 H, .slice (some ⟨r, 0, none⟩) n cap] 37 true, .gen (rdE (some ⟨r, 0, none⟩) r 0 n 1 (ivals .u32 px)), .gen (rdE (A2) g2 o2 n2 1 (ivals .u8 xs2))]) (fun _ => True) (by kernel_rfl) (fun w hT => append_own (n' := n) (z := .int .u32 0) hT (i := 0) (bytes := 4) rfl (by kernel_rfl) (by kernel_rfl) rfl (by decide) (by decide) (hT.ok 4 _ rfl) (ivals_one .u32 px) (by omega) rfl (Nat.zero_add _).symm) ?_
  rintro ⟨A10, g10, cp10⟩ -
  refine cont_norm [(2, .slice A2 n2 cap2), (3, .pointer (some ⟨b2, 0, none⟩)), (4, .pointer (some ⟨b3, 0, none⟩)), (6, .pointer (some ⟨b4, 0, none⟩)), (9, .int .i64 (4 * (areaI a b c d))), (39, .slice none 0 0), (41, .slice (some ⟨r, 0, none⟩) n cap), (42, .slice A10 n cp10)] [.gen (rowE (A10) g10 n cp10 28 1 (ivals .u32 px) true), .cells b4 [.int .i64 0, .int .i64 0, .slice none 0 0] 37 true, .cells b3 [.int .i64 a, .int .i64 b, .int .i64 c, .int .i64 d] 32 true, .cells b2 [.int .i64 W, .int .i64 H, .slice (some ⟨r, 0, none⟩) n cap] 37 true, .gen (rdE (some ⟨r, 0, none⟩) r 0 n 1 (ivals .u32 px)), .gen (rdE (A2) g2 o2 n2 1 (ivals .u8 xs2))] (by kernel_rfl) rfl ?_
  refine cont_fact (F := (0 < n → (A10 : Option Addr) = some ⟨g10, 0, none⟩) ∧ px.length = n ∧ n ≤ cp10 ∧ cp10 ≤ maxLen) (fun w hT => Row.facts (hT.ok 0 _ rfl)) (fun hr11_ => ?_)
  obtain ⟨hr11_a, hr11_l, hr11_c, hr11_m⟩ := hr11_
  unfold maxLen at hr11_m
  refine bS [0] 5 0 [(2, .slice A2 n2 cap2), (3, .pointer (some ⟨b2, 0, none⟩)), (4, .pointer (some ⟨b3, 0, none⟩)), (6, .pointer (some ⟨b4, 0, none⟩)), (9, .int .i64 (4 * (areaI a b c d))), (10, .slice A10 n cp10)] ?_
  refine cont_done ?_
  refine then_normal ?_
  refine cont_seq ?_
  refine cont_region 6 rfl ?_
  refine bS [0, 2, 0, 2, 0] 5 1 [(2, .slice A2 n2 cap2), (3, .pointer (some ⟨b2, 0, none⟩)), (4, .pointer (some ⟨b3, 0, none⟩)), (6, .pointer (some ⟨b4, 0, none⟩)), (9, .int .i64 (4 * (areaI a b c d))), (10, .slice A10 n cp10), (47, .int .i64 (IntKind.i64.wrap (c - a)))] ?_
  refine cont_recast 47 (.int .i64 (IntKind.i64.wrap (c - a))) (.int .i64 (c - a)) rfl (wrapI (by omega) (by omega)) ?_
  refine bS [0] 6 0 [(2, .slice A2 n2 cap2), (3, .pointer (some ⟨b2, 0, none⟩)), (4, .pointer (some ⟨b3, 0, none⟩)), (6, .pointer (some ⟨b4, 0, none⟩)), (9, .int .i64 (4 * (areaI a b c d))), (10, .slice A10 n cp10), (11, .int .i64 (c - a))] ?_
  refine cont_done ?_
  refine then_normal ?_
  refine cont_seq ?_
  refine cont_seq ?_
  refine cont_region 1 rfl ?_
  refine bS [0] 1 0 [(2, .slice A2 n2 cap2), (3, .pointer (some ⟨b2, 0, none⟩)), (4, .pointer (some ⟨b3, 0, none⟩)), (6, .pointer (some ⟨b4, 0, none⟩)), (9, .int .i64 (4 * (areaI a b c d))), (10, .slice A10 n cp10), (11, .int .i64 (c - a)), (12, .int .i64 0)] ?_
  refine cont_done ?_
  refine then_normal ?_
  refine cont_block ?_
  refine cont_rowEq (k := .u32) 0 (px) (wrS W a b wn xs2 px 0) rfl rfl ?_
  refine cont_recast 12 (.int .i64 0) (.int .i64 ((0 : Nat) : Int)) rfl (congrArg (Value.int .i64) rfl) ?_
  refine cont_fact (F := (0 < n → (A10 : Option Addr) = some ⟨g10, 0, none⟩) ∧ (wrS W a b wn xs2 px 0).length = n ∧ n ≤ cp10 ∧ cp10 ≤ maxLen) (fun w hT => Row.facts (hT.ok 0 _ rfl)) (fun hr12_ => ?_)
  obtain ⟨hr12_a, hr12_l, hr12_c, hr12_m⟩ := hr12_
  unfold maxLen at hr12_m
  refine cont_loop (α := Nat) (fun x_ : Nat => x_ ≤ N ∧ okN xs2 x_) (fun x_ : Nat => [(2, .slice A2 n2 cap2), (3, .pointer (some ⟨b2, 0, none⟩)), (4, .pointer (some ⟨b3, 0, none⟩)), (6, .pointer (some ⟨b4, 0, none⟩)), (9, .int .i64 (4 * (areaI a b c d))), (10, .slice A10 n cp10), (11, .int .i64 (c - a)), (12, .int .i64 ((x_ : Nat) : Int))]) (fun x_ : Nat => [.gen (rowE (A10) g10 n cp10 28 1 (ivals .u32 (wrS W a b wn xs2 px x_)) true), .cells b4 [.int .i64 0, .int .i64 0, .slice none 0 0] 37 true, .cells b3 [.int .i64 a, .int .i64 b, .int .i64 c, .int .i64 d] 32 true, .cells b2 [.int .i64 W, .int .i64 H, .slice (some ⟨r, 0, none⟩) n cap] 37 true, .gen (rdE (some ⟨r, 0, none⟩) r 0 n 1 (ivals .u32 px)), .gen (rdE (A2) g2 o2 n2 1 (ivals .u8 xs2))]) (fun x_ : Nat => N - x_) 0 (⟨by omega, fun j hj => by omega⟩) (by kernel_rfl) (by kernel_rfl) ?_
  rintro i hinv13_
  replace hinv13_ : i ≤ N ∧ okN xs2 i := hinv13_
  refine cont_norm [(2, .slice A2 n2 cap2), (3, .pointer (some ⟨b2, 0, none⟩)), (4, .pointer (some ⟨b3, 0, none⟩)), (6, .pointer (some ⟨b4, 0, none⟩)), (9, .int .i64 (4 * (areaI a b c d))), (10, .slice A10 n cp10), (11, .int .i64 (c - a)), (12, .int .i64 ((i : Nat) : Int))] [.gen (rowE (A10) g10 n cp10 28 1 (ivals .u32 (wrS W a b wn xs2 px i)) true), .cells b4 [.int .i64 0, .int .i64 0, .slice none 0 0] 37 true, .cells b3 [.int .i64 a, .int .i64 b, .int .i64 c, .int .i64 d] 32 true, .cells b2 [.int .i64 W, .int .i64 H, .slice (some ⟨r, 0, none⟩) n cap] 37 true, .gen (rdE (some ⟨r, 0, none⟩) r 0 n 1 (ivals .u32 px)), .gen (rdE (A2) g2 o2 n2 1 (ivals .u8 xs2))] (by kernel_rfl) rfl ?_
  obtain ⟨hi, hokn⟩ := hinv13_
  have hmk := mkB_in xs2 i
  have hwl : (wrS W a b wn xs2 px i).length = n := by rw [wrS_length]; exact hlen
  have hb0 := getD_byte hx2 (Int.toNat (4 * ((i : Nat) : Int)))
  have hb1 := getD_byte hx2 (Int.toNat (4 * ((i : Nat) : Int) + 1))
  have hb2 := getD_byte hx2 (Int.toNat (4 * ((i : Nat) : Int) + 2))
  have hb3 := getD_byte hx2 (Int.toNat (4 * ((i : Nat) : Int) + 3))
  refine cont_seq ?_
  refine cont_seq ?_
  refine cont_region 4 rfl ?_
  refine bS [0, 0, 0] 3 1 [(2, .slice A2 n2 cap2), (3, .pointer (some ⟨b2, 0, none⟩)), (4, .pointer (some ⟨b3, 0, none⟩)), (6, .pointer (some ⟨b4, 0, none⟩)), (9, .int .i64 (4 * (areaI a b c d))), (10, .slice A10 n cp10), (11, .int .i64 (c - a)), (12, .int .i64 ((i : Nat) : Int)), (48, .int .i64 ((i : Nat) : Int)), (50, .int .i64 (IntKind.i64.wrap ((4 * (areaI a b c d)).tdiv 4)))] ?_
  refine cont_recast 50 (.int .i64 (IntKind.i64.wrap ((4 * (areaI a b c d)).tdiv 4))) (.int .i64 ((4 * (areaI a b c d)) / 4)) rfl (tdivI (by omega) (by omega) (by omega)) ?_
  refine bS [0] 4 0 [(2, .slice A2 n2 cap2), (3, .pointer (some ⟨b2, 0, none⟩)), (4, .pointer (some ⟨b3, 0, none⟩)), (6, .pointer (some ⟨b4, 0, none⟩)), (9, .int .i64 (4 * (areaI a b c d))), (10, .slice A10 n cp10), (11, .int .i64 (c - a)), (12, .int .i64 ((i : Nat) : Int)), (51, .bool (decide (((i : Nat) : Int) < ((4 * (areaI a b c d)) / 4))))] ?_
  refine cont_done ?_
  refine then_normal ?_
  refine cont_split 51 (decide (((i : Nat) : Int) < ((4 * (areaI a b c d)) / 4))) rfl (fun c14_ => ?_) (fun c14_ => ?_)
  ·
    replace c14_ := of_decide_eq_true c14_
    refine cont_true rfl ?_
    refine cont_skip ?_
    refine then_normal ?_
    refine cont_seq ?_
    refine cont_block ?_
    refine cont_seq ?_
    refine drawn_enter 29 [] rfl (by kernel_rfl) ?_
    refine takes 0 [] [(0, 0), (1, 0), (6, 0), (7, 0), (13, 0), (14, 0), (20, 0), (21, 0), (2, 0)] 20 [2, 21, 20, 14, 13, 7, 6, 1, 0] [(2, .slice A2 n2 cap2), (3, .pointer (some ⟨b2, 0, none⟩)), (4, .pointer (some ⟨b3, 0, none⟩)), (6, .pointer (some ⟨b4, 0, none⟩)), (9, .int .i64 (4 * (areaI a b c d))), (10, .slice A10 n cp10), (11, .int .i64 (c - a)), (12, .int .i64 ((i : Nat) : Int)), (54, .slice A2 n2 cap2), (56, .int .i64 (IntKind.i64.wrap (4 * ((i : Nat) : Int)))), (60, .slice A2 n2 cap2), (61, .int .i64 ((i : Nat) : Int)), (67, .slice A2 n2 cap2), (68, .int .i64 ((i : Nat) : Int)), (74, .slice A2 n2 cap2), (75, .int .i64 ((i : Nat) : Int))] (by kernel_rfl) (pok_then (pok_blk (pok_then (pok_then (pok_blk (pok_then pok_body)))))) (by kernel_rfl) rfl rfl (by kernel_rfl) (by kernel_rfl) ?_
    refine cont_recast 56 (.int .i64 (IntKind.i64.wrap (4 * ((i : Nat) : Int)))) (.int .i64 (4 * ((i : Nat) : Int))) rfl (wrapI (by omega) (by omega)) ?_
    refine cont_recast 54 (.slice A2 n2 cap2) (.slice (some ⟨g2, o2, none⟩) n2 cap2) rfl (by rw [hl1_a (by omega)]) ?_
    refine sem_take 0 [] 3 19 57 (Instr.indexAt 43 (.slice (some ⟨g2, o2, none⟩) n2 cap2) (.int .i64 (4 * ((i : Nat) : Int)))) (.pointer (some ⟨g2, o2 + Int.toNat (4 * ((i : Nat) : Int)), none⟩)) (by kernel_rfl) (pok_then (pok_blk (pok_then (pok_then (pok_blk (pok_then pok_body)))))) (by kernel_rfl) rfl (by kernel_rfl) (by kernel_rfl) (fun w hT => run_indexAt (e := 5) (sz := 1) _ (by kernel_rfl) (by kernel_rfl) (by omega) (by omega) (by omega) w) ?_
    refine sem_take 0 [] 4 18 58 (Instr.loadAt 5 (.pointer (some ⟨g2, o2 + Int.toNat (4 * ((i : Nat) : Int)), none⟩))) (.int .u8 (xs2.getD (Int.toNat (4 * ((i : Nat) : Int))) 0)) (by kernel_rfl) (pok_then (pok_blk (pok_then (pok_then (pok_blk (pok_then pok_body)))))) (by kernel_rfl) rfl (by kernel_rfl) (by kernel_rfl) (fun w hT => run_load1 (by kernel_rfl) (Rd.cell (hT 5 _ rfl) (Int.toNat (4 * ((i : Nat) : Int))) _ (ivals_get (by omega)))) ?_
    refine takes 0 [] [(5, 0)] 17 [5, 4, 3, 2, 21, 20, 14, 13, 7, 6, 1, 0] [(2, .slice A2 n2 cap2), (3, .pointer (some ⟨b2, 0, none⟩)), (4, .pointer (some ⟨b3, 0, none⟩)), (6, .pointer (some ⟨b4, 0, none⟩)), (9, .int .i64 (4 * (areaI a b c d))), (10, .slice A10 n cp10), (11, .int .i64 (c - a)), (12, .int .i64 ((i : Nat) : Int)), (59, .int .i64 (IntKind.i64.wrap (xs2.getD (Int.toNat (4 * ((i : Nat) : Int))) 0))), (60, .slice A2 n2 cap2), (61, .int .i64 ((i : Nat) : Int)), (67, .slice A2 n2 cap2), (68, .int .i64 ((i : Nat) : Int)), (74, .slice A2 n2 cap2), (75, .int .i64 ((i : Nat) : Int))] (by kernel_rfl) (pok_then (pok_blk (pok_then (pok_then (pok_blk (pok_then pok_body)))))) (by kernel_rfl) rfl rfl (by kernel_rfl) (by kernel_rfl) ?_
    refine cont_recast 59 (.int .i64 (IntKind.i64.wrap (xs2.getD (Int.toNat (4 * ((i : Nat) : Int))) 0))) (.int .i64 (xs2.getD (Int.toNat (4 * ((i : Nat) : Int))) 0)) rfl (wrapI (by omega) (by omega)) ?_
    refine takes 0 [] [(8, 0)] 16 [8, 5, 4, 3, 2, 21, 20, 14, 13, 7, 6, 1, 0] [(2, .slice A2 n2 cap2), (3, .pointer (some ⟨b2, 0, none⟩)), (4, .pointer (some ⟨b3, 0, none⟩)), (6, .pointer (some ⟨b4, 0, none⟩)), (9, .int .i64 (4 * (areaI a b c d))), (10, .slice A10 n cp10), (11, .int .i64 (c - a)), (12, .int .i64 ((i : Nat) : Int)), (59, .int .i64 (xs2.getD (Int.toNat (4 * ((i : Nat) : Int))) 0)), (60, .slice A2 n2 cap2), (62, .int .i64 (IntKind.i64.wrap (4 * ((i : Nat) : Int)))), (67, .slice A2 n2 cap2), (68, .int .i64 ((i : Nat) : Int)), (74, .slice A2 n2 cap2), (75, .int .i64 ((i : Nat) : Int))] (by kernel_rfl) (pok_then (pok_blk (pok_then (pok_then (pok_blk (pok_then pok_body)))))) (by kernel_rfl) rfl rfl (by kernel_rfl) (by kernel_rfl) ?_
    refine cont_recast 62 (.int .i64 (IntKind.i64.wrap (4 * ((i : Nat) : Int)))) (.int .i64 (4 * ((i : Nat) : Int))) rfl (wrapI (by omega) (by omega)) ?_
    refine takes 0 [] [(9, 0)] 15 [9, 8, 5, 4, 3, 2, 21, 20, 14, 13, 7, 6, 1, 0] [(2, .slice A2 n2 cap2), (3, .pointer (some ⟨b2, 0, none⟩)), (4, .pointer (some ⟨b3, 0, none⟩)), (6, .pointer (some ⟨b4, 0, none⟩)), (9, .int .i64 (4 * (areaI a b c d))), (10, .slice A10 n cp10), (11, .int .i64 (c - a)), (12, .int .i64 ((i : Nat) : Int)), (59, .int .i64 (xs2.getD (Int.toNat (4 * ((i : Nat) : Int))) 0)), (60, .slice A2 n2 cap2), (63, .int .i64 (IntKind.i64.wrap ((4 * ((i : Nat) : Int)) + 1))), (67, .slice A2 n2 cap2), (68, .int .i64 ((i : Nat) : Int)), (74, .slice A2 n2 cap2), (75, .int .i64 ((i : Nat) : Int))] (by kernel_rfl) (pok_then (pok_blk (pok_then (pok_then (pok_blk (pok_then pok_body)))))) (by kernel_rfl) rfl rfl (by kernel_rfl) (by kernel_rfl) ?_
    refine cont_recast 63 (.int .i64 (IntKind.i64.wrap ((4 * ((i : Nat) : Int)) + 1))) (.int .i64 ((4 * ((i : Nat) : Int)) + 1)) rfl (wrapI (by omega) (by omega)) ?_
    refine cont_recast 60 (.slice A2 n2 cap2) (.slice (some ⟨g2, o2, none⟩) n2 cap2) rfl (by rw [hl1_a (by omega)]) ?_
    refine sem_take 0 [] 10 14 64 (Instr.indexAt 43 (.slice (some ⟨g2, o2, none⟩) n2 cap2) (.int .i64 ((4 * ((i : Nat) : Int)) + 1))) (.pointer (some ⟨g2, o2 + Int.toNat ((4 * ((i : Nat) : Int)) + 1), none⟩)) (by kernel_rfl) (pok_then (pok_blk (pok_then (pok_then (pok_blk (pok_then pok_body)))))) (by kernel_rfl) rfl (by kernel_rfl) (by kernel_rfl) (fun w hT => run_indexAt (e := 5) (sz := 1) _ (by kernel_rfl) (by kernel_rfl) (by omega) (by omega) (by omega) w) ?_
    refine sem_take 0 [] 11 13 65 (Instr.loadAt 5 (.pointer (some ⟨g2, o2 + Int.toNat ((4 * ((i : Nat) : Int)) + 1), none⟩))) (.int .u8 (xs2.getD (Int.toNat ((4 * ((i : Nat) : Int)) + 1)) 0)) (by kernel_rfl) (pok_then (pok_blk (pok_then (pok_then (pok_blk (pok_then pok_body)))))) (by kernel_rfl) rfl (by kernel_rfl) (by kernel_rfl) (fun w hT => run_load1 (by kernel_rfl) (Rd.cell (hT 5 _ rfl) (Int.toNat ((4 * ((i : Nat) : Int)) + 1)) _ (ivals_get (by omega)))) ?_
    refine takes 0 [] [(12, 0)] 12 [12, 11, 10, 9, 8, 5, 4, 3, 2, 21, 20, 14, 13, 7, 6, 1, 0] [(2, .slice A2 n2 cap2), (3, .pointer (some ⟨b2, 0, none⟩)), (4, .pointer (some ⟨b3, 0, none⟩)), (6, .pointer (some ⟨b4, 0, none⟩)), (9, .int .i64 (4 * (areaI a b c d))), (10, .slice A10 n cp10), (11, .int .i64 (c - a)), (12, .int .i64 ((i : Nat) : Int)), (59, .int .i64 (xs2.getD (Int.toNat (4 * ((i : Nat) : Int))) 0)), (66, .int .i64 (IntKind.i64.wrap (xs2.getD (Int.toNat ((4 * ((i : Nat) : Int)) + 1)) 0))), (67, .slice A2 n2 cap2), (68, .int .i64 ((i : Nat) : Int)), (74, .slice A2 n2 cap2), (75, .int .i64 ((i : Nat) : Int))] (by kernel_rfl) (pok_then (pok_blk (pok_then (pok_then (pok_blk (pok_then pok_body)))))) (by kernel_rfl) rfl rfl (by kernel_rfl) (by kernel_rfl) ?_
    refine cont_recast 66 (.int .i64 (IntKind.i64.wrap (xs2.getD (Int.toNat ((4 * ((i : Nat) : Int)) + 1)) 0))) (.int .i64 (xs2.getD (Int.toNat ((4 * ((i : Nat) : Int)) + 1)) 0)) rfl (wrapI (by omega) (by omega)) ?_
    refine takes 0 [] [(15, 0)] 11 [15, 12, 11, 10, 9, 8, 5, 4, 3, 2, 21, 20, 14, 13, 7, 6, 1, 0] [(2, .slice A2 n2 cap2), (3, .pointer (some ⟨b2, 0, none⟩)), (4, .pointer (some ⟨b3, 0, none⟩)), (6, .pointer (some ⟨b4, 0, none⟩)), (9, .int .i64 (4 * (areaI a b c d))), (10, .slice A10 n cp10), (11, .int .i64 (c - a)), (12, .int .i64 ((i : Nat) : Int)), (59, .int .i64 (xs2.getD (Int.toNat (4 * ((i : Nat) : Int))) 0)), (66, .int .i64 (xs2.getD (Int.toNat ((4 * ((i : Nat) : Int)) + 1)) 0)), (67, .slice A2 n2 cap2), (69, .int .i64 (IntKind.i64.wrap (4 * ((i : Nat) : Int)))), (74, .slice A2 n2 cap2), (75, .int .i64 ((i : Nat) : Int))] (by kernel_rfl) (pok_then (pok_blk (pok_then (pok_then (pok_blk (pok_then pok_body)))))) (by kernel_rfl) rfl rfl (by kernel_rfl) (by kernel_rfl) ?_
    refine cont_recast 69 (.int .i64 (IntKind.i64.wrap (4 * ((i : Nat) : Int)))) (.int .i64 (4 * ((i : Nat) : Int))) rfl (wrapI (by omega) (by omega)) ?_
    refine takes 0 [] [(16, 0)] 10 [16, 15, 12, 11, 10, 9, 8, 5, 4, 3, 2, 21, 20, 14, 13, 7, 6, 1, 0] [(2, .slice A2 n2 cap2), (3, .pointer (some ⟨b2, 0, none⟩)), (4, .pointer (some ⟨b3, 0, none⟩)), (6, .pointer (some ⟨b4, 0, none⟩)), (9, .int .i64 (4 * (areaI a b c d))), (10, .slice A10 n cp10), (11, .int .i64 (c - a)), (12, .int .i64 ((i : Nat) : Int)), (59, .int .i64 (xs2.getD (Int.toNat (4 * ((i : Nat) : Int))) 0)), (66, .int .i64 (xs2.getD (Int.toNat ((4 * ((i : Nat) : Int)) + 1)) 0)), (67, .slice A2 n2 cap2), (70, .int .i64 (IntKind.i64.wrap ((4 * ((i : Nat) : Int)) + 2))), (74, .slice A2 n2 cap2), (75, .int .i64 ((i : Nat) : Int))] (by kernel_rfl) (pok_then (pok_blk (pok_then (pok_then (pok_blk (pok_then pok_body)))))) (by kernel_rfl) rfl rfl (by kernel_rfl) (by kernel_rfl) ?_
    refine cont_recast 70 (.int .i64 (IntKind.i64.wrap ((4 * ((i : Nat) : Int)) + 2))) (.int .i64 ((4 * ((i : Nat) : Int)) + 2)) rfl (wrapI (by omega) (by omega)) ?_
    refine cont_recast 67 (.slice A2 n2 cap2) (.slice (some ⟨g2, o2, none⟩) n2 cap2) rfl (by rw [hl1_a (by omega)]) ?_
    refine sem_take 0 [] 17 9 71 (Instr.indexAt 43 (.slice (some ⟨g2, o2, none⟩) n2 cap2) (.int .i64 ((4 * ((i : Nat) : Int)) + 2))) (.pointer (some ⟨g2, o2 + Int.toNat ((4 * ((i : Nat) : Int)) + 2), none⟩)) (by kernel_rfl) (pok_then (pok_blk (pok_then (pok_then (pok_blk (pok_then pok_body)))))) (by kernel_rfl) rfl (by kernel_rfl) (by kernel_rfl) (fun w hT => run_indexAt (e := 5) (sz := 1) _ (by kernel_rfl) (by kernel_rfl) (by omega) (by omega) (by omega) w) ?_
    refine sem_take 0 [] 18 8 72 (Instr.loadAt 5 (.pointer (some ⟨g2, o2 + Int.toNat ((4 * ((i : Nat) : Int)) + 2), none⟩))) (.int .u8 (xs2.getD (Int.toNat ((4 * ((i : Nat) : Int)) + 2)) 0)) (by kernel_rfl) (pok_then (pok_blk (pok_then (pok_then (pok_blk (pok_then pok_body)))))) (by kernel_rfl) rfl (by kernel_rfl) (by kernel_rfl) (fun w hT => run_load1 (by kernel_rfl) (Rd.cell (hT 5 _ rfl) (Int.toNat ((4 * ((i : Nat) : Int)) + 2)) _ (ivals_get (by omega)))) ?_
    refine takes 0 [] [(19, 0)] 7 [19, 18, 17, 16, 15, 12, 11, 10, 9, 8, 5, 4, 3, 2, 21, 20, 14, 13, 7, 6, 1, 0] [(2, .slice A2 n2 cap2), (3, .pointer (some ⟨b2, 0, none⟩)), (4, .pointer (some ⟨b3, 0, none⟩)), (6, .pointer (some ⟨b4, 0, none⟩)), (9, .int .i64 (4 * (areaI a b c d))), (10, .slice A10 n cp10), (11, .int .i64 (c - a)), (12, .int .i64 ((i : Nat) : Int)), (59, .int .i64 (xs2.getD (Int.toNat (4 * ((i : Nat) : Int))) 0)), (66, .int .i64 (xs2.getD (Int.toNat ((4 * ((i : Nat) : Int)) + 1)) 0)), (73, .int .i64 (IntKind.i64.wrap (xs2.getD (Int.toNat ((4 * ((i : Nat) : Int)) + 2)) 0))), (74, .slice A2 n2 cap2), (75, .int .i64 ((i : Nat) : Int))] (by kernel_rfl) (pok_then (pok_blk (pok_then (pok_then (pok_blk (pok_then pok_body)))))) (by kernel_rfl) rfl rfl (by kernel_rfl) (by kernel_rfl) ?_
    refine cont_recast 73 (.int .i64 (IntKind.i64.wrap (xs2.getD (Int.toNat ((4 * ((i : Nat) : Int)) + 2)) 0))) (.int .i64 (xs2.getD (Int.toNat ((4 * ((i : Nat) : Int)) + 2)) 0)) rfl (wrapI (by omega) (by omega)) ?_
    refine takes 0 [] [(22, 0)] 6 [22, 19, 18, 17, 16, 15, 12, 11, 10, 9, 8, 5, 4, 3, 2, 21, 20, 14, 13, 7, 6, 1, 0] [(2, .slice A2 n2 cap2), (3, .pointer (some ⟨b2, 0, none⟩)), (4, .pointer (some ⟨b3, 0, none⟩)), (6, .pointer (some ⟨b4, 0, none⟩)), (9, .int .i64 (4 * (areaI a b c d))), (10, .slice A10 n cp10), (11, .int .i64 (c - a)), (12, .int .i64 ((i : Nat) : Int)), (59, .int .i64 (xs2.getD (Int.toNat (4 * ((i : Nat) : Int))) 0)), (66, .int .i64 (xs2.getD (Int.toNat ((4 * ((i : Nat) : Int)) + 1)) 0)), (73, .int .i64 (xs2.getD (Int.toNat ((4 * ((i : Nat) : Int)) + 2)) 0)), (74, .slice A2 n2 cap2), (76, .int .i64 (IntKind.i64.wrap (4 * ((i : Nat) : Int))))] (by kernel_rfl) (pok_then (pok_blk (pok_then (pok_then (pok_blk (pok_then pok_body)))))) (by kernel_rfl) rfl rfl (by kernel_rfl) (by kernel_rfl) ?_
    refine cont_recast 76 (.int .i64 (IntKind.i64.wrap (4 * ((i : Nat) : Int)))) (.int .i64 (4 * ((i : Nat) : Int))) rfl (wrapI (by omega) (by omega)) ?_
    refine takes 0 [] [(23, 0)] 5 [23, 22, 19, 18, 17, 16, 15, 12, 11, 10, 9, 8, 5, 4, 3, 2, 21, 20, 14, 13, 7, 6, 1, 0] [(2, .slice A2 n2 cap2), (3, .pointer (some ⟨b2, 0, none⟩)), (4, .pointer (some ⟨b3, 0, none⟩)), (6, .pointer (some ⟨b4, 0, none⟩)), (9, .int .i64 (4 * (areaI a b c d))), (10, .slice A10 n cp10), (11, .int .i64 (c - a)), (12, .int .i64 ((i : Nat) : Int)), (59, .int .i64 (xs2.getD (Int.toNat (4 * ((i : Nat) : Int))) 0)), (66, .int .i64 (xs2.getD (Int.toNat ((4 * ((i : Nat) : Int)) + 1)) 0)), (73, .int .i64 (xs2.getD (Int.toNat ((4 * ((i : Nat) : Int)) + 2)) 0)), (74, .slice A2 n2 cap2), (77, .int .i64 (IntKind.i64.wrap ((4 * ((i : Nat) : Int)) + 3)))] (by kernel_rfl) (pok_then (pok_blk (pok_then (pok_then (pok_blk (pok_then pok_body)))))) (by kernel_rfl) rfl rfl (by kernel_rfl) (by kernel_rfl) ?_
    refine cont_recast 77 (.int .i64 (IntKind.i64.wrap ((4 * ((i : Nat) : Int)) + 3))) (.int .i64 ((4 * ((i : Nat) : Int)) + 3)) rfl (wrapI (by omega) (by omega)) ?_
    refine cont_recast 74 (.slice A2 n2 cap2) (.slice (some ⟨g2, o2, none⟩) n2 cap2) rfl (by rw [hl1_a (by omega)]) ?_
    refine sem_take 0 [] 24 4 78 (Instr.indexAt 43 (.slice (some ⟨g2, o2, none⟩) n2 cap2) (.int .i64 ((4 * ((i : Nat) : Int)) + 3))) (.pointer (some ⟨g2, o2 + Int.toNat ((4 * ((i : Nat) : Int)) + 3), none⟩)) (by kernel_rfl) (pok_then (pok_blk (pok_then (pok_then (pok_blk (pok_then pok_body)))))) (by kernel_rfl) rfl (by kernel_rfl) (by kernel_rfl) (fun w hT => run_indexAt (e := 5) (sz := 1) _ (by kernel_rfl) (by kernel_rfl) (by omega) (by omega) (by omega) w) ?_
    refine sem_take 0 [] 25 3 79 (Instr.loadAt 5 (.pointer (some ⟨g2, o2 + Int.toNat ((4 * ((i : Nat) : Int)) + 3), none⟩))) (.int .u8 (xs2.getD (Int.toNat ((4 * ((i : Nat) : Int)) + 3)) 0)) (by kernel_rfl) (pok_then (pok_blk (pok_then (pok_then (pok_blk (pok_then pok_body)))))) (by kernel_rfl) rfl (by kernel_rfl) (by kernel_rfl) (fun w hT => run_load1 (by kernel_rfl) (Rd.cell (hT 5 _ rfl) (Int.toNat ((4 * ((i : Nat) : Int)) + 3)) _ (ivals_get (by omega)))) ?_
    refine takes 0 [] [(26, 0)] 2 [26, 25, 24, 23, 22, 19, 18, 17, 16, 15, 12, 11, 10, 9, 8, 5, 4, 3, 2, 21, 20, 14, 13, 7, 6, 1, 0] [(2, .slice A2 n2 cap2), (3, .pointer (some ⟨b2, 0, none⟩)), (4, .pointer (some ⟨b3, 0, none⟩)), (6, .pointer (some ⟨b4, 0, none⟩)), (9, .int .i64 (4 * (areaI a b c d))), (10, .slice A10 n cp10), (11, .int .i64 (c - a)), (12, .int .i64 ((i : Nat) : Int)), (59, .int .i64 (xs2.getD (Int.toNat (4 * ((i : Nat) : Int))) 0)), (66, .int .i64 (xs2.getD (Int.toNat ((4 * ((i : Nat) : Int)) + 1)) 0)), (73, .int .i64 (xs2.getD (Int.toNat ((4 * ((i : Nat) : Int)) + 2)) 0)), (80, .int .i64 (IntKind.i64.wrap (xs2.getD (Int.toNat ((4 * ((i : Nat) : Int)) + 3)) 0)))] (by kernel_rfl) (pok_then (pok_blk (pok_then (pok_then (pok_blk (pok_then pok_body)))))) (by kernel_rfl) rfl rfl (by kernel_rfl) (by kernel_rfl) ?_
    refine cont_recast 80 (.int .i64 (IntKind.i64.wrap (xs2.getD (Int.toNat ((4 * ((i : Nat) : Int)) + 3)) 0))) (.int .i64 (xs2.getD (Int.toNat ((4 * ((i : Nat) : Int)) + 3)) 0)) rfl (wrapI (by omega) (by omega)) ?_
    refine drawn_one 27 1 rfl (by kernel_rfl) ?_
    refine call_pure (d := 81) (.int .u32 (mkC (xs2.getD (Int.toNat (4 * ((i : Nat) : Int))) 0) (xs2.getD (Int.toNat ((4 * ((i : Nat) : Int)) + 1)) 0) (xs2.getD (Int.toNat ((4 * ((i : Nat) : Int)) + 2)) 0) (xs2.getD (Int.toNat ((4 * ((i : Nat) : Int)) + 3)) 0))) (by kernel_rfl) (fun w hT => refMake (xs2.getD (Int.toNat (4 * ((i : Nat) : Int))) 0) (xs2.getD (Int.toNat ((4 * ((i : Nat) : Int)) + 1)) 0) (xs2.getD (Int.toNat ((4 * ((i : Nat) : Int)) + 2)) 0) (xs2.getD (Int.toNat ((4 * ((i : Nat) : Int)) + 3)) 0) w) ?_
    refine cont_recast 81 (.int .u32 (mkC (xs2.getD (Int.toNat (4 * ((i : Nat) : Int))) 0) (xs2.getD (Int.toNat ((4 * ((i : Nat) : Int)) + 1)) 0) (xs2.getD (Int.toNat ((4 * ((i : Nat) : Int)) + 2)) 0) (xs2.getD (Int.toNat ((4 * ((i : Nat) : Int)) + 3)) 0))) (.int .u32 (mkB xs2 i)) rfl (congrArg (Value.int .u32) (by unfold mkB; congr 1 <;> (congr 1; omega))) ?_
    refine drawn_next 0 [] (by kernel_rfl) ?_
    refine takes 0 [] [(28, 0)] 0 [28, 27, 26, 25, 24, 23, 22, 19, 18, 17, 16, 15, 12, 11, 10, 9, 8, 5, 4, 3, 2, 21, 20, 14, 13, 7, 6, 1, 0] [(2, .slice A2 n2 cap2), (3, .pointer (some ⟨b2, 0, none⟩)), (4, .pointer (some ⟨b3, 0, none⟩)), (6, .pointer (some ⟨b4, 0, none⟩)), (9, .int .i64 (4 * (areaI a b c d))), (10, .slice A10 n cp10), (11, .int .i64 (c - a)), (12, .int .i64 ((i : Nat) : Int)), (13, .int .u32 (mkB xs2 i))] (by kernel_rfl) (pok_then (pok_blk (pok_then (pok_then (pok_blk (pok_then pok_body)))))) (by kernel_rfl) rfl rfl (by kernel_rfl) (by kernel_rfl) ?_
    refine drawn_done (by kernel_rfl) ?_
    refine then_normal ?_
    refine cont_seq ?_
    refine cont_region 3 rfl ?_
    refine bS [0] 1 2 [(2, .slice A2 n2 cap2), (3, .pointer (some ⟨b2, 0, none⟩)), (4, .pointer (some ⟨b3, 0, none⟩)), (6, .pointer (some ⟨b4, 0, none⟩)), (9, .int .i64 (4 * (areaI a b c d))), (10, .slice A10 n cp10), (11, .int .i64 (c - a)), (12, .int .i64 ((i : Nat) : Int)), (13, .int .u32 (mkB xs2 i)), (82, .int .u32 (mkB xs2 i))] ?_
    refine pl_step 2 1 rfl rfl ?_
    refine call_pure (d := 83) (.bool (mayB (mkB xs2 i))) (by kernel_rfl) (fun w hT => refMay (mkB xs2 i) w (by omega) (by omega)) ?_
    refine bS [0] 3 0 [(2, .slice A2 n2 cap2), (3, .pointer (some ⟨b2, 0, none⟩)), (4, .pointer (some ⟨b3, 0, none⟩)), (6, .pointer (some ⟨b4, 0, none⟩)), (9, .int .i64 (4 * (areaI a b c d))), (10, .slice A10 n cp10), (11, .int .i64 (c - a)), (12, .int .i64 ((i : Nat) : Int)), (13, .int .u32 (mkB xs2 i)), (14, .bool (mayB (mkB xs2 i)))] ?_
    refine cont_done ?_
    refine then_normal ?_
    refine cont_seq ?_
    refine cont_seq ?_
    refine cont_region 2 rfl ?_
    refine bS [0, 0] 2 0 [(2, .slice A2 n2 cap2), (3, .pointer (some ⟨b2, 0, none⟩)), (4, .pointer (some ⟨b3, 0, none⟩)), (6, .pointer (some ⟨b4, 0, none⟩)), (9, .int .i64 (4 * (areaI a b c d))), (10, .slice A10 n cp10), (11, .int .i64 (c - a)), (12, .int .i64 ((i : Nat) : Int)), (13, .int .u32 (mkB xs2 i)), (85, .bool (!(mayB (mkB xs2 i))))] ?_
    refine cont_done ?_
    refine then_normal ?_
    refine cont_split 85 (!(mayB (mkB xs2 i))) rfl (fun c15_ => ?_) (fun c15_ => ?_)
    ·
      replace c15_ : (mayB (mkB xs2 i)) = false := by simpa using c15_
      have hmy : mayB (mkB xs2 i) = false := c15_
      refine cont_true rfl ?_
      refine cont_seq ?_
      refine cont_region 3 rfl ?_
      refine batch0 [3, 1, 0] 3 0 [(6, .pointer (some ⟨b4, 0, none⟩)), (7, .int .i64 1)] [.gen (rowE (A10) g10 n cp10 28 1 (ivals .u32 (wrS W a b wn xs2 px i)) true), .cells b4 [.int .i64 W, .int .i64 H, .slice (some ⟨r, 0, none⟩) n cap] 37 true, .cells b3 [.int .i64 a, .int .i64 b, .int .i64 c, .int .i64 d] 32 true, .cells b2 [.int .i64 W, .int .i64 H, .slice (some ⟨r, 0, none⟩) n cap] 37 true, .gen (rdE (some ⟨r, 0, none⟩) r 0 n 1 (ivals .u32 px)), .gen (rdE (A2) g2 o2 n2 1 (ivals .u8 xs2))] rfl rfl (by kernel_rfl) (by kernel_rfl) ?_
      refine cont_forget 2 rfl ?_
      refine cont_forget 2 rfl ?_
      refine cont_done ?_
      refine then_normal ?_
      refine cont_ret ?_
      refine then_ret ?_
      refine blk_ret ?_
      refine then_ret ?_
      refine then_ret ?_
      refine blk_ret ?_
      refine then_ret ?_
      refine ret_two (.inl rfl) rfl 1 0 (.agg #[.int .i64 W, .int .i64 H, .slice (some ⟨r, 0, none⟩) n cap]) (.int .i64 1) (by kernel_rfl) (by kernel_rfl) (by kernel_rfl) (by kernel_rfl) (fun w hT => ?_)
      have hE2 : wrE W H a b c d xs2 = 1 := wrE_bad hg (by omega) (N := N) (by omega) (k := i) (by omega) hmy
      exact ⟨by rw [hE2], hT.post rfl⟩
    replace c15_ : (mayB (mkB xs2 i)) = true := by simpa using c15_
    have hmy : mayB (mkB xs2 i) = true := c15_
    refine cont_false rfl ?_
    refine cont_skip ?_
    refine then_normal ?_
    obtain ⟨hq0, hq1, hq2, hq3⟩ := row_of (N := N) (i := i) hg1 hg2 (by omega) (by omega)
    obtain ⟨hpl1, hpl2, hpl3⟩ := hok.place (x := a + (i : Int) % (c - a)) (y := b + (i : Int) / (c - a)) (by omega) (by omega) (by omega) (by omega)
    refine drawn_enter 20 [0] rfl (by kernel_rfl) ?_
    refine takes 0 [0] [(0, 0), (1, 0), (3, 0), (4, 0), (7, 0), (10, 0), (13, 0), (14, 0), (17, 0), (2, 2)] 10 [2, 17, 14, 13, 10, 7, 4, 3, 1, 0] [(2, .slice A2 n2 cap2), (3, .pointer (some ⟨b2, 0, none⟩)), (4, .pointer (some ⟨b3, 0, none⟩)), (6, .pointer (some ⟨b4, 0, none⟩)), (9, .int .i64 (4 * (areaI a b c d))), (10, .slice A10 n cp10), (11, .int .i64 (c - a)), (12, .int .i64 ((i : Nat) : Int)), (87, .slice A10 n cp10), (89, .int .i64 b), (90, .int .i64 ((i : Nat) : Int)), (91, .int .i64 (c - a)), (94, .pointer (some ⟨b2, 0, none⟩)), (97, .pointer (some ⟨b3, 0, none⟩)), (100, .int .i64 ((i : Nat) : Int)), (101, .int .i64 (c - a)), (104, .int .u32 (mkB xs2 i))] (by kernel_rfl) (pok_blk (pok_then (pok_then (pok_blk (pok_then pok_body))))) (by kernel_rfl) rfl rfl (by kernel_rfl) (by kernel_rfl) ?_
    refine sem_take 0 [0] 5 9 92 (bopS .quo 3 (.tmp 90) (.tmp 91) (.int .i64 ((i : Nat) : Int)) (.int .i64 (c - a))) (.int .i64 (IntKind.i64.wrap (((i : Nat) : Int).tdiv (c - a)))) (by kernel_rfl) (pok_blk (pok_then (pok_then (pok_blk (pok_then pok_body))))) (by kernel_rfl) rfl (by kernel_rfl) (by kernel_rfl) (fun w hT => run_quo (by omega) w) ?_
    refine cont_recast 92 (.int .i64 (IntKind.i64.wrap (((i : Nat) : Int).tdiv (c - a)))) (.int .i64 (((i : Nat) : Int) / (c - a))) rfl (tdivI (by omega) (by omega) (by omega)) ?_
    refine takes 0 [0] [(6, 0)] 8 [6, 5, 2, 17, 14, 13, 10, 7, 4, 3, 1, 0] [(2, .slice A2 n2 cap2), (3, .pointer (some ⟨b2, 0, none⟩)), (4, .pointer (some ⟨b3, 0, none⟩)), (6, .pointer (some ⟨b4, 0, none⟩)), (9, .int .i64 (4 * (areaI a b c d))), (10, .slice A10 n cp10), (11, .int .i64 (c - a)), (12, .int .i64 ((i : Nat) : Int)), (87, .slice A10 n cp10), (93, .int .i64 (IntKind.i64.wrap (b + (((i : Nat) : Int) / (c - a))))), (94, .pointer (some ⟨b2, 0, none⟩)), (97, .pointer (some ⟨b3, 0, none⟩)), (100, .int .i64 ((i : Nat) : Int)), (101, .int .i64 (c - a)), (104, .int .u32 (mkB xs2 i))] (by kernel_rfl) (pok_blk (pok_then (pok_then (pok_blk (pok_then pok_body))))) (by kernel_rfl) rfl rfl (by kernel_rfl) (by kernel_rfl) ?_
    refine cont_recast 93 (.int .i64 (IntKind.i64.wrap (b + (((i : Nat) : Int) / (c - a))))) (.int .i64 (b + (((i : Nat) : Int) / (c - a)))) rfl (wrapI (by omega) (by omega)) ?_
    refine takes 0 [0] [(8, 3), (11, 2)] 6 [11, 8, 6, 5, 2, 17, 14, 13, 10, 7, 4, 3, 1, 0] [(2, .slice A2 n2 cap2), (3, .pointer (some ⟨b2, 0, none⟩)), (4, .pointer (some ⟨b3, 0, none⟩)), (6, .pointer (some ⟨b4, 0, none⟩)), (9, .int .i64 (4 * (areaI a b c d))), (10, .slice A10 n cp10), (11, .int .i64 (c - a)), (12, .int .i64 ((i : Nat) : Int)), (87, .slice A10 n cp10), (93, .int .i64 (b + (((i : Nat) : Int) / (c - a)))), (95, .int .i64 W), (98, .int .i64 a), (100, .int .i64 ((i : Nat) : Int)), (101, .int .i64 (c - a)), (104, .int .u32 (mkB xs2 i))] (by kernel_rfl) (pok_blk (pok_then (pok_then (pok_blk (pok_then pok_body))))) (by kernel_rfl) rfl rfl (by kernel_rfl) (by kernel_rfl) ?_
    refine takes 0 [0] [(9, 0)] 5 [9, 11, 8, 6, 5, 2, 17, 14, 13, 10, 7, 4, 3, 1, 0] [(2, .slice A2 n2 cap2), (3, .pointer (some ⟨b2, 0, none⟩)), (4, .pointer (some ⟨b3, 0, none⟩)), (6, .pointer (some ⟨b4, 0, none⟩)), (9, .int .i64 (4 * (areaI a b c d))), (10, .slice A10 n cp10), (11, .int .i64 (c - a)), (12, .int .i64 ((i : Nat) : Int)), (87, .slice A10 n cp10), (96, .int .i64 (IntKind.i64.wrap ((b + (((i : Nat) : Int) / (c - a))) * W))), (98, .int .i64 a), (100, .int .i64 ((i : Nat) : Int)), (101, .int .i64 (c - a)), (104, .int .u32 (mkB xs2 i))] (by kernel_rfl) (pok_blk (pok_then (pok_then (pok_blk (pok_then pok_body))))) (by kernel_rfl) rfl rfl (by kernel_rfl) (by kernel_rfl) ?_
    refine cont_recast 96 (.int .i64 (IntKind.i64.wrap ((b + (((i : Nat) : Int) / (c - a))) * W))) (.int .i64 ((b + (((i : Nat) : Int) / (c - a))) * W)) rfl (wrapI (by omega) (by omega)) ?_
    refine takes 0 [0] [(12, 0)] 4 [12, 9, 11, 8, 6, 5, 2, 17, 14, 13, 10, 7, 4, 3, 1, 0] [(2, .slice A2 n2 cap2), (3, .pointer (some ⟨b2, 0, none⟩)), (4, .pointer (some ⟨b3, 0, none⟩)), (6, .pointer (some ⟨b4, 0, none⟩)), (9, .int .i64 (4 * (areaI a b c d))), (10, .slice A10 n cp10), (11, .int .i64 (c - a)), (12, .int .i64 ((i : Nat) : Int)), (87, .slice A10 n cp10), (99, .int .i64 (IntKind.i64.wrap (((b + (((i : Nat) : Int) / (c - a))) * W) + a))), (100, .int .i64 ((i : Nat) : Int)), (101, .int .i64 (c - a)), (104, .int .u32 (mkB xs2 i))] (by kernel_rfl) (pok_blk (pok_then (pok_then (pok_blk (pok_then pok_body))))) (by kernel_rfl) rfl rfl (by kernel_rfl) (by kernel_rfl) ?_
    refine cont_recast 99 (.int .i64 (IntKind.i64.wrap (((b + (((i : Nat) : Int) / (c - a))) * W) + a))) (.int .i64 (((b + (((i : Nat) : Int) / (c - a))) * W) + a)) rfl (wrapI (by omega) (by omega)) ?_
    refine sem_take 0 [0] 15 3 102 (bopS .rem 3 (.tmp 100) (.tmp 101) (.int .i64 ((i : Nat) : Int)) (.int .i64 (c - a))) (.int .i64 (((i : Nat) : Int).tmod (c - a))) (by kernel_rfl) (pok_blk (pok_then (pok_then (pok_blk (pok_then pok_body))))) (by kernel_rfl) rfl (by kernel_rfl) (by kernel_rfl) (fun w hT => run_rem (by omega) w) ?_
    refine cont_recast 102 (.int .i64 (((i : Nat) : Int).tmod (c - a))) (.int .i64 (((i : Nat) : Int) % (c - a))) rfl (tmodI (by omega)) ?_
    refine takes 0 [0] [(16, 0)] 2 [16, 15, 12, 9, 11, 8, 6, 5, 2, 17, 14, 13, 10, 7, 4, 3, 1, 0] [(2, .slice A2 n2 cap2), (3, .pointer (some ⟨b2, 0, none⟩)), (4, .pointer (some ⟨b3, 0, none⟩)), (6, .pointer (some ⟨b4, 0, none⟩)), (9, .int .i64 (4 * (areaI a b c d))), (10, .slice A10 n cp10), (11, .int .i64 (c - a)), (12, .int .i64 ((i : Nat) : Int)), (87, .slice A10 n cp10), (103, .int .i64 (IntKind.i64.wrap ((((b + (((i : Nat) : Int) / (c - a))) * W) + a) + (((i : Nat) : Int) % (c - a))))), (104, .int .u32 (mkB xs2 i))] (by kernel_rfl) (pok_blk (pok_then (pok_then (pok_blk (pok_then pok_body))))) (by kernel_rfl) rfl rfl (by kernel_rfl) (by kernel_rfl) ?_
    refine cont_recast 103 (.int .i64 (IntKind.i64.wrap ((((b + (((i : Nat) : Int) / (c - a))) * W) + a) + (((i : Nat) : Int) % (c - a))))) (.int .i64 ((((b + (((i : Nat) : Int) / (c - a))) * W) + a) + (((i : Nat) : Int) % (c - a)))) rfl (wrapI (by omega) (by omega)) ?_
    refine cont_recast 87 (.slice A10 n cp10) (.slice (some ⟨g10, 0, none⟩) n cp10) rfl (by rw [hr12_a (by omega)]) ?_
    refine sem_take 0 [0] 18 1 105 (Instr.indexAt 35 (.slice (some ⟨g10, 0, none⟩) n cp10) (.int .i64 ((((b + (((i : Nat) : Int) / (c - a))) * W) + a) + (((i : Nat) : Int) % (c - a))))) (.pointer (some ⟨g10, Int.toNat ((((b + (((i : Nat) : Int) / (c - a))) * W) + a) + (((i : Nat) : Int) % (c - a))), none⟩)) (by kernel_rfl) (pok_blk (pok_then (pok_then (pok_blk (pok_then pok_body))))) (by kernel_rfl) rfl (by kernel_rfl) (by kernel_rfl) (fun w hT => run_indexAt (e := 28) (sz := 1) _ (by kernel_rfl) (by kernel_rfl) (by omega) (by omega) (by omega) w) ?_
    refine drawn_one 19 0 rfl (by kernel_rfl) ?_
    refine sem_stepU (Instr.storeAt 28 (.pointer (some ⟨g10, Int.toNat ((((b + (((i : Nat) : Int) / (c - a))) * W) + a) + (((i : Nat) : Int) % (c - a))), none⟩)) (.int .u32 (mkB xs2 i))) (fun _ => [.gen (rowE (A10) g10 n cp10 28 1 (ivals .u32 ((wrS W a b wn xs2 px i).set (Int.toNat ((((b + (((i : Nat) : Int) / (c - a))) * W) + a) + (((i : Nat) : Int) % (c - a)))) (mkB xs2 i))) true), .cells b4 [.int .i64 0, .int .i64 0, .slice none 0 0] 37 true, .cells b3 [.int .i64 a, .int .i64 b, .int .i64 c, .int .i64 d] 32 true, .cells b2 [.int .i64 W, .int .i64 H, .slice (some ⟨r, 0, none⟩) n cap] 37 true, .gen (rdE (some ⟨r, 0, none⟩) r 0 n 1 (ivals .u32 px)), .gen (rdE (A2) g2 o2 n2 1 (ivals .u8 xs2))]) (fun _ => True) (by kernel_rfl) (fun w hT => store_row hT (i := 0) rfl (by kernel_rfl) (by omega)) (fun _ _ => ?_)
    refine drawn_next 0 [0] (by kernel_rfl) ?_
    refine drawn_done (by kernel_rfl) ?_
    refine blk_normal ?_
    refine then_normal ?_
    refine cont_region 3 rfl ?_
    refine bS [0, 0] 2 1 [(2, .slice A2 n2 cap2), (3, .pointer (some ⟨b2, 0, none⟩)), (4, .pointer (some ⟨b3, 0, none⟩)), (6, .pointer (some ⟨b4, 0, none⟩)), (9, .int .i64 (4 * (areaI a b c d))), (10, .slice A10 n cp10), (11, .int .i64 (c - a)), (53, .int .i64 (IntKind.i64.wrap (((i : Nat) : Int) + 1)))] ?_
    refine cont_recast 53 (.int .i64 (IntKind.i64.wrap (((i : Nat) : Int) + 1))) (.int .i64 (((i : Nat) : Int) + 1)) rfl (wrapI (by omega) (by omega)) ?_
    refine bS [0] 3 0 [(2, .slice A2 n2 cap2), (3, .pointer (some ⟨b2, 0, none⟩)), (4, .pointer (some ⟨b3, 0, none⟩)), (6, .pointer (some ⟨b4, 0, none⟩)), (9, .int .i64 (4 * (areaI a b c d))), (10, .slice A10 n cp10), (11, .int .i64 (c - a)), (12, .int .i64 (((i : Nat) : Int) + 1))] ?_
    refine cont_done ?_
    refine then_normal ?_
    refine cont_rowEq (k := .u32) 0 ((wrS W a b wn xs2 px i).set (Int.toNat ((((b + (((i : Nat) : Int) / (c - a))) * W) + a) + (((i : Nat) : Int) % (c - a)))) (mkB xs2 i)) (wrS W a b wn xs2 px (i + 1)) rfl (congrArg (fun z_ => (wrS W a b wn xs2 px i).set z_ (mkB xs2 i)) (wIdx_eq hwn (by omega))) ?_
    refine cont_again (i + 1) (show (i + 1) ≤ N ∧ okN xs2 (i + 1) from ⟨by omega, hokn.step hmy⟩) (show N - (i + 1) < N - i from by omega) (by kernel_rfl) (by kernel_rfl)
  replace c14_ := of_decide_eq_false c14_
  refine cont_false rfl ?_
  refine cont_exit ?_
  refine then_exit ?_
  refine then_exit ?_
  refine blk_exit ?_
  refine then_normal ?_
  refine cont_seq ?_
  refine cont_region 3 rfl ?_
  refine batch0 [0, 0, 3] 3 0 [(3, .pointer (some ⟨b2, 0, none⟩)), (6, .pointer (some ⟨b4, 0, none⟩))] [.gen (rowE (A10) g10 n cp10 28 1 (ivals .u32 (wrS W a b wn xs2 px i)) true), .cells b4 [.int .i64 0, .int .i64 0, .slice none 0 0] 37 true, .cells b3 [.int .i64 a, .int .i64 b, .int .i64 c, .int .i64 d] 32 true, .cells b2 [.int .i64 W, .int .i64 H, .slice A10 n cp10] 37 true, .gen (rdE (some ⟨r, 0, none⟩) r 0 n 1 (ivals .u32 px)), .gen (rdE (A2) g2 o2 n2 1 (ivals .u8 xs2))] rfl rfl (by kernel_rfl) (by kernel_rfl) ?_
  refine cont_forget 2 rfl ?_
  refine cont_done ?_
  refine then_normal ?_
  refine cont_seq ?_
  refine cont_region 3 rfl ?_
  refine batch0 [2, 1, 0] 3 0 [(6, .pointer (some ⟨b4, 0, none⟩)), (7, .int .i64 0)] [.gen (rowE (A10) g10 n cp10 28 1 (ivals .u32 (wrS W a b wn xs2 px i)) true), .cells b4 [.int .i64 W, .int .i64 H, .slice A10 n cp10] 37 true, .cells b2 [.int .i64 W, .int .i64 H, .slice A10 n cp10] 37 true, .gen (rdE (some ⟨r, 0, none⟩) r 0 n 1 (ivals .u32 px)), .gen (rdE (A2) g2 o2 n2 1 (ivals .u8 xs2))] rfl rfl (by kernel_rfl) (by kernel_rfl) ?_
  refine cont_forget 2 rfl ?_
  refine cont_done ?_
  refine then_normal ?_
  refine cont_ret ?_
  refine ret_two (.inl rfl) rfl 1 0 (.agg #[.int .i64 W, .int .i64 H, .slice A10 n cp10]) (.int .i64 0) (by kernel_rfl) (by kernel_rfl) (by kernel_rfl) (by kernel_rfl) (fun w hT => ?_)
  have hE2 : wrE W H a b c d xs2 = 0 := wrE_ok hg (by omega) (N := N) (by omega) (by rw [show N = i by omega]; exact hokn)
  exact (hE hE2).elim

theorem refWriteG (W H : Int) (r n cap : Nat) (px : List Int) (a b c d : Int) (A2 : Option Addr) (g2 o2 n2 cap2 : Nat) (xs2 : List Int) (w : World) (hT0 : Tab w w [.gen (rdE (some ⟨r, 0, none⟩) r 0 n 1 (ivals .u32 px)), .gen (rdE (A2) g2 o2 n2 1 (ivals .u8 xs2))]) (hok : ImgOk W H n px) (hc2 : n2 ≤ cap2) (hx2 : ∀ x ∈ xs2, 0 ≤ x ∧ x ≤ 255) (hE : wrE W H a b c d xs2 = 0) :
    Calls Try.prog 41 #[.agg #[.int .i64 W, .int .i64 H, .slice (some ⟨r, 0, none⟩) n cap], .agg #[.int .i64 a, .int .i64 b, .int .i64 c, .int .i64 d], .slice A2 n2 cap2] w fun e w' => ∃ g cp : Nat, e = .returned (.tuple #[.agg #[.int .i64 W, .int .i64 H, .slice (some ⟨g, 0, none⟩) n cp], .int .i64 0]) ∧ Tab w w' [.gen (rowE (some ⟨g, 0, none⟩) g n cp 28 1 (ivals .u32 (wrA W H px a b c d xs2)) true)] := by
  have hw1 := hok.w1
  have hw2 := hok.w2
  have hh1 := hok.h1
  have hh2 := hok.h2
  have hnum := hok.num
  have hlen := hok.len
  have hle := hok.le
  have hra2 := ((hT0.ok 1 _ rfl : Rd w A2 g2 o2 n2 1 (ivals .u8 xs2)).at_)
  have hl2 : xs2.length = n2 := Rd.flen (hT0.ok 1 _ rfl)
  refine enter 109 [(0, .agg #[.int .i64 W, .int .i64 H, .slice (some ⟨r, 0, none⟩) n cap]), (1, .agg #[.int .i64 a, .int .i64 b, .int .i64 c, .int .i64 d]), (2, .slice A2 n2 cap2)] [.gen (rdE (some ⟨r, 0, none⟩) r 0 n 1 (ivals .u32 px)), .gen (rdE (A2) g2 o2 n2 1 (ivals .u8 xs2))] Try.func41 rfl Try.ntmps41 rfl (by kernel_rfl) hT0 ?_
  refine cont_fact (F := (0 < n2 → (A2 : Option Addr) = some ⟨g2, o2, none⟩) ∧ xs2.length = n2) (fun w hT => Rd.facts (hT.ok 1 _ rfl)) (fun hl1_ => ?_)
  obtain ⟨hl1_a, hl1_l⟩ := hl1_
  refine cont_seq ?_
  refine cont_region 4 rfl ?_
  refine batch3 [0, 0, 0, 0] 4 0 (fun b2 b3 b4 => [(2, .slice A2 n2 cap2), (3, .pointer (some ⟨b2, 0, none⟩)), (4, .pointer (some ⟨b3, 0, none⟩)), (6, .pointer (some ⟨b4, 0, none⟩))]) (fun b2 b3 b4 => [.cells b4 [.int .i64 0, .int .i64 0, .slice none 0 0] 37 true, .cells b3 [.int .i64 a, .int .i64 b, .int .i64 c, .int .i64 d] 32 true, .cells b2 [.int .i64 W, .int .i64 H, .slice (some ⟨r, 0, none⟩) n cap] 37 true, .gen (rdE (some ⟨r, 0, none⟩) r 0 n 1 (ivals .u32 px)), .gen (rdE (A2) g2 o2 n2 1 (ivals .u8 xs2))]) rfl rfl [2, 3, 4, 6] (fun _ _ _ => rfl) (fun b2 b3 b4 => by kernel_rfl) (fun b2 b3 b4 => by kernel_rfl) (fun b2 b3 b4 => ?_)
  refine cont_done ?_
  refine then_normal ?_
  refine cont_seq ?_
  refine drawn_enter 5 [] rfl (by kernel_rfl) ?_
  refine takes 0 [] [(0, 2), (2, 1)] 3 [2, 0] [(2, .slice A2 n2 cap2), (3, .pointer (some ⟨b2, 0, none⟩)), (4, .pointer (some ⟨b3, 0, none⟩)), (6, .pointer (some ⟨b4, 0, none⟩)), (15, .agg #[.int .i64 W, .int .i64 H, .slice (some ⟨r, 0, none⟩) n cap]), (17, .agg #[.int .i64 a, .int .i64 b, .int .i64 c, .int .i64 d])] (by kernel_rfl) (pok_then pok_body) (by kernel_rfl) rfl rfl (by kernel_rfl) (by kernel_rfl) ?_
  refine drawn_one 1 2 rfl (by kernel_rfl) ?_
  refine call_pure (d := 16) (.agg #[.int .i64 0, .int .i64 0, .int .i64 W, .int .i64 H]) (by kernel_rfl) (fun w hT => refBox W H (.slice (some ⟨r, 0, none⟩) n cap) w) ?_
  refine drawn_next 0 [] (by kernel_rfl) ?_
  refine drawn_one 3 1 rfl (by kernel_rfl) ?_
  refine call_pure (d := 18) (.bool (coversB 0 0 W H a b c d)) (by kernel_rfl) (fun w hT => refCovers 0 0 W H a b c d w) ?_
  refine drawn_next 0 [] (by kernel_rfl) ?_
  refine takes 0 [] [(4, 0)] 0 [4, 3, 1, 2, 0] [(2, .slice A2 n2 cap2), (3, .pointer (some ⟨b2, 0, none⟩)), (4, .pointer (some ⟨b3, 0, none⟩)), (6, .pointer (some ⟨b4, 0, none⟩)), (8, .bool (coversB 0 0 W H a b c d))] (by kernel_rfl) (pok_then pok_body) (by kernel_rfl) rfl rfl (by kernel_rfl) (by kernel_rfl) ?_
  refine drawn_done (by kernel_rfl) ?_
  refine then_normal ?_
  refine cont_seq ?_
  refine cont_seq ?_
  refine cont_region 6 rfl ?_
  refine bS [1] 1 5 [(2, .slice A2 n2 cap2), (3, .pointer (some ⟨b2, 0, none⟩)), (4, .pointer (some ⟨b3, 0, none⟩)), (6, .pointer (some ⟨b4, 0, none⟩)), (8, .bool (coversB 0 0 W H a b c d)), (19, .agg #[.int .i64 a, .int .i64 b, .int .i64 c, .int .i64 d])] ?_
  refine pl_step 2 4 rfl rfl ?_
  refine call_pure (d := 20) (.bool (emptyB a b c d)) (by kernel_rfl) (fun w hT => refEmpty a b c d w) ?_
  refine bS [0] 3 3 [(2, .slice A2 n2 cap2), (3, .pointer (some ⟨b2, 0, none⟩)), (4, .pointer (some ⟨b3, 0, none⟩)), (6, .pointer (some ⟨b4, 0, none⟩)), (8, .bool (coversB 0 0 W H a b c d)), (21, .bool (emptyB a b c d))] ?_
  refine cont_split 21 (emptyB a b c d) rfl (fun c5_ => ?_) (fun c5_ => ?_)
  ·
    have hem_ : emptyB a b c d = true := c5_
    refine bS [0, 0, 0] 6 0 [(2, .slice A2 n2 cap2), (3, .pointer (some ⟨b2, 0, none⟩)), (4, .pointer (some ⟨b3, 0, none⟩)), (6, .pointer (some ⟨b4, 0, none⟩)), (24, .bool true)] ?_
    refine cont_done ?_
    refine then_normal ?_
    refine cont_true rfl ?_
    refine cont_seq ?_
    refine cont_region 3 rfl ?_
    refine batch0 [2, 0, 0] 3 0 [(6, .pointer (some ⟨b4, 0, none⟩)), (7, .int .i64 4)] [.cells b4 [.int .i64 W, .int .i64 H, .slice (some ⟨r, 0, none⟩) n cap] 37 true, .cells b3 [.int .i64 a, .int .i64 b, .int .i64 c, .int .i64 d] 32 true, .cells b2 [.int .i64 W, .int .i64 H, .slice (some ⟨r, 0, none⟩) n cap] 37 true, .gen (rdE (some ⟨r, 0, none⟩) r 0 n 1 (ivals .u32 px)), .gen (rdE (A2) g2 o2 n2 1 (ivals .u8 xs2))] rfl rfl (by kernel_rfl) (by kernel_rfl) ?_
    refine cont_forget 1 rfl ?_
    refine cont_forget 1 rfl ?_
    refine cont_done ?_
    refine then_normal ?_
    refine cont_ret ?_
    refine then_ret ?_
    refine ret_two (.inl rfl) rfl 0 0 (.agg #[.int .i64 W, .int .i64 H, .slice (some ⟨r, 0, none⟩) n cap]) (.int .i64 4) (by kernel_rfl) (by kernel_rfl) (by kernel_rfl) (by kernel_rfl) (fun w hT => ?_)
    have hE2 : wrE W H a b c d xs2 = 4 := (by rcases Bool.eq_false_or_eq_true (emptyB a b c d) with h_ | h_; exact wrE_ins (by unfold insB; rw [h_]; rfl); first | exact wrE_ins hgF | exact absurd (h_.symm.trans hem_) (by decide))
    rw [hE] at hE2; cases hE2
  have hem_ : emptyB a b c d = false := c5_
  refine bS [0, 0, 0] 6 0 [(2, .slice A2 n2 cap2), (3, .pointer (some ⟨b2, 0, none⟩)), (4, .pointer (some ⟨b3, 0, none⟩)), (6, .pointer (some ⟨b4, 0, none⟩)), (24, .bool (!(coversB 0 0 W H a b c d)))] ?_
  refine cont_done ?_
  refine then_normal ?_
  refine cont_split 24 (!(coversB 0 0 W H a b c d)) rfl (fun c6_ => ?_) (fun c6_ => ?_)
  ·
    replace c6_ : (coversB 0 0 W H a b c d) = false := by simpa using c6_
    have hgF : insB W H a b c d = false := by unfold insB; rw [show coversB 0 0 W H a b c d = false from c6_, Bool.and_false]
    refine cont_true rfl ?_
    refine cont_seq ?_
    refine cont_region 3 rfl ?_
    refine batch0 [2, 0, 0] 3 0 [(6, .pointer (some ⟨b4, 0, none⟩)), (7, .int .i64 4)] [.cells b4 [.int .i64 W, .int .i64 H, .slice (some ⟨r, 0, none⟩) n cap] 37 true, .cells b3 [.int .i64 a, .int .i64 b, .int .i64 c, .int .i64 d] 32 true, .cells b2 [.int .i64 W, .int .i64 H, .slice (some ⟨r, 0, none⟩) n cap] 37 true, .gen (rdE (some ⟨r, 0, none⟩) r 0 n 1 (ivals .u32 px)), .gen (rdE (A2) g2 o2 n2 1 (ivals .u8 xs2))] rfl rfl (by kernel_rfl) (by kernel_rfl) ?_
    refine cont_forget 1 rfl ?_
    refine cont_forget 1 rfl ?_
    refine cont_done ?_
    refine then_normal ?_
    refine cont_ret ?_
    refine then_ret ?_
    refine ret_two (.inl rfl) rfl 0 0 (.agg #[.int .i64 W, .int .i64 H, .slice (some ⟨r, 0, none⟩) n cap]) (.int .i64 4) (by kernel_rfl) (by kernel_rfl) (by kernel_rfl) (by kernel_rfl) (fun w hT => ?_)
    have hE2 : wrE W H a b c d xs2 = 4 := (by rcases Bool.eq_false_or_eq_true (emptyB a b c d) with h_ | h_; exact wrE_ins (by unfold insB; rw [h_]; rfl); first | exact wrE_ins hgF | exact absurd (h_.symm.trans hem_) (by decide))
    rw [hE] at hE2; cases hE2
  replace c6_ : (coversB 0 0 W H a b c d) = true := by simpa using c6_
  have hg : insB W H a b c d = true := by unfold insB; rw [show coversB 0 0 W H a b c d = true from c6_, hem_]; rfl
  obtain ⟨hg1, hg2, hg3, hg4, hg5, hg6⟩ := insB_true hg
  obtain ⟨har0, har1, har2⟩ := ins_area hok hg
  refine cont_false rfl ?_
  refine cont_skip ?_
  refine then_normal ?_
  refine cont_seq ?_
  refine cont_region 4 rfl ?_
  refine bS [1] 1 3 [(2, .slice A2 n2 cap2), (3, .pointer (some ⟨b2, 0, none⟩)), (4, .pointer (some ⟨b3, 0, none⟩)), (6, .pointer (some ⟨b4, 0, none⟩)), (26, .agg #[.int .i64 a, .int .i64 b, .int .i64 c, .int .i64 d])] ?_
  refine pl_step 2 2 rfl rfl ?_
  refine call_pure (d := 27) (.int .i64 (areaI a b c d)) (by kernel_rfl) (fun w hT => refArea a b c d w (by omega) (by omega) (by omega) (by omega)) ?_
  refine bS [0] 3 1 [(2, .slice A2 n2 cap2), (3, .pointer (some ⟨b2, 0, none⟩)), (4, .pointer (some ⟨b3, 0, none⟩)), (6, .pointer (some ⟨b4, 0, none⟩)), (28, .int .i64 (IntKind.i64.wrap (4 * (areaI a b c d))))] ?_
  refine cont_recast 28 (.int .i64 (IntKind.i64.wrap (4 * (areaI a b c d)))) (.int .i64 (4 * (areaI a b c d))) rfl (wrapI (by omega) (by omega)) ?_
  refine bS [0] 4 0 [(2, .slice A2 n2 cap2), (3, .pointer (some ⟨b2, 0, none⟩)), (4, .pointer (some ⟨b3, 0, none⟩)), (6, .pointer (some ⟨b4, 0, none⟩)), (9, .int .i64 (4 * (areaI a b c d)))] ?_
  refine cont_done ?_
  refine then_normal ?_
  refine cont_seq ?_
  refine cont_seq ?_
  refine cont_region 4 rfl ?_
  refine bS [0, 0, 0, 0] 4 0 [(2, .slice A2 n2 cap2), (3, .pointer (some ⟨b2, 0, none⟩)), (4, .pointer (some ⟨b3, 0, none⟩)), (6, .pointer (some ⟨b4, 0, none⟩)), (9, .int .i64 (4 * (areaI a b c d))), (32, .bool (decide ((n2 : Int) < (4 * (areaI a b c d)))))] ?_
  refine cont_done ?_
  refine then_normal ?_
  refine cont_split 32 (decide ((n2 : Int) < (4 * (areaI a b c d)))) rfl (fun c7_ => ?_) (fun c7_ => ?_)
  ·
    replace c7_ := of_decide_eq_true c7_
    refine cont_true rfl ?_
    refine cont_seq ?_
    refine cont_region 3 rfl ?_
    refine batch0 [2, 0, 0] 3 0 [(6, .pointer (some ⟨b4, 0, none⟩)), (7, .int .i64 3)] [.cells b4 [.int .i64 W, .int .i64 H, .slice (some ⟨r, 0, none⟩) n cap] 37 true, .cells b3 [.int .i64 a, .int .i64 b, .int .i64 c, .int .i64 d] 32 true, .cells b2 [.int .i64 W, .int .i64 H, .slice (some ⟨r, 0, none⟩) n cap] 37 true, .gen (rdE (some ⟨r, 0, none⟩) r 0 n 1 (ivals .u32 px)), .gen (rdE (A2) g2 o2 n2 1 (ivals .u8 xs2))] rfl rfl (by kernel_rfl) (by kernel_rfl) ?_
    refine cont_forget 1 rfl ?_
    refine cont_forget 1 rfl ?_
    refine cont_done ?_
    refine then_normal ?_
    refine cont_ret ?_
    refine then_ret ?_
    refine ret_two (.inl rfl) rfl 0 0 (.agg #[.int .i64 W, .int .i64 H, .slice (some ⟨r, 0, none⟩) n cap]) (.int .i64 3) (by kernel_rfl) (by kernel_rfl) (by kernel_rfl) (by kernel_rfl) (fun w hT => ?_)
    have hE2 : wrE W H a b c d xs2 = 3 := wrE_short hg (by omega)
    rw [hE] at hE2; cases hE2
  replace c7_ := of_decide_eq_false c7_
  refine cont_false rfl ?_
  refine cont_skip ?_
  refine then_normal ?_
  refine cont_seq ?_
  refine cont_seq ?_
  refine cont_region 4 rfl ?_
  refine bS [0, 0, 0, 0] 4 0 [(2, .slice A2 n2 cap2), (3, .pointer (some ⟨b2, 0, none⟩)), (4, .pointer (some ⟨b3, 0, none⟩)), (6, .pointer (some ⟨b4, 0, none⟩)), (9, .int .i64 (4 * (areaI a b c d))), (37, .bool (decide ((n2 : Int) > (4 * (areaI a b c d)))))] ?_
  refine cont_done ?_
  refine then_normal ?_
  refine cont_split 37 (decide ((n2 : Int) > (4 * (areaI a b c d)))) rfl (fun c8_ => ?_) (fun c8_ => ?_)
  ·
    replace c8_ := of_decide_eq_true c8_
    refine cont_true rfl ?_
    refine cont_seq ?_
    refine cont_region 3 rfl ?_
    refine batch0 [2, 0, 0] 3 0 [(6, .pointer (some ⟨b4, 0, none⟩)), (7, .int .i64 2)] [.cells b4 [.int .i64 W, .int .i64 H, .slice (some ⟨r, 0, none⟩) n cap] 37 true, .cells b3 [.int .i64 a, .int .i64 b, .int .i64 c, .int .i64 d] 32 true, .cells b2 [.int .i64 W, .int .i64 H, .slice (some ⟨r, 0, none⟩) n cap] 37 true, .gen (rdE (some ⟨r, 0, none⟩) r 0 n 1 (ivals .u32 px)), .gen (rdE (A2) g2 o2 n2 1 (ivals .u8 xs2))] rfl rfl (by kernel_rfl) (by kernel_rfl) ?_
    refine cont_forget 1 rfl ?_
    refine cont_forget 1 rfl ?_
    refine cont_done ?_
    refine then_normal ?_
    refine cont_ret ?_
    refine then_ret ?_
    refine ret_two (.inl rfl) rfl 0 0 (.agg #[.int .i64 W, .int .i64 H, .slice (some ⟨r, 0, none⟩) n cap]) (.int .i64 2) (by kernel_rfl) (by kernel_rfl) (by kernel_rfl) (by kernel_rfl) (fun w hT => ?_)
    have hE2 : wrE W H a b c d xs2 = 2 := wrE_long hg (by omega)
    rw [hE] at hE2; cases hE2
  replace c8_ := of_decide_eq_false c8_
  refine cont_false rfl ?_
  refine cont_skip ?_
  refine then_normal ?_
  refine cont_seq ?_
  refine cont_region 1 rfl ?_
  obtain ⟨N, hN⟩ : ∃ N : Nat, (N : Int) = areaI a b c d := ⟨Int.toNat (areaI a b c d), by omega⟩
  obtain ⟨wn, hwn⟩ : ∃ k_ : Nat, k_ = Int.toNat (c - a) := ⟨_, rfl⟩
  refine bS [0] 1 0 [(2, .slice A2 n2 cap2), (3, .pointer (some ⟨b2, 0, none⟩)), (4, .pointer (some ⟨b3, 0, none⟩)), (6, .pointer (some ⟨b4, 0, none⟩)), (9, .int .i64 (4 * (areaI a b c d))), (10, .slice none 0 0)] ?_
  refine cont_done ?_
  refine then_normal ?_
  refine cont_seq ?_
  refine cont_region 5 rfl ?_
  refine bS [0, 0, 2] 3 2 [(2, .slice A2 n2 cap2), (3, .pointer (some ⟨b2, 0, none⟩)), (4, .pointer (some ⟨b3, 0, none⟩)), (6, .pointer (some ⟨b4, 0, none⟩)), (9, .int .i64 (4 * (areaI a b c d))), (39, .slice none 0 0), (41, .slice (some ⟨r, 0, none⟩) n cap)] ?_
  refine pl_step 4 1 rfl rfl ?_
  refine cont_nilrow 28 1 ?_
  refine sem_stepW (α := Option Addr × Nat × Nat) 42 (Builtin.append_ #[35, 35] 35 #[.slice none 0 0, .slice (some ⟨r, 0, none⟩) n cap]) (fun x_ => .slice x_.1 n x_.2.2) (fun x_ => [.gen (rowE (x_.1) x_.2.1 n x_.2.2 28 1 (ivals .u32 px) true), .cells b4 [.int .i64 0, .int .i64 0, .slice none 0 0] 37 true, .cells b3 [.int .i64 a, .int .i64 b, .int .i64 c, .int .i64 d] 32 true, .cells b2 [.int .i64 W, .int .i64 H, .slice (some ⟨r, 0, none⟩) n cap] 37 true, .gen (rdE (some ⟨r, 0, none⟩) r 0 n 1 (ivals .u32 px)), .gen (rdE (A2) g2 o2 n2 1 (ivals .u8 xs2))]) (fun _ => True) (by kernel_rfl) (fun w hT => append_own (n' := n) (z := .int .u32 0) hT (i := 0) (bytes := 4) rfl (by kernel_rfl) (by kernel_rfl) rfl (by decide) (by decide) (hT.ok 4 _ rfl) (ivals_one .u32 px) (by omega) rfl (Nat.zero_add _).symm) ?_
  rintro ⟨A10, g10, cp10⟩ -
  refine cont_norm [(2, .slice A2 n2 cap2), (3, .pointer (some ⟨b2, 0, none⟩)), (4, .pointer (some ⟨b3, 0, none⟩)), (6, .pointer (some ⟨b4, 0, none⟩)), (9, .int .i64 (4 * (areaI a b c d))), (39, .slice none 0 0), (41, .slice (some ⟨r, 0, none⟩) n cap), (42, .slice A10 n cp10)] [.gen (rowE (A10) g10 n cp10 28 1 (ivals .u32 px) true), .cells b4 [.int .i64 0, .int .i64 0, .slice none 0 0] 37 true, .cells b3 [.int .i64 a, .int .i64 b, .int .i64 c, .int .i64 d] 32 true, .cells b2 [.int .i64 W, .int .i64 H, .slice (some ⟨r, 0, none⟩) n cap] 37 true, .gen (rdE (some ⟨r, 0, none⟩) r 0 n 1 (ivals .u32 px)), .gen (rdE (A2) g2 o2 n2 1 (ivals .u8 xs2))] (by kernel_rfl) rfl ?_
  refine cont_fact (F := (0 < n → (A10 : Option Addr) = some ⟨g10, 0, none⟩) ∧ px.length = n ∧ n ≤ cp10 ∧ cp10 ≤ maxLen) (fun w hT => Row.facts (hT.ok 0 _ rfl)) (fun hr11_ => ?_)
  obtain ⟨hr11_a, hr11_l, hr11_c, hr11_m⟩ := hr11_
  unfold maxLen at hr11_m
  refine bS [0] 5 0 [(2, .slice A2 n2 cap2), (3, .pointer (some ⟨b2, 0, none⟩)), (4, .pointer (some ⟨b3, 0, none⟩)), (6, .pointer (some ⟨b4, 0, none⟩)), (9, .int .i64 (4 * (areaI a b c d))), (10, .slice A10 n cp10)] ?_
  refine cont_done ?_
  refine then_normal ?_
  refine cont_seq ?_
  refine cont_region 6 rfl ?_
  refine bS [0, 2, 0, 2, 0] 5 1 [(2, .slice A2 n2 cap2), (3, .pointer (some ⟨b2, 0, none⟩)), (4, .pointer (some ⟨b3, 0, none⟩)), (6, .pointer (some ⟨b4, 0, none⟩)), (9, .int .i64 (4 * (areaI a b c d))), (10, .slice A10 n cp10), (47, .int .i64 (IntKind.i64.wrap (c - a)))] ?_
  refine cont_recast 47 (.int .i64 (IntKind.i64.wrap (c - a))) (.int .i64 (c - a)) rfl (wrapI (by omega) (by omega)) ?_
  refine bS [0] 6 0 [(2, .slice A2 n2 cap2), (3, .pointer (some ⟨b2, 0, none⟩)), (4, .pointer (some ⟨b3, 0, none⟩)), (6, .pointer (some ⟨b4, 0, none⟩)), (9, .int .i64 (4 * (areaI a b c d))), (10, .slice A10 n cp10), (11, .int .i64 (c - a))] ?_
  refine cont_done ?_
  refine then_normal ?_
  refine cont_seq ?_
  refine cont_seq ?_
  refine cont_region 1 rfl ?_
  refine bS [0] 1 0 [(2, .slice A2 n2 cap2), (3, .pointer (some ⟨b2, 0, none⟩)), (4, .pointer (some ⟨b3, 0, none⟩)), (6, .pointer (some ⟨b4, 0, none⟩)), (9, .int .i64 (4 * (areaI a b c d))), (10, .slice A10 n cp10), (11, .int .i64 (c - a)), (12, .int .i64 0)] ?_
  refine cont_done ?_
  refine then_normal ?_
  refine cont_block ?_
  refine cont_rowEq (k := .u32) 0 (px) (wrS W a b wn xs2 px 0) rfl rfl ?_
  refine cont_recast 12 (.int .i64 0) (.int .i64 ((0 : Nat) : Int)) rfl (congrArg (Value.int .i64) rfl) ?_
  refine cont_fact (F := (0 < n → (A10 : Option Addr) = some ⟨g10, 0, none⟩) ∧ (wrS W a b wn xs2 px 0).length = n ∧ n ≤ cp10 ∧ cp10 ≤ maxLen) (fun w hT => Row.facts (hT.ok 0 _ rfl)) (fun hr12_ => ?_)
  obtain ⟨hr12_a, hr12_l, hr12_c, hr12_m⟩ := hr12_
  unfold maxLen at hr12_m
  refine cont_loop (α := Nat) (fun x_ : Nat => x_ ≤ N ∧ okN xs2 x_) (fun x_ : Nat => [(2, .slice A2 n2 cap2), (3, .pointer (some ⟨b2, 0, none⟩)), (4, .pointer (some ⟨b3, 0, none⟩)), (6, .pointer (some ⟨b4, 0, none⟩)), (9, .int .i64 (4 * (areaI a b c d))), (10, .slice A10 n cp10), (11, .int .i64 (c - a)), (12, .int .i64 ((x_ : Nat) : Int))]) (fun x_ : Nat => [.gen (rowE (A10) g10 n cp10 28 1 (ivals .u32 (wrS W a b wn xs2 px x_)) true), .cells b4 [.int .i64 0, .int .i64 0, .slice none 0 0] 37 true, .cells b3 [.int .i64 a, .int .i64 b, .int .i64 c, .int .i64 d] 32 true, .cells b2 [.int .i64 W, .int .i64 H, .slice (some ⟨r, 0, none⟩) n cap] 37 true, .gen (rdE (some ⟨r, 0, none⟩) r 0 n 1 (ivals .u32 px)), .gen (rdE (A2) g2 o2 n2 1 (ivals .u8 xs2))]) (fun x_ : Nat => N - x_) 0 (⟨by omega, fun j hj => by omega⟩) (by kernel_rfl) (by kernel_rfl) ?_
  rintro i hinv13_
  replace hinv13_ : i ≤ N ∧ okN xs2 i := hinv13_
  refine cont_norm [(2, .slice A2 n2 cap2), (3, .pointer (some ⟨b2, 0, none⟩)), (4, .pointer (some ⟨b3, 0, none⟩)), (6, .pointer (some ⟨b4, 0, none⟩)), (9, .int .i64 (4 * (areaI a b c d))), (10, .slice A10 n cp10), (11, .int .i64 (c - a)), (12, .int .i64 ((i : Nat) : Int))] [.gen (rowE (A10) g10 n cp10 28 1 (ivals .u32 (wrS W a b wn xs2 px i)) true), .cells b4 [.int .i64 0, .int .i64 0, .slice none 0 0] 37 true, .cells b3 [.int .i64 a, .int .i64 b, .int .i64 c, .int .i64 d] 32 true, .cells b2 [.int .i64 W, .int .i64 H, .slice (some ⟨r, 0, none⟩) n cap] 37 true, .gen (rdE (some ⟨r, 0, none⟩) r 0 n 1 (ivals .u32 px)), .gen (rdE (A2) g2 o2 n2 1 (ivals .u8 xs2))] (by kernel_rfl) rfl ?_
  obtain ⟨hi, hokn⟩ := hinv13_
  have hmk := mkB_in xs2 i
  have hwl : (wrS W a b wn xs2 px i).length = n := by rw [wrS_length]; exact hlen
  have hb0 := getD_byte hx2 (Int.toNat (4 * ((i : Nat) : Int)))
  have hb1 := getD_byte hx2 (Int.toNat (4 * ((i : Nat) : Int) + 1))
  have hb2 := getD_byte hx2 (Int.toNat (4 * ((i : Nat) : Int) + 2))
  have hb3 := getD_byte hx2 (Int.toNat (4 * ((i : Nat) : Int) + 3))
  refine cont_seq ?_
  refine cont_seq ?_
  refine cont_region 4 rfl ?_
  refine bS [0, 0, 0] 3 1 [(2, .slice A2 n2 cap2), (3, .pointer (some ⟨b2, 0, none⟩)), (4, .pointer (some ⟨b3, 0, none⟩)), (6, .pointer (some ⟨b4, 0, none⟩)), (9, .int .i64 (4 * (areaI a b c d))), (10, .slice A10 n cp10), (11, .int .i64 (c - a)), (12, .int .i64 ((i : Nat) : Int)), (48, .int .i64 ((i : Nat) : Int)), (50, .int .i64 (IntKind.i64.wrap ((4 * (areaI a b c d)).tdiv 4)))] ?_
  refine cont_recast 50 (.int .i64 (IntKind.i64.wrap ((4 * (areaI a b c d)).tdiv 4))) (.int .i64 ((4 * (areaI a b c d)) / 4)) rfl (tdivI (by omega) (by omega) (by omega)) ?_
  refine bS [0] 4 0 [(2, .slice A2 n2 cap2), (3, .pointer (some ⟨b2, 0, none⟩)), (4, .pointer (some ⟨b3, 0, none⟩)), (6, .pointer (some ⟨b4, 0, none⟩)), (9, .int .i64 (4 * (areaI a b c d))), (10, .slice A10 n cp10), (11, .int .i64 (c - a)), (12, .int .i64 ((i : Nat) : Int)), (51, .bool (decide (((i : Nat) : Int) < ((4 * (areaI a b c d)) / 4))))] ?_
  refine cont_done ?_
  refine then_normal ?_
  refine cont_split 51 (decide (((i : Nat) : Int) < ((4 * (areaI a b c d)) / 4))) rfl (fun c14_ => ?_) (fun c14_ => ?_)
  ·
    replace c14_ := of_decide_eq_true c14_
    refine cont_true rfl ?_
    refine cont_skip ?_
    refine then_normal ?_
    refine cont_seq ?_
    refine cont_block ?_
    refine cont_seq ?_
    refine drawn_enter 29 [] rfl (by kernel_rfl) ?_
    refine takes 0 [] [(0, 0), (1, 0), (6, 0), (7, 0), (13, 0), (14, 0), (20, 0), (21, 0), (2, 0)] 20 [2, 21, 20, 14, 13, 7, 6, 1, 0] [(2, .slice A2 n2 cap2), (3, .pointer (some ⟨b2, 0, none⟩)), (4, .pointer (some ⟨b3, 0, none⟩)), (6, .pointer (some ⟨b4, 0, none⟩)), (9, .int .i64 (4 * (areaI a b c d))), (10, .slice A10 n cp10), (11, .int .i64 (c - a)), (12, .int .i64 ((i : Nat) : Int)), (54, .slice A2 n2 cap2), (56, .int .i64 (IntKind.i64.wrap (4 * ((i : Nat) : Int)))), (60, .slice A2 n2 cap2), (61, .int .i64 ((i : Nat) : Int)), (67, .slice A2 n2 cap2), (68, .int .i64 ((i : Nat) : Int)), (74, .slice A2 n2 cap2), (75, .int .i64 ((i : Nat) : Int))] (by kernel_rfl) (pok_then (pok_blk (pok_then (pok_then (pok_blk (pok_then pok_body)))))) (by kernel_rfl) rfl rfl (by kernel_rfl) (by kernel_rfl) ?_
    refine cont_recast 56 (.int .i64 (IntKind.i64.wrap (4 * ((i : Nat) : Int)))) (.int .i64 (4 * ((i : Nat) : Int))) rfl (wrapI (by omega) (by omega)) ?_
    refine cont_recast 54 (.slice A2 n2 cap2) (.slice (some ⟨g2, o2, none⟩) n2 cap2) rfl (by rw [hl1_a (by omega)]) ?_
    refine sem_take 0 [] 3 19 57 (Instr.indexAt 43 (.slice (some ⟨g2, o2, none⟩) n2 cap2) (.int .i64 (4 * ((i : Nat) : Int)))) (.pointer (some ⟨g2, o2 + Int.toNat (4 * ((i : Nat) : Int)), none⟩)) (by kernel_rfl) (pok_then (pok_blk (pok_then (pok_then (pok_blk (pok_then pok_body)))))) (by kernel_rfl) rfl (by kernel_rfl) (by kernel_rfl) (fun w hT => run_indexAt (e := 5) (sz := 1) _ (by kernel_rfl) (by kernel_rfl) (by omega) (by omega) (by omega) w) ?_
    refine sem_take 0 [] 4 18 58 (Instr.loadAt 5 (.pointer (some ⟨g2, o2 + Int.toNat (4 * ((i : Nat) : Int)), none⟩))) (.int .u8 (xs2.getD (Int.toNat (4 * ((i : Nat) : Int))) 0)) (by kernel_rfl) (pok_then (pok_blk (pok_then (pok_then (pok_blk (pok_then pok_body)))))) (by kernel_rfl) rfl (by kernel_rfl) (by kernel_rfl) (fun w hT => run_load1 (by kernel_rfl) (Rd.cell (hT 5 _ rfl) (Int.toNat (4 * ((i : Nat) : Int))) _ (ivals_get (by omega)))) ?_
    refine takes 0 [] [(5, 0)] 17 [5, 4, 3, 2, 21, 20, 14, 13, 7, 6, 1, 0] [(2, .slice A2 n2 cap2), (3, .pointer (some ⟨b2, 0, none⟩)), (4, .pointer (some ⟨b3, 0, none⟩)), (6, .pointer (some ⟨b4, 0, none⟩)), (9, .int .i64 (4 * (areaI a b c d))), (10, .slice A10 n cp10), (11, .int .i64 (c - a)), (12, .int .i64 ((i : Nat) : Int)), (59, .int .i64 (IntKind.i64.wrap (xs2.getD (Int.toNat (4 * ((i : Nat) : Int))) 0))), (60, .slice A2 n2 cap2), (61, .int .i64 ((i : Nat) : Int)), (67, .slice A2 n2 cap2), (68, .int .i64 ((i : Nat) : Int)), (74, .slice A2 n2 cap2), (75, .int .i64 ((i : Nat) : Int))] (by kernel_rfl) (pok_then (pok_blk (pok_then (pok_then (pok_blk (pok_then pok_body)))))) (by kernel_rfl) rfl rfl (by kernel_rfl) (by kernel_rfl) ?_
    refine cont_recast 59 (.int .i64 (IntKind.i64.wrap (xs2.getD (Int.toNat (4 * ((i : Nat) : Int))) 0))) (.int .i64 (xs2.getD (Int.toNat (4 * ((i : Nat) : Int))) 0)) rfl (wrapI (by omega) (by omega)) ?_
    refine takes 0 [] [(8, 0)] 16 [8, 5, 4, 3, 2, 21, 20, 14, 13, 7, 6, 1, 0] [(2, .slice A2 n2 cap2), (3, .pointer (some ⟨b2, 0, none⟩)), (4, .pointer (some ⟨b3, 0, none⟩)), (6, .pointer (some ⟨b4, 0, none⟩)), (9, .int .i64 (4 * (areaI a b c d))), (10, .slice A10 n cp10), (11, .int .i64 (c - a)), (12, .int .i64 ((i : Nat) : Int)), (59, .int .i64 (xs2.getD (Int.toNat (4 * ((i : Nat) : Int))) 0)), (60, .slice A2 n2 cap2), (62, .int .i64 (IntKind.i64.wrap (4 * ((i : Nat) : Int)))), (67, .slice A2 n2 cap2), (68, .int .i64 ((i : Nat) : Int)), (74, .slice A2 n2 cap2), (75, .int .i64 ((i : Nat) : Int))] (by kernel_rfl) (pok_then (pok_blk (pok_then (pok_then (pok_blk (pok_then pok_body)))))) (by kernel_rfl) rfl rfl (by kernel_rfl) (by kernel_rfl) ?_
    refine cont_recast 62 (.int .i64 (IntKind.i64.wrap (4 * ((i : Nat) : Int)))) (.int .i64 (4 * ((i : Nat) : Int))) rfl (wrapI (by omega) (by omega)) ?_
    refine takes 0 [] [(9, 0)] 15 [9, 8, 5, 4, 3, 2, 21, 20, 14, 13, 7, 6, 1, 0] [(2, .slice A2 n2 cap2), (3, .pointer (some ⟨b2, 0, none⟩)), (4, .pointer (some ⟨b3, 0, none⟩)), (6, .pointer (some ⟨b4, 0, none⟩)), (9, .int .i64 (4 * (areaI a b c d))), (10, .slice A10 n cp10), (11, .int .i64 (c - a)), (12, .int .i64 ((i : Nat) : Int)), (59, .int .i64 (xs2.getD (Int.toNat (4 * ((i : Nat) : Int))) 0)), (60, .slice A2 n2 cap2), (63, .int .i64 (IntKind.i64.wrap ((4 * ((i : Nat) : Int)) + 1))), (67, .slice A2 n2 cap2), (68, .int .i64 ((i : Nat) : Int)), (74, .slice A2 n2 cap2), (75, .int .i64 ((i : Nat) : Int))] (by kernel_rfl) (pok_then (pok_blk (pok_then (pok_then (pok_blk (pok_then pok_body)))))) (by kernel_rfl) rfl rfl (by kernel_rfl) (by kernel_rfl) ?_
    refine cont_recast 63 (.int .i64 (IntKind.i64.wrap ((4 * ((i : Nat) : Int)) + 1))) (.int .i64 ((4 * ((i : Nat) : Int)) + 1)) rfl (wrapI (by omega) (by omega)) ?_
    refine cont_recast 60 (.slice A2 n2 cap2) (.slice (some ⟨g2, o2, none⟩) n2 cap2) rfl (by rw [hl1_a (by omega)]) ?_
    refine sem_take 0 [] 10 14 64 (Instr.indexAt 43 (.slice (some ⟨g2, o2, none⟩) n2 cap2) (.int .i64 ((4 * ((i : Nat) : Int)) + 1))) (.pointer (some ⟨g2, o2 + Int.toNat ((4 * ((i : Nat) : Int)) + 1), none⟩)) (by kernel_rfl) (pok_then (pok_blk (pok_then (pok_then (pok_blk (pok_then pok_body)))))) (by kernel_rfl) rfl (by kernel_rfl) (by kernel_rfl) (fun w hT => run_indexAt (e := 5) (sz := 1) _ (by kernel_rfl) (by kernel_rfl) (by omega) (by omega) (by omega) w) ?_
    refine sem_take 0 [] 11 13 65 (Instr.loadAt 5 (.pointer (some ⟨g2, o2 + Int.toNat ((4 * ((i : Nat) : Int)) + 1), none⟩))) (.int .u8 (xs2.getD (Int.toNat ((4 * ((i : Nat) : Int)) + 1)) 0)) (by kernel_rfl) (pok_then (pok_blk (pok_then (pok_then (pok_blk (pok_then pok_body)))))) (by kernel_rfl) rfl (by kernel_rfl) (by kernel_rfl) (fun w hT => run_load1 (by kernel_rfl) (Rd.cell (hT 5 _ rfl) (Int.toNat ((4 * ((i : Nat) : Int)) + 1)) _ (ivals_get (by omega)))) ?_
    refine takes 0 [] [(12, 0)] 12 [12, 11, 10, 9, 8, 5, 4, 3, 2, 21, 20, 14, 13, 7, 6, 1, 0] [(2, .slice A2 n2 cap2), (3, .pointer (some ⟨b2, 0, none⟩)), (4, .pointer (some ⟨b3, 0, none⟩)), (6, .pointer (some ⟨b4, 0, none⟩)), (9, .int .i64 (4 * (areaI a b c d))), (10, .slice A10 n cp10), (11, .int .i64 (c - a)), (12, .int .i64 ((i : Nat) : Int)), (59, .int .i64 (xs2.getD (Int.toNat (4 * ((i : Nat) : Int))) 0)), (66, .int .i64 (IntKind.i64.wrap (xs2.getD (Int.toNat ((4 * ((i : Nat) : Int)) + 1)) 0))), (67, .slice A2 n2 cap2), (68, .int .i64 ((i : Nat) : Int)), (74, .slice A2 n2 cap2), (75, .int .i64 ((i : Nat) : Int))] (by kernel_rfl) (pok_then (pok_blk (pok_then (pok_then (pok_blk (pok_then pok_body)))))) (by kernel_rfl) rfl rfl (by kernel_rfl) (by kernel_rfl) ?_
    refine cont_recast 66 (.int .i64 (IntKind.i64.wrap (xs2.getD (Int.toNat ((4 * ((i : Nat) : Int)) + 1)) 0))) (.int .i64 (xs2.getD (Int.toNat ((4 * ((i : Nat) : Int)) + 1)) 0)) rfl (wrapI (by omega) (by omega)) ?_
    refine takes 0 [] [(15, 0)] 11 [15, 12, 11, 10, 9, 8, 5, 4, 3, 2, 21, 20, 14, 13, 7, 6, 1, 0] [(2, .slice A2 n2 cap2), (3, .pointer (some ⟨b2, 0, none⟩)), (4, .pointer (some ⟨b3, 0, none⟩)), (6, .pointer (some ⟨b4, 0, none⟩)), (9, .int .i64 (4 * (areaI a b c d))), (10, .slice A10 n cp10), (11, .int .i64 (c - a)), (12, .int .i64 ((i : Nat) : Int)), (59, .int .i64 (xs2.getD (Int.toNat (4 * ((i : Nat) : Int))) 0)), (66, .int .i64 (xs2.getD (Int.toNat ((4 * ((i : Nat) : Int)) + 1)) 0)), (67, .slice A2 n2 cap2), (69, .int .i64 (IntKind.i64.wrap (4 * ((i : Nat) : Int)))), (74, .slice A2 n2 cap2), (75, .int .i64 ((i : Nat) : Int))] (by kernel_rfl) (pok_then (pok_blk (pok_then (pok_then (pok_blk (pok_then pok_body)))))) (by kernel_rfl) rfl rfl (by kernel_rfl) (by kernel_rfl) ?_
    refine cont_recast 69 (.int .i64 (IntKind.i64.wrap (4 * ((i : Nat) : Int)))) (.int .i64 (4 * ((i : Nat) : Int))) rfl (wrapI (by omega) (by omega)) ?_
    refine takes 0 [] [(16, 0)] 10 [16, 15, 12, 11, 10, 9, 8, 5, 4, 3, 2, 21, 20, 14, 13, 7, 6, 1, 0] [(2, .slice A2 n2 cap2), (3, .pointer (some ⟨b2, 0, none⟩)), (4, .pointer (some ⟨b3, 0, none⟩)), (6, .pointer (some ⟨b4, 0, none⟩)), (9, .int .i64 (4 * (areaI a b c d))), (10, .slice A10 n cp10), (11, .int .i64 (c - a)), (12, .int .i64 ((i : Nat) : Int)), (59, .int .i64 (xs2.getD (Int.toNat (4 * ((i : Nat) : Int))) 0)), (66, .int .i64 (xs2.getD (Int.toNat ((4 * ((i : Nat) : Int)) + 1)) 0)), (67, .slice A2 n2 cap2), (70, .int .i64 (IntKind.i64.wrap ((4 * ((i : Nat) : Int)) + 2))), (74, .slice A2 n2 cap2), (75, .int .i64 ((i : Nat) : Int))] (by kernel_rfl) (pok_then (pok_blk (pok_then (pok_then (pok_blk (pok_then pok_body)))))) (by kernel_rfl) rfl rfl (by kernel_rfl) (by kernel_rfl) ?_
    refine cont_recast 70 (.int .i64 (IntKind.i64.wrap ((4 * ((i : Nat) : Int)) + 2))) (.int .i64 ((4 * ((i : Nat) : Int)) + 2)) rfl (wrapI (by omega) (by omega)) ?_
    refine cont_recast 67 (.slice A2 n2 cap2) (.slice (some ⟨g2, o2, none⟩) n2 cap2) rfl (by rw [hl1_a (by omega)]) ?_
    refine sem_take 0 [] 17 9 71 (Instr.indexAt 43 (.slice (some ⟨g2, o2, none⟩) n2 cap2) (.int .i64 ((4 * ((i : Nat) : Int)) + 2))) (.pointer (some ⟨g2, o2 + Int.toNat ((4 * ((i : Nat) : Int)) + 2), none⟩)) (by kernel_rfl) (pok_then (pok_blk (pok_then (pok_then (pok_blk (pok_then pok_body)))))) (by kernel_rfl) rfl (by kernel_rfl) (by kernel_rfl) (fun w hT => run_indexAt (e := 5) (sz := 1) _ (by kernel_rfl) (by kernel_rfl) (by omega) (by omega) (by omega) w) ?_
    refine sem_take 0 [] 18 8 72 (Instr.loadAt 5 (.pointer (some ⟨g2, o2 + Int.toNat ((4 * ((i : Nat) : Int)) + 2), none⟩))) (.int .u8 (xs2.getD (Int.toNat ((4 * ((i : Nat) : Int)) + 2)) 0)) (by kernel_rfl) (pok_then (pok_blk (pok_then (pok_then (pok_blk (pok_then pok_body)))))) (by kernel_rfl) rfl (by kernel_rfl) (by kernel_rfl) (fun w hT => run_load1 (by kernel_rfl) (Rd.cell (hT 5 _ rfl) (Int.toNat ((4 * ((i : Nat) : Int)) + 2)) _ (ivals_get (by omega)))) ?_
    refine takes 0 [] [(19, 0)] 7 [19, 18, 17, 16, 15, 12, 11, 10, 9, 8, 5, 4, 3, 2, 21, 20, 14, 13, 7, 6, 1, 0] [(2, .slice A2 n2 cap2), (3, .pointer (some ⟨b2, 0, none⟩)), (4, .pointer (some ⟨b3, 0, none⟩)), (6, .pointer (some ⟨b4, 0, none⟩)), (9, .int .i64 (4 * (areaI a b c d))), (10, .slice A10 n cp10), (11, .int .i64 (c - a)), (12, .int .i64 ((i : Nat) : Int)), (59, .int .i64 (xs2.getD (Int.toNat (4 * ((i : Nat) : Int))) 0)), (66, .int .i64 (xs2.getD (Int.toNat ((4 * ((i : Nat) : Int)) + 1)) 0)), (73, .int .i64 (IntKind.i64.wrap (xs2.getD (Int.toNat ((4 * ((i : Nat) : Int)) + 2)) 0))), (74, .slice A2 n2 cap2), (75, .int .i64 ((i : Nat) : Int))] (by kernel_rfl) (pok_then (pok_blk (pok_then (pok_then (pok_blk (pok_then pok_body)))))) (by kernel_rfl) rfl rfl (by kernel_rfl) (by kernel_rfl) ?_
    refine cont_recast 73 (.int .i64 (IntKind.i64.wrap (xs2.getD (Int.toNat ((4 * ((i : Nat) : Int)) + 2)) 0))) (.int .i64 (xs2.getD (Int.toNat ((4 * ((i : Nat) : Int)) + 2)) 0)) rfl (wrapI (by omega) (by omega)) ?_
    refine takes 0 [] [(22, 0)] 6 [22, 19, 18, 17, 16, 15, 12, 11, 10, 9, 8, 5, 4, 3, 2, 21, 20, 14, 13, 7, 6, 1, 0] [(2, .slice A2 n2 cap2), (3, .pointer (some ⟨b2, 0, none⟩)), (4, .pointer (some ⟨b3, 0, none⟩)), (6, .pointer (some ⟨b4, 0, none⟩)), (9, .int .i64 (4 * (areaI a b c d))), (10, .slice A10 n cp10), (11, .int .i64 (c - a)), (12, .int .i64 ((i : Nat) : Int)), (59, .int .i64 (xs2.getD (Int.toNat (4 * ((i : Nat) : Int))) 0)), (66, .int .i64 (xs2.getD (Int.toNat ((4 * ((i : Nat) : Int)) + 1)) 0)), (73, .int .i64 (xs2.getD (Int.toNat ((4 * ((i : Nat) : Int)) + 2)) 0)), (74, .slice A2 n2 cap2), (76, .int .i64 (IntKind.i64.wrap (4 * ((i : Nat) : Int))))] (by kernel_rfl) (pok_then (pok_blk (pok_then (pok_then (pok_blk (pok_then pok_body)))))) (by kernel_rfl) rfl rfl (by kernel_rfl) (by kernel_rfl) ?_
    refine cont_recast 76 (.int .i64 (IntKind.i64.wrap (4 * ((i : Nat) : Int)))) (.int .i64 (4 * ((i : Nat) : Int))) rfl (wrapI (by omega) (by omega)) ?_
    refine takes 0 [] [(23, 0)] 5 [23, 22, 19, 18, 17, 16, 15, 12, 11, 10, 9, 8, 5, 4, 3, 2, 21, 20, 14, 13, 7, 6, 1, 0] [(2, .slice A2 n2 cap2), (3, .pointer (some ⟨b2, 0, none⟩)), (4, .pointer (some ⟨b3, 0, none⟩)), (6, .pointer (some ⟨b4, 0, none⟩)), (9, .int .i64 (4 * (areaI a b c d))), (10, .slice A10 n cp10), (11, .int .i64 (c - a)), (12, .int .i64 ((i : Nat) : Int)), (59, .int .i64 (xs2.getD (Int.toNat (4 * ((i : Nat) : Int))) 0)), (66, .int .i64 (xs2.getD (Int.toNat ((4 * ((i : Nat) : Int)) + 1)) 0)), (73, .int .i64 (xs2.getD (Int.toNat ((4 * ((i : Nat) : Int)) + 2)) 0)), (74, .slice A2 n2 cap2), (77, .int .i64 (IntKind.i64.wrap ((4 * ((i : Nat) : Int)) + 3)))] (by kernel_rfl) (pok_then (pok_blk (pok_then (pok_then (pok_blk (pok_then pok_body)))))) (by kernel_rfl) rfl rfl (by kernel_rfl) (by kernel_rfl) ?_
    refine cont_recast 77 (.int .i64 (IntKind.i64.wrap ((4 * ((i : Nat) : Int)) + 3))) (.int .i64 ((4 * ((i : Nat) : Int)) + 3)) rfl (wrapI (by omega) (by omega)) ?_
    refine cont_recast 74 (.slice A2 n2 cap2) (.slice (some ⟨g2, o2, none⟩) n2 cap2) rfl (by rw [hl1_a (by omega)]) ?_
    refine sem_take 0 [] 24 4 78 (Instr.indexAt 43 (.slice (some ⟨g2, o2, none⟩) n2 cap2) (.int .i64 ((4 * ((i : Nat) : Int)) + 3))) (.pointer (some ⟨g2, o2 + Int.toNat ((4 * ((i : Nat) : Int)) + 3), none⟩)) (by kernel_rfl) (pok_then (pok_blk (pok_then (pok_then (pok_blk (pok_then pok_body)))))) (by kernel_rfl) rfl (by kernel_rfl) (by kernel_rfl) (fun w hT => run_indexAt (e := 5) (sz := 1) _ (by kernel_rfl) (by kernel_rfl) (by omega) (by omega) (by omega) w) ?_
    refine sem_take 0 [] 25 3 79 (Instr.loadAt 5 (.pointer (some ⟨g2, o2 + Int.toNat ((4 * ((i : Nat) : Int)) + 3), none⟩))) (.int .u8 (xs2.getD (Int.toNat ((4 * ((i : Nat) : Int)) + 3)) 0)) (by kernel_rfl) (pok_then (pok_blk (pok_then (pok_then (pok_blk (pok_then pok_body)))))) (by kernel_rfl) rfl (by kernel_rfl) (by kernel_rfl) (fun w hT => run_load1 (by kernel_rfl) (Rd.cell (hT 5 _ rfl) (Int.toNat ((4 * ((i : Nat) : Int)) + 3)) _ (ivals_get (by omega)))) ?_
    refine takes 0 [] [(26, 0)] 2 [26, 25, 24, 23, 22, 19, 18, 17, 16, 15, 12, 11, 10, 9, 8, 5, 4, 3, 2, 21, 20, 14, 13, 7, 6, 1, 0] [(2, .slice A2 n2 cap2), (3, .pointer (some ⟨b2, 0, none⟩)), (4, .pointer (some ⟨b3, 0, none⟩)), (6, .pointer (some ⟨b4, 0, none⟩)), (9, .int .i64 (4 * (areaI a b c d))), (10, .slice A10 n cp10), (11, .int .i64 (c - a)), (12, .int .i64 ((i : Nat) : Int)), (59, .int .i64 (xs2.getD (Int.toNat (4 * ((i : Nat) : Int))) 0)), (66, .int .i64 (xs2.getD (Int.toNat ((4 * ((i : Nat) : Int)) + 1)) 0)), (73, .int .i64 (xs2.getD (Int.toNat ((4 * ((i : Nat) : Int)) + 2)) 0)), (80, .int .i64 (IntKind.i64.wrap (xs2.getD (Int.toNat ((4 * ((i : Nat) : Int)) + 3)) 0)))] (by kernel_rfl) (pok_then (pok_blk (pok_then (pok_then (pok_blk (pok_then pok_body)))))) (by kernel_rfl) rfl rfl (by kernel_rfl) (by kernel_rfl) ?_
    refine cont_recast 80 (.int .i64 (IntKind.i64.wrap (xs2.getD (Int.toNat ((4 * ((i : Nat) : Int)) + 3)) 0))) (.int .i64 (xs2.getD (Int.toNat ((4 * ((i : Nat) : Int)) + 3)) 0)) rfl (wrapI (by omega) (by omega)) ?_
    refine drawn_one 27 1 rfl (by kernel_rfl) ?_
    refine call_pure (d := 81) (.int .u32 (mkC (xs2.getD (Int.toNat (4 * ((i : Nat) : Int))) 0) (xs2.getD (Int.toNat ((4 * ((i : Nat) : Int)) + 1)) 0) (xs2.getD (Int.toNat ((4 * ((i : Nat) : Int)) + 2)) 0) (xs2.getD (Int.toNat ((4 * ((i : Nat) : Int)) + 3)) 0))) (by kernel_rfl) (fun w hT => refMake (xs2.getD (Int.toNat (4 * ((i : Nat) : Int))) 0) (xs2.getD (Int.toNat ((4 * ((i : Nat) : Int)) + 1)) 0) (xs2.getD (Int.toNat ((4 * ((i : Nat) : Int)) + 2)) 0) (xs2.getD (Int.toNat ((4 * ((i : Nat) : Int)) + 3)) 0) w) ?_
    refine cont_recast 81 (.int .u32 (mkC (xs2.getD (Int.toNat (4 * ((i : Nat) : Int))) 0) (xs2.getD (Int.toNat ((4 * ((i : Nat) : Int)) + 1)) 0) (xs2.getD (Int.toNat ((4 * ((i : Nat) : Int)) + 2)) 0) (xs2.getD (Int.toNat ((4 * ((i : Nat) : Int)) + 3)) 0))) (.int .u32 (mkB xs2 i)) rfl (congrArg (Value.int .u32) (by unfold mkB; congr 1 <;> (congr 1; omega))) ?_
    refine drawn_next 0 [] (by kernel_rfl) ?_
    refine takes 0 [] [(28, 0)] 0 [28, 27, 26, 25, 24, 23, 22, 19, 18, 17, 16, 15, 12, 11, 10, 9, 8, 5, 4, 3, 2, 21, 20, 14, 13, 7, 6, 1, 0] [(2, .slice A2 n2 cap2), (3, .pointer (some ⟨b2, 0, none⟩)), (4, .pointer (some ⟨b3, 0, none⟩)), (6, .pointer (some ⟨b4, 0, none⟩)), (9, .int .i64 (4 * (areaI a b c d))), (10, .slice A10 n cp10), (11, .int .i64 (c - a)), (12, .int .i64 ((i : Nat) : Int)), (13, .int .u32 (mkB xs2 i))] (by kernel_rfl) (pok_then (pok_blk (pok_then (pok_then (pok_blk (pok_then pok_body)))))) (by kernel_rfl) rfl rfl (by kernel_rfl) (by kernel_rfl) ?_
    refine drawn_done (by kernel_rfl) ?_
    refine then_normal ?_
    refine cont_seq ?_
    refine cont_region 3 rfl ?_
    refine bS [0] 1 2 [(2, .slice A2 n2 cap2), (3, .pointer (some ⟨b2, 0, none⟩)), (4, .pointer (some ⟨b3, 0, none⟩)), (6, .pointer (some ⟨b4, 0, none⟩)), (9, .int .i64 (4 * (areaI a b c d))), (10, .slice A10 n cp10), (11, .int .i64 (c - a)), (12, .int .i64 ((i : Nat) : Int)), (13, .int .u32 (mkB xs2 i)), (82, .int .u32 (mkB xs2 i))] ?_
    refine pl_step 2 1 rfl rfl ?_
    refine call_pure (d := 83) (.bool (mayB (mkB xs2 i))) (by kernel_rfl) (fun w hT => refMay (mkB xs2 i) w (by omega) (by omega)) ?_
    refine bS [0] 3 0 [(2, .slice A2 n2 cap2), (3, .pointer (some ⟨b2, 0, none⟩)), (4, .pointer (some ⟨b3, 0, none⟩)), (6, .pointer (some ⟨b4, 0, none⟩)), (9, .int .i64 (4 * (areaI a b c d))), (10, .slice A10 n cp10), (11, .int .i64 (c - a)), (12, .int .i64 ((i : Nat) : Int)), (13, .int .u32 (mkB xs2 i)), (14, .bool (mayB (mkB xs2 i)))] ?_
    refine cont_done ?_
    refine then_normal ?_
    refine cont_seq ?_
    refine cont_seq ?_
    refine cont_region 2 rfl ?_
    refine bS [0, 0] 2 0 [(2, .slice A2 n2 cap2), (3, .pointer (some ⟨b2, 0, none⟩)), (4, .pointer (some ⟨b3, 0, none⟩)), (6, .pointer (some ⟨b4, 0, none⟩)), (9, .int .i64 (4 * (areaI a b c d))), (10, .slice A10 n cp10), (11, .int .i64 (c - a)), (12, .int .i64 ((i : Nat) : Int)), (13, .int .u32 (mkB xs2 i)), (85, .bool (!(mayB (mkB xs2 i))))] ?_
    refine cont_done ?_
    refine then_normal ?_
    refine cont_split 85 (!(mayB (mkB xs2 i))) rfl (fun c15_ => ?_) (fun c15_ => ?_)
    ·
      replace c15_ : (mayB (mkB xs2 i)) = false := by simpa using c15_
      have hmy : mayB (mkB xs2 i) = false := c15_
      refine cont_true rfl ?_
      refine cont_seq ?_
      refine cont_region 3 rfl ?_
      refine batch0 [3, 1, 0] 3 0 [(6, .pointer (some ⟨b4, 0, none⟩)), (7, .int .i64 1)] [.gen (rowE (A10) g10 n cp10 28 1 (ivals .u32 (wrS W a b wn xs2 px i)) true), .cells b4 [.int .i64 W, .int .i64 H, .slice (some ⟨r, 0, none⟩) n cap] 37 true, .cells b3 [.int .i64 a, .int .i64 b, .int .i64 c, .int .i64 d] 32 true, .cells b2 [.int .i64 W, .int .i64 H, .slice (some ⟨r, 0, none⟩) n cap] 37 true, .gen (rdE (some ⟨r, 0, none⟩) r 0 n 1 (ivals .u32 px)), .gen (rdE (A2) g2 o2 n2 1 (ivals .u8 xs2))] rfl rfl (by kernel_rfl) (by kernel_rfl) ?_
      refine cont_forget 2 rfl ?_
      refine cont_forget 2 rfl ?_
      refine cont_done ?_
      refine then_normal ?_
      refine cont_ret ?_
      refine then_ret ?_
      refine blk_ret ?_
      refine then_ret ?_
      refine then_ret ?_
      refine blk_ret ?_
      refine then_ret ?_
      refine ret_two (.inl rfl) rfl 1 0 (.agg #[.int .i64 W, .int .i64 H, .slice (some ⟨r, 0, none⟩) n cap]) (.int .i64 1) (by kernel_rfl) (by kernel_rfl) (by kernel_rfl) (by kernel_rfl) (fun w hT => ?_)
      have hE2 : wrE W H a b c d xs2 = 1 := wrE_bad hg (by omega) (N := N) (by omega) (k := i) (by omega) hmy
      rw [hE] at hE2; cases hE2
    replace c15_ : (mayB (mkB xs2 i)) = true := by simpa using c15_
    have hmy : mayB (mkB xs2 i) = true := c15_
    refine cont_false rfl ?_
    refine cont_skip ?_
    refine then_normal ?_
    obtain ⟨hq0, hq1, hq2, hq3⟩ := row_of (N := N) (i := i) hg1 hg2 (by omega) (by omega)
    obtain ⟨hpl1, hpl2, hpl3⟩ := hok.place (x := a + (i : Int) % (c - a)) (y := b + (i : Int) / (c - a)) (by omega) (by omega) (by omega) (by omega)
    refine drawn_enter 20 [0] rfl (by kernel_rfl) ?_
    refine takes 0 [0] [(0, 0), (1, 0), (3, 0), (4, 0), (7, 0), (10, 0), (13, 0), (14, 0), (17, 0), (2, 2)] 10 [2, 17, 14, 13, 10, 7, 4, 3, 1, 0] [(2, .slice A2 n2 cap2), (3, .pointer (some ⟨b2, 0, none⟩)), (4, .pointer (some ⟨b3, 0, none⟩)), (6, .pointer (some ⟨b4, 0, none⟩)), (9, .int .i64 (4 * (areaI a b c d))), (10, .slice A10 n cp10), (11, .int .i64 (c - a)), (12, .int .i64 ((i : Nat) : Int)), (87, .slice A10 n cp10), (89, .int .i64 b), (90, .int .i64 ((i : Nat) : Int)), (91, .int .i64 (c - a)), (94, .pointer (some ⟨b2, 0, none⟩)), (97, .pointer (some ⟨b3, 0, none⟩)), (100, .int .i64 ((i : Nat) : Int)), (101, .int .i64 (c - a)), (104, .int .u32 (mkB xs2 i))] (by kernel_rfl) (pok_blk (pok_then (pok_then (pok_blk (pok_then pok_body))))) (by kernel_rfl) rfl rfl (by kernel_rfl) (by kernel_rfl) ?_
    refine sem_take 0 [0] 5 9 92 (bopS .quo 3 (.tmp 90) (.tmp 91) (.int .i64 ((i : Nat) : Int)) (.int .i64 (c - a))) (.int .i64 (IntKind.i64.wrap (((i : Nat) : Int).tdiv (c - a)))) (by kernel_rfl) (pok_blk (pok_then (pok_then (pok_blk (pok_then pok_body))))) (by kernel_rfl) rfl (by kernel_rfl) (by kernel_rfl) (fun w hT => run_quo (by omega) w) ?_
    refine cont_recast 92 (.int .i64 (IntKind.i64.wrap (((i : Nat) : Int).tdiv (c - a)))) (.int .i64 (((i : Nat) : Int) / (c - a))) rfl (tdivI (by omega) (by omega) (by omega)) ?_
    refine takes 0 [0] [(6, 0)] 8 [6, 5, 2, 17, 14, 13, 10, 7, 4, 3, 1, 0] [(2, .slice A2 n2 cap2), (3, .pointer (some ⟨b2, 0, none⟩)), (4, .pointer (some ⟨b3, 0, none⟩)), (6, .pointer (some ⟨b4, 0, none⟩)), (9, .int .i64 (4 * (areaI a b c d))), (10, .slice A10 n cp10), (11, .int .i64 (c - a)), (12, .int .i64 ((i : Nat) : Int)), (87, .slice A10 n cp10), (93, .int .i64 (IntKind.i64.wrap (b + (((i : Nat) : Int) / (c - a))))), (94, .pointer (some ⟨b2, 0, none⟩)), (97, .pointer (some ⟨b3, 0, none⟩)), (100, .int .i64 ((i : Nat) : Int)), (101, .int .i64 (c - a)), (104, .int .u32 (mkB xs2 i))] (by kernel_rfl) (pok_blk (pok_then (pok_then (pok_blk (pok_then pok_body))))) (by kernel_rfl) rfl rfl (by kernel_rfl) (by kernel_rfl) ?_
    refine cont_recast 93 (.int .i64 (IntKind.i64.wrap (b + (((i : Nat) : Int) / (c - a))))) (.int .i64 (b + (((i : Nat) : Int) / (c - a)))) rfl (wrapI (by omega) (by omega)) ?_
    refine takes 0 [0] [(8, 3), (11, 2)] 6 [11, 8, 6, 5, 2, 17, 14, 13, 10, 7, 4, 3, 1, 0] [(2, .slice A2 n2 cap2), (3, .pointer (some ⟨b2, 0, none⟩)), (4, .pointer (some ⟨b3, 0, none⟩)), (6, .pointer (some ⟨b4, 0, none⟩)), (9, .int .i64 (4 * (areaI a b c d))), (10, .slice A10 n cp10), (11, .int .i64 (c - a)), (12, .int .i64 ((i : Nat) : Int)), (87, .slice A10 n cp10), (93, .int .i64 (b + (((i : Nat) : Int) / (c - a)))), (95, .int .i64 W), (98, .int .i64 a), (100, .int .i64 ((i : Nat) : Int)), (101, .int .i64 (c - a)), (104, .int .u32 (mkB xs2 i))] (by kernel_rfl) (pok_blk (pok_then (pok_then (pok_blk (pok_then pok_body))))) (by kernel_rfl) rfl rfl (by kernel_rfl) (by kernel_rfl) ?_
    refine takes 0 [0] [(9, 0)] 5 [9, 11, 8, 6, 5, 2, 17, 14, 13, 10, 7, 4, 3, 1, 0] [(2, .slice A2 n2 cap2), (3, .pointer (some ⟨b2, 0, none⟩)), (4, .pointer (some ⟨b3, 0, none⟩)), (6, .pointer (some ⟨b4, 0, none⟩)), (9, .int .i64 (4 * (areaI a b c d))), (10, .slice A10 n cp10), (11, .int .i64 (c - a)), (12, .int .i64 ((i : Nat) : Int)), (87, .slice A10 n cp10), (96, .int .i64 (IntKind.i64.wrap ((b + (((i : Nat) : Int) / (c - a))) * W))), (98, .int .i64 a), (100, .int .i64 ((i : Nat) : Int)), (101, .int .i64 (c - a)), (104, .int .u32 (mkB xs2 i))] (by kernel_rfl) (pok_blk (pok_then (pok_then (pok_blk (pok_then pok_body))))) (by kernel_rfl) rfl rfl (by kernel_rfl) (by kernel_rfl) ?_
    refine cont_recast 96 (.int .i64 (IntKind.i64.wrap ((b + (((i : Nat) : Int) / (c - a))) * W))) (.int .i64 ((b + (((i : Nat) : Int) / (c - a))) * W)) rfl (wrapI (by omega) (by omega)) ?_
    refine takes 0 [0] [(12, 0)] 4 [12, 9, 11, 8, 6, 5, 2, 17, 14, 13, 10, 7, 4, 3, 1, 0] [(2, .slice A2 n2 cap2), (3, .pointer (some ⟨b2, 0, none⟩)), (4, .pointer (some ⟨b3, 0, none⟩)), (6, .pointer (some ⟨b4, 0, none⟩)), (9, .int .i64 (4 * (areaI a b c d))), (10, .slice A10 n cp10), (11, .int .i64 (c - a)), (12, .int .i64 ((i : Nat) : Int)), (87, .slice A10 n cp10), (99, .int .i64 (IntKind.i64.wrap (((b + (((i : Nat) : Int) / (c - a))) * W) + a))), (100, .int .i64 ((i : Nat) : Int)), (101, .int .i64 (c - a)), (104, .int .u32 (mkB xs2 i))] (by kernel_rfl) (pok_blk (pok_then (pok_then (pok_blk (pok_then pok_body))))) (by kernel_rfl) rfl rfl (by kernel_rfl) (by kernel_rfl) ?_
    refine cont_recast 99 (.int .i64 (IntKind.i64.wrap (((b + (((i : Nat) : Int) / (c - a))) * W) + a))) (.int .i64 (((b + (((i : Nat) : Int) / (c - a))) * W) + a)) rfl (wrapI (by omega) (by omega)) ?_
    refine sem_take 0 [0] 15 3 102 (bopS .rem 3 (.tmp 100) (.tmp 101) (.int .i64 ((i : Nat) : Int)) (.int .i64 (c - a))) (.int .i64 (((i : Nat) : Int).tmod (c - a))) (by kernel_rfl) (pok_blk (pok_then (pok_then (pok_blk (pok_then pok_body))))) (by kernel_rfl) rfl (by kernel_rfl) (by kernel_rfl) (fun w hT => run_rem (by omega) w) ?_
    refine cont_recast 102 (.int .i64 (((i : Nat) : Int).tmod (c - a))) (.int .i64 (((i : Nat) : Int) % (c - a))) rfl (tmodI (by omega)) ?_
    refine takes 0 [0] [(16, 0)] 2 [16, 15, 12, 9, 11, 8, 6, 5, 2, 17, 14, 13, 10, 7, 4, 3, 1, 0] [(2, .slice A2 n2 cap2), (3, .pointer (some ⟨b2, 0, none⟩)), (4, .pointer (some ⟨b3, 0, none⟩)), (6, .pointer (some ⟨b4, 0, none⟩)), (9, .int .i64 (4 * (areaI a b c d))), (10, .slice A10 n cp10), (11, .int .i64 (c - a)), (12, .int .i64 ((i : Nat) : Int)), (87, .slice A10 n cp10), (103, .int .i64 (IntKind.i64.wrap ((((b + (((i : Nat) : Int) / (c - a))) * W) + a) + (((i : Nat) : Int) % (c - a))))), (104, .int .u32 (mkB xs2 i))] (by kernel_rfl) (pok_blk (pok_then (pok_then (pok_blk (pok_then pok_body))))) (by kernel_rfl) rfl rfl (by kernel_rfl) (by kernel_rfl) ?_
    refine cont_recast 103 (.int .i64 (IntKind.i64.wrap ((((b + (((i : Nat) : Int) / (c - a))) * W) + a) + (((i : Nat) : Int) % (c - a))))) (.int .i64 ((((b + (((i : Nat) : Int) / (c - a))) * W) + a) + (((i : Nat) : Int) % (c - a)))) rfl (wrapI (by omega) (by omega)) ?_
    refine cont_recast 87 (.slice A10 n cp10) (.slice (some ⟨g10, 0, none⟩) n cp10) rfl (by rw [hr12_a (by omega)]) ?_
    refine sem_take 0 [0] 18 1 105 (Instr.indexAt 35 (.slice (some ⟨g10, 0, none⟩) n cp10) (.int .i64 ((((b + (((i : Nat) : Int) / (c - a))) * W) + a) + (((i : Nat) : Int) % (c - a))))) (.pointer (some ⟨g10, Int.toNat ((((b + (((i : Nat) : Int) / (c - a))) * W) + a) + (((i : Nat) : Int) % (c - a))), none⟩)) (by kernel_rfl) (pok_blk (pok_then (pok_then (pok_blk (pok_then pok_body))))) (by kernel_rfl) rfl (by kernel_rfl) (by kernel_rfl) (fun w hT => run_indexAt (e := 28) (sz := 1) _ (by kernel_rfl) (by kernel_rfl) (by omega) (by omega) (by omega) w) ?_
    refine drawn_one 19 0 rfl (by kernel_rfl) ?_
    refine sem_stepU (Instr.storeAt 28 (.pointer (some ⟨g10, Int.toNat ((((b + (((i : Nat) : Int) / (c - a))) * W) + a) + (((i : Nat) : Int) % (c - a))), none⟩)) (.int .u32 (mkB xs2 i))) (fun _ => [.gen (rowE (A10) g10 n cp10 28 1 (ivals .u32 ((wrS W a b wn xs2 px i).set (Int.toNat ((((b + (((i : Nat) : Int) / (c - a))) * W) + a) + (((i : Nat) : Int) % (c - a)))) (mkB xs2 i))) true), .cells b4 [.int .i64 0, .int .i64 0, .slice none 0 0] 37 true, .cells b3 [.int .i64 a, .int .i64 b, .int .i64 c, .int .i64 d] 32 true, .cells b2 [.int .i64 W, .int .i64 H, .slice (some ⟨r, 0, none⟩) n cap] 37 true, .gen (rdE (some ⟨r, 0, none⟩) r 0 n 1 (ivals .u32 px)), .gen (rdE (A2) g2 o2 n2 1 (ivals .u8 xs2))]) (fun _ => True) (by kernel_rfl) (fun w hT => store_row hT (i := 0) rfl (by kernel_rfl) (by omega)) (fun _ _ => ?_)
    refine drawn_next 0 [0] (by kernel_rfl) ?_
    refine drawn_done (by kernel_rfl) ?_
    refine blk_normal ?_
    refine then_normal ?_
    refine cont_region 3 rfl ?_
    refine bS [0, 0] 2 1 [(2, .slice A2 n2 cap2), (3, .pointer (some ⟨b2, 0, none⟩)), (4, .pointer (some ⟨b3, 0, none⟩)), (6, .pointer (some ⟨b4, 0, none⟩)), (9, .int .i64 (4 * (areaI a b c d))), (10, .slice A10 n cp10), (11, .int .i64 (c - a)), (53, .int .i64 (IntKind.i64.wrap (((i : Nat) : Int) + 1)))] ?_
    refine cont_recast 53 (.int .i64 (IntKind.i64.wrap (((i : Nat) : Int) + 1))) (.int .i64 (((i : Nat) : Int) + 1)) rfl (wrapI (by omega) (by omega)) ?_
    refine bS [0] 3 0 [(2, .slice A2 n2 cap2), (3, .pointer (some ⟨b2, 0, none⟩)), (4, .pointer (some ⟨b3, 0, none⟩)), (6, .pointer (some ⟨b4, 0, none⟩)), (9, .int .i64 (4 * (areaI a b c d))), (10, .slice A10 n cp10), (11, .int .i64 (c - a)), (12, .int .i64 (((i : Nat) : Int) + 1))] ?_
    refine cont_done ?_
    refine then_normal ?_
    refine cont_rowEq (k := .u32) 0 ((wrS W a b wn xs2 px i).set (Int.toNat ((((b + (((i : Nat) : Int) / (c - a))) * W) + a) + (((i : Nat) : Int) % (c - a)))) (mkB xs2 i)) (wrS W a b wn xs2 px (i + 1)) rfl (congrArg (fun z_ => (wrS W a b wn xs2 px i).set z_ (mkB xs2 i)) (wIdx_eq hwn (by omega))) ?_
    refine cont_again (i + 1) (show (i + 1) ≤ N ∧ okN xs2 (i + 1) from ⟨by omega, hokn.step hmy⟩) (show N - (i + 1) < N - i from by omega) (by kernel_rfl) (by kernel_rfl)
  replace c14_ := of_decide_eq_false c14_
  refine cont_false rfl ?_
  refine cont_exit ?_
  refine then_exit ?_
  refine then_exit ?_
  refine blk_exit ?_
  refine then_normal ?_
  refine cont_seq ?_
  refine cont_region 3 rfl ?_
  refine batch0 [0, 0, 3] 3 0 [(3, .pointer (some ⟨b2, 0, none⟩)), (6, .pointer (some ⟨b4, 0, none⟩))] [.gen (rowE (A10) g10 n cp10 28 1 (ivals .u32 (wrS W a b wn xs2 px i)) true), .cells b4 [.int .i64 0, .int .i64 0, .slice none 0 0] 37 true, .cells b3 [.int .i64 a, .int .i64 b, .int .i64 c, .int .i64 d] 32 true, .cells b2 [.int .i64 W, .int .i64 H, .slice A10 n cp10] 37 true, .gen (rdE (some ⟨r, 0, none⟩) r 0 n 1 (ivals .u32 px)), .gen (rdE (A2) g2 o2 n2 1 (ivals .u8 xs2))] rfl rfl (by kernel_rfl) (by kernel_rfl) ?_
  refine cont_forget 2 rfl ?_
  refine cont_done ?_
  refine then_normal ?_
  refine cont_seq ?_
  refine cont_region 3 rfl ?_
  refine batch0 [2, 1, 0] 3 0 [(6, .pointer (some ⟨b4, 0, none⟩)), (7, .int .i64 0)] [.gen (rowE (A10) g10 n cp10 28 1 (ivals .u32 (wrS W a b wn xs2 px i)) true), .cells b4 [.int .i64 W, .int .i64 H, .slice A10 n cp10] 37 true, .cells b2 [.int .i64 W, .int .i64 H, .slice A10 n cp10] 37 true, .gen (rdE (some ⟨r, 0, none⟩) r 0 n 1 (ivals .u32 px)), .gen (rdE (A2) g2 o2 n2 1 (ivals .u8 xs2))] rfl rfl (by kernel_rfl) (by kernel_rfl) ?_
  refine cont_forget 2 rfl ?_
  refine cont_done ?_
  refine then_normal ?_
  refine cont_ret ?_
  refine ret_two (.inl rfl) rfl 1 0 (.agg #[.int .i64 W, .int .i64 H, .slice A10 n cp10]) (.int .i64 0) (by kernel_rfl) (by kernel_rfl) (by kernel_rfl) (by kernel_rfl) (fun w hT => ?_)
  replace hT := hT.erase 3 (fun e h hw => by cases h; first | rfl | cases hw)
  replace hT := hT.erase 2 (fun e h hw => by cases h; first | rfl | cases hw)
  replace hT := hT.erase 1 (fun e h hw => by cases h; first | rfl | cases hw)
  rw [show i = xs2.length / 4 by omega, hwn, ← wrA_yes hE] at hT
  have hA := (Row.facts (hT.ok 0 _ rfl)).1 (by omega)
  subst hA
  exact ⟨_, _, rfl, hT⟩

end Go.Proofs.Ytommojgfkkoghaa

/- Plain laws of Write: what is read is written as it was; bytes that are refused. -/
set_option linter.unusedVariables false
set_option linter.unusedSimpArgs false
namespace Go.Proofs.Ytommojgfkkoghaa
open Go Go.RowKit
theorem wf8 {x : Int} (h : (Lit.int .u8 x).wf = true) : 0 ≤ x ∧ x ≤ 255 := by
  simp [Lit.wf, IntKind.min, IntKind.max, IntKind.bits, IntKind.signed] at h
  omega
/-! ### What is read, and written again -/
structure InR (W H a b c d : Int) (w h n : Nat) : Prop where
  a0 : 0 ≤ a
  ac : a < c
  cW : c ≤ W
  b0 : 0 ≤ b
  bd : b < d
  dH : d ≤ H
  w_ : (w : Int) = c - a
  h_ : (h : Int) = d - b
  n_ : (n : Int) = W * H
theorem InR.idx {W H a b c d : Int} {w h n : Nat} (R : InR W H a b c d w h n) {k : Nat} (hk : k < h * w) : ((wIdx W a b w k : Nat) : Int) = (b + ((k / w : Nat) : Int)) * W + (a + ((k % w : Nat) : Int)) ∧ a + ((k % w : Nat) : Int) < W ∧ b + ((k / w : Nat) : Int) < d ∧ wIdx W a b w k < n := by
  obtain ⟨h1, h2, h3, h4, h5, h6, h7, h8, h9⟩ := R
  have hw : 0 < w := by omega
  have hm := Nat.mod_lt k hw
  have hd : k / w < h := Nat.div_lt_of_lt_mul (by rwa [Nat.mul_comm])
  unfold wIdx
  generalize k / w = y at *
  generalize k % w = x at *
  have hp : 0 ≤ (b + (y : Int)) * W := Int.mul_nonneg (by omega) (by omega)
  have hq : (b + (y : Int) + 1) * W ≤ H * W := Int.mul_le_mul_of_nonneg_right (by omega) (by omega)
  rw [Int.add_mul, Int.one_mul, Int.mul_comm H] at hq
  exact ⟨by omega, by omega, by omega, by omega⟩
theorem InR.inj {W H a b c d : Int} {w h n : Nat} (R : InR W H a b c d w h n) {k l : Nat} (hk : k < h * w) (hl : l < h * w) (he : wIdx W a b w k = wIdx W a b w l) : k = l := by
  obtain ⟨e1, e2, e3, _⟩ := R.idx hk
  obtain ⟨f1, f2, f3, _⟩ := R.idx hl
  have a0 := R.a0
  rw [he, f1] at e1
  have hW : W ≠ 0 := by omega
  have m1 := congrArg (· % W) e1
  have d1 := congrArg (· / W) e1
  simp only [Int.add_comm _ (a + _), Int.add_mul_emod_self_right, Int.add_mul_ediv_right _ _ hW] at m1 d1
  rw [Int.emod_eq_of_lt (by omega) (by omega), Int.emod_eq_of_lt (by omega) (by omega)] at m1
  rw [Int.ediv_eq_zero_of_lt (by omega) (by omega), Int.ediv_eq_zero_of_lt (by omega) (by omega)] at d1
  have x1 : k / w = l / w := by omega
  have x2 : k % w = l % w := by omega
  rw [← Nat.div_add_mod k w, ← Nat.div_add_mod l w, x1, x2]
theorem InR.get {W H a b c d : Int} {w h n : Nat} (R : InR W H a b c d w h n) {bs z : List Int} (hz : z.length = n) {k : Nat} : ∀ K, k < K → K ≤ h * w → (wrS W a b w bs z K).getD (wIdx W a b w k) 0 = mkB bs k := by
  intro K
  induction K with
  | zero => intro h1; omega
  | succ K ih =>
    intro h1 h2
    have hl := wrS_length W a b w bs z K
    obtain ⟨_, _, _, hb⟩ := R.idx (k := K) (by omega)
    rw [wrS, List.getD_eq_getElem?_getD]
    rcases Nat.lt_or_ge k K with h3 | h3
    · rw [List.getElem?_set_ne (fun he => by have := R.inj (by omega) (by omega) he; omega), ← List.getD_eq_getElem?_getD]
      exact ih h3 (by omega)
    · have : k = K := by omega
      subst this
      rw [List.getElem?_set_self (by omega)]; rfl
end Go.Proofs.Ytommojgfkkoghaa

/- Plain words of regions: runs of numbers, bands, the region of points; what a merge of two lists of rectangles comes to. -/
set_option linter.unusedVariables false
set_option linter.unusedSimpArgs false
namespace Go.Proofs.Ytommojgfkkoghaa
open Go Go.RowKit

/-! ### Runs: the last one first -/
section
variable {β : Type}
abbrev Run (β : Type) := Int × Int × β
def RunsOk : List (Run β) → Prop
  | [] => True
  | r :: t => r.1 < r.2.1 ∧ (match t with | [] => True | s :: _ => s.2.1 ≤ r.1 ∧ (s.2.1 = r.1 → s.2.2 ≠ r.2.2)) ∧ RunsOk t
def look : List (Run β) → Int → Option β
  | [], _ => none
  | r :: t, p => if r.1 ≤ p ∧ p < r.2.1 then some r.2.2 else look t p
theorem RunsOk.tail {r : Run β} {t : List (Run β)} (h : RunsOk (r :: t)) : RunsOk t := h.2.2
theorem RunsOk.below {r : Run β} {t : List (Run β)} (h : RunsOk (r :: t)) : ∀ s ∈ t, s.2.1 ≤ r.1 := by
  induction t generalizing r with
  | nil => intro s hs; cases hs
  | cons q t ih =>
    intro s hs
    obtain ⟨_, ⟨h1, _⟩, h2⟩ := h
    rcases List.mem_cons.1 hs with rfl | hs
    · exact h1
    · have := ih h2 s hs
      have := h2.1
      omega
end

/-! ### Spans along X: runs without a value -/
abbrev Spans := List (Run Unit)
def spR (y y' : Int) (s : Run Unit) : Rect := ⟨s.1, y, s.2.1, y'⟩
/-- The rectangles of a band, from the left. -/
def bandR (y y' : Int) (sp : Spans) : List Rect := (sp.map (spR y y')).reverse
/-- A grid: numbers that rise. -/
def Rise (xs : List Int) : Prop := ∀ i, i + 1 < xs.length → xs.getD i 0 < xs.getD (i + 1) 0
theorem Rise.lt {xs : List Int} (h : Rise xs) {i j : Nat} (hij : i < j) (hj : j < xs.length) : xs.getD i 0 < xs.getD j 0 := by
  induction j with
  | zero => omega
  | succ j ih =>
    have h1 := h j hj
    by_cases e : i = j
    · subst e; exact h1
    · have := ih (by omega) (by omega); omega
theorem Rise.le {xs : List Int} (h : Rise xs) {i j : Nat} (hij : i ≤ j) (hj : j < xs.length) : xs.getD i 0 ≤ xs.getD j 0 := by
  by_cases e : i = j
  · subst e; omega
  · have := h.lt (i := i) (j := j) (by omega) hj; omega

/-! ### Bands: runs of spans -/
abbrev Bands := List (Run Spans)
def flatR : Bands → List Rect
  | [] => []
  | b :: t => flatR t ++ bandR b.1 b.2.1 b.2.2
def memB (bs : Bands) (x y : Int) : Bool := match look bs y with
  | some sp => (look sp x).isSome
  | none => false
structure BandsOk (bs : Bands) : Prop where
  runs : RunsOk bs
  each : ∀ b ∈ bs, RunsOk b.2.2 ∧ b.2.2 ≠ []
/-- A list is the region of these points. -/
def IsReg (l : List Rect) (F : Int → Int → Bool) : Prop := ∃ bs, BandsOk bs ∧ l = flatR bs ∧ ∀ x y, memB bs x y = F x y
theorem IsReg.congr {l : List Rect} {F G : Int → Int → Bool} (h : IsReg l F) (e : ∀ x y, F x y = G x y) : IsReg l G := by
  obtain ⟨bs, h1, rfl, h2⟩ := h
  exact ⟨bs, h1, rfl, fun x y => (h2 x y).trans (e x y)⟩

/-! ### The merge of bands -/
end Go.Proofs.Ytommojgfkkoghaa

/- Plain words of regions, second part: grids, the program's merge and the document's, the region of what is kept of two lists. -/
set_option linter.unusedVariables false
set_option linter.unusedSimpArgs false
namespace Go.Proofs.Ytommojgfkkoghaa
open Go Go.RowKit

/-! ### Grids -/
/-! ### What is kept of two lists -/
/-! ### The program's merge -/
/-! ### The document's merge -/
/-! ### Lengths -/
end Go.Proofs.Ytommojgfkkoghaa

/- Rows of rectangles: four cells an element; read, written, appended to, cut, cleared. Generic in the program. -/
set_option linter.unusedVariables false
set_option linter.unusedSimpArgs false
namespace Go.Proofs.Ytommojgfkkoghaa
open Go Go.RowKit
variable {dfs : List Deferred}

section
variable {P : Program}
/-! ### Cut to a length -/
/-! ### Parts, read -/
/-! ### clear -/
end
end Go.Proofs.Ytommojgfkkoghaa

/- Contracts of functions of the given program, printed by a program of this project. -/
set_option linter.unusedVariables false
set_option linter.unusedSimpArgs false
namespace Go.Proofs.Ytommojgfkkoghaa
open Go Go.RowKit
set_option maxRecDepth 100000
set_option maxHeartbeats 8000000

end Go.Proofs.Ytommojgfkkoghaa

/- Plain laws of Fill and Copy: how many points; the document's list is the program's. -/
set_option linter.unusedVariables false
set_option linter.unusedSimpArgs false
namespace Go.Proofs.Ytommojgfkkoghaa
open Go Go.RowKit
/-- How many numbers below i are such. -/
def cntG (f : Nat → Bool) : Nat → Int
  | 0 => 0
  | i + 1 => cntG f i + if f i then 1 else 0
theorem cntG_congr {f g : Nat → Bool} : ∀ n : Nat, (∀ i, i < n → f i = g i) → cntG f n = cntG g n := by
  intro n
  induction n with
  | zero => intro _; rfl
  | succ n ih => intro h; simp only [cntG]; rw [ih (fun i hi => h i (by omega)), h n (by omega)]
theorem cntG_rng (f : Nat → Bool) : ∀ n : Nat, 0 ≤ cntG f n ∧ cntG f n ≤ n := by
  intro n
  induction n with
  | zero => simp [cntG]
  | succ n ih => simp only [cntG]; split <;> omega
theorem cntP_G (W a b c d : Int) : ∀ n : Nat, cntP W a b c d n = cntG (fun i => hasB a b c d ((i : Int) % W) ((i : Int) / W)) n := by
  intro n
  induction n with
  | zero => rfl
  | succ n ih => simp only [cntP, cntG, ih]
theorem at_rowC {W : Int} {Wn k j : Nat} (hW : (Wn : Int) = W) (hj : j < Wn) : (((k * Wn + j : Nat) : Int)) % W = (j : Int) ∧ (((k * Wn + j : Nat) : Int)) / W = (k : Int) := by
  subst hW
  have h0 : 0 < Wn := by omega
  rw [← Int.natCast_emod, ← Int.natCast_ediv]
  rw [show k * Wn + j = j + k * Wn by omega, Nat.add_mul_mod_self_right, Nat.add_mul_div_right _ _ h0, Nat.mod_eq_of_lt hj, Nat.div_eq_of_lt hj]
  simp
theorem hasB_iff {a b c d x y : Int} : hasB a b c d x y = decide (a ≤ x ∧ x < c ∧ b ≤ y ∧ y < d) := by
  rw [Bool.eq_iff_iff, hasB_true, decide_eq_true_eq]
theorem cnt_part {W a b c d : Int} {Wn : Nat} (hW : (Wn : Int) = W) (ha : 0 ≤ a ∧ a ≤ c ∧ c ≤ W) (y : Nat) : ∀ j : Nat, j ≤ Wn →
    cntG (fun i => hasB a b c d ((i : Int) % W) ((i : Int) / W)) (y * Wn + j) = cntG (fun i => hasB a b c d ((i : Int) % W) ((i : Int) / W)) (y * Wn) + (if b ≤ (y : Int) ∧ (y : Int) < d then (if (j : Int) ≤ a then 0 else if (j : Int) ≤ c then (j : Int) - a else c - a) else 0) := by
  intro j
  induction j with
  | zero => intro _; simp only [Nat.add_zero]; split <;> (try split) <;> (try split) <;> omega
  | succ j ih =>
    intro hj
    obtain ⟨e1, e2⟩ := at_rowC (k := y) hW (show j < Wn by omega)
    have es : ∀ (f : Nat → Bool) (m : Nat), cntG f (m + 1) = cntG f m + if f m then 1 else 0 := fun _ _ => rfl
    have ef : hasB a b c d (((y * Wn + j : Nat) : Int) % W) (((y * Wn + j : Nat) : Int) / W) = decide (a ≤ (j : Int) ∧ (j : Int) < c ∧ b ≤ (y : Int) ∧ (y : Int) < d) := by
      rw [e1, e2, hasB_iff]
    rw [← Nat.add_assoc, es, ih (by omega)]
    simp only [ef]
    by_cases hy : b ≤ (y : Int) ∧ (y : Int) < d
    · simp only [hy, and_self, if_true, and_true]
      by_cases h1 : (j : Int) < a
      · rw [if_pos (show (j : Int) ≤ a by omega), if_pos (show ((j + 1 : Nat) : Int) ≤ a by omega)]
        simp; omega
      · by_cases h2 : (j : Int) < c
        · rw [show (decide (a ≤ (j : Int) ∧ (j : Int) < c)) = true from decide_eq_true ⟨by omega, h2⟩]
          simp only [if_true]
          rw [if_neg (show ¬ ((j + 1 : Nat) : Int) ≤ a by omega), if_pos (show ((j + 1 : Nat) : Int) ≤ c by omega)]
          split
          · omega
          · rw [if_pos (by omega)]; omega
        · rw [show (decide (a ≤ (j : Int) ∧ (j : Int) < c)) = false from decide_eq_false (by omega)]
          rw [if_neg (show ¬ ((j + 1 : Nat) : Int) ≤ a by omega), if_neg (show ¬ ((j + 1 : Nat) : Int) ≤ c by omega)]
          simp only [Bool.false_eq_true, if_false]
          split
          · omega
          · split <;> omega
    · rw [if_neg hy, if_neg hy]
      rw [show (decide (a ≤ (j : Int) ∧ (j : Int) < c ∧ b ≤ (y : Int) ∧ (y : Int) < d)) = false from decide_eq_false (by omega)]
      simp
theorem cnt_rows {W a b c d : Int} {Wn : Nat} (hW : (Wn : Int) = W) (ha : 0 ≤ a ∧ a ≤ c ∧ c ≤ W) (hb : 0 ≤ b ∧ b ≤ d) : ∀ y : Nat, cntG (fun i => hasB a b c d ((i : Int) % W) ((i : Int) / W)) (y * Wn) = (c - a) * (if (y : Int) ≤ b then 0 else if (y : Int) ≤ d then (y : Int) - b else d - b) := by
  intro y
  induction y with
  | zero => rw [Nat.zero_mul, if_pos (by omega)]; simp [cntG]
  | succ y ih =>
    rw [Nat.add_mul, Nat.one_mul, cnt_part hW ha y Wn (Nat.le_refl _), ih]
    have e : (if (Wn : Int) ≤ a then 0 else if (Wn : Int) ≤ c then (Wn : Int) - a else c - a) = c - a := by
      split
      · omega
      · split <;> omega
    rw [e]
    by_cases h1 : (y : Int) < b
    · rw [if_pos (show (y : Int) ≤ b by omega), if_neg (show ¬ (b ≤ (y : Int) ∧ (y : Int) < d) by omega), if_pos (show ((y + 1 : Nat) : Int) ≤ b by omega)]; omega
    · by_cases h2 : (y : Int) < d
      · rw [if_pos (show b ≤ (y : Int) ∧ (y : Int) < d by omega), if_neg (show ¬ ((y + 1 : Nat) : Int) ≤ b by omega), if_pos (show ((y + 1 : Nat) : Int) ≤ d by omega)]
        rw [show ((y + 1 : Nat) : Int) - b = ((y : Int) - b) + 1 by omega, Int.mul_add, Int.mul_one]
        split
        · rw [show (y : Int) - b = 0 by omega]
        · rw [if_pos (by omega)]
      · rw [if_neg (show ¬ (b ≤ (y : Int) ∧ (y : Int) < d) by omega), if_neg (show ¬ ((y + 1 : Nat) : Int) ≤ b by omega), if_neg (show ¬ ((y + 1 : Nat) : Int) ≤ d by omega)]
        split
        · rw [show d - b = 0 by omega]; omega
        · split
          · rw [show (y : Int) - b = d - b by omega]; omega
          · omega
theorem cnt_rect {W H a b c d : Int} {n : Nat} {px : List Int} (hok : ImgOk W H n px) (ha : 0 ≤ a ∧ a ≤ c ∧ c ≤ W) (hb : 0 ≤ b ∧ b ≤ d ∧ d ≤ H) : cntG (fun i => hasB a b c d ((i : Int) % W) ((i : Int) / W)) n = (c - a) * (d - b) := by
  obtain ⟨Wn, hW⟩ : ∃ k : Nat, (k : Int) = W := ⟨Int.toNat W, by have := hok.w1; omega⟩
  obtain ⟨Hn, hH⟩ : ∃ k : Nat, (k : Int) = H := ⟨Int.toNat H, by have := hok.h1; omega⟩
  have hn : n = Hn * Wn := by
    have := hok.num
    rw [← hW, ← hH, Int.mul_comm, ← Int.natCast_mul] at this
    exact Int.ofNat.inj this
  rw [hn, cnt_rows hW ha ⟨hb.1, hb.2.1⟩ Hn]
  congr 1
  split
  · omega
  · split <;> omega
theorem area_pos {a b c d : Int} (h : a ≤ c ∧ b ≤ d) : areaI a b c d = (c - a) * (d - b) := by
  unfold areaI
  by_cases he : emptyB a b c d = true
  · rw [if_pos he]
    rcases emptyB_true.1 he with h1 | h1
    · rw [show c - a = 0 by omega, Int.zero_mul]
    · rw [show d - b = 0 by omega, Int.mul_zero]
  · rw [if_neg he]
/-- How many points a Fill fills: the document's count is the program's. -/
theorem fill_cnt {W H a b c d : Int} {n : Nat} {px : List Int} (hok : ImgOk W H n px) {col : Int} (hc : mayB col = true) : fillN W H a b c d col = cntP W a b c d n := by
  obtain ⟨R, hR⟩ : ∃ R : Rect, R = cutR a b c d 0 0 W H := ⟨_, rfl⟩
  obtain ⟨h1, h2, h3, h4, h5, h6⟩ := cut_in a b c d hok.w1 hok.h1
  unfold fillN
  rw [if_pos hc, ← hR, cntP_G]
  rw [← hR] at h1 h2 h3 h4 h5 h6
  rw [area_pos ⟨h2, h5⟩, ← cnt_rect hok ⟨h1, h2, h3⟩ ⟨h4, h5, h6⟩]
  refine cntG_congr n fun i hi => ?_
  have hb := in_box hok.w1 hok.num hi
  rw [Bool.eq_iff_iff, hR, cutR_has]
  exact ⟨fun h => h.1, fun h => ⟨h, hb⟩⟩
/-- Of a point: is it one that is copied? -/
def cpB (W W' H' a b c d dx dy : Int) (i : Nat) : Bool := hasB 0 0 W' H' ((i : Int) % W - dx) ((i : Int) / W - dy) && hasB a b c d ((i : Int) % W - dx) ((i : Int) / W - dy)
theorem copy_cnt {W H W' H' : Int} {n n' : Nat} {px px' : List Int} (hok : ImgOk W H n px) (hok' : ImgOk W' H' n' px') (a b c d dx dy : Int) : areaI (copyR a b c d W' H' dx dy W H).x0 (copyR a b c d W' H' dx dy W H).y0 (copyR a b c d W' H' dx dy W H).x1 (copyR a b c d W' H' dx dy W H).y1 = cntG (cpB W W' H' a b c d dx dy) n := by
  obtain ⟨R, hR⟩ : ∃ R : Rect, R = copyR a b c d W' H' dx dy W H := ⟨_, rfl⟩
  have hin := copyR_in a b c d W' H' dx dy W H hR hok.w1 hok.h1 ⟨hok'.w1, hok'.w2⟩ ⟨hok'.h1, hok'.h2⟩
  have key : ∀ i, i < n → cpB W W' H' a b c d dx dy i = hasB R.x0 R.y0 R.x1 R.y1 ((i : Int) % W - dx) ((i : Int) / W - dy) := fun i hi => by
    have hb := hasB_true.1 (in_box hok.w1 hok.num hi)
    rw [Bool.eq_iff_iff, hR, copyR_has]
    unfold cpB
    rw [Bool.and_eq_true]
    constructor
    · rintro ⟨h1, h2⟩; exact ⟨h2, h1, hasB_true.2 (by omega)⟩
    · rintro ⟨h1, h2, _⟩; exact ⟨h2, h1⟩
  rw [← hR, cntG_congr n key]
  rcases hin with ⟨e1, e2, e3, e4⟩ | ⟨g1, g2, g3, g4, g5, g6, g7, g8, g9, g10⟩
  · rw [e1, e2, e3, e4]
    have : cntG (fun i => hasB 0 0 0 0 ((i : Int) % W - dx) ((i : Int) / W - dy)) n = cntG (fun _ => false) n := cntG_congr n fun i _ => by rw [hasB_iff]; exact decide_eq_false (by omega)
    rw [this]
    have z : ∀ m : Nat, cntG (fun _ => false) m = 0 := by intro m; induction m with
      | zero => rfl
      | succ m ih => simp [cntG, ih]
    rw [z]; decide
  · rw [area_pos ⟨by omega, by omega⟩]
    have h := cnt_rect hok (a := R.x0 + dx) (b := R.y0 + dy) (c := R.x1 + dx) (d := R.y1 + dy) ⟨by omega, by omega, by omega⟩ ⟨by omega, by omega, by omega⟩
    rw [show R.x1 + dx - (R.x0 + dx) = R.x1 - R.x0 by omega, show R.y1 + dy - (R.y0 + dy) = R.y1 - R.y0 by omega] at h
    rw [← h]
    refine cntG_congr n fun i _ => ?_
    rw [hasB_iff, hasB_iff]
    exact decide_eq_decide.2 (by omega)
/-- The document's copy, point by point. -/
def cpL (W : Int) (px : List Int) (W' H' : Int) (px' : List Int) (a b c d dx dy : Int) : List Int := px.mapIdx fun i v => if cpB W W' H' a b c d dx dy i then atC W' H' px' ((i : Int) % W - dx) ((i : Int) / W - dy) else v
theorem cpL_len (W : Int) (px : List Int) (W' H' : Int) (px' : List Int) (a b c d dx dy : Int) : (cpL W px W' H' px' a b c d dx dy).length = px.length := by simp [cpL]
theorem cpL_get {W : Int} {px : List Int} {W' H' : Int} {px' : List Int} {a b c d dx dy : Int} {i : Nat} (h : i < px.length) : (cpL W px W' H' px' a b c d dx dy)[i]? = some (if cpB W W' H' a b c d dx dy i then atC W' H' px' ((i : Int) % W - dx) ((i : Int) / W - dy) else px.getD i 0) := by
  unfold cpL
  rw [List.getElem?_mapIdx, List.getElem?_eq_getElem h, List.getD_eq_getElem?_getD, List.getElem?_eq_getElem h]; rfl
theorem cpL_step {W : Int} {px : List Int} {W' H' : Int} {px' : List Int} {a b c d dx dy : Int} {i : Nat} (h : i < px.length) : (cpL W px W' H' px' a b c d dx dy).take (i + 1) = (cpL W px W' H' px' a b c d dx dy).take i ++ [if cpB W W' H' a b c d dx dy i then atC W' H' px' ((i : Int) % W - dx) ((i : Int) / W - dy) else px.getD i 0] := by
  rw [List.take_add_one, cpL_get h]; rfl
theorem copy_list {W H W' H' : Int} {n n' : Nat} {px px' : List Int} (hok : ImgOk W H n px) (hok' : ImgOk W' H' n' px') (a b c d dx dy : Int) : copyP W px W' px' (copyR a b c d W' H' dx dy W H).x0 (copyR a b c d W' H' dx dy W H).y0 (copyR a b c d W' H' dx dy W H).x1 (copyR a b c d W' H' dx dy W H).y1 dx dy = cpL W px W' H' px' a b c d dx dy := by
  refine list_eq_getD (n := n) (by rw [copyP_length]; exact hok.len) (by rw [cpL_len]; exact hok.len) fun k hk => ?_
  rw [copy_at hok hok' a b c d dx dy hk]
  rw [List.getD_eq_getElem?_getD (l := cpL _ _ _ _ _ _ _ _ _ _ _), cpL_get (by rw [hok.len]; exact hk)]
  rfl
theorem fill_list {W H a b c d col : Int} {n : Nat} {px : List Int} (hok : ImgOk W H n px) (hc : mayB col = true) : fillA W H px a b c d col = fillP W px a b c d col := by
  unfold fillA
  rw [if_pos hc]
  refine List.ext_getElem? fun j => ?_
  rw [fillP_get, fillP_get]
  by_cases hj : j < px.length
  · rw [List.getElem?_eq_getElem hj]
    simp only [Option.map_some]
    have hb := in_box hok.w1 hok.num (i := j) (by rw [← hok.len]; exact hj)
    congr 1
    rw [show hasB (cutR a b c d 0 0 W H).x0 (cutR a b c d 0 0 W H).y0 (cutR a b c d 0 0 W H).x1 (cutR a b c d 0 0 W H).y1 ((j : Int) % W) ((j : Int) / W) = hasB a b c d ((j : Int) % W) ((j : Int) / W) by
      rw [Bool.eq_iff_iff, cutR_has]; exact ⟨fun h => h.1, fun h => ⟨h, hb⟩⟩]
  · rw [List.getElem?_eq_none (by omega)]; rfl
theorem fillA_no {W H a b c d col : Int} {px : List Int} (hc : mayB col = false) : fillA W H px a b c d col = px ∧ fillN W H a b c d col = 0 := by
  unfold fillA fillN
  rw [hc]; exact ⟨rfl, rfl⟩
theorem cpL_yes {W : Int} {px : List Int} {W' H' : Int} {px' : List Int} {a b c d dx dy : Int} {i : Nat} (h : i < px.length) (hB : cpB W W' H' a b c d dx dy i = true) : (cpL W px W' H' px' a b c d dx dy).take i ++ [atC W' H' px' ((i : Int) % W - dx) ((i : Int) / W - dy)] = (cpL W px W' H' px' a b c d dx dy).take (i + 1) := by
  rw [cpL_step h, if_pos hB]
theorem cpL_no {W : Int} {px : List Int} {W' H' : Int} {px' : List Int} {a b c d dx dy : Int} {i : Nat} (h : i < px.length) (hB : cpB W W' H' a b c d dx dy i = false) : (cpL W px W' H' px' a b c d dx dy).take i ++ [px.getD i 0] = (cpL W px W' H' px' a b c d dx dy).take (i + 1) := by
  rw [cpL_step h, if_neg (by rw [hB]; simp)]
theorem cpL_full {W : Int} {px : List Int} {W' H' : Int} {px' : List Int} {a b c d dx dy : Int} {i : Nat} (h : px.length ≤ i) : (cpL W px W' H' px' a b c d dx dy).take i = cpL W px W' H' px' a b c d dx dy := List.take_of_length_le (by rw [cpL_len]; exact h)
theorem ImgOk.cpL {W H W' H' : Int} {n n' : Nat} {px px' : List Int} (hok : ImgOk W H n px) (hok' : ImgOk W' H' n' px') (a b c d dx dy : Int) : ImgOk W H n (cpL W px W' H' px' a b c d dx dy) := by
  rw [← copy_list hok hok' a b c d dx dy]
  exact hok.copyP hok' _ _ _ _ _ _
end Go.Proofs.Ytommojgfkkoghaa

