/- Contracts of functions of the given program, printed by a program of this project. -/
import Derived.Test.YtommojgfkkoghaaL4w
import Derived.Test.YtommojgfkkoghaaProg
set_option linter.unusedVariables false
set_option linter.unusedSimpArgs false
namespace Go.Proofs.Ytommojgfkkoghaa
open Go Go.RowKit
set_option maxRecDepth 100000
set_option maxHeartbeats 8000000

theorem refCovers (a b c d a' b' c' d' : Int) (w : World) :
    Calls Try.prog 65 #[.agg #[.int .i64 a, .int .i64 b, .int .i64 c, .int .i64 d], .agg #[.int .i64 a', .int .i64 b', .int .i64 c', .int .i64 d']] w fun e w' => e = .returned (.bool (coversB a b c d a' b' c' d')) ∧ Below w.heap.size w w' := by
 refine enter 33 [(0, .agg #[iq a, iq b, iq c, iq d]), (1, .agg #[iq a', iq b', iq c', iq d'])] [] Try.func65 rfl Try.ntmps65 rfl (by kernel_rfl) (Tab.start w) ?_
 refine cont_seq ?_
 refine cont_region 3 rfl ?_
 refine batch2 [0, 0, 0] 3 0 (fun b1 b2 => [(2, .pointer (pB b1)), (3, .pointer (pB b2))]) (fun b1 b2 => [.cells b2 [iq a', iq b', iq c', iq d'] 32 true, .cells b1 [iq a, iq b, iq c, iq d] 32 true]) rfl rfl [2, 3] (fun _ _ => rfl) (fun b1 b2 => by kernel_rfl) (fun b1 b2 => by kernel_rfl) (fun b1 b2 => ?_)
 refine cont_done ?_
 refine then_normal ?_
 refine cont_seq ?_
 refine cont_seq ?_
 refine cont_region 2 rfl ?_
 refine bS [0] 1 1 [(2, .pointer (pB b1)), (3, .pointer (pB b2)), (5, .agg #[iq a', iq b', iq c', iq d'])] ?_
 refine pl_step 2 0 rfl rfl ?_
 refine call_pure (d := 6) (.bool (emptyB a' b' c' d')) (by kernel_rfl) (fun w hT => refEmpty a' b' c' d' w) ?_
 refine cont_done ?_
 refine then_normal ?_
 refine cont_split 6 (emptyB a' b' c' d') rfl (fun c3_ => ?_) (fun c3_ => ?_)
 ·
  refine cont_true rfl ?_
  refine cont_seq ?_
  refine cont_region 1 rfl ?_
  refine bS [0] 1 0 [(4, .bool true)] ?_
  refine cont_forget 0 rfl ?_
  refine cont_forget 0 rfl ?_
  refine cont_done ?_
  refine then_normal ?_
  refine cont_ret ?_
  refine then_ret ?_
  refine ret_one (.inl rfl) rfl 0 (.bool true) (by kernel_rfl) (by kernel_rfl) (fun w hT => ?_)
  exact ⟨ret_bool (by simp [coversB, *] <;> omega), hT.post rfl⟩
 refine cont_false rfl ?_
 refine cont_skip ?_
 refine then_normal ?_
 refine cont_seq ?_
 refine cont_region 27 rfl ?_
 refine bS [0, 1, 0, 0, 0, 0] 6 21 [(2, .pointer (pB b1)), (3, .pointer (pB b2)), (12, .bool (decide (a ≤ a')))] ?_
 refine cont_split 12 (decide (a ≤ a')) rfl (fun c4_ => ?_) (fun c4_ => ?_)
 ·
  replace c4_ := of_decide_eq_true c4_
  refine bS [0, 1, 0, 0, 0, 0, 0] 13 14 [(2, .pointer (pB b1)), (3, .pointer (pB b2)), (19, .bool (decide (b ≤ b')))] ?_
  refine cont_split 19 (decide (b ≤ b')) rfl (fun c5_ => ?_) (fun c5_ => ?_)
  ·
   replace c5_ := of_decide_eq_true c5_
   refine bS [0, 1, 0, 0, 0, 0, 0] 20 7 [(2, .pointer (pB b1)), (3, .pointer (pB b2)), (26, .bool (decide (c ≥ c')))] ?_
   refine cont_split 26 (decide (c ≥ c')) rfl (fun c6_ => ?_) (fun c6_ => ?_)
   ·
    replace c6_ := of_decide_eq_true c6_
    refine bS [0, 1, 0, 0, 0, 0, 0] 27 0 [(4, .bool (decide (d ≥ d')))] ?_
    refine cont_forget 0 rfl ?_
    refine cont_forget 0 rfl ?_
    refine cont_done ?_
    refine then_normal ?_
    refine cont_ret ?_
    refine ret_one (.inl rfl) rfl 0 (.bool (decide (d ≥ d'))) (by kernel_rfl) (by kernel_rfl) (fun w hT => ?_)
    exact ⟨ret_bool (by simp [coversB, *] <;> omega), hT.post rfl⟩
   replace c6_ := of_decide_eq_false c6_
   refine bS [0, 0, 0, 0, 0, 0, 0] 27 0 [(4, .bool false)] ?_
   refine cont_forget 0 rfl ?_
   refine cont_forget 0 rfl ?_
   refine cont_done ?_
   refine then_normal ?_
   refine cont_ret ?_
   refine ret_one (.inl rfl) rfl 0 (.bool false) (by kernel_rfl) (by kernel_rfl) (fun w hT => ?_)
   exact ⟨ret_bool (by simp [coversB, *] <;> omega), hT.post rfl⟩
  replace c5_ := of_decide_eq_false c5_
  refine bS [0, 0, 0, 0, 0, 0, 0, 0, 0, 0, 0, 0, 0, 0] 27 0 [(4, .bool false)] ?_
  refine cont_forget 0 rfl ?_
  refine cont_forget 0 rfl ?_
  refine cont_done ?_
  refine then_normal ?_
  refine cont_ret ?_
  refine ret_one (.inl rfl) rfl 0 (.bool false) (by kernel_rfl) (by kernel_rfl) (fun w hT => ?_)
  exact ⟨ret_bool (by simp [coversB, *] <;> omega), hT.post rfl⟩
 replace c4_ := of_decide_eq_false c4_
 refine bS [0, 0, 0, 0, 0, 0, 0, 0, 0, 0, 0, 0, 0, 0, 0, 0, 0, 0, 0, 0, 0] 27 0 [(4, .bool false)] ?_
 refine cont_forget 0 rfl ?_
 refine cont_forget 0 rfl ?_
 refine cont_done ?_
 refine then_normal ?_
 refine cont_ret ?_
 refine ret_one (.inl rfl) rfl 0 (.bool false) (by kernel_rfl) (by kernel_rfl) (fun w hT => ?_)
 exact ⟨ret_bool (by simp [coversB, *] <;> omega), hT.post rfl⟩

theorem refWriteB (W H : Int) (r n cap : Nat) (px : List Int) (a b c d : Int) (A2 : Option Addr) (g2 o2 n2 cap2 : Nat) (xs2 : List Int) (w : World) (hT0 : Tab w w [.gen (rdE (some ⟨r, 0, none⟩) r 0 n 1 (ivals .u32 px)), .gen (rdE (A2) g2 o2 n2 1 (ivals .u8 xs2))]) (hok : ImgOk W H n px) (hc2 : n2 ≤ cap2) (hx2 : ∀ x ∈ xs2, 0 ≤ x ∧ x ≤ 255) (hE : wrE W H a b c d xs2 ≠ 0) :
    Calls Try.prog 41 #[.agg #[.int .i64 W, .int .i64 H, .slice (some ⟨r, 0, none⟩) n cap], .agg #[.int .i64 a, .int .i64 b, .int .i64 c, .int .i64 d], .slice A2 n2 cap2] w fun e w' => e = .returned (.tuple #[.agg #[.int .i64 W, .int .i64 H, .slice (some ⟨r, 0, none⟩) n cap], .int .i64 (wrE W H a b c d xs2)]) ∧ Below w.heap.size w w' := by
  have hw1 := hok.w1
  have hw2 := hok.w2
  have hh1 := hok.h1
  have hh2 := hok.h2
  have hnum := hok.num
  have hlen := hok.len
  have hle := hok.le
  have hra2 := ((hT0.ok 1 _ rfl : Rd w A2 g2 o2 n2 1 (ivals .u8 xs2)).at_)
  have hl2 : xs2.length = n2 := Rd.flen (hT0.ok 1 _ rfl)
  refine enter 109 [(0, .agg #[.int .i64 W, .int .i64 H, .slice (some ⟨r, 0, none⟩) n cap]), (1, .agg #[.int .i64 a, .int .i64 b, .int .i64 c, .int .i64 d]), (2, .slice A2 n2 cap2)] [.gen (rdE (some ⟨r, 0, none⟩) r 0 n 1 (ivals .u32 px)), .gen (rdE (A2) g2 o2 n2 1 (ivals .u8 xs2))] Try.func41 rfl Try.ntmps41 rfl (by kernel_rfl) hT0 ?_
  refine cont_fact (F := (0 < n2 → (A2 : Option Addr) = some ⟨g2, o2, none⟩) ∧ xs2.length = n2) (fun w hT => Rd.facts (hT.ok 1 _ rfl)) (fun hl1_ => ?_)
  obtain ⟨hl1_a, hl1_l⟩ := hl1_
  refine cont_seq ?_
  refine cont_region 4 rfl ?_
  refine batch3 [0, 0, 0, 0] 4 0 (fun b2 b3 b4 => [(2, .slice A2 n2 cap2), (3, .pointer (some ⟨b2, 0, none⟩)), (4, .pointer (some ⟨b3, 0, none⟩)), (6, .pointer (some ⟨b4, 0, none⟩))]) (fun b2 b3 b4 => [.cells b4 [.int .i64 0, .int .i64 0, .slice none 0 0] 37 true, .cells b3 [.int .i64 a, .int .i64 b, .int .i64 c, .int .i64 d] 32 true, .cells b2 [.int .i64 W, .int .i64 H, .slice (some ⟨r, 0, none⟩) n cap] 37 true, .gen (rdE (some ⟨r, 0, none⟩) r 0 n 1 (ivals .u32 px)), .gen (rdE (A2) g2 o2 n2 1 (ivals .u8 xs2))]) rfl rfl [2, 3, 4, 6] (fun _ _ _ => rfl) (fun b2 b3 b4 => by kernel_rfl) (fun b2 b3 b4 => by kernel_rfl) (fun b2 b3 b4 => ?_)
  refine cont_done ?_
  refine then_normal ?_
  refine cont_seq ?_
  refine drawn_enter 5 [] rfl (by kernel_rfl) ?_
  refine takes 0 [] [(0, 2), (2, 1)] 3 [2, 0] [(2, .slice A2 n2 cap2), (3, .pointer (some ⟨b2, 0, none⟩)), (4, .pointer (some ⟨b3, 0, none⟩)), (6, .pointer (some ⟨b4, 0, none⟩)), (15, .agg #[.int .i64 W, .int .i64 H, .slice (some ⟨r, 0, none⟩) n cap]), (17, .agg #[.int .i64 a, .int .i64 b, .int .i64 c, .int .i64 d])] (by kernel_rfl) (pok_then pok_body) (by kernel_rfl) rfl rfl (by kernel_rfl) (by kernel_rfl) ?_
  refine drawn_one 1 2 rfl (by kernel_rfl) ?_
  refine call_pure (d := 16) (.agg #[.int .i64 0, .int .i64 0, .int .i64 W, .int .i64 H]) (by kernel_rfl) (fun w hT => refBox W H (.slice (some ⟨r, 0, none⟩) n cap) w) ?_
  refine drawn_next 0 [] (by kernel_rfl) ?_
  refine drawn_one 3 1 rfl (by kernel_rfl) ?_
  refine call_pure (d := 18) (.bool (coversB 0 0 W H a b c d)) (by kernel_rfl) (fun w hT => refCovers 0 0 W H a b c d w) ?_
  refine drawn_next 0 [] (by kernel_rfl) ?_
  refine takes 0 [] [(4, 0)] 0 [4, 3, 1, 2, 0] [(2, .slice A2 n2 cap2), (3, .pointer (some ⟨b2, 0, none⟩)), (4, .pointer (some ⟨b3, 0, none⟩)), (6, .pointer (some ⟨b4, 0, none⟩)), (8, .bool (coversB 0 0 W H a b c d))] (by kernel_rfl) (pok_then pok_body) (by kernel_rfl) rfl rfl (by kernel_rfl) (by kernel_rfl) ?_
  refine drawn_done (by kernel_rfl) ?_
  refine then_normal ?_
  refine cont_seq ?_
  refine cont_seq ?_
  refine cont_region 6 rfl ?_
  refine bS [1] 1 5 [(2, .slice A2 n2 cap2), (3, .pointer (some ⟨b2, 0, none⟩)), (4, .pointer (some ⟨b3, 0, none⟩)), (6, .pointer (some ⟨b4, 0, none⟩)), (8, .bool (coversB 0 0 W H a b c d)), (19, .agg #[.int .i64 a, .int .i64 b, .int .i64 c, .int .i64 d])] ?_
  refine pl_step 2 4 rfl rfl ?_
  refine call_pure (d := 20) (.bool (emptyB a b c d)) (by kernel_rfl) (fun w hT => refEmpty a b c d w) ?_
  refine bS [0] 3 3 [(2, .slice A2 n2 cap2), (3, .pointer (some ⟨b2, 0, none⟩)), (4, .pointer (some ⟨b3, 0, none⟩)), (6, .pointer (some ⟨b4, 0, none⟩)), (8, .bool (coversB 0 0 W H a b c d)), (21, .bool (emptyB a b c d))] ?_
  refine cont_split 21 (emptyB a b c d) rfl (fun c5_ => ?_) (fun c5_ => ?_)
  ·
    have hem_ : emptyB a b c d = true := c5_
    refine bS [0, 0, 0] 6 0 [(2, .slice A2 n2 cap2), (3, .pointer (some ⟨b2, 0, none⟩)), (4, .pointer (some ⟨b3, 0, none⟩)), (6, .pointer (some ⟨b4, 0, none⟩)), (24, .bool true)] ?_
    refine cont_done ?_
    refine then_normal ?_
    refine cont_true rfl ?_
    refine cont_seq ?_
    refine cont_region 3 rfl ?_
    refine batch0 [2, 0, 0] 3 0 [(6, .pointer (some ⟨b4, 0, none⟩)), (7, .int .i64 4)] [.cells b4 [.int .i64 W, .int .i64 H, .slice (some ⟨r, 0, none⟩) n cap] 37 true, .cells b3 [.int .i64 a, .int .i64 b, .int .i64 c, .int .i64 d] 32 true, .cells b2 [.int .i64 W, .int .i64 H, .slice (some ⟨r, 0, none⟩) n cap] 37 true, .gen (rdE (some ⟨r, 0, none⟩) r 0 n 1 (ivals .u32 px)), .gen (rdE (A2) g2 o2 n2 1 (ivals .u8 xs2))] rfl rfl (by kernel_rfl) (by kernel_rfl) ?_
    refine cont_forget 1 rfl ?_
    refine cont_forget 1 rfl ?_
    refine cont_done ?_
    refine then_normal ?_
    refine cont_ret ?_
    refine then_ret ?_
    refine ret_two (.inl rfl) rfl 0 0 (.agg #[.int .i64 W, .int .i64 H, .slice (some ⟨r, 0, none⟩) n cap]) (.int .i64 4) (by kernel_rfl) (by kernel_rfl) (by kernel_rfl) (by kernel_rfl) (fun w hT => ?_)
    have hE2 : wrE W H a b c d xs2 = 4 := (by rcases Bool.eq_false_or_eq_true (emptyB a b c d) with h_ | h_; exact wrE_ins (by unfold insB; rw [h_]; rfl); first | exact wrE_ins hgF | exact absurd (h_.symm.trans hem_) (by decide))
    exact ⟨by rw [hE2], hT.post rfl⟩
  have hem_ : emptyB a b c d = false := c5_
  refine bS [0, 0, 0] 6 0 [(2, .slice A2 n2 cap2), (3, .pointer (some ⟨b2, 0, none⟩)), (4, .pointer (some ⟨b3, 0, none⟩)), (6, .pointer (some ⟨b4, 0, none⟩)), (24, .bool (!(coversB 0 0 W H a b c d)))] ?_
  refine cont_done ?_
  refine then_normal ?_
  refine cont_split 24 (!(coversB 0 0 W H a b c d)) rfl (fun c6_ => ?_) (fun c6_ => ?_)
  ·
    replace c6_ : (coversB 0 0 W H a b c d) = false := by simpa using c6_
    have hgF : insB W H a b c d = false := by unfold insB; rw [show coversB 0 0 W H a b c d = false from c6_, Bool.and_false]
    refine cont_true rfl ?_
    refine cont_seq ?_
    refine cont_region 3 rfl ?_
    refine batch0 [2, 0, 0] 3 0 [(6, .pointer (some ⟨b4, 0, none⟩)), (7, .int .i64 4)] [.cells b4 [.int .i64 W, .int .i64 H, .slice (some ⟨r, 0, none⟩) n cap] 37 true, .cells b3 [.int .i64 a, .int .i64 b, .int .i64 c, .int .i64 d] 32 true, .cells b2 [.int .i64 W, .int .i64 H, .slice (some ⟨r, 0, none⟩) n cap] 37 true, .gen (rdE (some ⟨r, 0, none⟩) r 0 n 1 (ivals .u32 px)), .gen (rdE (A2) g2 o2 n2 1 (ivals .u8 xs2))] rfl rfl (by kernel_rfl) (by kernel_rfl) ?_
    refine cont_forget 1 rfl ?_
    refine cont_forget 1 rfl ?_
    refine cont_done ?_
    refine then_normal ?_
    refine cont_ret ?_
    refine then_ret ?_
    refine ret_two (.inl rfl) rfl 0 0 (.agg #[.int .i64 W, .int .i64 H, .slice (some ⟨r, 0, none⟩) n cap]) (.int .i64 4) (by kernel_rfl) (by kernel_rfl) (by kernel_rfl) (by kernel_rfl) (fun w hT => ?_)
    have hE2 : wrE W H a b c d xs2 = 4 := (by rcases Bool.eq_false_or_eq_true (emptyB a b c d) with h_ | h_; exact wrE_ins (by unfold insB; rw [h_]; rfl); first | exact wrE_ins hgF | exact absurd (h_.symm.trans hem_) (by decide))
    exact ⟨by rw [hE2], hT.post rfl⟩
  replace c6_ : (coversB 0 0 W H a b c d) = true := by simpa using c6_
  have hg : insB W H a b c d = true := by unfold insB; rw [show coversB 0 0 W H a b c d = true from c6_, hem_]; rfl
  obtain ⟨hg1, hg2, hg3, hg4, hg5, hg6⟩ := insB_true hg
  obtain ⟨har0, har1, har2⟩ := ins_area hok hg
  refine cont_false rfl ?_
  refine cont_skip ?_
  refine then_normal ?_
  refine cont_seq ?_
  refine cont_region 4 rfl ?_
  refine bS [1] 1 3 [(2, .slice A2 n2 cap2), (3, .pointer (some ⟨b2, 0, none⟩)), (4, .pointer (some ⟨b3, 0, none⟩)), (6, .pointer (some ⟨b4, 0, none⟩)), (26, .agg #[.int .i64 a, .int .i64 b, .int .i64 c, .int .i64 d])] ?_
  refine pl_step 2 2 rfl rfl ?_
  refine call_pure (d := 27) (.int .i64 (areaI a b c d)) (by kernel_rfl) (fun w hT => refArea a b c d w (by omega) (by omega) (by omega) (by omega)) ?_
  refine bS [0] 3 1 [(2, .slice A2 n2 cap2), (3, .pointer (some ⟨b2, 0, none⟩)), (4, .pointer (some ⟨b3, 0, none⟩)), (6, .pointer (some ⟨b4, 0, none⟩)), (28, .int .i64 (IntKind.i64.wrap (4 * (areaI a b c d))))] ?_
  refine cont_recast 28 (.int .i64 (IntKind.i64.wrap (4 * (areaI a b c d)))) (.int .i64 (4 * (areaI a b c d))) rfl (wrapI (by omega) (by omega)) ?_
  refine bS [0] 4 0 [(2, .slice A2 n2 cap2), (3, .pointer (some ⟨b2, 0, none⟩)), (4, .pointer (some ⟨b3, 0, none⟩)), (6, .pointer (some ⟨b4, 0, none⟩)), (9, .int .i64 (4 * (areaI a b c d)))] ?_
  refine cont_done ?_
  refine then_normal ?_
  refine cont_seq ?_
  refine cont_seq ?_
  refine cont_region 4 rfl ?_
  refine bS [0, 0, 0, 0] 4 0 [(2, .slice A2 n2 cap2), (3, .pointer (some ⟨b2, 0, none⟩)), (4, .pointer (some ⟨b3, 0, none⟩)), (6, .pointer (some ⟨b4, 0, none⟩)), (9, .int .i64 (4 * (areaI a b c d))), (32, .bool (decide ((n2 : Int) < (4 * (areaI a b c d)))))] ?_
  refine cont_done ?_
  refine then_normal ?_
  refine cont_split 32 (decide ((n2 : Int) < (4 * (areaI a b c d)))) rfl (fun c7_ => ?_) (fun c7_ => ?_)
  ·
    replace c7_ := of_decide_eq_true c7_
    refine cont_true rfl ?_
    refine cont_seq ?_
    refine cont_region 3 rfl ?_
    refine batch0 [2, 0, 0] 3 0 [(6, .pointer (some ⟨b4, 0, none⟩)), (7, .int .i64 3)] [.cells b4 [.int .i64 W, .int .i64 H, .slice (some ⟨r, 0, none⟩) n cap] 37 true, .cells b3 [.int .i64 a, .int .i64 b, .int .i64 c, .int .i64 d] 32 true, .cells b2 [.int .i64 W, .int .i64 H, .slice (some ⟨r, 0, none⟩) n cap] 37 true, .gen (rdE (some ⟨r, 0, none⟩) r 0 n 1 (ivals .u32 px)), .gen (rdE (A2) g2 o2 n2 1 (ivals .u8 xs2))] rfl rfl (by kernel_rfl) (by kernel_rfl) ?_
    refine cont_forget 1 rfl ?_
    refine cont_forget 1 rfl ?_
    refine cont_done ?_
    refine then_normal ?_
    refine cont_ret ?_
    refine then_ret ?_
    refine ret_two (.inl rfl) rfl 0 0 (.agg #[.int .i64 W, .int .i64 H, .slice (some ⟨r, 0, none⟩) n cap]) (.int .i64 3) (by kernel_rfl) (by kernel_rfl) (by kernel_rfl) (by kernel_rfl) (fun w hT => ?_)
    have hE2 : wrE W H a b c d xs2 = 3 := wrE_short hg (by omega)
    exact ⟨by rw [hE2], hT.post rfl⟩
  replace c7_ := of_decide_eq_false c7_
  refine cont_false rfl ?_
  refine cont_skip ?_
  refine then_normal ?_
  refine cont_seq ?_
  refine cont_seq ?_
  refine cont_region 4 rfl ?_
  refine bS [0, 0, 0, 0] 4 0 [(2, .slice A2 n2 cap2), (3, .pointer (some ⟨b2, 0, none⟩)), (4, .pointer (some ⟨b3, 0, none⟩)), (6, .pointer (some ⟨b4, 0, none⟩)), (9, .int .i64 (4 * (areaI a b c d))), (37, .bool (decide ((n2 : Int) > (4 * (areaI a b c d)))))] ?_
  refine cont_done ?_
  refine then_normal ?_
  refine cont_split 37 (decide ((n2 : Int) > (4 * (areaI a b c d)))) rfl (fun c8_ => ?_) (fun c8_ => ?_)
  ·
    replace c8_ := of_decide_eq_true c8_
    refine cont_true rfl ?_
    refine cont_seq ?_
    refine cont_region 3 rfl ?_
    refine batch0 [2, 0, 0] 3 0 [(6, .pointer (some ⟨b4, 0, none⟩)), (7, .int .i64 2)] [.cells b4 [.int .i64 W, .int .i64 H, .slice (some ⟨r, 0, none⟩) n cap] 37 true, .cells b3 [.int .i64 a, .int .i64 b, .int .i64 c, .int .i64 d] 32 true, .cells b2 [.int .i64 W, .int .i64 H, .slice (some ⟨r, 0, none⟩) n cap] 37 true, .gen (rdE (some ⟨r, 0, none⟩) r 0 n 1 (ivals .u32 px)), .gen (rdE (A2) g2 o2 n2 1 (ivals .u8 xs2))] rfl rfl (by kernel_rfl) (by kernel_rfl) ?_
    refine cont_forget 1 rfl ?_
    refine cont_forget 1 rfl ?_
    refine cont_done ?_
    refine then_normal ?_
    refine cont_ret ?_
    refine then_ret ?_
    refine ret_two (.inl rfl) rfl 0 0 (.agg #[.int .i64 W, .int .i64 H, .slice (some ⟨r, 0, none⟩) n cap]) (.int .i64 2) (by kernel_rfl) (by kernel_rfl) (by kernel_rfl) (by kernel_rfl) (fun w hT => ?_)
    have hE2 : wrE W H a b c d xs2 = 2 := wrE_long hg (by omega)
    exact ⟨by rw [hE2], hT.post rfl⟩
  replace c8_ := of_decide_eq_false c8_
  refine cont_false rfl ?_
  refine cont_skip ?_
  refine then_normal ?_
  refine cont_seq ?_
  refine cont_region 1 rfl ?_
  obtain ⟨N, hN⟩ : ∃ N : Nat, (N : Int) = areaI a b c d := ⟨Int.toNat (areaI a b c d), by omega⟩
  obtain ⟨wn, hwn⟩ : ∃ k_ : Nat, k_ = Int.toNat (c - a) := ⟨_, rfl⟩
  refine bS [0] 1 0 [(2, .slice A2 n2 cap2), (3, .pointer (some ⟨b2, 0, none⟩)), (4, .pointer (some ⟨b3, 0, none⟩)), (6, .pointer (some ⟨b4, 0, none⟩)), (9, .int .i64 (4 * (areaI a b c d))), (10, .slice none 0 0)] ?_
  refine cont_done ?_
  refine then_normal ?_
  refine cont_seq ?_
  refine cont_region 5 rfl ?_
  refine bS [0, 0, 2] 3 2 [(2, .slice A2 n2 cap2), (3, .pointer (some ⟨b2, 0, none⟩)), (4, .pointer (some ⟨b3, 0, none⟩)), (6, .pointer (some ⟨b4, 0, none⟩)), (9, .int .i64 (4 * (areaI a b c d))), (39, .slice none 0 0), (41, .slice (some ⟨r, 0, none⟩) n cap)] ?_
  refine pl_step 4 1 rfl rfl ?_
  refine cont_nilrow 28 1 ?_
  refine sem_stepW (α := Option Addr × Nat × Nat) 42 (Builtin.append_ #[35, 35] 35 #[.slice none 0 0, .slice (some ⟨r, 0, none⟩) n cap]) (fun x_ => .slice x_.1 n x_.2.2) (fun x_ => [.gen (rowE (x_.1) x_.2.1 n x_.2.2 28 1 (ivals .u32 px) true), .cells b4 [.int .i64 0, .int .i64 0, .slice none 0 0] 37 true, .cells b3 [.int .i64 a, .int .i64 b, .int .i64 c, .int .i64 d] 32 true, .cells b2 [.int .i64 W, .int .i64 H, .slice (some ⟨r, 0, none⟩) n cap] 37 true, .gen (rdE (some ⟨r, 0, none⟩) r 0 n 1 (ivals .u32 px)), .gen (rdE (A2) g2 o2 n2 1 (ivals .u8 xs2))]) (fun _ => True) (by kernel_rfl) (fun w hT => append_own (n' := n) (z := .int .u32 0) hT (i := 0) (bytes := 4) rfl (by kernel_rfl) (by kernel_rfl) rfl (by decide) (by decide) (hT.ok 4 _ rfl) (ivals_one .u32 px) (by omega) rfl (Nat.zero_add _).symm) ?_
  rintro ⟨A10, g10, cp10⟩ -
  refine cont_norm [(2, .slice A2 n2 cap2), (3, .pointer (some ⟨b2, 0, none⟩)), (4, .pointer (some ⟨b3, 0, none⟩)), (6, .pointer (some ⟨b4, 0, none⟩)), (9, .int .i64 (4 * (areaI a b c d))), (39, .slice none 0 0), (41, .slice (some ⟨r, 0, none⟩) n cap), (42, .slice A10 n cp10)] [.gen (rowE (A10) g10 n cp10 28 1 (ivals .u32 px) true), .cells b4 [.int .i64 0, .int .i64 0, .slice none 0 0] 37 true, .cells b3 [.int .i64 a, .int .i64 b, .int .i64 c, .int .i64 d] 32 true, .cells b2 [.int .i64 W, .int .i64 H, .slice (some ⟨r, 0, none⟩) n cap] 37 true, .gen (rdE (some ⟨r, 0, none⟩) r 0 n 1 (ivals .u32 px)), .gen (rdE (A2) g2 o2 n2 1 (ivals .u8 xs2))] (by kernel_rfl) rfl ?_
  refine cont_fact (F := (0 < n → (A10 : Option Addr) = some ⟨g10, 0, none⟩) ∧ px.length = n ∧ n ≤ cp10 ∧ cp10 ≤ maxLen) (fun w hT => Row.facts (hT.ok 0 _ rfl)) (fun hr11_ => ?_)
  obtain ⟨hr11_a, hr11_l, hr11_c, hr11_m⟩ := hr11_
  unfold maxLen at hr11_m
  refine bS [0] 5 0 [(2, .slice A2 n2 cap2), (3, .pointer (some ⟨b2, 0, none⟩)), (4, .pointer (some ⟨b3, 0, none⟩)), (6, .pointer (some ⟨b4, 0, none⟩)), (9, .int .i64 (4 * (areaI a b c d))), (10, .slice A10 n cp10)] ?_
  refine cont_done ?_
  refine then_normal ?_
  refine cont_seq ?_
  refine cont_region 6 rfl ?_
  refine bS [0, 2, 0, 2, 0] 5 1 [(2, .slice A2 n2 cap2), (3, .pointer (some ⟨b2, 0, none⟩)), (4, .pointer (some ⟨b3, 0, none⟩)), (6, .pointer (some ⟨b4, 0, none⟩)), (9, .int .i64 (4 * (areaI a b c d))), (10, .slice A10 n cp10), (47, .int .i64 (IntKind.i64.wrap (c - a)))] ?_
  refine cont_recast 47 (.int .i64 (IntKind.i64.wrap (c - a))) (.int .i64 (c - a)) rfl (wrapI (by omega) (by omega)) ?_
  refine bS [0] 6 0 [(2, .slice A2 n2 cap2), (3, .pointer (some ⟨b2, 0, none⟩)), (4, .pointer (some ⟨b3, 0, none⟩)), (6, .pointer (some ⟨b4, 0, none⟩)), (9, .int .i64 (4 * (areaI a b c d))), (10, .slice A10 n cp10), (11, .int .i64 (c - a))] ?_
  refine cont_done ?_
  refine then_normal ?_
  refine cont_seq ?_
  refine cont_seq ?_
  refine cont_region 1 rfl ?_
  refine bS [0] 1 0 [(2, .slice A2 n2 cap2), (3, .pointer (some ⟨b2, 0, none⟩)), (4, .pointer (some ⟨b3, 0, none⟩)), (6, .pointer (some ⟨b4, 0, none⟩)), (9, .int .i64 (4 * (areaI a b c d))), (10, .slice A10 n cp10), (11, .int .i64 (c - a)), (12, .int .i64 0)] ?_
  refine cont_done ?_
  refine then_normal ?_
  refine cont_block ?_
  refine cont_rowEq (k := .u32) 0 (px) (wrS W a b wn xs2 px 0) rfl rfl ?_
  refine cont_recast 12 (.int .i64 0) (.int .i64 ((0 : Nat) : Int)) rfl (congrArg (Value.int .i64) rfl) ?_
  refine cont_fact (F := (0 < n → (A10 : Option Addr) = some ⟨g10, 0, none⟩) ∧ (wrS W a b wn xs2 px 0).length = n ∧ n ≤ cp10 ∧ cp10 ≤ maxLen) (fun w hT => Row.facts (hT.ok 0 _ rfl)) (fun hr12_ => ?_)
  obtain ⟨hr12_a, hr12_l, hr12_c, hr12_m⟩ := hr12_
  unfold maxLen at hr12_m
  refine cont_loop (α := Nat) (fun x_ : Nat => x_ ≤ N ∧ okN xs2 x_) (fun x_ : Nat => [(2, .slice A2 n2 cap2), (3, .pointer (some ⟨b2, 0, none⟩)), (4, .pointer (some ⟨b3, 0, none⟩)), (6, .pointer (some ⟨b4, 0, none⟩)), (9, .int .i64 (4 * (areaI a b c d))), (10, .slice A10 n cp10), (11, .int .i64 (c - a)), (12, .int .i64 ((x_ : Nat) : Int))]) (fun x_ : Nat => [.gen (rowE (A10) g10 n cp10 28 1 (ivals .u32 (wrS W a b wn xs2 px x_)) true), .cells b4 [.int .i64 0, .int .i64 0, .slice none 0 0] 37 true, .cells b3 [.int .i64 a, .int .i64 b, .int .i64 c, .int .i64 d] 32 true, .cells b2 [.int .i64 W, .int .i64 H, .slice (some ⟨r, 0, none⟩) n cap] 37 true, .gen (rdE (some ⟨r, 0, none⟩) r 0 n 1 (ivals .u32 px)), .gen (rdE (A2) g2 o2 n2 1 (ivals .u8 xs2))]) (fun x_ : Nat => N - x_) 0 (⟨by omega, fun j hj => by omega⟩) (by kernel_rfl) (by kernel_rfl) ?_
  rintro i hinv13_
  replace hinv13_ : i ≤ N ∧ okN xs2 i := hinv13_
  refine cont_norm [(2, .slice A2 n2 cap2), (3, .pointer (some ⟨b2, 0, none⟩)), (4, .pointer (some ⟨b3, 0, none⟩)), (6, .pointer (some ⟨b4, 0, none⟩)), (9, .int .i64 (4 * (areaI a b c d))), (10, .slice A10 n cp10), (11, .int .i64 (c - a)), (12, .int .i64 ((i : Nat) : Int))] [.gen (rowE (A10) g10 n cp10 28 1 (ivals .u32 (wrS W a b wn xs2 px i)) true), .cells b4 [.int .i64 0, .int .i64 0, .slice none 0 0] 37 true, .cells b3 [.int .i64 a, .int .i64 b, .int .i64 c, .int .i64 d] 32 true, .cells b2 [.int .i64 W, .int .i64 H, .slice (some ⟨r, 0, none⟩) n cap] 37 true, .gen (rdE (some ⟨r, 0, none⟩) r 0 n 1 (ivals .u32 px)), .gen (rdE (A2) g2 o2 n2 1 (ivals .u8 xs2))] (by kernel_rfl) rfl ?_
  obtain ⟨hi, hokn⟩ := hinv13_
  have hmk := mkB_in xs2 i
  have hwl : (wrS W a b wn xs2 px i).length = n := by rw [wrS_length]; exact hlen
  have hb0 := getD_byte hx2 (Int.toNat (4 * ((i : Nat) : Int)))
  have hb1 := getD_byte hx2 (Int.toNat (4 * ((i : Nat) : Int) + 1))
  have hb2 := getD_byte hx2 (Int.toNat (4 * ((i : Nat) : Int) + 2))
  have hb3 := getD_byte hx2 (Int.toNat (4 * ((i : Nat) : Int) + 3))
  refine cont_seq ?_
  refine cont_seq ?_
  refine cont_region 4 rfl ?_
  refine bS [0, 0, 0] 3 1 [(2, .slice A2 n2 cap2), (3, .pointer (some ⟨b2, 0, none⟩)), (4, .pointer (some ⟨b3, 0, none⟩)), (6, .pointer (some ⟨b4, 0, none⟩)), (9, .int .i64 (4 * (areaI a b c d))), (10, .slice A10 n cp10), (11, .int .i64 (c - a)), (12, .int .i64 ((i : Nat) : Int)), (48, .int .i64 ((i : Nat) : Int)), (50, .int .i64 (IntKind.i64.wrap ((4 * (areaI a b c d)).tdiv 4)))] ?_
  refine cont_recast 50 (.int .i64 (IntKind.i64.wrap ((4 * (areaI a b c d)).tdiv 4))) (.int .i64 ((4 * (areaI a b c d)) / 4)) rfl (tdivI (by omega) (by omega) (by omega)) ?_
  refine bS [0] 4 0 [(2, .slice A2 n2 cap2), (3, .pointer (some ⟨b2, 0, none⟩)), (4, .pointer (some ⟨b3, 0, none⟩)), (6, .pointer (some ⟨b4, 0, none⟩)), (9, .int .i64 (4 * (areaI a b c d))), (10, .slice A10 n cp10), (11, .int .i64 (c - a)), (12, .int .i64 ((i : Nat) : Int)), (51, .bool (decide (((i : Nat) : Int) < ((4 * (areaI a b c d)) / 4))))] ?_
  refine cont_done ?_
  refine then_normal ?_
  refine cont_split 51 (decide (((i : Nat) : Int) < ((4 * (areaI a b c d)) / 4))) rfl (fun c14_ => ?_) (fun c14_ => ?_)
  ·
    replace c14_ := of_decide_eq_true c14_
    refine cont_true rfl ?_
    refine cont_skip ?_
    refine then_normal ?_
    refine cont_seq ?_
    refine cont_block ?_
    refine cont_seq ?_
    refine drawn_enter 29 [] rfl (by kernel_rfl) ?_
    refine takes 0 [] [(0, 0), (1, 0), (6, 0), (7, 0), (13, 0), (14, 0), (20, 0), (21, 0), (2, 0)] 20 [2, 21, 20, 14, 13, 7, 6, 1, 0] [(2, .slice A2 n2 cap2), (3, .pointer (some ⟨b2, 0, none⟩)), (4, .pointer (some ⟨b3, 0, none⟩)), (6, .pointer (some ⟨b4, 0, none⟩)), (9, .int .i64 (4 * (areaI a b c d))), (10, .slice A10 n cp10), (11, .int .i64 (c - a)), (12, .int .i64 ((i : Nat) : Int)), (54, .slice A2 n2 cap2), (56, .int .i64 (IntKind.i64.wrap (4 * ((i : Nat) : Int)))), (60, .slice A2 n2 cap2), (61, .int .i64 ((i : Nat) : Int)), (67, .slice A2 n2 cap2), (68, .int .i64 ((i : Nat) : Int)), (74, .slice A2 n2 cap2), (75, .int .i64 ((i : Nat) : Int))] (by kernel_rfl) (pok_then (pok_blk (pok_then (pok_then (pok_blk (pok_then pok_body)))))) (by kernel_rfl) rfl rfl (by kernel_rfl) (by kernel_rfl) ?_
    refine cont_recast 56 (.int .i64 (IntKind.i64.wrap (4 * ((i : Nat) : Int)))) (.int .i64 (4 * ((i : Nat) : Int))) rfl (wrapI (by omega) (by omega)) ?_
    refine cont_recast 54 (.slice A2 n2 cap2) (.slice (some ⟨g2, o2, none⟩) n2 cap2) rfl (by rw [hl1_a (by omega)]) ?_
    refine sem_take 0 [] 3 19 57 (Instr.indexAt 43 (.slice (some ⟨g2, o2, none⟩) n2 cap2) (.int .i64 (4 * ((i : Nat) : Int)))) (.pointer (some ⟨g2, o2 + Int.toNat (4 * ((i : Nat) : Int)), none⟩)) (by kernel_rfl) (pok_then (pok_blk (pok_then (pok_then (pok_blk (pok_then pok_body)))))) (by kernel_rfl) rfl (by kernel_rfl) (by kernel_rfl) (fun w hT => run_indexAt (e := 5) (sz := 1) _ (by kernel_rfl) (by kernel_rfl) (by omega) (by omega) (by omega) w) ?_
    refine sem_take 0 [] 4 18 58 (Instr.loadAt 5 (.pointer (some ⟨g2, o2 + Int.toNat (4 * ((i : Nat) : Int)), none⟩))) (.int .u8 (xs2.getD (Int.toNat (4 * ((i : Nat) : Int))) 0)) (by kernel_rfl) (pok_then (pok_blk (pok_then (pok_then (pok_blk (pok_then pok_body)))))) (by kernel_rfl) rfl (by kernel_rfl) (by kernel_rfl) (fun w hT => run_load1 (by kernel_rfl) (Rd.cell (hT 5 _ rfl) (Int.toNat (4 * ((i : Nat) : Int))) _ (ivals_get (by omega)))) ?_
    refine takes 0 [] [(5, 0)] 17 [5, 4, 3, 2, 21, 20, 14, 13, 7, 6, 1, 0] [(2, .slice A2 n2 cap2), (3, .pointer (some ⟨b2, 0, none⟩)), (4, .pointer (some ⟨b3, 0, none⟩)), (6, .pointer (some ⟨b4, 0, none⟩)), (9, .int .i64 (4 * (areaI a b c d))), (10, .slice A10 n cp10), (11, .int .i64 (c - a)), (12, .int .i64 ((i : Nat) : Int)), (59, .int .i64 (IntKind.i64.wrap (xs2.getD (Int.toNat (4 * ((i : Nat) : Int))) 0))), (60, .slice A2 n2 cap2), (61, .int .i64 ((i : Nat) : Int)), (67, .slice A2 n2 cap2), (68, .int .i64 ((i : Nat) : Int)), (74, .slice A2 n2 cap2), (75, .int .i64 ((i : Nat) : Int))] (by kernel_rfl) (pok_then (pok_blk (pok_then (pok_then (pok_blk (pok_then pok_body)))))) (by kernel_rfl) rfl rfl (by kernel_rfl) (by kernel_rfl) ?_
    refine cont_recast 59 (.int .i64 (IntKind.i64.wrap (xs2.getD (Int.toNat (4 * ((i : Nat) : Int))) 0))) (.int .i64 (xs2.getD (Int.toNat (4 * ((i : Nat) : Int))) 0)) rfl (wrapI (by omega) (by omega)) ?_
    refine takes 0 [] [(8, 0)] 16 [8, 5, 4, 3, 2, 21, 20, 14, 13, 7, 6, 1, 0] [(2, .slice A2 n2 cap2), (3, .pointer (some ⟨b2, 0, none⟩)), (4, .pointer (some ⟨b3, 0, none⟩)), (6, .pointer (some ⟨b4, 0, none⟩)), (9, .int .i64 (4 * (areaI a b c d))), (10, .slice A10 n cp10), (11, .int .i64 (c - a)), (12, .int .i64 ((i : Nat) : Int)), (59, .int .i64 (xs2.getD (Int.toNat (4 * ((i : Nat) : Int))) 0)), (60, .slice A2 n2 cap2), (62, .int .i64 (IntKind.i64.wrap (4 * ((i : Nat) : Int)))), (67, .slice A2 n2 cap2), (68, .int .i64 ((i : Nat) : Int)), (74, .slice A2 n2 cap2), (75, .int .i64 ((i : Nat) : Int))] (by kernel_rfl) (pok_then (pok_blk (pok_then (pok_then (pok_blk (pok_then pok_body)))))) (by kernel_rfl) rfl rfl (by kernel_rfl) (by kernel_rfl) ?_
    refine cont_recast 62 (.int .i64 (IntKind.i64.wrap (4 * ((i : Nat) : Int)))) (.int .i64 (4 * ((i : Nat) : Int))) rfl (wrapI (by omega) (by omega)) ?_
    refine takes 0 [] [(9, 0)] 15 [9, 8, 5, 4, 3, 2, 21, 20, 14, 13, 7, 6, 1, 0] [(2, .slice A2 n2 cap2), (3, .pointer (some ⟨b2, 0, none⟩)), (4, .pointer (some ⟨b3, 0, none⟩)), (6, .pointer (some ⟨b4, 0, none⟩)), (9, .int .i64 (4 * (areaI a b c d))), (10, .slice A10 n cp10), (11, .int .i64 (c - a)), (12, .int .i64 ((i : Nat) : Int)), (59, .int .i64 (xs2.getD (Int.toNat (4 * ((i : Nat) : Int))) 0)), (60, .slice A2 n2 cap2), (63, .int .i64 (IntKind.i64.wrap ((4 * ((i : Nat) : Int)) + 1))), (67, .slice A2 n2 cap2), (68, .int .i64 ((i : Nat) : Int)), (74, .slice A2 n2 cap2), (75, .int .i64 ((i : Nat) : Int))] (by kernel_rfl) (pok_then (pok_blk (pok_then (pok_then (pok_blk (pok_then pok_body)))))) (by kernel_rfl) rfl rfl (by kernel_rfl) (by kernel_rfl) ?_
    refine cont_recast 63 (.int .i64 (IntKind.i64.wrap ((4 * ((i : Nat) : Int)) + 1))) (.int .i64 ((4 * ((i : Nat) : Int)) + 1)) rfl (wrapI (by omega) (by omega)) ?_
    refine cont_recast 60 (.slice A2 n2 cap2) (.slice (some ⟨g2, o2, none⟩) n2 cap2) rfl (by rw [hl1_a (by omega)]) ?_
    refine sem_take 0 [] 10 14 64 (Instr.indexAt 43 (.slice (some ⟨g2, o2, none⟩) n2 cap2) (.int .i64 ((4 * ((i : Nat) : Int)) + 1))) (.pointer (some ⟨g2, o2 + Int.toNat ((4 * ((i : Nat) : Int)) + 1), none⟩)) (by kernel_rfl) (pok_then (pok_blk (pok_then (pok_then (pok_blk (pok_then pok_body)))))) (by kernel_rfl) rfl (by kernel_rfl) (by kernel_rfl) (fun w hT => run_indexAt (e := 5) (sz := 1) _ (by kernel_rfl) (by kernel_rfl) (by omega) (by omega) (by omega) w) ?_
    refine sem_take 0 [] 11 13 65 (Instr.loadAt 5 (.pointer (some ⟨g2, o2 + Int.toNat ((4 * ((i : Nat) : Int)) + 1), none⟩))) (.int .u8 (xs2.getD (Int.toNat ((4 * ((i : Nat) : Int)) + 1)) 0)) (by kernel_rfl) (pok_then (pok_blk (pok_then (pok_then (pok_blk (pok_then pok_body)))))) (by kernel_rfl) rfl (by kernel_rfl) (by kernel_rfl) (fun w hT => run_load1 (by kernel_rfl) (Rd.cell (hT 5 _ rfl) (Int.toNat ((4 * ((i : Nat) : Int)) + 1)) _ (ivals_get (by omega)))) ?_
    refine takes 0 [] [(12, 0)] 12 [12, 11, 10, 9, 8, 5, 4, 3, 2, 21, 20, 14, 13, 7, 6, 1, 0] [(2, .slice A2 n2 cap2), (3, .pointer (some ⟨b2, 0, none⟩)), (4, .pointer (some ⟨b3, 0, none⟩)), (6, .pointer (some ⟨b4, 0, none⟩)), (9, .int .i64 (4 * (areaI a b c d))), (10, .slice A10 n cp10), (11, .int .i64 (c - a)), (12, .int .i64 ((i : Nat) : Int)), (59, .int .i64 (xs2.getD (Int.toNat (4 * ((i : Nat) : Int))) 0)), (66, .int .i64 (IntKind.i64.wrap (xs2.getD (Int.toNat ((4 * ((i : Nat) : Int)) + 1)) 0))), (67, .slice A2 n2 cap2), (68, .int .i64 ((i : Nat) : Int)), (74, .slice A2 n2 cap2), (75, .int .i64 ((i : Nat) : Int))] (by kernel_rfl) (pok_then (pok_blk (pok_then (pok_then (pok_blk (pok_then pok_body)))))) (by kernel_rfl) rfl rfl (by kernel_rfl) (by kernel_rfl) ?_
    refine cont_recast 66 (.int .i64 (IntKind.i64.wrap (xs2.getD (Int.toNat ((4 * ((i : Nat) : Int)) + 1)) 0))) (.int .i64 (xs2.getD (Int.toNat ((4 * ((i : Nat) : Int)) + 1)) 0)) rfl (wrapI (by omega) (by omega)) ?_
    refine takes 0 [] [(15, 0)] 11 [15, 12, 11, 10, 9, 8, 5, 4, 3, 2, 21, 20, 14, 13, 7, 6, 1, 0] [(2, .slice A2 n2 cap2), (3, .pointer (some ⟨b2, 0, none⟩)), (4, .pointer (some ⟨b3, 0, none⟩)), (6, .pointer (some ⟨b4, 0, none⟩)), (9, .int .i64 (4 * (areaI a b c d))), (10, .slice A10 n cp10), (11, .int .i64 (c - a)), (12, .int .i64 ((i : Nat) : Int)), (59, .int .i64 (xs2.getD (Int.toNat (4 * ((i : Nat) : Int))) 0)), (66, .int .i64 (xs2.getD (Int.toNat ((4 * ((i : Nat) : Int)) + 1)) 0)), (67, .slice A2 n2 cap2), (69, .int .i64 (IntKind.i64.wrap (4 * ((i : Nat) : Int)))), (74, .slice A2 n2 cap2), (75, .int .i64 ((i : Nat) : Int))] (by kernel_rfl) (pok_then (pok_blk (pok_then (pok_then (pok_blk (pok_then pok_body)))))) (by kernel_rfl) rfl rfl (by kernel_rfl) (by kernel_rfl) ?_
    refine cont_recast 69 (.int .i64 (IntKind.i64.wrap (4 * ((i : Nat) : Int)))) (.int .i64 (4 * ((i : Nat) : Int))) rfl (wrapI (by omega) (by omega)) ?_
    refine takes 0 [] [(16, 0)] 10 [16, 15, 12, 11, 10, 9, 8, 5, 4, 3, 2, 21, 20, 14, 13, 7, 6, 1, 0] [(2, .slice A2 n2 cap2), (3, .pointer (some ⟨b2, 0, none⟩)), (4, .pointer (some ⟨b3, 0, none⟩)), (6, .pointer (some ⟨b4, 0, none⟩)), (9, .int .i64 (4 * (areaI a b c d))), (10, .slice A10 n cp10), (11, .int .i64 (c - a)), (12, .int .i64 ((i : Nat) : Int)), (59, .int .i64 (xs2.getD (Int.toNat (4 * ((i : Nat) : Int))) 0)), (66, .int .i64 (xs2.getD (Int.toNat ((4 * ((i : Nat) : Int)) + 1)) 0)), (67, .slice A2 n2 cap2), (70, .int .i64 (IntKind.i64.wrap ((4 * ((i : Nat) : Int)) + 2))), (74, .slice A2 n2 cap2), (75, .int .i64 ((i : Nat) : Int))] (by kernel_rfl) (pok_then (pok_blk (pok_then (pok_then (pok_blk (pok_then pok_body)))))) (by kernel_rfl) rfl rfl (by kernel_rfl) (by kernel_rfl) ?_
    refine cont_recast 70 (.int .i64 (IntKind.i64.wrap ((4 * ((i : Nat) : Int)) + 2))) (.int .i64 ((4 * ((i : Nat) : Int)) + 2)) rfl (wrapI (by omega) (by omega)) ?_
    refine cont_recast 67 (.slice A2 n2 cap2) (.slice (some ⟨g2, o2, none⟩) n2 cap2) rfl (by rw [hl1_a (by omega)]) ?_
    refine sem_take 0 [] 17 9 71 (Instr.indexAt 43 (.slice (some ⟨g2, o2, none⟩) n2 cap2) (.int .i64 ((4 * ((i : Nat) : Int)) + 2))) (.pointer (some ⟨g2, o2 + Int.toNat ((4 * ((i : Nat) : Int)) + 2), none⟩)) (by kernel_rfl) (pok_then (pok_blk (pok_then (pok_then (pok_blk (pok_then pok_body)))))) (by kernel_rfl) rfl (by kernel_rfl) (by kernel_rfl) (fun w hT => run_indexAt (e := 5) (sz := 1) _ (by kernel_rfl) (by kernel_rfl) (by omega) (by omega) (by omega) w) ?_
    refine sem_take 0 [] 18 8 72 (Instr.loadAt 5 (.pointer (some ⟨g2, o2 + Int.toNat ((4 * ((i : Nat) : Int)) + 2), none⟩))) (.int .u8 (xs2.getD (Int.toNat ((4 * ((i : Nat) : Int)) + 2)) 0)) (by kernel_rfl) (pok_then (pok_blk (pok_then (pok_then (pok_blk (pok_then pok_body)))))) (by kernel_rfl) rfl (by kernel_rfl) (by kernel_rfl) (fun w hT => run_load1 (by kernel_rfl) (Rd.cell (hT 5 _ rfl) (Int.toNat ((4 * ((i : Nat) : Int)) + 2)) _ (ivals_get (by omega)))) ?_
    refine takes 0 [] [(19, 0)] 7 [19, 18, 17, 16, 15, 12, 11, 10, 9, 8, 5, 4, 3, 2, 21, 20, 14, 13, 7, 6, 1, 0] [(2, .slice A2 n2 cap2), (3, .pointer (some ⟨b2, 0, none⟩)), (4, .pointer (some ⟨b3, 0, none⟩)), (6, .pointer (some ⟨b4, 0, none⟩)), (9, .int .i64 (4 * (areaI a b c d))), (10, .slice A10 n cp10), (11, .int .i64 (c - a)), (12, .int .i64 ((i : Nat) : Int)), (59, .int .i64 (xs2.getD (Int.toNat (4 * ((i : Nat) : Int))) 0)), (66, .int .i64 (xs2.getD (Int.toNat ((4 * ((i : Nat) : Int)) + 1)) 0)), (73, .int .i64 (IntKind.i64.wrap (xs2.getD (Int.toNat ((4 * ((i : Nat) : Int)) + 2)) 0))), (74, .slice A2 n2 cap2), (75, .int .i64 ((i : Nat) : Int))] (by kernel_rfl) (pok_then (pok_blk (pok_then (pok_then (pok_blk (pok_then pok_body)))))) (by kernel_rfl) rfl rfl (by kernel_rfl) (by kernel_rfl) ?_
    refine cont_recast 73 (.int .i64 (IntKind.i64.wrap (xs2.getD (Int.toNat ((4 * ((i : Nat) : Int)) + 2)) 0))) (.int .i64 (xs2.getD (Int.toNat ((4 * ((i : Nat) : Int)) + 2)) 0)) rfl (wrapI (by omega) (by omega)) ?_
    refine takes 0 [] [(22, 0)] 6 [22, 19, 18, 17, 16, 15, 12, 11, 10, 9, 8, 5, 4, 3, 2, 21, 20, 14, 13, 7, 6, 1, 0] [(2, .slice A2 n2 cap2), (3, .pointer (some ⟨b2, 0, none⟩)), (4, .pointer (some ⟨b3, 0, none⟩)), (6, .pointer (some ⟨b4, 0, none⟩)), (9, .int .i64 (4 * (areaI a b c d))), (10, .slice A10 n cp10), (11, .int .i64 (c - a)), (12, .int .i64 ((i : Nat) : Int)), (59, .int .i64 (xs2.getD (Int.toNat (4 * ((i : Nat) : Int))) 0)), (66, .int .i64 (xs2.getD (Int.toNat ((4 * ((i : Nat) : Int)) + 1)) 0)), (73, .int .i64 (xs2.getD (Int.toNat ((4 * ((i : Nat) : Int)) + 2)) 0)), (74, .slice A2 n2 cap2), (76, .int .i64 (IntKind.i64.wrap (4 * ((i : Nat) : Int))))] (by kernel_rfl) (pok_then (pok_blk (pok_then (pok_then (pok_blk (pok_then pok_body)))))) (by kernel_rfl) rfl rfl (by kernel_rfl) (by kernel_rfl) ?_
    refine cont_recast 76 (.int .i64 (IntKind.i64.wrap (4 * ((i : Nat) : Int)))) (.int .i64 (4 * ((i : Nat) : Int))) rfl (wrapI (by omega) (by omega)) ?_
    refine takes 0 [] [(23, 0)] 5 [23, 22, 19, 18, 17, 16, 15, 12, 11, 10, 9, 8, 5, 4, 3, 2, 21, 20, 14, 13, 7, 6, 1, 0] [(2, .slice A2 n2 cap2), (3, .pointer (some ⟨b2, 0, none⟩)), (4, .pointer (some ⟨b3, 0, none⟩)), (6, .pointer (some ⟨b4, 0, none⟩)), (9, .int .i64 (4 * (areaI a b c d))), (10, .slice A10 n cp10), (11, .int .i64 (c - a)), (12, .int .i64 ((i : Nat) : Int)), (59, .int .i64 (xs2.getD (Int.toNat (4 * ((i : Nat) : Int))) 0)), (66, .int .i64 (xs2.getD (Int.toNat ((4 * ((i : Nat) : Int)) + 1)) 0)), (73, .int .i64 (xs2.getD (Int.toNat ((4 * ((i : Nat) : Int)) + 2)) 0)), (74, .slice A2 n2 cap2), (77, .int .i64 (IntKind.i64.wrap ((4 * ((i : Nat) : Int)) + 3)))] (by kernel_rfl) (pok_then (pok_blk (pok_then (pok_then (pok_blk (pok_then pok_body)))))) (by kernel_rfl) rfl rfl (by kernel_rfl) (by kernel_rfl) ?_
    refine cont_recast 77 (.int .i64 (IntKind.i64.wrap ((4 * ((i : Nat) : Int)) + 3))) (.int .i64 ((4 * ((i : Nat) : Int)) + 3)) rfl (wrapI (by omega) (by omega)) ?_
    refine cont_recast 74 (.slice A2 n2 cap2) (.slice (some ⟨g2, o2, none⟩) n2 cap2) rfl (by rw [hl1_a (by omega)]) ?_
    refine sem_take 0 [] 24 4 78 (Instr.indexAt 43 (.slice (some ⟨g2, o2, none⟩) n2 cap2) (.int .i64 ((4 * ((i : Nat) : Int)) + 3))) (.pointer (some ⟨g2, o2 + Int.toNat ((4 * ((i : Nat) : Int)) + 3), none⟩)) (by kernel_rfl) (pok_then (pok_blk (pok_then (pok_then (pok_blk (pok_then pok_body)))))) (by kernel_rfl) rfl (by kernel_rfl) (by kernel_rfl) (fun w hT => run_indexAt (e := 5) (sz := 1) _ (by kernel_rfl) (by kernel_rfl) (by omega) (by omega) (by omega) w) ?_
    refine sem_take 0 [] 25 3 79 (Instr.loadAt 5 (.pointer (some ⟨g2, o2 + Int.toNat ((4 * ((i : Nat) : Int)) + 3), none⟩))) (.int .u8 (xs2.getD (Int.toNat ((4 * ((i : Nat) : Int)) + 3)) 0)) (by kernel_rfl) (pok_then (pok_blk (pok_then (pok_then (pok_blk (pok_then pok_body)))))) (by kernel_rfl) rfl (by kernel_rfl) (by kernel_rfl) (fun w hT => run_load1 (by kernel_rfl) (Rd.cell (hT 5 _ rfl) (Int.toNat ((4 * ((i : Nat) : Int)) + 3)) _ (ivals_get (by omega)))) ?_
    refine takes 0 [] [(26, 0)] 2 [26, 25, 24, 23, 22, 19, 18, 17, 16, 15, 12, 11, 10, 9, 8, 5, 4, 3, 2, 21, 20, 14, 13, 7, 6, 1, 0] [(2, .slice A2 n2 cap2), (3, .pointer (some ⟨b2, 0, none⟩)), (4, .pointer (some ⟨b3, 0, none⟩)), (6, .pointer (some ⟨b4, 0, none⟩)), (9, .int .i64 (4 * (areaI a b c d))), (10, .slice A10 n cp10), (11, .int .i64 (c - a)), (12, .int .i64 ((i : Nat) : Int)), (59, .int .i64 (xs2.getD (Int.toNat (4 * ((i : Nat) : Int))) 0)), (66, .int .i64 (xs2.getD (Int.toNat ((4 * ((i : Nat) : Int)) + 1)) 0)), (73, .int .i64 (xs2.getD (Int.toNat ((4 * ((i : Nat) : Int)) + 2)) 0)), (80, .int .i64 (IntKind.i64.wrap (xs2.getD (Int.toNat ((4 * ((i : Nat) : Int)) + 3)) 0)))] (by kernel_rfl) (pok_then (pok_blk (pok_then (pok_then (pok_blk (pok_then pok_body)))))) (by kernel_rfl) rfl rfl (by kernel_rfl) (by kernel_rfl) ?_
    refine cont_recast 80 (.int .i64 (IntKind.i64.wrap (xs2.getD (Int.toNat ((4 * ((i : Nat) : Int)) + 3)) 0))) (.int .i64 (xs2.getD (Int.toNat ((4 * ((i : Nat) : Int)) + 3)) 0)) rfl (wrapI (by omega) (by omega)) ?_
    refine drawn_one 27 1 rfl (by kernel_rfl) ?_
    refine call_pure (d := 81) (.int .u32 (mkC (xs2.getD (Int.toNat (4 * ((i : Nat) : Int))) 0) (xs2.getD (Int.toNat ((4 * ((i : Nat) : Int)) + 1)) 0) (xs2.getD (Int.toNat ((4 * ((i : Nat) : Int)) + 2)) 0) (xs2.getD (Int.toNat ((4 * ((i : Nat) : Int)) + 3)) 0))) (by kernel_rfl) (fun w hT => refMake (xs2.getD (Int.toNat (4 * ((i : Nat) : Int))) 0) (xs2.getD (Int.toNat ((4 * ((i : Nat) : Int)) + 1)) 0) (xs2.getD (Int.toNat ((4 * ((i : Nat) : Int)) + 2)) 0) (xs2.getD (Int.toNat ((4 * ((i : Nat) : Int)) + 3)) 0) w) ?_
    refine cont_recast 81 (.int .u32 (mkC (xs2.getD (Int.toNat (4 * ((i : Nat) : Int))) 0) (xs2.getD (Int.toNat ((4 * ((i : Nat) : Int)) + 1)) 0) (xs2.getD (Int.toNat ((4 * ((i : Nat) : Int)) + 2)) 0) (xs2.getD (Int.toNat ((4 * ((i : Nat) : Int)) + 3)) 0))) (.int .u32 (mkB xs2 i)) rfl (congrArg (Value.int .u32) (by unfold mkB; congr 1 <;> (congr 1; omega))) ?_
    refine drawn_next 0 [] (by kernel_rfl) ?_
    refine takes 0 [] [(28, 0)] 0 [28, 27, 26, 25, 24, 23, 22, 19, 18, 17, 16, 15, 12, 11, 10, 9, 8, 5, 4, 3, 2, 21, 20, 14, 13, 7, 6, 1, 0] [(2, .slice A2 n2 cap2), (3, .pointer (some ⟨b2, 0, none⟩)), (4, .pointer (some ⟨b3, 0, none⟩)), (6, .pointer (some ⟨b4, 0, none⟩)), (9, .int .i64 (4 * (areaI a b c d))), (10, .slice A10 n cp10), (11, .int .i64 (c - a)), (12, .int .i64 ((i : Nat) : Int)), (13, .int .u32 (mkB xs2 i))] (by kernel_rfl) (pok_then (pok_blk (pok_then (pok_then (pok_blk (pok_then pok_body)))))) (by kernel_rfl) rfl rfl (by kernel_rfl) (by kernel_rfl) ?_
    refine drawn_done (by kernel_rfl) ?_
    refine then_normal ?_
    refine cont_seq ?_
    refine cont_region 3 rfl ?_
    refine bS [0] 1 2 [(2, .slice A2 n2 cap2), (3, .pointer (some ⟨b2, 0, none⟩)), (4, .pointer (some ⟨b3, 0, none⟩)), (6, .pointer (some ⟨b4, 0, none⟩)), (9, .int .i64 (4 * (areaI a b c d))), (10, .slice A10 n cp10), (11, .int .i64 (c - a)), (12, .int .i64 ((i : Nat) : Int)), (13, .int .u32 (mkB xs2 i)), (82, .int .u32 (mkB xs2 i))] ?_
    refine pl_step 2 1 rfl rfl ?_
    refine call_pure (d := 83) (.bool (mayB (mkB xs2 i))) (by kernel_rfl) (fun w hT => refMay (mkB xs2 i) w (by omega) (by omega)) ?_
    refine bS [0] 3 0 [(2, .slice A2 n2 cap2), (3, .pointer (some ⟨b2, 0, none⟩)), (4, .pointer (some ⟨b3, 0, none⟩)), (6, .pointer (some ⟨b4, 0, none⟩)), (9, .int .i64 (4 * (areaI a b c d))), (10, .slice A10 n cp10), (11, .int .i64 (c - a)), (12, .int .i64 ((i : Nat) : Int)), (13, .int .u32 (mkB xs2 i)), (14, .bool (mayB (mkB xs2 i)))] ?_
    refine cont_done ?_
    refine then_normal ?_
    refine cont_seq ?_
    refine cont_seq ?_
    refine cont_region 2 rfl ?_
    refine bS [0, 0] 2 0 [(2, .slice A2 n2 cap2), (3, .pointer (some ⟨b2, 0, none⟩)), (4, .pointer (some ⟨b3, 0, none⟩)), (6, .pointer (some ⟨b4, 0, none⟩)), (9, .int .i64 (4 * (areaI a b c d))), (10, .slice A10 n cp10), (11, .int .i64 (c - a)), (12, .int .i64 ((i : Nat) : Int)), (13, .int .u32 (mkB xs2 i)), (85, .bool (!(mayB (mkB xs2 i))))] ?_
    refine cont_done ?_
    refine then_normal ?_
    refine cont_split 85 (!(mayB (mkB xs2 i))) rfl (fun c15_ => ?_) (fun c15_ => ?_)
    ·
      replace c15_ : (mayB (mkB xs2 i)) = false := by simpa using c15_
      have hmy : mayB (mkB xs2 i) = false := c15_
      refine cont_true rfl ?_
      refine cont_seq ?_
      refine cont_region 3 rfl ?_
      refine batch0 [3, 1, 0] 3 0 [(6, .pointer (some ⟨b4, 0, none⟩)), (7, .int .i64 1)] [.gen (rowE (A10) g10 n cp10 28 1 (ivals .u32 (wrS W a b wn xs2 px i)) true), .cells b4 [.int .i64 W, .int .i64 H, .slice (some ⟨r, 0, none⟩) n cap] 37 true, .cells b3 [.int .i64 a, .int .i64 b, .int .i64 c, .int .i64 d] 32 true, .cells b2 [.int .i64 W, .int .i64 H, .slice (some ⟨r, 0, none⟩) n cap] 37 true, .gen (rdE (some ⟨r, 0, none⟩) r 0 n 1 (ivals .u32 px)), .gen (rdE (A2) g2 o2 n2 1 (ivals .u8 xs2))] rfl rfl (by kernel_rfl) (by kernel_rfl) ?_
      refine cont_forget 2 rfl ?_
      refine cont_forget 2 rfl ?_
      refine cont_done ?_
      refine then_normal ?_
      refine cont_ret ?_
      refine then_ret ?_
      refine blk_ret ?_
      refine then_ret ?_
      refine then_ret ?_
      refine blk_ret ?_
      refine then_ret ?_
      refine ret_two (.inl rfl) rfl 1 0 (.agg #[.int .i64 W, .int .i64 H, .slice (some ⟨r, 0, none⟩) n cap]) (.int .i64 1) (by kernel_rfl) (by kernel_rfl) (by kernel_rfl) (by kernel_rfl) (fun w hT => ?_)
      have hE2 : wrE W H a b c d xs2 = 1 := wrE_bad hg (by omega) (N := N) (by omega) (k := i) (by omega) hmy
      exact ⟨by rw [hE2], hT.post rfl⟩
    replace c15_ : (mayB (mkB xs2 i)) = true := by simpa using c15_
    have hmy : mayB (mkB xs2 i) = true := c15_
    refine cont_false rfl ?_
    refine cont_skip ?_
    refine then_normal ?_
    obtain ⟨hq0, hq1, hq2, hq3⟩ := row_of (N := N) (i := i) hg1 hg2 (by omega) (by omega)
    obtain ⟨hpl1, hpl2, hpl3⟩ := hok.place (x := a + (i : Int) % (c - a)) (y := b + (i : Int) / (c - a)) (by omega) (by omega) (by omega) (by omega)
    refine drawn_enter 20 [0] rfl (by kernel_rfl) ?_
    refine takes 0 [0] [(0, 0), (1, 0), (3, 0), (4, 0), (7, 0), (10, 0), (13, 0), (14, 0), (17, 0), (2, 2)] 10 [2, 17, 14, 13, 10, 7, 4, 3, 1, 0] [(2, .slice A2 n2 cap2), (3, .pointer (some ⟨b2, 0, none⟩)), (4, .pointer (some ⟨b3, 0, none⟩)), (6, .pointer (some ⟨b4, 0, none⟩)), (9, .int .i64 (4 * (areaI a b c d))), (10, .slice A10 n cp10), (11, .int .i64 (c - a)), (12, .int .i64 ((i : Nat) : Int)), (87, .slice A10 n cp10), (89, .int .i64 b), (90, .int .i64 ((i : Nat) : Int)), (91, .int .i64 (c - a)), (94, .pointer (some ⟨b2, 0, none⟩)), (97, .pointer (some ⟨b3, 0, none⟩)), (100, .int .i64 ((i : Nat) : Int)), (101, .int .i64 (c - a)), (104, .int .u32 (mkB xs2 i))] (by kernel_rfl) (pok_blk (pok_then (pok_then (pok_blk (pok_then pok_body))))) (by kernel_rfl) rfl rfl (by kernel_rfl) (by kernel_rfl) ?_
    refine sem_take 0 [0] 5 9 92 (bopS .quo 3 (.tmp 90) (.tmp 91) (.int .i64 ((i : Nat) : Int)) (.int .i64 (c - a))) (.int .i64 (IntKind.i64.wrap (((i : Nat) : Int).tdiv (c - a)))) (by kernel_rfl) (pok_blk (pok_then (pok_then (pok_blk (pok_then pok_body))))) (by kernel_rfl) rfl (by kernel_rfl) (by kernel_rfl) (fun w hT => run_quo (by omega) w) ?_
    refine cont_recast 92 (.int .i64 (IntKind.i64.wrap (((i : Nat) : Int).tdiv (c - a)))) (.int .i64 (((i : Nat) : Int) / (c - a))) rfl (tdivI (by omega) (by omega) (by omega)) ?_
    refine takes 0 [0] [(6, 0)] 8 [6, 5, 2, 17, 14, 13, 10, 7, 4, 3, 1, 0] [(2, .slice A2 n2 cap2), (3, .pointer (some ⟨b2, 0, none⟩)), (4, .pointer (some ⟨b3, 0, none⟩)), (6, .pointer (some ⟨b4, 0, none⟩)), (9, .int .i64 (4 * (areaI a b c d))), (10, .slice A10 n cp10), (11, .int .i64 (c - a)), (12, .int .i64 ((i : Nat) : Int)), (87, .slice A10 n cp10), (93, .int .i64 (IntKind.i64.wrap (b + (((i : Nat) : Int) / (c - a))))), (94, .pointer (some ⟨b2, 0, none⟩)), (97, .pointer (some ⟨b3, 0, none⟩)), (100, .int .i64 ((i : Nat) : Int)), (101, .int .i64 (c - a)), (104, .int .u32 (mkB xs2 i))] (by kernel_rfl) (pok_blk (pok_then (pok_then (pok_blk (pok_then pok_body))))) (by kernel_rfl) rfl rfl (by kernel_rfl) (by kernel_rfl) ?_
    refine cont_recast 93 (.int .i64 (IntKind.i64.wrap (b + (((i : Nat) : Int) / (c - a))))) (.int .i64 (b + (((i : Nat) : Int) / (c - a)))) rfl (wrapI (by omega) (by omega)) ?_
    refine takes 0 [0] [(8, 3), (11, 2)] 6 [11, 8, 6, 5, 2, 17, 14, 13, 10, 7, 4, 3, 1, 0] [(2, .slice A2 n2 cap2), (3, .pointer (some ⟨b2, 0, none⟩)), (4, .pointer (some ⟨b3, 0, none⟩)), (6, .pointer (some ⟨b4, 0, none⟩)), (9, .int .i64 (4 * (areaI a b c d))), (10, .slice A10 n cp10), (11, .int .i64 (c - a)), (12, .int .i64 ((i : Nat) : Int)), (87, .slice A10 n cp10), (93, .int .i64 (b + (((i : Nat) : Int) / (c - a)))), (95, .int .i64 W), (98, .int .i64 a), (100, .int .i64 ((i : Nat) : Int)), (101, .int .i64 (c - a)), (104, .int .u32 (mkB xs2 i))] (by kernel_rfl) (pok_blk (pok_then (pok_then (pok_blk (pok_then pok_body))))) (by kernel_rfl) rfl rfl (by kernel_rfl) (by kernel_rfl) ?_
    refine takes 0 [0] [(9, 0)] 5 [9, 11, 8, 6, 5, 2, 17, 14, 13, 10, 7, 4, 3, 1, 0] [(2, .slice A2 n2 cap2), (3, .pointer (some ⟨b2, 0, none⟩)), (4, .pointer (some ⟨b3, 0, none⟩)), (6, .pointer (some ⟨b4, 0, none⟩)), (9, .int .i64 (4 * (areaI a b c d))), (10, .slice A10 n cp10), (11, .int .i64 (c - a)), (12, .int .i64 ((i : Nat) : Int)), (87, .slice A10 n cp10), (96, .int .i64 (IntKind.i64.wrap ((b + (((i : Nat) : Int) / (c - a))) * W))), (98, .int .i64 a), (100, .int .i64 ((i : Nat) : Int)), (101, .int .i64 (c - a)), (104, .int .u32 (mkB xs2 i))] (by kernel_rfl) (pok_blk (pok_then (pok_then (pok_blk (pok_then pok_body))))) (by kernel_rfl) rfl rfl (by kernel_rfl) (by kernel_rfl) ?_
    refine cont_recast 96 (.int .i64 (IntKind.i64.wrap ((b + (((i : Nat) : Int) / (c - a))) * W))) (.int .i64 ((b + (((i : Nat) : Int) / (c - a))) * W)) rfl (wrapI (by omega) (by omega)) ?_
    refine takes 0 [0] [(12, 0)] 4 [12, 9, 11, 8, 6, 5, 2, 17, 14, 13, 10, 7, 4, 3, 1, 0] [(2, .slice A2 n2 cap2), (3, .pointer (some ⟨b2, 0, none⟩)), (4, .pointer (some ⟨b3, 0, none⟩)), (6, .pointer (some ⟨b4, 0, none⟩)), (9, .int .i64 (4 * (areaI a b c d))), (10, .slice A10 n cp10), (11, .int .i64 (c - a)), (12, .int .i64 ((i : Nat) : Int)), (87, .slice A10 n cp10), (99, .int .i64 (IntKind.i64.wrap (((b + (((i : Nat) : Int) / (c - a))) * W) + a))), (100, .int .i64 ((i : Nat) : Int)), (101, .int .i64 (c - a)), (104, .int .u32 (mkB xs2 i))] (by kernel_rfl) (pok_blk (pok_then (pok_then (pok_blk (pok_then pok_body))))) (by kernel_rfl) rfl rfl (by kernel_rfl) (by kernel_rfl) ?_
    refine cont_recast 99 (.int .i64 (IntKind.i64.wrap (((b + (((i : Nat) : Int) / (c - a))) * W) + a))) (.int .i64 (((b + (((i : Nat) : Int) / (c - a))) * W) + a)) rfl (wrapI (by omega) (by omega)) ?_
    refine sem_take 0 [0] 15 3 102 (bopS .rem 3 (.tmp 100) (.tmp 101) (.int .i64 ((i : Nat) : Int)) (.int .i64 (c - a))) (.int .i64 (((i : Nat) : Int).tmod (c - a))) (by kernel_rfl) (pok_blk (pok_then (pok_then (pok_blk (pok_then pok_body))))) (by kernel_rfl) rfl (by kernel_rfl) (by kernel_rfl) (fun w hT => run_rem (by omega) w) ?_
    refine cont_recast 102 (.int .i64 (((i : Nat) : Int).tmod (c - a))) (.int .i64 (((i : Nat) : Int) % (c - a))) rfl (tmodI (by omega)) ?_
    refine takes 0 [0] [(16, 0)] 2 [16, 15, 12, 9, 11, 8, 6, 5, 2, 17, 14, 13, 10, 7, 4, 3, 1, 0] [(2, .slice A2 n2 cap2), (3, .pointer (some ⟨b2, 0, none⟩)), (4, .pointer (some ⟨b3, 0, none⟩)), (6, .pointer (some ⟨b4, 0, none⟩)), (9, .int .i64 (4 * (areaI a b c d))), (10, .slice A10 n cp10), (11, .int .i64 (c - a)), (12, .int .i64 ((i : Nat) : Int)), (87, .slice A10 n cp10), (103, .int .i64 (IntKind.i64.wrap ((((b + (((i : Nat) : Int) / (c - a))) * W) + a) + (((i : Nat) : Int) % (c - a))))), (104, .int .u32 (mkB xs2 i))] (by kernel_rfl) (pok_blk (pok_then (pok_then (pok_blk (pok_then pok_body))))) (by kernel_rfl) rfl rfl (by kernel_rfl) (by kernel_rfl) ?_
    refine cont_recast 103 (.int .i64 (IntKind.i64.wrap ((((b + (((i : Nat) : Int) / (c - a))) * W) + a) + (((i : Nat) : Int) % (c - a))))) (.int .i64 ((((b + (((i : Nat) : Int) / (c - a))) * W) + a) + (((i : Nat) : Int) % (c - a)))) rfl (wrapI (by omega) (by omega)) ?_
    refine cont_recast 87 (.slice A10 n cp10) (.slice (some ⟨g10, 0, none⟩) n cp10) rfl (by rw [hr12_a (by omega)]) ?_
    refine sem_take 0 [0] 18 1 105 (Instr.indexAt 35 (.slice (some ⟨g10, 0, none⟩) n cp10) (.int .i64 ((((b + (((i : Nat) : Int) / (c - a))) * W) + a) + (((i : Nat) : Int) % (c - a))))) (.pointer (some ⟨g10, Int.toNat ((((b + (((i : Nat) : Int) / (c - a))) * W) + a) + (((i : Nat) : Int) % (c - a))), none⟩)) (by kernel_rfl) (pok_blk (pok_then (pok_then (pok_blk (pok_then pok_body))))) (by kernel_rfl) rfl (by kernel_rfl) (by kernel_rfl) (fun w hT => run_indexAt (e := 28) (sz := 1) _ (by kernel_rfl) (by kernel_rfl) (by omega) (by omega) (by omega) w) ?_
    refine drawn_one 19 0 rfl (by kernel_rfl) ?_
    refine sem_stepU (Instr.storeAt 28 (.pointer (some ⟨g10, Int.toNat ((((b + (((i : Nat) : Int) / (c - a))) * W) + a) + (((i : Nat) : Int) % (c - a))), none⟩)) (.int .u32 (mkB xs2 i))) (fun _ => [.gen (rowE (A10) g10 n cp10 28 1 (ivals .u32 ((wrS W a b wn xs2 px i).set (Int.toNat ((((b + (((i : Nat) : Int) / (c - a))) * W) + a) + (((i : Nat) : Int) % (c - a)))) (mkB xs2 i))) true), .cells b4 [.int .i64 0, .int .i64 0, .slice none 0 0] 37 true, .cells b3 [.int .i64 a, .int .i64 b, .int .i64 c, .int .i64 d] 32 true, .cells b2 [.int .i64 W, .int .i64 H, .slice (some ⟨r, 0, none⟩) n cap] 37 true, .gen (rdE (some ⟨r, 0, none⟩) r 0 n 1 (ivals .u32 px)), .gen (rdE (A2) g2 o2 n2 1 (ivals .u8 xs2))]) (fun _ => True) (by kernel_rfl) (fun w hT => store_row hT (i := 0) rfl (by kernel_rfl) (by omega)) (fun _ _ => ?_)
    refine drawn_next 0 [0] (by kernel_rfl) ?_
    refine drawn_done (by kernel_rfl) ?_
    refine blk_normal ?_
    refine then_normal ?_
    refine cont_region 3 rfl ?_
    refine bS [0, 0] 2 1 [(2, .slice A2 n2 cap2), (3, .pointer (some ⟨b2, 0, none⟩)), (4, .pointer (some ⟨b3, 0, none⟩)), (6, .pointer (some ⟨b4, 0, none⟩)), (9, .int .i64 (4 * (areaI a b c d))), (10, .slice A10 n cp10), (11, .int .i64 (c - a)), (53, .int .i64 (IntKind.i64.wrap (((i : Nat) : Int) + 1)))] ?_
    refine cont_recast 53 (.int .i64 (IntKind.i64.wrap (((i : Nat) : Int) + 1))) (.int .i64 (((i : Nat) : Int) + 1)) rfl (wrapI (by omega) (by omega)) ?_
    refine bS [0] 3 0 [(2, .slice A2 n2 cap2), (3, .pointer (some ⟨b2, 0, none⟩)), (4, .pointer (some ⟨b3, 0, none⟩)), (6, .pointer (some ⟨b4, 0, none⟩)), (9, .int .i64 (4 * (areaI a b c d))), (10, .slice A10 n cp10), (11, .int .i64 (c - a)), (12, .int .i64 (((i : Nat) : Int) + 1))] ?_
    refine cont_done ?_
    refine then_normal ?_
    refine cont_rowEq (k := .u32) 0 ((wrS W a b wn xs2 px i).set (Int.toNat ((((b + (((i : Nat) : Int) / (c - a))) * W) + a) + (((i : Nat) : Int) % (c - a)))) (mkB xs2 i)) (wrS W a b wn xs2 px (i + 1)) rfl (congrArg (fun z_ => (wrS W a b wn xs2 px i).set z_ (mkB xs2 i)) (wIdx_eq hwn (by omega))) ?_
    refine cont_again (i + 1) (show (i + 1) ≤ N ∧ okN xs2 (i + 1) from ⟨by omega, hokn.step hmy⟩) (show N - (i + 1) < N - i from by omega) (by kernel_rfl) (by kernel_rfl)
  replace c14_ := of_decide_eq_false c14_
  refine cont_false rfl ?_
  refine cont_exit ?_
  refine then_exit ?_
  refine then_exit ?_
  refine blk_exit ?_
  refine then_normal ?_
  refine cont_seq ?_
  refine cont_region 3 rfl ?_
  refine batch0 [0, 0, 3] 3 0 [(3, .pointer (some ⟨b2, 0, none⟩)), (6, .pointer (some ⟨b4, 0, none⟩))] [.gen (rowE (A10) g10 n cp10 28 1 (ivals .u32 (wrS W a b wn xs2 px i)) true), .cells b4 [.int .i64 0, .int .i64 0, .slice none 0 0] 37 true, .cells b3 [.int .i64 a, .int .i64 b, .int .i64 c, .int .i64 d] 32 true, .cells b2 [.int .i64 W, .int .i64 H, .slice A10 n cp10] 37 true, .gen (rdE (some ⟨r, 0, none⟩) r 0 n 1 (ivals .u32 px)), .gen (rdE (A2) g2 o2 n2 1 (ivals .u8 xs2))] rfl rfl (by kernel_rfl) (by kernel_rfl) ?_
  refine cont_forget 2 rfl ?_
  refine cont_done ?_
  refine then_normal ?_
  refine cont_seq ?_
  refine cont_region 3 rfl ?_
  refine batch0 [2, 1, 0] 3 0 [(6, .pointer (some ⟨b4, 0, none⟩)), (7, .int .i64 0)] [.gen (rowE (A10) g10 n cp10 28 1 (ivals .u32 (wrS W a b wn xs2 px i)) true), .cells b4 [.int .i64 W, .int .i64 H, .slice A10 n cp10] 37 true, .cells b2 [.int .i64 W, .int .i64 H, .slice A10 n cp10] 37 true, .gen (rdE (some ⟨r, 0, none⟩) r 0 n 1 (ivals .u32 px)), .gen (rdE (A2) g2 o2 n2 1 (ivals .u8 xs2))] rfl rfl (by kernel_rfl) (by kernel_rfl) ?_
  refine cont_forget 2 rfl ?_
  refine cont_done ?_
  refine then_normal ?_
  refine cont_ret ?_
  refine ret_two (.inl rfl) rfl 1 0 (.agg #[.int .i64 W, .int .i64 H, .slice A10 n cp10]) (.int .i64 0) (by kernel_rfl) (by kernel_rfl) (by kernel_rfl) (by kernel_rfl) (fun w hT => ?_)
  have hE2 : wrE W H a b c d xs2 = 0 := wrE_ok hg (by omega) (N := N) (by omega) (by rw [show N = i by omega]; exact hokn)
  exact (hE hE2).elim

theorem refWriteG (W H : Int) (r n cap : Nat) (px : List Int) (a b c d : Int) (A2 : Option Addr) (g2 o2 n2 cap2 : Nat) (xs2 : List Int) (w : World) (hT0 : Tab w w [.gen (rdE (some ⟨r, 0, none⟩) r 0 n 1 (ivals .u32 px)), .gen (rdE (A2) g2 o2 n2 1 (ivals .u8 xs2))]) (hok : ImgOk W H n px) (hc2 : n2 ≤ cap2) (hx2 : ∀ x ∈ xs2, 0 ≤ x ∧ x ≤ 255) (hE : wrE W H a b c d xs2 = 0) :
    Calls Try.prog 41 #[.agg #[.int .i64 W, .int .i64 H, .slice (some ⟨r, 0, none⟩) n cap], .agg #[.int .i64 a, .int .i64 b, .int .i64 c, .int .i64 d], .slice A2 n2 cap2] w fun e w' => ∃ g cp : Nat, e = .returned (.tuple #[.agg #[.int .i64 W, .int .i64 H, .slice (some ⟨g, 0, none⟩) n cp], .int .i64 0]) ∧ Tab w w' [.gen (rowE (some ⟨g, 0, none⟩) g n cp 28 1 (ivals .u32 (wrA W H px a b c d xs2)) true)] := by
  have hw1 := hok.w1
  have hw2 := hok.w2
  have hh1 := hok.h1
  have hh2 := hok.h2
  have hnum := hok.num
  have hlen := hok.len
  have hle := hok.le
  have hra2 := ((hT0.ok 1 _ rfl : Rd w A2 g2 o2 n2 1 (ivals .u8 xs2)).at_)
  have hl2 : xs2.length = n2 := Rd.flen (hT0.ok 1 _ rfl)
  refine enter 109 [(0, .agg #[.int .i64 W, .int .i64 H, .slice (some ⟨r, 0, none⟩) n cap]), (1, .agg #[.int .i64 a, .int .i64 b, .int .i64 c, .int .i64 d]), (2, .slice A2 n2 cap2)] [.gen (rdE (some ⟨r, 0, none⟩) r 0 n 1 (ivals .u32 px)), .gen (rdE (A2) g2 o2 n2 1 (ivals .u8 xs2))] Try.func41 rfl Try.ntmps41 rfl (by kernel_rfl) hT0 ?_
  refine cont_fact (F := (0 < n2 → (A2 : Option Addr) = some ⟨g2, o2, none⟩) ∧ xs2.length = n2) (fun w hT => Rd.facts (hT.ok 1 _ rfl)) (fun hl1_ => ?_)
  obtain ⟨hl1_a, hl1_l⟩ := hl1_
  refine cont_seq ?_
  refine cont_region 4 rfl ?_
  refine batch3 [0, 0, 0, 0] 4 0 (fun b2 b3 b4 => [(2, .slice A2 n2 cap2), (3, .pointer (some ⟨b2, 0, none⟩)), (4, .pointer (some ⟨b3, 0, none⟩)), (6, .pointer (some ⟨b4, 0, none⟩))]) (fun b2 b3 b4 => [.cells b4 [.int .i64 0, .int .i64 0, .slice none 0 0] 37 true, .cells b3 [.int .i64 a, .int .i64 b, .int .i64 c, .int .i64 d] 32 true, .cells b2 [.int .i64 W, .int .i64 H, .slice (some ⟨r, 0, none⟩) n cap] 37 true, .gen (rdE (some ⟨r, 0, none⟩) r 0 n 1 (ivals .u32 px)), .gen (rdE (A2) g2 o2 n2 1 (ivals .u8 xs2))]) rfl rfl [2, 3, 4, 6] (fun _ _ _ => rfl) (fun b2 b3 b4 => by kernel_rfl) (fun b2 b3 b4 => by kernel_rfl) (fun b2 b3 b4 => ?_)
  refine cont_done ?_
  refine then_normal ?_
  refine cont_seq ?_
  refine drawn_enter 5 [] rfl (by kernel_rfl) ?_
  refine takes 0 [] [(0, 2), (2, 1)] 3 [2, 0] [(2, .slice A2 n2 cap2), (3, .pointer (some ⟨b2, 0, none⟩)), (4, .pointer (some ⟨b3, 0, none⟩)), (6, .pointer (some ⟨b4, 0, none⟩)), (15, .agg #[.int .i64 W, .int .i64 H, .slice (some ⟨r, 0, none⟩) n cap]), (17, .agg #[.int .i64 a, .int .i64 b, .int .i64 c, .int .i64 d])] (by kernel_rfl) (pok_then pok_body) (by kernel_rfl) rfl rfl (by kernel_rfl) (by kernel_rfl) ?_
  refine drawn_one 1 2 rfl (by kernel_rfl) ?_
  refine call_pure (d := 16) (.agg #[.int .i64 0, .int .i64 0, .int .i64 W, .int .i64 H]) (by kernel_rfl) (fun w hT => refBox W H (.slice (some ⟨r, 0, none⟩) n cap) w) ?_
  refine drawn_next 0 [] (by kernel_rfl) ?_
  refine drawn_one 3 1 rfl (by kernel_rfl) ?_
  refine call_pure (d := 18) (.bool (coversB 0 0 W H a b c d)) (by kernel_rfl) (fun w hT => refCovers 0 0 W H a b c d w) ?_
  refine drawn_next 0 [] (by kernel_rfl) ?_
  refine takes 0 [] [(4, 0)] 0 [4, 3, 1, 2, 0] [(2, .slice A2 n2 cap2), (3, .pointer (some ⟨b2, 0, none⟩)), (4, .pointer (some ⟨b3, 0, none⟩)), (6, .pointer (some ⟨b4, 0, none⟩)), (8, .bool (coversB 0 0 W H a b c d))] (by kernel_rfl) (pok_then pok_body) (by kernel_rfl) rfl rfl (by kernel_rfl) (by kernel_rfl) ?_
  refine drawn_done (by kernel_rfl) ?_
  refine then_normal ?_
  refine cont_seq ?_
  refine cont_seq ?_
  refine cont_region 6 rfl ?_
  refine bS [1] 1 5 [(2, .slice A2 n2 cap2), (3, .pointer (some ⟨b2, 0, none⟩)), (4, .pointer (some ⟨b3, 0, none⟩)), (6, .pointer (some ⟨b4, 0, none⟩)), (8, .bool (coversB 0 0 W H a b c d)), (19, .agg #[.int .i64 a, .int .i64 b, .int .i64 c, .int .i64 d])] ?_
  refine pl_step 2 4 rfl rfl ?_
  refine call_pure (d := 20) (.bool (emptyB a b c d)) (by kernel_rfl) (fun w hT => refEmpty a b c d w) ?_
  refine bS [0] 3 3 [(2, .slice A2 n2 cap2), (3, .pointer (some ⟨b2, 0, none⟩)), (4, .pointer (some ⟨b3, 0, none⟩)), (6, .pointer (some ⟨b4, 0, none⟩)), (8, .bool (coversB 0 0 W H a b c d)), (21, .bool (emptyB a b c d))] ?_
  refine cont_split 21 (emptyB a b c d) rfl (fun c5_ => ?_) (fun c5_ => ?_)
  ·
    have hem_ : emptyB a b c d = true := c5_
    refine bS [0, 0, 0] 6 0 [(2, .slice A2 n2 cap2), (3, .pointer (some ⟨b2, 0, none⟩)), (4, .pointer (some ⟨b3, 0, none⟩)), (6, .pointer (some ⟨b4, 0, none⟩)), (24, .bool true)] ?_
    refine cont_done ?_
    refine then_normal ?_
    refine cont_true rfl ?_
    refine cont_seq ?_
    refine cont_region 3 rfl ?_
    refine batch0 [2, 0, 0] 3 0 [(6, .pointer (some ⟨b4, 0, none⟩)), (7, .int .i64 4)] [.cells b4 [.int .i64 W, .int .i64 H, .slice (some ⟨r, 0, none⟩) n cap] 37 true, .cells b3 [.int .i64 a, .int .i64 b, .int .i64 c, .int .i64 d] 32 true, .cells b2 [.int .i64 W, .int .i64 H, .slice (some ⟨r, 0, none⟩) n cap] 37 true, .gen (rdE (some ⟨r, 0, none⟩) r 0 n 1 (ivals .u32 px)), .gen (rdE (A2) g2 o2 n2 1 (ivals .u8 xs2))] rfl rfl (by kernel_rfl) (by kernel_rfl) ?_
    refine cont_forget 1 rfl ?_
    refine cont_forget 1 rfl ?_
    refine cont_done ?_
    refine then_normal ?_
    refine cont_ret ?_
    refine then_ret ?_
    refine ret_two (.inl rfl) rfl 0 0 (.agg #[.int .i64 W, .int .i64 H, .slice (some ⟨r, 0, none⟩) n cap]) (.int .i64 4) (by kernel_rfl) (by kernel_rfl) (by kernel_rfl) (by kernel_rfl) (fun w hT => ?_)
    have hE2 : wrE W H a b c d xs2 = 4 := (by rcases Bool.eq_false_or_eq_true (emptyB a b c d) with h_ | h_; exact wrE_ins (by unfold insB; rw [h_]; rfl); first | exact wrE_ins hgF | exact absurd (h_.symm.trans hem_) (by decide))
    rw [hE] at hE2; cases hE2
  have hem_ : emptyB a b c d = false := c5_
  refine bS [0, 0, 0] 6 0 [(2, .slice A2 n2 cap2), (3, .pointer (some ⟨b2, 0, none⟩)), (4, .pointer (some ⟨b3, 0, none⟩)), (6, .pointer (some ⟨b4, 0, none⟩)), (24, .bool (!(coversB 0 0 W H a b c d)))] ?_
  refine cont_done ?_
  refine then_normal ?_
  refine cont_split 24 (!(coversB 0 0 W H a b c d)) rfl (fun c6_ => ?_) (fun c6_ => ?_)
  ·
    replace c6_ : (coversB 0 0 W H a b c d) = false := by simpa using c6_
    have hgF : insB W H a b c d = false := by unfold insB; rw [show coversB 0 0 W H a b c d = false from c6_, Bool.and_false]
    refine cont_true rfl ?_
    refine cont_seq ?_
    refine cont_region 3 rfl ?_
    refine batch0 [2, 0, 0] 3 0 [(6, .pointer (some ⟨b4, 0, none⟩)), (7, .int .i64 4)] [.cells b4 [.int .i64 W, .int .i64 H, .slice (some ⟨r, 0, none⟩) n cap] 37 true, .cells b3 [.int .i64 a, .int .i64 b, .int .i64 c, .int .i64 d] 32 true, .cells b2 [.int .i64 W, .int .i64 H, .slice (some ⟨r, 0, none⟩) n cap] 37 true, .gen (rdE (some ⟨r, 0, none⟩) r 0 n 1 (ivals .u32 px)), .gen (rdE (A2) g2 o2 n2 1 (ivals .u8 xs2))] rfl rfl (by kernel_rfl) (by kernel_rfl) ?_
    refine cont_forget 1 rfl ?_
    refine cont_forget 1 rfl ?_
    refine cont_done ?_
    refine then_normal ?_
    refine cont_ret ?_
    refine then_ret ?_
    refine ret_two (.inl rfl) rfl 0 0 (.agg #[.int .i64 W, .int .i64 H, .slice (some ⟨r, 0, none⟩) n cap]) (.int .i64 4) (by kernel_rfl) (by kernel_rfl) (by kernel_rfl) (by kernel_rfl) (fun w hT => ?_)
    have hE2 : wrE W H a b c d xs2 = 4 := (by rcases Bool.eq_false_or_eq_true (emptyB a b c d) with h_ | h_; exact wrE_ins (by unfold insB; rw [h_]; rfl); first | exact wrE_ins hgF | exact absurd (h_.symm.trans hem_) (by decide))
    rw [hE] at hE2; cases hE2
  replace c6_ : (coversB 0 0 W H a b c d) = true := by simpa using c6_
  have hg : insB W H a b c d = true := by unfold insB; rw [show coversB 0 0 W H a b c d = true from c6_, hem_]; rfl
  obtain ⟨hg1, hg2, hg3, hg4, hg5, hg6⟩ := insB_true hg
  obtain ⟨har0, har1, har2⟩ := ins_area hok hg
  refine cont_false rfl ?_
  refine cont_skip ?_
  refine then_normal ?_
  refine cont_seq ?_
  refine cont_region 4 rfl ?_
  refine bS [1] 1 3 [(2, .slice A2 n2 cap2), (3, .pointer (some ⟨b2, 0, none⟩)), (4, .pointer (some ⟨b3, 0, none⟩)), (6, .pointer (some ⟨b4, 0, none⟩)), (26, .agg #[.int .i64 a, .int .i64 b, .int .i64 c, .int .i64 d])] ?_
  refine pl_step 2 2 rfl rfl ?_
  refine call_pure (d := 27) (.int .i64 (areaI a b c d)) (by kernel_rfl) (fun w hT => refArea a b c d w (by omega) (by omega) (by omega) (by omega)) ?_
  refine bS [0] 3 1 [(2, .slice A2 n2 cap2), (3, .pointer (some ⟨b2, 0, none⟩)), (4, .pointer (some ⟨b3, 0, none⟩)), (6, .pointer (some ⟨b4, 0, none⟩)), (28, .int .i64 (IntKind.i64.wrap (4 * (areaI a b c d))))] ?_
  refine cont_recast 28 (.int .i64 (IntKind.i64.wrap (4 * (areaI a b c d)))) (.int .i64 (4 * (areaI a b c d))) rfl (wrapI (by omega) (by omega)) ?_
  refine bS [0] 4 0 [(2, .slice A2 n2 cap2), (3, .pointer (some ⟨b2, 0, none⟩)), (4, .pointer (some ⟨b3, 0, none⟩)), (6, .pointer (some ⟨b4, 0, none⟩)), (9, .int .i64 (4 * (areaI a b c d)))] ?_
  refine cont_done ?_
  refine then_normal ?_
  refine cont_seq ?_
  refine cont_seq ?_
  refine cont_region 4 rfl ?_
  refine bS [0, 0, 0, 0] 4 0 [(2, .slice A2 n2 cap2), (3, .pointer (some ⟨b2, 0, none⟩)), (4, .pointer (some ⟨b3, 0, none⟩)), (6, .pointer (some ⟨b4, 0, none⟩)), (9, .int .i64 (4 * (areaI a b c d))), (32, .bool (decide ((n2 : Int) < (4 * (areaI a b c d)))))] ?_
  refine cont_done ?_
  refine then_normal ?_
  refine cont_split 32 (decide ((n2 : Int) < (4 * (areaI a b c d)))) rfl (fun c7_ => ?_) (fun c7_ => ?_)
  ·
    replace c7_ := of_decide_eq_true c7_
    refine cont_true rfl ?_
    refine cont_seq ?_
    refine cont_region 3 rfl ?_
    refine batch0 [2, 0, 0] 3 0 [(6, .pointer (some ⟨b4, 0, none⟩)), (7, .int .i64 3)] [.cells b4 [.int .i64 W, .int .i64 H, .slice (some ⟨r, 0, none⟩) n cap] 37 true, .cells b3 [.int .i64 a, .int .i64 b, .int .i64 c, .int .i64 d] 32 true, .cells b2 [.int .i64 W, .int .i64 H, .slice (some ⟨r, 0, none⟩) n cap] 37 true, .gen (rdE (some ⟨r, 0, none⟩) r 0 n 1 (ivals .u32 px)), .gen (rdE (A2) g2 o2 n2 1 (ivals .u8 xs2))] rfl rfl (by kernel_rfl) (by kernel_rfl) ?_
    refine cont_forget 1 rfl ?_
    refine cont_forget 1 rfl ?_
    refine cont_done ?_
    refine then_normal ?_
    refine cont_ret ?_
    refine then_ret ?_
    refine ret_two (.inl rfl) rfl 0 0 (.agg #[.int .i64 W, .int .i64 H, .slice (some ⟨r, 0, none⟩) n cap]) (.int .i64 3) (by kernel_rfl) (by kernel_rfl) (by kernel_rfl) (by kernel_rfl) (fun w hT => ?_)
    have hE2 : wrE W H a b c d xs2 = 3 := wrE_short hg (by omega)
    rw [hE] at hE2; cases hE2
  replace c7_ := of_decide_eq_false c7_
  refine cont_false rfl ?_
  refine cont_skip ?_
  refine then_normal ?_
  refine cont_seq ?_
  refine cont_seq ?_
  refine cont_region 4 rfl ?_
  refine bS [0, 0, 0, 0] 4 0 [(2, .slice A2 n2 cap2), (3, .pointer (some ⟨b2, 0, none⟩)), (4, .pointer (some ⟨b3, 0, none⟩)), (6, .pointer (some ⟨b4, 0, none⟩)), (9, .int .i64 (4 * (areaI a b c d))), (37, .bool (decide ((n2 : Int) > (4 * (areaI a b c d)))))] ?_
  refine cont_done ?_
  refine then_normal ?_
  refine cont_split 37 (decide ((n2 : Int) > (4 * (areaI a b c d)))) rfl (fun c8_ => ?_) (fun c8_ => ?_)
  ·
    replace c8_ := of_decide_eq_true c8_
    refine cont_true rfl ?_
    refine cont_seq ?_
    refine cont_region 3 rfl ?_
    refine batch0 [2, 0, 0] 3 0 [(6, .pointer (some ⟨b4, 0, none⟩)), (7, .int .i64 2)] [.cells b4 [.int .i64 W, .int .i64 H, .slice (some ⟨r, 0, none⟩) n cap] 37 true, .cells b3 [.int .i64 a, .int .i64 b, .int .i64 c, .int .i64 d] 32 true, .cells b2 [.int .i64 W, .int .i64 H, .slice (some ⟨r, 0, none⟩) n cap] 37 true, .gen (rdE (some ⟨r, 0, none⟩) r 0 n 1 (ivals .u32 px)), .gen (rdE (A2) g2 o2 n2 1 (ivals .u8 xs2))] rfl rfl (by kernel_rfl) (by kernel_rfl) ?_
    refine cont_forget 1 rfl ?_
    refine cont_forget 1 rfl ?_
    refine cont_done ?_
    refine then_normal ?_
    refine cont_ret ?_
    refine then_ret ?_
    refine ret_two (.inl rfl) rfl 0 0 (.agg #[.int .i64 W, .int .i64 H, .slice (some ⟨r, 0, none⟩) n cap]) (.int .i64 2) (by kernel_rfl) (by kernel_rfl) (by kernel_rfl) (by kernel_rfl) (fun w hT => ?_)
    have hE2 : wrE W H a b c d xs2 = 2 := wrE_long hg (by omega)
    rw [hE] at hE2; cases hE2
  replace c8_ := of_decide_eq_false c8_
  refine cont_false rfl ?_
  refine cont_skip ?_
  refine then_normal ?_
  refine cont_seq ?_
  refine cont_region 1 rfl ?_
  obtain ⟨N, hN⟩ : ∃ N : Nat, (N : Int) = areaI a b c d := ⟨Int.toNat (areaI a b c d), by omega⟩
  obtain ⟨wn, hwn⟩ : ∃ k_ : Nat, k_ = Int.toNat (c - a) := ⟨_, rfl⟩
  refine bS [0] 1 0 [(2, .slice A2 n2 cap2), (3, .pointer (some ⟨b2, 0, none⟩)), (4, .pointer (some ⟨b3, 0, none⟩)), (6, .pointer (some ⟨b4, 0, none⟩)), (9, .int .i64 (4 * (areaI a b c d))), (10, .slice none 0 0)] ?_
  refine cont_done ?_
  refine then_normal ?_
  refine cont_seq ?_
  refine cont_region 5 rfl ?_
  refine bS [0, 0, 2] 3 2 [(2, .slice A2 n2 cap2), (3, .pointer (some ⟨b2, 0, none⟩)), (4, .pointer (some ⟨b3, 0, none⟩)), (6, .pointer (some ⟨b4, 0, none⟩)), (9, .int .i64 (4 * (areaI a b c d))), (39, .slice none 0 0), (41, .slice (some ⟨r, 0, none⟩) n cap)] ?_
  refine pl_step 4 1 rfl rfl ?_
  refine cont_nilrow 28 1 ?_
  refine sem_stepW (α := Option Addr × Nat × Nat) 42 (Builtin.append_ #[35, 35] 35 #[.slice none 0 0, .slice (some ⟨r, 0, none⟩) n cap]) (fun x_ => .slice x_.1 n x_.2.2) (fun x_ => [.gen (rowE (x_.1) x_.2.1 n x_.2.2 28 1 (ivals .u32 px) true), .cells b4 [.int .i64 0, .int .i64 0, .slice none 0 0] 37 true, .cells b3 [.int .i64 a, .int .i64 b, .int .i64 c, .int .i64 d] 32 true, .cells b2 [.int .i64 W, .int .i64 H, .slice (some ⟨r, 0, none⟩) n cap] 37 true, .gen (rdE (some ⟨r, 0, none⟩) r 0 n 1 (ivals .u32 px)), .gen (rdE (A2) g2 o2 n2 1 (ivals .u8 xs2))]) (fun _ => True) (by kernel_rfl) (fun w hT => append_own (n' := n) (z := .int .u32 0) hT (i := 0) (bytes := 4) rfl (by kernel_rfl) (by kernel_rfl) rfl (by decide) (by decide) (hT.ok 4 _ rfl) (ivals_one .u32 px) (by omega) rfl (Nat.zero_add _).symm) ?_
  rintro ⟨A10, g10, cp10⟩ -
  refine cont_norm [(2, .slice A2 n2 cap2), (3, .pointer (some ⟨b2, 0, none⟩)), (4, .pointer (some ⟨b3, 0, none⟩)), (6, .pointer (some ⟨b4, 0, none⟩)), (9, .int .i64 (4 * (areaI a b c d))), (39, .slice none 0 0), (41, .slice (some ⟨r, 0, none⟩) n cap), (42, .slice A10 n cp10)] [.gen (rowE (A10) g10 n cp10 28 1 (ivals .u32 px) true), .cells b4 [.int .i64 0, .int .i64 0, .slice none 0 0] 37 true, .cells b3 [.int .i64 a, .int .i64 b, .int .i64 c, .int .i64 d] 32 true, .cells b2 [.int .i64 W, .int .i64 H, .slice (some ⟨r, 0, none⟩) n cap] 37 true, .gen (rdE (some ⟨r, 0, none⟩) r 0 n 1 (ivals .u32 px)), .gen (rdE (A2) g2 o2 n2 1 (ivals .u8 xs2))] (by kernel_rfl) rfl ?_
  refine cont_fact (F := (0 < n → (A10 : Option Addr) = some ⟨g10, 0, none⟩) ∧ px.length = n ∧ n ≤ cp10 ∧ cp10 ≤ maxLen) (fun w hT => Row.facts (hT.ok 0 _ rfl)) (fun hr11_ => ?_)
  obtain ⟨hr11_a, hr11_l, hr11_c, hr11_m⟩ := hr11_
  unfold maxLen at hr11_m
  refine bS [0] 5 0 [(2, .slice A2 n2 cap2), (3, .pointer (some ⟨b2, 0, none⟩)), (4, .pointer (some ⟨b3, 0, none⟩)), (6, .pointer (some ⟨b4, 0, none⟩)), (9, .int .i64 (4 * (areaI a b c d))), (10, .slice A10 n cp10)] ?_
  refine cont_done ?_
  refine then_normal ?_
  refine cont_seq ?_
  refine cont_region 6 rfl ?_
  refine bS [0, 2, 0, 2, 0] 5 1 [(2, .slice A2 n2 cap2), (3, .pointer (some ⟨b2, 0, none⟩)), (4, .pointer (some ⟨b3, 0, none⟩)), (6, .pointer (some ⟨b4, 0, none⟩)), (9, .int .i64 (4 * (areaI a b c d))), (10, .slice A10 n cp10), (47, .int .i64 (IntKind.i64.wrap (c - a)))] ?_
  refine cont_recast 47 (.int .i64 (IntKind.i64.wrap (c - a))) (.int .i64 (c - a)) rfl (wrapI (by omega) (by omega)) ?_
  refine bS [0] 6 0 [(2, .slice A2 n2 cap2), (3, .pointer (some ⟨b2, 0, none⟩)), (4, .pointer (some ⟨b3, 0, none⟩)), (6, .pointer (some ⟨b4, 0, none⟩)), (9, .int .i64 (4 * (areaI a b c d))), (10, .slice A10 n cp10), (11, .int .i64 (c - a))] ?_
  refine cont_done ?_
  refine then_normal ?_
  refine cont_seq ?_
  refine cont_seq ?_
  refine cont_region 1 rfl ?_
  refine bS [0] 1 0 [(2, .slice A2 n2 cap2), (3, .pointer (some ⟨b2, 0, none⟩)), (4, .pointer (some ⟨b3, 0, none⟩)), (6, .pointer (some ⟨b4, 0, none⟩)), (9, .int .i64 (4 * (areaI a b c d))), (10, .slice A10 n cp10), (11, .int .i64 (c - a)), (12, .int .i64 0)] ?_
  refine cont_done ?_
  refine then_normal ?_
  refine cont_block ?_
  refine cont_rowEq (k := .u32) 0 (px) (wrS W a b wn xs2 px 0) rfl rfl ?_
  refine cont_recast 12 (.int .i64 0) (.int .i64 ((0 : Nat) : Int)) rfl (congrArg (Value.int .i64) rfl) ?_
  refine cont_fact (F := (0 < n → (A10 : Option Addr) = some ⟨g10, 0, none⟩) ∧ (wrS W a b wn xs2 px 0).length = n ∧ n ≤ cp10 ∧ cp10 ≤ maxLen) (fun w hT => Row.facts (hT.ok 0 _ rfl)) (fun hr12_ => ?_)
  obtain ⟨hr12_a, hr12_l, hr12_c, hr12_m⟩ := hr12_
  unfold maxLen at hr12_m
  refine cont_loop (α := Nat) (fun x_ : Nat => x_ ≤ N ∧ okN xs2 x_) (fun x_ : Nat => [(2, .slice A2 n2 cap2), (3, .pointer (some ⟨b2, 0, none⟩)), (4, .pointer (some ⟨b3, 0, none⟩)), (6, .pointer (some ⟨b4, 0, none⟩)), (9, .int .i64 (4 * (areaI a b c d))), (10, .slice A10 n cp10), (11, .int .i64 (c - a)), (12, .int .i64 ((x_ : Nat) : Int))]) (fun x_ : Nat => [.gen (rowE (A10) g10 n cp10 28 1 (ivals .u32 (wrS W a b wn xs2 px x_)) true), .cells b4 [.int .i64 0, .int .i64 0, .slice none 0 0] 37 true, .cells b3 [.int .i64 a, .int .i64 b, .int .i64 c, .int .i64 d] 32 true, .cells b2 [.int .i64 W, .int .i64 H, .slice (some ⟨r, 0, none⟩) n cap] 37 true, .gen (rdE (some ⟨r, 0, none⟩) r 0 n 1 (ivals .u32 px)), .gen (rdE (A2) g2 o2 n2 1 (ivals .u8 xs2))]) (fun x_ : Nat => N - x_) 0 (⟨by omega, fun j hj => by omega⟩) (by kernel_rfl) (by kernel_rfl) ?_
  rintro i hinv13_
  replace hinv13_ : i ≤ N ∧ okN xs2 i := hinv13_
  refine cont_norm [(2, .slice A2 n2 cap2), (3, .pointer (some ⟨b2, 0, none⟩)), (4, .pointer (some ⟨b3, 0, none⟩)), (6, .pointer (some ⟨b4, 0, none⟩)), (9, .int .i64 (4 * (areaI a b c d))), (10, .slice A10 n cp10), (11, .int .i64 (c - a)), (12, .int .i64 ((i : Nat) : Int))] [.gen (rowE (A10) g10 n cp10 28 1 (ivals .u32 (wrS W a b wn xs2 px i)) true), .cells b4 [.int .i64 0, .int .i64 0, .slice none 0 0] 37 true, .cells b3 [.int .i64 a, .int .i64 b, .int .i64 c, .int .i64 d] 32 true, .cells b2 [.int .i64 W, .int .i64 H, .slice (some ⟨r, 0, none⟩) n cap] 37 true, .gen (rdE (some ⟨r, 0, none⟩) r 0 n 1 (ivals .u32 px)), .gen (rdE (A2) g2 o2 n2 1 (ivals .u8 xs2))] (by kernel_rfl) rfl ?_
  obtain ⟨hi, hokn⟩ := hinv13_
  have hmk := mkB_in xs2 i
  have hwl : (wrS W a b wn xs2 px i).length = n := by rw [wrS_length]; exact hlen
  have hb0 := getD_byte hx2 (Int.toNat (4 * ((i : Nat) : Int)))
  have hb1 := getD_byte hx2 (Int.toNat (4 * ((i : Nat) : Int) + 1))
  have hb2 := getD_byte hx2 (Int.toNat (4 * ((i : Nat) : Int) + 2))
  have hb3 := getD_byte hx2 (Int.toNat (4 * ((i : Nat) : Int) + 3))
  refine cont_seq ?_
  refine cont_seq ?_
  refine cont_region 4 rfl ?_
  refine bS [0, 0, 0] 3 1 [(2, .slice A2 n2 cap2), (3, .pointer (some ⟨b2, 0, none⟩)), (4, .pointer (some ⟨b3, 0, none⟩)), (6, .pointer (some ⟨b4, 0, none⟩)), (9, .int .i64 (4 * (areaI a b c d))), (10, .slice A10 n cp10), (11, .int .i64 (c - a)), (12, .int .i64 ((i : Nat) : Int)), (48, .int .i64 ((i : Nat) : Int)), (50, .int .i64 (IntKind.i64.wrap ((4 * (areaI a b c d)).tdiv 4)))] ?_
  refine cont_recast 50 (.int .i64 (IntKind.i64.wrap ((4 * (areaI a b c d)).tdiv 4))) (.int .i64 ((4 * (areaI a b c d)) / 4)) rfl (tdivI (by omega) (by omega) (by omega)) ?_
  refine bS [0] 4 0 [(2, .slice A2 n2 cap2), (3, .pointer (some ⟨b2, 0, none⟩)), (4, .pointer (some ⟨b3, 0, none⟩)), (6, .pointer (some ⟨b4, 0, none⟩)), (9, .int .i64 (4 * (areaI a b c d))), (10, .slice A10 n cp10), (11, .int .i64 (c - a)), (12, .int .i64 ((i : Nat) : Int)), (51, .bool (decide (((i : Nat) : Int) < ((4 * (areaI a b c d)) / 4))))] ?_
  refine cont_done ?_
  refine then_normal ?_
  refine cont_split 51 (decide (((i : Nat) : Int) < ((4 * (areaI a b c d)) / 4))) rfl (fun c14_ => ?_) (fun c14_ => ?_)
  ·
    replace c14_ := of_decide_eq_true c14_
    refine cont_true rfl ?_
    refine cont_skip ?_
    refine then_normal ?_
    refine cont_seq ?_
    refine cont_block ?_
    refine cont_seq ?_
    refine drawn_enter 29 [] rfl (by kernel_rfl) ?_
    refine takes 0 [] [(0, 0), (1, 0), (6, 0), (7, 0), (13, 0), (14, 0), (20, 0), (21, 0), (2, 0)] 20 [2, 21, 20, 14, 13, 7, 6, 1, 0] [(2, .slice A2 n2 cap2), (3, .pointer (some ⟨b2, 0, none⟩)), (4, .pointer (some ⟨b3, 0, none⟩)), (6, .pointer (some ⟨b4, 0, none⟩)), (9, .int .i64 (4 * (areaI a b c d))), (10, .slice A10 n cp10), (11, .int .i64 (c - a)), (12, .int .i64 ((i : Nat) : Int)), (54, .slice A2 n2 cap2), (56, .int .i64 (IntKind.i64.wrap (4 * ((i : Nat) : Int)))), (60, .slice A2 n2 cap2), (61, .int .i64 ((i : Nat) : Int)), (67, .slice A2 n2 cap2), (68, .int .i64 ((i : Nat) : Int)), (74, .slice A2 n2 cap2), (75, .int .i64 ((i : Nat) : Int))] (by kernel_rfl) (pok_then (pok_blk (pok_then (pok_then (pok_blk (pok_then pok_body)))))) (by kernel_rfl) rfl rfl (by kernel_rfl) (by kernel_rfl) ?_
    refine cont_recast 56 (.int .i64 (IntKind.i64.wrap (4 * ((i : Nat) : Int)))) (.int .i64 (4 * ((i : Nat) : Int))) rfl (wrapI (by omega) (by omega)) ?_
    refine cont_recast 54 (.slice A2 n2 cap2) (.slice (some ⟨g2, o2, none⟩) n2 cap2) rfl (by rw [hl1_a (by omega)]) ?_
    refine sem_take 0 [] 3 19 57 (Instr.indexAt 43 (.slice (some ⟨g2, o2, none⟩) n2 cap2) (.int .i64 (4 * ((i : Nat) : Int)))) (.pointer (some ⟨g2, o2 + Int.toNat (4 * ((i : Nat) : Int)), none⟩)) (by kernel_rfl) (pok_then (pok_blk (pok_then (pok_then (pok_blk (pok_then pok_body)))))) (by kernel_rfl) rfl (by kernel_rfl) (by kernel_rfl) (fun w hT => run_indexAt (e := 5) (sz := 1) _ (by kernel_rfl) (by kernel_rfl) (by omega) (by omega) (by omega) w) ?_
    refine sem_take 0 [] 4 18 58 (Instr.loadAt 5 (.pointer (some ⟨g2, o2 + Int.toNat (4 * ((i : Nat) : Int)), none⟩))) (.int .u8 (xs2.getD (Int.toNat (4 * ((i : Nat) : Int))) 0)) (by kernel_rfl) (pok_then (pok_blk (pok_then (pok_then (pok_blk (pok_then pok_body)))))) (by kernel_rfl) rfl (by kernel_rfl) (by kernel_rfl) (fun w hT => run_load1 (by kernel_rfl) (Rd.cell (hT 5 _ rfl) (Int.toNat (4 * ((i : Nat) : Int))) _ (ivals_get (by omega)))) ?_
    refine takes 0 [] [(5, 0)] 17 [5, 4, 3, 2, 21, 20, 14, 13, 7, 6, 1, 0] [(2, .slice A2 n2 cap2), (3, .pointer (some ⟨b2, 0, none⟩)), (4, .pointer (some ⟨b3, 0, none⟩)), (6, .pointer (some ⟨b4, 0, none⟩)), (9, .int .i64 (4 * (areaI a b c d))), (10, .slice A10 n cp10), (11, .int .i64 (c - a)), (12, .int .i64 ((i : Nat) : Int)), (59, .int .i64 (IntKind.i64.wrap (xs2.getD (Int.toNat (4 * ((i : Nat) : Int))) 0))), (60, .slice A2 n2 cap2), (61, .int .i64 ((i : Nat) : Int)), (67, .slice A2 n2 cap2), (68, .int .i64 ((i : Nat) : Int)), (74, .slice A2 n2 cap2), (75, .int .i64 ((i : Nat) : Int))] (by kernel_rfl) (pok_then (pok_blk (pok_then (pok_then (pok_blk (pok_then pok_body)))))) (by kernel_rfl) rfl rfl (by kernel_rfl) (by kernel_rfl) ?_
    refine cont_recast 59 (.int .i64 (IntKind.i64.wrap (xs2.getD (Int.toNat (4 * ((i : Nat) : Int))) 0))) (.int .i64 (xs2.getD (Int.toNat (4 * ((i : Nat) : Int))) 0)) rfl (wrapI (by omega) (by omega)) ?_
    refine takes 0 [] [(8, 0)] 16 [8, 5, 4, 3, 2, 21, 20, 14, 13, 7, 6, 1, 0] [(2, .slice A2 n2 cap2), (3, .pointer (some ⟨b2, 0, none⟩)), (4, .pointer (some ⟨b3, 0, none⟩)), (6, .pointer (some ⟨b4, 0, none⟩)), (9, .int .i64 (4 * (areaI a b c d))), (10, .slice A10 n cp10), (11, .int .i64 (c - a)), (12, .int .i64 ((i : Nat) : Int)), (59, .int .i64 (xs2.getD (Int.toNat (4 * ((i : Nat) : Int))) 0)), (60, .slice A2 n2 cap2), (62, .int .i64 (IntKind.i64.wrap (4 * ((i : Nat) : Int)))), (67, .slice A2 n2 cap2), (68, .int .i64 ((i : Nat) : Int)), (74, .slice A2 n2 cap2), (75, .int .i64 ((i : Nat) : Int))] (by kernel_rfl) (pok_then (pok_blk (pok_then (pok_then (pok_blk (pok_then pok_body)))))) (by kernel_rfl) rfl rfl (by kernel_rfl) (by kernel_rfl) ?_
    refine cont_recast 62 (.int .i64 (IntKind.i64.wrap (4 * ((i : Nat) : Int)))) (.int .i64 (4 * ((i : Nat) : Int))) rfl (wrapI (by omega) (by omega)) ?_
    refine takes 0 [] [(9, 0)] 15 [9, 8, 5, 4, 3, 2, 21, 20, 14, 13, 7, 6, 1, 0] [(2, .slice A2 n2 cap2), (3, .pointer (some ⟨b2, 0, none⟩)), (4, .pointer (some ⟨b3, 0, none⟩)), (6, .pointer (some ⟨b4, 0, none⟩)), (9, .int .i64 (4 * (areaI a b c d))), (10, .slice A10 n cp10), (11, .int .i64 (c - a)), (12, .int .i64 ((i : Nat) : Int)), (59, .int .i64 (xs2.getD (Int.toNat (4 * ((i : Nat) : Int))) 0)), (60, .slice A2 n2 cap2), (63, .int .i64 (IntKind.i64.wrap ((4 * ((i : Nat) : Int)) + 1))), (67, .slice A2 n2 cap2), (68, .int .i64 ((i : Nat) : Int)), (74, .slice A2 n2 cap2), (75, .int .i64 ((i : Nat) : Int))] (by kernel_rfl) (pok_then (pok_blk (pok_then (pok_then (pok_blk (pok_then pok_body)))))) (by kernel_rfl) rfl rfl (by kernel_rfl) (by kernel_rfl) ?_
    refine cont_recast 63 (.int .i64 (IntKind.i64.wrap ((4 * ((i : Nat) : Int)) + 1))) (.int .i64 ((4 * ((i : Nat) : Int)) + 1)) rfl (wrapI (by omega) (by omega)) ?_
    refine cont_recast 60 (.slice A2 n2 cap2) (.slice (some ⟨g2, o2, none⟩) n2 cap2) rfl (by rw [hl1_a (by omega)]) ?_
    refine sem_take 0 [] 10 14 64 (Instr.indexAt 43 (.slice (some ⟨g2, o2, none⟩) n2 cap2) (.int .i64 ((4 * ((i : Nat) : Int)) + 1))) (.pointer (some ⟨g2, o2 + Int.toNat ((4 * ((i : Nat) : Int)) + 1), none⟩)) (by kernel_rfl) (pok_then (pok_blk (pok_then (pok_then (pok_blk (pok_then pok_body)))))) (by kernel_rfl) rfl (by kernel_rfl) (by kernel_rfl) (fun w hT => run_indexAt (e := 5) (sz := 1) _ (by kernel_rfl) (by kernel_rfl) (by omega) (by omega) (by omega) w) ?_
    refine sem_take 0 [] 11 13 65 (Instr.loadAt 5 (.pointer (some ⟨g2, o2 + Int.toNat ((4 * ((i : Nat) : Int)) + 1), none⟩))) (.int .u8 (xs2.getD (Int.toNat ((4 * ((i : Nat) : Int)) + 1)) 0)) (by kernel_rfl) (pok_then (pok_blk (pok_then (pok_then (pok_blk (pok_then pok_body)))))) (by kernel_rfl) rfl (by kernel_rfl) (by kernel_rfl) (fun w hT => run_load1 (by kernel_rfl) (Rd.cell (hT 5 _ rfl) (Int.toNat ((4 * ((i : Nat) : Int)) + 1)) _ (ivals_get (by omega)))) ?_
    refine takes 0 [] [(12, 0)] 12 [12, 11, 10, 9, 8, 5, 4, 3, 2, 21, 20, 14, 13, 7, 6, 1, 0] [(2, .slice A2 n2 cap2), (3, .pointer (some ⟨b2, 0, none⟩)), (4, .pointer (some ⟨b3, 0, none⟩)), (6, .pointer (some ⟨b4, 0, none⟩)), (9, .int .i64 (4 * (areaI a b c d))), (10, .slice A10 n cp10), (11, .int .i64 (c - a)), (12, .int .i64 ((i : Nat) : Int)), (59, .int .i64 (xs2.getD (Int.toNat (4 * ((i : Nat) : Int))) 0)), (66, .int .i64 (IntKind.i64.wrap (xs2.getD (Int.toNat ((4 * ((i : Nat) : Int)) + 1)) 0))), (67, .slice A2 n2 cap2), (68, .int .i64 ((i : Nat) : Int)), (74, .slice A2 n2 cap2), (75, .int .i64 ((i : Nat) : Int))] (by kernel_rfl) (pok_then (pok_blk (pok_then (pok_then (pok_blk (pok_then pok_body)))))) (by kernel_rfl) rfl rfl (by kernel_rfl) (by kernel_rfl) ?_
    refine cont_recast 66 (.int .i64 (IntKind.i64.wrap (xs2.getD (Int.toNat ((4 * ((i : Nat) : Int)) + 1)) 0))) (.int .i64 (xs2.getD (Int.toNat ((4 * ((i : Nat) : Int)) + 1)) 0)) rfl (wrapI (by omega) (by omega)) ?_
    refine takes 0 [] [(15, 0)] 11 [15, 12, 11, 10, 9, 8, 5, 4, 3, 2, 21, 20, 14, 13, 7, 6, 1, 0] [(2, .slice A2 n2 cap2), (3, .pointer (some ⟨b2, 0, none⟩)), (4, .pointer (some ⟨b3, 0, none⟩)), (6, .pointer (some ⟨b4, 0, none⟩)), (9, .int .i64 (4 * (areaI a b c d))), (10, .slice A10 n cp10), (11, .int .i64 (c - a)), (12, .int .i64 ((i : Nat) : Int)), (59, .int .i64 (xs2.getD (Int.toNat (4 * ((i : Nat) : Int))) 0)), (66, .int .i64 (xs2.getD (Int.toNat ((4 * ((i : Nat) : Int)) + 1)) 0)), (67, .slice A2 n2 cap2), (69, .int .i64 (IntKind.i64.wrap (4 * ((i : Nat) : Int)))), (74, .slice A2 n2 cap2), (75, .int .i64 ((i : Nat) : Int))] (by kernel_rfl) (pok_then (pok_blk (pok_then (pok_then (pok_blk (pok_then pok_body)))))) (by kernel_rfl) rfl rfl (by kernel_rfl) (by kernel_rfl) ?_
    refine cont_recast 69 (.int .i64 (IntKind.i64.wrap (4 * ((i : Nat) : Int)))) (.int .i64 (4 * ((i : Nat) : Int))) rfl (wrapI (by omega) (by omega)) ?_
    refine takes 0 [] [(16, 0)] 10 [16, 15, 12, 11, 10, 9, 8, 5, 4, 3, 2, 21, 20, 14, 13, 7, 6, 1, 0] [(2, .slice A2 n2 cap2), (3, .pointer (some ⟨b2, 0, none⟩)), (4, .pointer (some ⟨b3, 0, none⟩)), (6, .pointer (some ⟨b4, 0, none⟩)), (9, .int .i64 (4 * (areaI a b c d))), (10, .slice A10 n cp10), (11, .int .i64 (c - a)), (12, .int .i64 ((i : Nat) : Int)), (59, .int .i64 (xs2.getD (Int.toNat (4 * ((i : Nat) : Int))) 0)), (66, .int .i64 (xs2.getD (Int.toNat ((4 * ((i : Nat) : Int)) + 1)) 0)), (67, .slice A2 n2 cap2), (70, .int .i64 (IntKind.i64.wrap ((4 * ((i : Nat) : Int)) + 2))), (74, .slice A2 n2 cap2), (75, .int .i64 ((i : Nat) : Int))] (by kernel_rfl) (pok_then (pok_blk (pok_then (pok_then (pok_blk (pok_then pok_body)))))) (by kernel_rfl) rfl rfl (by kernel_rfl) (by kernel_rfl) ?_
    refine cont_recast 70 (.int .i64 (IntKind.i64.wrap ((4 * ((i : Nat) : Int)) + 2))) (.int .i64 ((4 * ((i : Nat) : Int)) + 2)) rfl (wrapI (by omega) (by omega)) ?_
    refine cont_recast 67 (.slice A2 n2 cap2) (.slice (some ⟨g2, o2, none⟩) n2 cap2) rfl (by rw [hl1_a (by omega)]) ?_
    refine sem_take 0 [] 17 9 71 (Instr.indexAt 43 (.slice (some ⟨g2, o2, none⟩) n2 cap2) (.int .i64 ((4 * ((i : Nat) : Int)) + 2))) (.pointer (some ⟨g2, o2 + Int.toNat ((4 * ((i : Nat) : Int)) + 2), none⟩)) (by kernel_rfl) (pok_then (pok_blk (pok_then (pok_then (pok_blk (pok_then pok_body)))))) (by kernel_rfl) rfl (by kernel_rfl) (by kernel_rfl) (fun w hT => run_indexAt (e := 5) (sz := 1) _ (by kernel_rfl) (by kernel_rfl) (by omega) (by omega) (by omega) w) ?_
    refine sem_take 0 [] 18 8 72 (Instr.loadAt 5 (.pointer (some ⟨g2, o2 + Int.toNat ((4 * ((i : Nat) : Int)) + 2), none⟩))) (.int .u8 (xs2.getD (Int.toNat ((4 * ((i : Nat) : Int)) + 2)) 0)) (by kernel_rfl) (pok_then (pok_blk (pok_then (pok_then (pok_blk (pok_then pok_body)))))) (by kernel_rfl) rfl (by kernel_rfl) (by kernel_rfl) (fun w hT => run_load1 (by kernel_rfl) (Rd.cell (hT 5 _ rfl) (Int.toNat ((4 * ((i : Nat) : Int)) + 2)) _ (ivals_get (by omega)))) ?_
    refine takes 0 [] [(19, 0)] 7 [19, 18, 17, 16, 15, 12, 11, 10, 9, 8, 5, 4, 3, 2, 21, 20, 14, 13, 7, 6, 1, 0] [(2, .slice A2 n2 cap2), (3, .pointer (some ⟨b2, 0, none⟩)), (4, .pointer (some ⟨b3, 0, none⟩)), (6, .pointer (some ⟨b4, 0, none⟩)), (9, .int .i64 (4 * (areaI a b c d))), (10, .slice A10 n cp10), (11, .int .i64 (c - a)), (12, .int .i64 ((i : Nat) : Int)), (59, .int .i64 (xs2.getD (Int.toNat (4 * ((i : Nat) : Int))) 0)), (66, .int .i64 (xs2.getD (Int.toNat ((4 * ((i : Nat) : Int)) + 1)) 0)), (73, .int .i64 (IntKind.i64.wrap (xs2.getD (Int.toNat ((4 * ((i : Nat) : Int)) + 2)) 0))), (74, .slice A2 n2 cap2), (75, .int .i64 ((i : Nat) : Int))] (by kernel_rfl) (pok_then (pok_blk (pok_then (pok_then (pok_blk (pok_then pok_body)))))) (by kernel_rfl) rfl rfl (by kernel_rfl) (by kernel_rfl) ?_
    refine cont_recast 73 (.int .i64 (IntKind.i64.wrap (xs2.getD (Int.toNat ((4 * ((i : Nat) : Int)) + 2)) 0))) (.int .i64 (xs2.getD (Int.toNat ((4 * ((i : Nat) : Int)) + 2)) 0)) rfl (wrapI (by omega) (by omega)) ?_
    refine takes 0 [] [(22, 0)] 6 [22, 19, 18, 17, 16, 15, 12, 11, 10, 9, 8, 5, 4, 3, 2, 21, 20, 14, 13, 7, 6, 1, 0] [(2, .slice A2 n2 cap2), (3, .pointer (some ⟨b2, 0, none⟩)), (4, .pointer (some ⟨b3, 0, none⟩)), (6, .pointer (some ⟨b4, 0, none⟩)), (9, .int .i64 (4 * (areaI a b c d))), (10, .slice A10 n cp10), (11, .int .i64 (c - a)), (12, .int .i64 ((i : Nat) : Int)), (59, .int .i64 (xs2.getD (Int.toNat (4 * ((i : Nat) : Int))) 0)), (66, .int .i64 (xs2.getD (Int.toNat ((4 * ((i : Nat) : Int)) + 1)) 0)), (73, .int .i64 (xs2.getD (Int.toNat ((4 * ((i : Nat) : Int)) + 2)) 0)), (74, .slice A2 n2 cap2), (76, .int .i64 (IntKind.i64.wrap (4 * ((i : Nat) : Int))))] (by kernel_rfl) (pok_then (pok_blk (pok_then (pok_then (pok_blk (pok_then pok_body)))))) (by kernel_rfl) rfl rfl (by kernel_rfl) (by kernel_rfl) ?_
    refine cont_recast 76 (.int .i64 (IntKind.i64.wrap (4 * ((i : Nat) : Int)))) (.int .i64 (4 * ((i : Nat) : Int))) rfl (wrapI (by omega) (by omega)) ?_
    refine takes 0 [] [(23, 0)] 5 [23, 22, 19, 18, 17, 16, 15, 12, 11, 10, 9, 8, 5, 4, 3, 2, 21, 20, 14, 13, 7, 6, 1, 0] [(2, .slice A2 n2 cap2), (3, .pointer (some ⟨b2, 0, none⟩)), (4, .pointer (some ⟨b3, 0, none⟩)), (6, .pointer (some ⟨b4, 0, none⟩)), (9, .int .i64 (4 * (areaI a b c d))), (10, .slice A10 n cp10), (11, .int .i64 (c - a)), (12, .int .i64 ((i : Nat) : Int)), (59, .int .i64 (xs2.getD (Int.toNat (4 * ((i : Nat) : Int))) 0)), (66, .int .i64 (xs2.getD (Int.toNat ((4 * ((i : Nat) : Int)) + 1)) 0)), (73, .int .i64 (xs2.getD (Int.toNat ((4 * ((i : Nat) : Int)) + 2)) 0)), (74, .slice A2 n2 cap2), (77, .int .i64 (IntKind.i64.wrap ((4 * ((i : Nat) : Int)) + 3)))] (by kernel_rfl) (pok_then (pok_blk (pok_then (pok_then (pok_blk (pok_then pok_body)))))) (by kernel_rfl) rfl rfl (by kernel_rfl) (by kernel_rfl) ?_
    refine cont_recast 77 (.int .i64 (IntKind.i64.wrap ((4 * ((i : Nat) : Int)) + 3))) (.int .i64 ((4 * ((i : Nat) : Int)) + 3)) rfl (wrapI (by omega) (by omega)) ?_
    refine cont_recast 74 (.slice A2 n2 cap2) (.slice (some ⟨g2, o2, none⟩) n2 cap2) rfl (by rw [hl1_a (by omega)]) ?_
    refine sem_take 0 [] 24 4 78 (Instr.indexAt 43 (.slice (some ⟨g2, o2, none⟩) n2 cap2) (.int .i64 ((4 * ((i : Nat) : Int)) + 3))) (.pointer (some ⟨g2, o2 + Int.toNat ((4 * ((i : Nat) : Int)) + 3), none⟩)) (by kernel_rfl) (pok_then (pok_blk (pok_then (pok_then (pok_blk (pok_then pok_body)))))) (by kernel_rfl) rfl (by kernel_rfl) (by kernel_rfl) (fun w hT => run_indexAt (e := 5) (sz := 1) _ (by kernel_rfl) (by kernel_rfl) (by omega) (by omega) (by omega) w) ?_
    refine sem_take 0 [] 25 3 79 (Instr.loadAt 5 (.pointer (some ⟨g2, o2 + Int.toNat ((4 * ((i : Nat) : Int)) + 3), none⟩))) (.int .u8 (xs2.getD (Int.toNat ((4 * ((i : Nat) : Int)) + 3)) 0)) (by kernel_rfl) (pok_then (pok_blk (pok_then (pok_then (pok_blk (pok_then pok_body)))))) (by kernel_rfl) rfl (by kernel_rfl) (by kernel_rfl) (fun w hT => run_load1 (by kernel_rfl) (Rd.cell (hT 5 _ rfl) (Int.toNat ((4 * ((i : Nat) : Int)) + 3)) _ (ivals_get (by omega)))) ?_
    refine takes 0 [] [(26, 0)] 2 [26, 25, 24, 23, 22, 19, 18, 17, 16, 15, 12, 11, 10, 9, 8, 5, 4, 3, 2, 21, 20, 14, 13, 7, 6, 1, 0] [(2, .slice A2 n2 cap2), (3, .pointer (some ⟨b2, 0, none⟩)), (4, .pointer (some ⟨b3, 0, none⟩)), (6, .pointer (some ⟨b4, 0, none⟩)), (9, .int .i64 (4 * (areaI a b c d))), (10, .slice A10 n cp10), (11, .int .i64 (c - a)), (12, .int .i64 ((i : Nat) : Int)), (59, .int .i64 (xs2.getD (Int.toNat (4 * ((i : Nat) : Int))) 0)), (66, .int .i64 (xs2.getD (Int.toNat ((4 * ((i : Nat) : Int)) + 1)) 0)), (73, .int .i64 (xs2.getD (Int.toNat ((4 * ((i : Nat) : Int)) + 2)) 0)), (80, .int .i64 (IntKind.i64.wrap (xs2.getD (Int.toNat ((4 * ((i : Nat) : Int)) + 3)) 0)))] (by kernel_rfl) (pok_then (pok_blk (pok_then (pok_then (pok_blk (pok_then pok_body)))))) (by kernel_rfl) rfl rfl (by kernel_rfl) (by kernel_rfl) ?_
    refine cont_recast 80 (.int .i64 (IntKind.i64.wrap (xs2.getD (Int.toNat ((4 * ((i : Nat) : Int)) + 3)) 0))) (.int .i64 (xs2.getD (Int.toNat ((4 * ((i : Nat) : Int)) + 3)) 0)) rfl (wrapI (by omega) (by omega)) ?_
    refine drawn_one 27 1 rfl (by kernel_rfl) ?_
    refine call_pure (d := 81) (.int .u32 (mkC (xs2.getD (Int.toNat (4 * ((i : Nat) : Int))) 0) (xs2.getD (Int.toNat ((4 * ((i : Nat) : Int)) + 1)) 0) (xs2.getD (Int.toNat ((4 * ((i : Nat) : Int)) + 2)) 0) (xs2.getD (Int.toNat ((4 * ((i : Nat) : Int)) + 3)) 0))) (by kernel_rfl) (fun w hT => refMake (xs2.getD (Int.toNat (4 * ((i : Nat) : Int))) 0) (xs2.getD (Int.toNat ((4 * ((i : Nat) : Int)) + 1)) 0) (xs2.getD (Int.toNat ((4 * ((i : Nat) : Int)) + 2)) 0) (xs2.getD (Int.toNat ((4 * ((i : Nat) : Int)) + 3)) 0) w) ?_
    refine cont_recast 81 (.int .u32 (mkC (xs2.getD (Int.toNat (4 * ((i : Nat) : Int))) 0) (xs2.getD (Int.toNat ((4 * ((i : Nat) : Int)) + 1)) 0) (xs2.getD (Int.toNat ((4 * ((i : Nat) : Int)) + 2)) 0) (xs2.getD (Int.toNat ((4 * ((i : Nat) : Int)) + 3)) 0))) (.int .u32 (mkB xs2 i)) rfl (congrArg (Value.int .u32) (by unfold mkB; congr 1 <;> (congr 1; omega))) ?_
    refine drawn_next 0 [] (by kernel_rfl) ?_
    refine takes 0 [] [(28, 0)] 0 [28, 27, 26, 25, 24, 23, 22, 19, 18, 17, 16, 15, 12, 11, 10, 9, 8, 5, 4, 3, 2, 21, 20, 14, 13, 7, 6, 1, 0] [(2, .slice A2 n2 cap2), (3, .pointer (some ⟨b2, 0, none⟩)), (4, .pointer (some ⟨b3, 0, none⟩)), (6, .pointer (some ⟨b4, 0, none⟩)), (9, .int .i64 (4 * (areaI a b c d))), (10, .slice A10 n cp10), (11, .int .i64 (c - a)), (12, .int .i64 ((i : Nat) : Int)), (13, .int .u32 (mkB xs2 i))] (by kernel_rfl) (pok_then (pok_blk (pok_then (pok_then (pok_blk (pok_then pok_body)))))) (by kernel_rfl) rfl rfl (by kernel_rfl) (by kernel_rfl) ?_
    refine drawn_done (by kernel_rfl) ?_
    refine then_normal ?_
    refine cont_seq ?_
    refine cont_region 3 rfl ?_
    refine bS [0] 1 2 [(2, .slice A2 n2 cap2), (3, .pointer (some ⟨b2, 0, none⟩)), (4, .pointer (some ⟨b3, 0, none⟩)), (6, .pointer (some ⟨b4, 0, none⟩)), (9, .int .i64 (4 * (areaI a b c d))), (10, .slice A10 n cp10), (11, .int .i64 (c - a)), (12, .int .i64 ((i : Nat) : Int)), (13, .int .u32 (mkB xs2 i)), (82, .int .u32 (mkB xs2 i))] ?_
    refine pl_step 2 1 rfl rfl ?_
    refine call_pure (d := 83) (.bool (mayB (mkB xs2 i))) (by kernel_rfl) (fun w hT => refMay (mkB xs2 i) w (by omega) (by omega)) ?_
    refine bS [0] 3 0 [(2, .slice A2 n2 cap2), (3, .pointer (some ⟨b2, 0, none⟩)), (4, .pointer (some ⟨b3, 0, none⟩)), (6, .pointer (some ⟨b4, 0, none⟩)), (9, .int .i64 (4 * (areaI a b c d))), (10, .slice A10 n cp10), (11, .int .i64 (c - a)), (12, .int .i64 ((i : Nat) : Int)), (13, .int .u32 (mkB xs2 i)), (14, .bool (mayB (mkB xs2 i)))] ?_
    refine cont_done ?_
    refine then_normal ?_
    refine cont_seq ?_
    refine cont_seq ?_
    refine cont_region 2 rfl ?_
    refine bS [0, 0] 2 0 [(2, .slice A2 n2 cap2), (3, .pointer (some ⟨b2, 0, none⟩)), (4, .pointer (some ⟨b3, 0, none⟩)), (6, .pointer (some ⟨b4, 0, none⟩)), (9, .int .i64 (4 * (areaI a b c d))), (10, .slice A10 n cp10), (11, .int .i64 (c - a)), (12, .int .i64 ((i : Nat) : Int)), (13, .int .u32 (mkB xs2 i)), (85, .bool (!(mayB (mkB xs2 i))))] ?_
    refine cont_done ?_
    refine then_normal ?_
    refine cont_split 85 (!(mayB (mkB xs2 i))) rfl (fun c15_ => ?_) (fun c15_ => ?_)
    ·
      replace c15_ : (mayB (mkB xs2 i)) = false := by simpa using c15_
      have hmy : mayB (mkB xs2 i) = false := c15_
      refine cont_true rfl ?_
      refine cont_seq ?_
      refine cont_region 3 rfl ?_
      refine batch0 [3, 1, 0] 3 0 [(6, .pointer (some ⟨b4, 0, none⟩)), (7, .int .i64 1)] [.gen (rowE (A10) g10 n cp10 28 1 (ivals .u32 (wrS W a b wn xs2 px i)) true), .cells b4 [.int .i64 W, .int .i64 H, .slice (some ⟨r, 0, none⟩) n cap] 37 true, .cells b3 [.int .i64 a, .int .i64 b, .int .i64 c, .int .i64 d] 32 true, .cells b2 [.int .i64 W, .int .i64 H, .slice (some ⟨r, 0, none⟩) n cap] 37 true, .gen (rdE (some ⟨r, 0, none⟩) r 0 n 1 (ivals .u32 px)), .gen (rdE (A2) g2 o2 n2 1 (ivals .u8 xs2))] rfl rfl (by kernel_rfl) (by kernel_rfl) ?_
      refine cont_forget 2 rfl ?_
      refine cont_forget 2 rfl ?_
      refine cont_done ?_
      refine then_normal ?_
      refine cont_ret ?_
      refine then_ret ?_
      refine blk_ret ?_
      refine then_ret ?_
      refine then_ret ?_
      refine blk_ret ?_
      refine then_ret ?_
      refine ret_two (.inl rfl) rfl 1 0 (.agg #[.int .i64 W, .int .i64 H, .slice (some ⟨r, 0, none⟩) n cap]) (.int .i64 1) (by kernel_rfl) (by kernel_rfl) (by kernel_rfl) (by kernel_rfl) (fun w hT => ?_)
      have hE2 : wrE W H a b c d xs2 = 1 := wrE_bad hg (by omega) (N := N) (by omega) (k := i) (by omega) hmy
      rw [hE] at hE2; cases hE2
    replace c15_ : (mayB (mkB xs2 i)) = true := by simpa using c15_
    have hmy : mayB (mkB xs2 i) = true := c15_
    refine cont_false rfl ?_
    refine cont_skip ?_
    refine then_normal ?_
    obtain ⟨hq0, hq1, hq2, hq3⟩ := row_of (N := N) (i := i) hg1 hg2 (by omega) (by omega)
    obtain ⟨hpl1, hpl2, hpl3⟩ := hok.place (x := a + (i : Int) % (c - a)) (y := b + (i : Int) / (c - a)) (by omega) (by omega) (by omega) (by omega)
    refine drawn_enter 20 [0] rfl (by kernel_rfl) ?_
    refine takes 0 [0] [(0, 0), (1, 0), (3, 0), (4, 0), (7, 0), (10, 0), (13, 0), (14, 0), (17, 0), (2, 2)] 10 [2, 17, 14, 13, 10, 7, 4, 3, 1, 0] [(2, .slice A2 n2 cap2), (3, .pointer (some ⟨b2, 0, none⟩)), (4, .pointer (some ⟨b3, 0, none⟩)), (6, .pointer (some ⟨b4, 0, none⟩)), (9, .int .i64 (4 * (areaI a b c d))), (10, .slice A10 n cp10), (11, .int .i64 (c - a)), (12, .int .i64 ((i : Nat) : Int)), (87, .slice A10 n cp10), (89, .int .i64 b), (90, .int .i64 ((i : Nat) : Int)), (91, .int .i64 (c - a)), (94, .pointer (some ⟨b2, 0, none⟩)), (97, .pointer (some ⟨b3, 0, none⟩)), (100, .int .i64 ((i : Nat) : Int)), (101, .int .i64 (c - a)), (104, .int .u32 (mkB xs2 i))] (by kernel_rfl) (pok_blk (pok_then (pok_then (pok_blk (pok_then pok_body))))) (by kernel_rfl) rfl rfl (by kernel_rfl) (by kernel_rfl) ?_
    refine sem_take 0 [0] 5 9 92 (bopS .quo 3 (.tmp 90) (.tmp 91) (.int .i64 ((i : Nat) : Int)) (.int .i64 (c - a))) (.int .i64 (IntKind.i64.wrap (((i : Nat) : Int).tdiv (c - a)))) (by kernel_rfl) (pok_blk (pok_then (pok_then (pok_blk (pok_then pok_body))))) (by kernel_rfl) rfl (by kernel_rfl) (by kernel_rfl) (fun w hT => run_quo (by omega) w) ?_
    refine cont_recast 92 (.int .i64 (IntKind.i64.wrap (((i : Nat) : Int).tdiv (c - a)))) (.int .i64 (((i : Nat) : Int) / (c - a))) rfl (tdivI (by omega) (by omega) (by omega)) ?_
    refine takes 0 [0] [(6, 0)] 8 [6, 5, 2, 17, 14, 13, 10, 7, 4, 3, 1, 0] [(2, .slice A2 n2 cap2), (3, .pointer (some ⟨b2, 0, none⟩)), (4, .pointer (some ⟨b3, 0, none⟩)), (6, .pointer (some ⟨b4, 0, none⟩)), (9, .int .i64 (4 * (areaI a b c d))), (10, .slice A10 n cp10), (11, .int .i64 (c - a)), (12, .int .i64 ((i : Nat) : Int)), (87, .slice A10 n cp10), (93, .int .i64 (IntKind.i64.wrap (b + (((i : Nat) : Int) / (c - a))))), (94, .pointer (some ⟨b2, 0, none⟩)), (97, .pointer (some ⟨b3, 0, none⟩)), (100, .int .i64 ((i : Nat) : Int)), (101, .int .i64 (c - a)), (104, .int .u32 (mkB xs2 i))] (by kernel_rfl) (pok_blk (pok_then (pok_then (pok_blk (pok_then pok_body))))) (by kernel_rfl) rfl rfl (by kernel_rfl) (by kernel_rfl) ?_
    refine cont_recast 93 (.int .i64 (IntKind.i64.wrap (b + (((i : Nat) : Int) / (c - a))))) (.int .i64 (b + (((i : Nat) : Int) / (c - a)))) rfl (wrapI (by omega) (by omega)) ?_
    refine takes 0 [0] [(8, 3), (11, 2)] 6 [11, 8, 6, 5, 2, 17, 14, 13, 10, 7, 4, 3, 1, 0] [(2, .slice A2 n2 cap2), (3, .pointer (some ⟨b2, 0, none⟩)), (4, .pointer (some ⟨b3, 0, none⟩)), (6, .pointer (some ⟨b4, 0, none⟩)), (9, .int .i64 (4 * (areaI a b c d))), (10, .slice A10 n cp10), (11, .int .i64 (c - a)), (12, .int .i64 ((i : Nat) : Int)), (87, .slice A10 n cp10), (93, .int .i64 (b + (((i : Nat) : Int) / (c - a)))), (95, .int .i64 W), (98, .int .i64 a), (100, .int .i64 ((i : Nat) : Int)), (101, .int .i64 (c - a)), (104, .int .u32 (mkB xs2 i))] (by kernel_rfl) (pok_blk (pok_then (pok_then (pok_blk (pok_then pok_body))))) (by kernel_rfl) rfl rfl (by kernel_rfl) (by kernel_rfl) ?_
    refine takes 0 [0] [(9, 0)] 5 [9, 11, 8, 6, 5, 2, 17, 14, 13, 10, 7, 4, 3, 1, 0] [(2, .slice A2 n2 cap2), (3, .pointer (some ⟨b2, 0, none⟩)), (4, .pointer (some ⟨b3, 0, none⟩)), (6, .pointer (some ⟨b4, 0, none⟩)), (9, .int .i64 (4 * (areaI a b c d))), (10, .slice A10 n cp10), (11, .int .i64 (c - a)), (12, .int .i64 ((i : Nat) : Int)), (87, .slice A10 n cp10), (96, .int .i64 (IntKind.i64.wrap ((b + (((i : Nat) : Int) / (c - a))) * W))), (98, .int .i64 a), (100, .int .i64 ((i : Nat) : Int)), (101, .int .i64 (c - a)), (104, .int .u32 (mkB xs2 i))] (by kernel_rfl) (pok_blk (pok_then (pok_then (pok_blk (pok_then pok_body))))) (by kernel_rfl) rfl rfl (by kernel_rfl) (by kernel_rfl) ?_
    refine cont_recast 96 (.int .i64 (IntKind.i64.wrap ((b + (((i : Nat) : Int) / (c - a))) * W))) (.int .i64 ((b + (((i : Nat) : Int) / (c - a))) * W)) rfl (wrapI (by omega) (by omega)) ?_
    refine takes 0 [0] [(12, 0)] 4 [12, 9, 11, 8, 6, 5, 2, 17, 14, 13, 10, 7, 4, 3, 1, 0] [(2, .slice A2 n2 cap2), (3, .pointer (some ⟨b2, 0, none⟩)), (4, .pointer (some ⟨b3, 0, none⟩)), (6, .pointer (some ⟨b4, 0, none⟩)), (9, .int .i64 (4 * (areaI a b c d))), (10, .slice A10 n cp10), (11, .int .i64 (c - a)), (12, .int .i64 ((i : Nat) : Int)), (87, .slice A10 n cp10), (99, .int .i64 (IntKind.i64.wrap (((b + (((i : Nat) : Int) / (c - a))) * W) + a))), (100, .int .i64 ((i : Nat) : Int)), (101, .int .i64 (c - a)), (104, .int .u32 (mkB xs2 i))] (by kernel_rfl) (pok_blk (pok_then (pok_then (pok_blk (pok_then pok_body))))) (by kernel_rfl) rfl rfl (by kernel_rfl) (by kernel_rfl) ?_
    refine cont_recast 99 (.int .i64 (IntKind.i64.wrap (((b + (((i : Nat) : Int) / (c - a))) * W) + a))) (.int .i64 (((b + (((i : Nat) : Int) / (c - a))) * W) + a)) rfl (wrapI (by omega) (by omega)) ?_
    refine sem_take 0 [0] 15 3 102 (bopS .rem 3 (.tmp 100) (.tmp 101) (.int .i64 ((i : Nat) : Int)) (.int .i64 (c - a))) (.int .i64 (((i : Nat) : Int).tmod (c - a))) (by kernel_rfl) (pok_blk (pok_then (pok_then (pok_blk (pok_then pok_body))))) (by kernel_rfl) rfl (by kernel_rfl) (by kernel_rfl) (fun w hT => run_rem (by omega) w) ?_
    refine cont_recast 102 (.int .i64 (((i : Nat) : Int).tmod (c - a))) (.int .i64 (((i : Nat) : Int) % (c - a))) rfl (tmodI (by omega)) ?_
    refine takes 0 [0] [(16, 0)] 2 [16, 15, 12, 9, 11, 8, 6, 5, 2, 17, 14, 13, 10, 7, 4, 3, 1, 0] [(2, .slice A2 n2 cap2), (3, .pointer (some ⟨b2, 0, none⟩)), (4, .pointer (some ⟨b3, 0, none⟩)), (6, .pointer (some ⟨b4, 0, none⟩)), (9, .int .i64 (4 * (areaI a b c d))), (10, .slice A10 n cp10), (11, .int .i64 (c - a)), (12, .int .i64 ((i : Nat) : Int)), (87, .slice A10 n cp10), (103, .int .i64 (IntKind.i64.wrap ((((b + (((i : Nat) : Int) / (c - a))) * W) + a) + (((i : Nat) : Int) % (c - a))))), (104, .int .u32 (mkB xs2 i))] (by kernel_rfl) (pok_blk (pok_then (pok_then (pok_blk (pok_then pok_body))))) (by kernel_rfl) rfl rfl (by kernel_rfl) (by kernel_rfl) ?_
    refine cont_recast 103 (.int .i64 (IntKind.i64.wrap ((((b + (((i : Nat) : Int) / (c - a))) * W) + a) + (((i : Nat) : Int) % (c - a))))) (.int .i64 ((((b + (((i : Nat) : Int) / (c - a))) * W) + a) + (((i : Nat) : Int) % (c - a)))) rfl (wrapI (by omega) (by omega)) ?_
    refine cont_recast 87 (.slice A10 n cp10) (.slice (some ⟨g10, 0, none⟩) n cp10) rfl (by rw [hr12_a (by omega)]) ?_
    refine sem_take 0 [0] 18 1 105 (Instr.indexAt 35 (.slice (some ⟨g10, 0, none⟩) n cp10) (.int .i64 ((((b + (((i : Nat) : Int) / (c - a))) * W) + a) + (((i : Nat) : Int) % (c - a))))) (.pointer (some ⟨g10, Int.toNat ((((b + (((i : Nat) : Int) / (c - a))) * W) + a) + (((i : Nat) : Int) % (c - a))), none⟩)) (by kernel_rfl) (pok_blk (pok_then (pok_then (pok_blk (pok_then pok_body))))) (by kernel_rfl) rfl (by kernel_rfl) (by kernel_rfl) (fun w hT => run_indexAt (e := 28) (sz := 1) _ (by kernel_rfl) (by kernel_rfl) (by omega) (by omega) (by omega) w) ?_
    refine drawn_one 19 0 rfl (by kernel_rfl) ?_
    refine sem_stepU (Instr.storeAt 28 (.pointer (some ⟨g10, Int.toNat ((((b + (((i : Nat) : Int) / (c - a))) * W) + a) + (((i : Nat) : Int) % (c - a))), none⟩)) (.int .u32 (mkB xs2 i))) (fun _ => [.gen (rowE (A10) g10 n cp10 28 1 (ivals .u32 ((wrS W a b wn xs2 px i).set (Int.toNat ((((b + (((i : Nat) : Int) / (c - a))) * W) + a) + (((i : Nat) : Int) % (c - a)))) (mkB xs2 i))) true), .cells b4 [.int .i64 0, .int .i64 0, .slice none 0 0] 37 true, .cells b3 [.int .i64 a, .int .i64 b, .int .i64 c, .int .i64 d] 32 true, .cells b2 [.int .i64 W, .int .i64 H, .slice (some ⟨r, 0, none⟩) n cap] 37 true, .gen (rdE (some ⟨r, 0, none⟩) r 0 n 1 (ivals .u32 px)), .gen (rdE (A2) g2 o2 n2 1 (ivals .u8 xs2))]) (fun _ => True) (by kernel_rfl) (fun w hT => store_row hT (i := 0) rfl (by kernel_rfl) (by omega)) (fun _ _ => ?_)
    refine drawn_next 0 [0] (by kernel_rfl) ?_
    refine drawn_done (by kernel_rfl) ?_
    refine blk_normal ?_
    refine then_normal ?_
    refine cont_region 3 rfl ?_
    refine bS [0, 0] 2 1 [(2, .slice A2 n2 cap2), (3, .pointer (some ⟨b2, 0, none⟩)), (4, .pointer (some ⟨b3, 0, none⟩)), (6, .pointer (some ⟨b4, 0, none⟩)), (9, .int .i64 (4 * (areaI a b c d))), (10, .slice A10 n cp10), (11, .int .i64 (c - a)), (53, .int .i64 (IntKind.i64.wrap (((i : Nat) : Int) + 1)))] ?_
    refine cont_recast 53 (.int .i64 (IntKind.i64.wrap (((i : Nat) : Int) + 1))) (.int .i64 (((i : Nat) : Int) + 1)) rfl (wrapI (by omega) (by omega)) ?_
    refine bS [0] 3 0 [(2, .slice A2 n2 cap2), (3, .pointer (some ⟨b2, 0, none⟩)), (4, .pointer (some ⟨b3, 0, none⟩)), (6, .pointer (some ⟨b4, 0, none⟩)), (9, .int .i64 (4 * (areaI a b c d))), (10, .slice A10 n cp10), (11, .int .i64 (c - a)), (12, .int .i64 (((i : Nat) : Int) + 1))] ?_
    refine cont_done ?_
    refine then_normal ?_
    refine cont_rowEq (k := .u32) 0 ((wrS W a b wn xs2 px i).set (Int.toNat ((((b + (((i : Nat) : Int) / (c - a))) * W) + a) + (((i : Nat) : Int) % (c - a)))) (mkB xs2 i)) (wrS W a b wn xs2 px (i + 1)) rfl (congrArg (fun z_ => (wrS W a b wn xs2 px i).set z_ (mkB xs2 i)) (wIdx_eq hwn (by omega))) ?_
    refine cont_again (i + 1) (show (i + 1) ≤ N ∧ okN xs2 (i + 1) from ⟨by omega, hokn.step hmy⟩) (show N - (i + 1) < N - i from by omega) (by kernel_rfl) (by kernel_rfl)
  replace c14_ := of_decide_eq_false c14_
  refine cont_false rfl ?_
  refine cont_exit ?_
  refine then_exit ?_
  refine then_exit ?_
  refine blk_exit ?_
  refine then_normal ?_
  refine cont_seq ?_
  refine cont_region 3 rfl ?_
  refine batch0 [0, 0, 3] 3 0 [(3, .pointer (some ⟨b2, 0, none⟩)), (6, .pointer (some ⟨b4, 0, none⟩))] [.gen (rowE (A10) g10 n cp10 28 1 (ivals .u32 (wrS W a b wn xs2 px i)) true), .cells b4 [.int .i64 0, .int .i64 0, .slice none 0 0] 37 true, .cells b3 [.int .i64 a, .int .i64 b, .int .i64 c, .int .i64 d] 32 true, .cells b2 [.int .i64 W, .int .i64 H, .slice A10 n cp10] 37 true, .gen (rdE (some ⟨r, 0, none⟩) r 0 n 1 (ivals .u32 px)), .gen (rdE (A2) g2 o2 n2 1 (ivals .u8 xs2))] rfl rfl (by kernel_rfl) (by kernel_rfl) ?_
  refine cont_forget 2 rfl ?_
  refine cont_done ?_
  refine then_normal ?_
  refine cont_seq ?_
  refine cont_region 3 rfl ?_
  refine batch0 [2, 1, 0] 3 0 [(6, .pointer (some ⟨b4, 0, none⟩)), (7, .int .i64 0)] [.gen (rowE (A10) g10 n cp10 28 1 (ivals .u32 (wrS W a b wn xs2 px i)) true), .cells b4 [.int .i64 W, .int .i64 H, .slice A10 n cp10] 37 true, .cells b2 [.int .i64 W, .int .i64 H, .slice A10 n cp10] 37 true, .gen (rdE (some ⟨r, 0, none⟩) r 0 n 1 (ivals .u32 px)), .gen (rdE (A2) g2 o2 n2 1 (ivals .u8 xs2))] rfl rfl (by kernel_rfl) (by kernel_rfl) ?_
  refine cont_forget 2 rfl ?_
  refine cont_done ?_
  refine then_normal ?_
  refine cont_ret ?_
  refine ret_two (.inl rfl) rfl 1 0 (.agg #[.int .i64 W, .int .i64 H, .slice A10 n cp10]) (.int .i64 0) (by kernel_rfl) (by kernel_rfl) (by kernel_rfl) (by kernel_rfl) (fun w hT => ?_)
  replace hT := hT.erase 3 (fun e h hw => by cases h; first | rfl | cases hw)
  replace hT := hT.erase 2 (fun e h hw => by cases h; first | rfl | cases hw)
  replace hT := hT.erase 1 (fun e h hw => by cases h; first | rfl | cases hw)
  rw [show i = xs2.length / 4 by omega, hwn, ← wrA_yes hE] at hT
  have hA := (Row.facts (hT.ok 0 _ rfl)).1 (by omega)
  subst hA
  exact ⟨_, _, rfl, hT⟩

end Go.Proofs.Ytommojgfkkoghaa
