/- Contracts of functions of the given program, printed by a program of this project. -/
import Derived.Test.YtgpcgfjfmjehgaaGreatPhL5e
import Derived.Test.YtgpcgfjfmjehgaaGreatPhDx
import Derived.Test.YtgpcgfjfmjehgaaGreatPhDd
import Derived.Test.YtgpcgfjfmjehgaaGreatProg
set_option linter.unusedVariables false
set_option linter.unusedSimpArgs false
namespace Go.Proofs.YtgpcgfjfmjehgaaGreat
open Go Go.RowKit
set_option maxRecDepth 100000
set_option maxHeartbeats 8000000

theorem lives5 (w : World) :
    Calls Tryz.prog 15 #[] w fun e w' => e = .returned (.bool true) ∧ Below w.heap.size w w' := by
 refine enter 14 [] [] Tryz.func15 rfl Tryz.ntmps15 rfl (by kernel_rfl) (Tab.start w) ?_
 refine cont_seq ?_
 refine cont_region 1 rfl ?_
 refine bS [0] 1 0 [] ?_
 refine cont_done ?_
 refine then_normal ?_
 refine cont_seq ?_
 refine cont_region 6 rfl ?_
 refine pl_step 1 5 rfl rfl ?_
 refine call_gen (d := 4) (α := Nat × Nat × Nat) (fun x_ => .tuple #[.pointer (pB x_.1), iq 0]) (fun x_ => [.cells x_.1 [iq 2, iq 2, .slice (pB x_.2.1) x_.2.2 x_.2.2] 91 true, .gen (rowE (pB x_.2.1) x_.2.1 x_.2.2 x_.2.2 35 1 (ivals .u32 (List.replicate x_.2.2 0)) true)]) (fun x_ => (x_.2.2 : Int) = 2 * 2) (by kernel_rfl) (fun w hT => (imgNew 2 2 w (by decide)).mono fun e w' ⟨b_, r_, n_, he_, hn_, hi_⟩ => ⟨(b_, r_, n_), he_, hn_, hT.addImg hi_⟩) ?_
 rintro ⟨b1, r1, n1⟩ hn1
 replace hn1 : (n1 : Int) = 2 * 2 := hn1
 refine cont_norm [(4, .tuple #[.pointer (pB b1), iq 0])] _ (by kernel_rfl) rfl ?_
 refine bS [0, 0, 0, 0, 0] 6 0 [(1, .pointer (pB b1))] ?_
 refine cont_done ?_
 refine then_normal ?_
 refine cont_seq ?_
 refine cont_region 8 rfl ?_
 refine bS [0, 0, 0, 0] 4 4 [(10, .agg #[.pointer (pB b1), iq 3, iq 3, iq 2, iq 255, iq 0, iq 0, iq 2, iq 2])] ?_
 refine pl_step 5 3 rfl rfl ?_
 refine call_pure (d := 11) (.agg #[iq ((shwR 2 2 3 3 2 0 0 2 2).x0), iq ((shwR 2 2 3 3 2 0 0 2 2).y0), iq ((shwR 2 2 3 3 2 0 0 2 2).x1), iq ((shwR 2 2 3 3 2 0 0 2 2).y1)]) (by kernel_rfl) (fun w hT => layBox b1 2 2 r1 n1 n1 (List.replicate n1 0) 3 3 2 255 0 0 2 2 w ⟨hT.ok 0 _ rfl, Row.rd (hT.ok 1 _ rfl), Row.capLe (hT.ok 1 _ rfl)⟩ (imgOk_new (by decide) hn1)) ?_
 refine bS [0] 6 2 [(11, .agg #[iq ((shwR 2 2 3 3 2 0 0 2 2).x0), iq ((shwR 2 2 3 3 2 0 0 2 2).y0), iq ((shwR 2 2 3 3 2 0 0 2 2).x1), iq ((shwR 2 2 3 3 2 0 0 2 2).y1)]), (12, .agg #[iq 3, iq 3, iq 7, iq 7])] ?_
 refine cont_forget 0 rfl ?_
 refine pl_step 7 1 rfl rfl ?_
 refine sem_step 13 (bopS .eql 28 (.tmp 11) (.tmp 12) (.agg #[iq ((shwR 2 2 3 3 2 0 0 2 2).x0), iq ((shwR 2 2 3 3 2 0 0 2 2).y0), iq ((shwR 2 2 3 3 2 0 0 2 2).x1), iq ((shwR 2 2 3 3 2 0 0 2 2).y1)]) (.agg #[iq 3, iq 3, iq 7, iq 7])) (.bool (eqInts [(shwR 2 2 3 3 2 0 0 2 2).x0, (shwR 2 2 3 3 2 0 0 2 2).y0, (shwR 2 2 3 3 2 0 0 2 2).x1, (shwR 2 2 3 3 2 0 0 2 2).y1] [3, 3, 7, 7])) (by kernel_rfl) (fun w hT => run_eqS [(shwR 2 2 3 3 2 0 0 2 2).x0, (shwR 2 2 3 3 2 0 0 2 2).y0, (shwR 2 2 3 3 2 0 0 2 2).x1, (shwR 2 2 3 3 2 0 0 2 2).y1] [3, 3, 7, 7] (by kernel_rfl) (by kernel_rfl) (by kernel_rfl) (by kernel_rfl) rfl rfl w) ?_
 refine bS [0] 8 0 [(0, .bool (eqInts [(shwR 2 2 3 3 2 0 0 2 2).x0, (shwR 2 2 3 3 2 0 0 2 2).y0, (shwR 2 2 3 3 2 0 0 2 2).x1, (shwR 2 2 3 3 2 0 0 2 2).y1] [3, 3, 7, 7]))] ?_
 refine cont_done ?_
 refine then_normal ?_
 refine cont_ret ?_
 refine ret_one (.inl rfl) rfl 0 (.bool (eqInts [(shwR 2 2 3 3 2 0 0 2 2).x0, (shwR 2 2 3 3 2 0 0 2 2).y0, (shwR 2 2 3 3 2 0 0 2 2).x1, (shwR 2 2 3 3 2 0 0 2 2).y1] [3, 3, 7, 7])) (by kernel_rfl) (by kernel_rfl) (fun w hT => ?_)
 exact ⟨ret_bool (by decide +kernel), hT.post rfl⟩

end Go.Proofs.YtgpcgfjfmjehgaaGreat

