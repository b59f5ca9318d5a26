/- Contracts of functions of the given program, printed by a program of this project. -/
import Derived.Test.YtommojgfkkoghaaL4y
import Derived.Test.YtommojgfkkoghaaProg
set_option linter.unusedVariables false
set_option linter.unusedSimpArgs false
namespace Go.Proofs.Ytommojgfkkoghaa
open Go Go.RowKit
set_option maxRecDepth 100000
set_option maxHeartbeats 8000000

theorem lives4 (w : World) :
    Calls Try.prog 13 #[] w fun e w' => e = .returned (.bool true) ∧ Below w.heap.size w w' := by
 refine enter 17 [] [] Try.func13 rfl Try.ntmps13 rfl (by kernel_rfl) (Tab.start w) ?_
 refine cont_seq ?_
 refine cont_region 1 rfl ?_
 refine bS [0] 1 0 [] ?_
 refine cont_done ?_
 refine then_normal ?_
 refine cont_seq ?_
 refine cont_region 6 rfl ?_
 refine pl_step 1 5 rfl rfl ?_
 refine call_gen (d := 4) (α := Nat × Nat × Nat) (fun x_ => .tuple #[.pointer (pB x_.1), iq 0]) (fun x_ => [.cells x_.1 [iq 3, iq 3, .slice (pB x_.2.1) x_.2.2 x_.2.2] 84 true, .gen (rowE (pB x_.2.1) x_.2.1 x_.2.2 x_.2.2 28 1 (ivals .u32 (List.replicate x_.2.2 0)) true)]) (fun x_ => (x_.2.2 : Int) = 3 * 3) (by kernel_rfl) (fun w hT => (imgNew 3 3 w (by decide)).mono fun e w' ⟨b_, r_, n_, he_, hn_, hi_⟩ => ⟨(b_, r_, n_), he_, hn_, hT.addImg hi_⟩) ?_
 rintro ⟨b1, r1, n1⟩ hn1
 replace hn1 : (n1 : Int) = 3 * 3 := hn1
 refine cont_norm [(4, .tuple #[.pointer (pB b1), iq 0])] _ (by kernel_rfl) rfl ?_
 refine bS [0, 0, 0, 0, 0] 6 0 [(1, .pointer (pB b1)), (2, iq 0)] ?_
 refine cont_done ?_
 refine then_normal ?_
 refine cont_seq ?_
 refine cont_seq ?_
 refine cont_region 6 rfl ?_
 refine bS [0, 0, 0, 0, 0, 0] 6 0 [(1, .pointer (pB b1)), (12, .bool false)] ?_
 refine cont_done ?_
 refine then_normal ?_
 refine cont_false rfl ?_
 refine cont_skip ?_
 refine then_normal ?_
 refine cont_seq ?_
 refine cont_region 5 rfl ?_
 refine bS [0, 0] 2 3 [(13, .pointer (pB b1)), (14, .agg #[iq 1, iq 1, iq 9, iq 9])] ?_
 refine pl_step 3 2 rfl rfl ?_
 refine call_gen (d := 15) (α := Unit) (fun _ => iq (fillN 3 3 1 1 9 9 4278190080)) (fun _ => [.cells b1 [iq 3, iq 3, .slice (pB r1) n1 n1] 84 true, .gen (rowE (pB r1) r1 n1 n1 28 1 (ivals .u32 (fillA 3 3 (List.replicate n1 0) 1 1 9 9 4278190080)) true)]) (fun _ => True) (by kernel_rfl) (fun w hT => (imgFill b1 3 3 r1 n1 n1 (List.replicate n1 0) 1 1 9 9 4278190080 w ⟨hT.ok 0 _ rfl, hT.ok 1 _ rfl, fun hne => hT.disj 0 1 _ _ (by omega) rfl rfl (.inr rfl) _ rfl ⟨hne, by simp⟩⟩ (imgOk_new (by decide) hn1) ⟨by omega, by omega⟩).mono fun e w' ⟨he_, hk_, hr_⟩ => ⟨(), he_, trivial, hT.keepBut hk_ (i := 1) rfl hr_⟩) (fun _ _ => ?_)
 refine bS [0, 0] 5 0 [(0, .bool ((fillN 3 3 1 1 9 9 4278190080) == 4))] ?_
 refine cont_forget 0 rfl ?_
 refine cont_done ?_
 refine then_normal ?_
 refine cont_ret ?_
 refine ret_one (.inl rfl) rfl 0 (.bool ((fillN 3 3 1 1 9 9 4278190080) == 4)) (by kernel_rfl) (by kernel_rfl) (fun w hT => ?_)
 exact ⟨ret_bool (by decide +kernel), hT.post rfl⟩

end Go.Proofs.Ytommojgfkkoghaa
