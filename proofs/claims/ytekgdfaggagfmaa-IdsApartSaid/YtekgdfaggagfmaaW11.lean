/- Contracts of functions of the given program, printed by a program of this project. -/
import Derived.Test.YtekgdfaggagfmaaL11
import Derived.Test.YtekgdfaggagfmaaProg
set_option linter.unusedVariables false
set_option linter.unusedSimpArgs false
namespace Go.Proofs.Ytekgdfaggagfmaa
open Go Go.RowKit
set_option maxRecDepth 100000

theorem lives11 (w : World) :
    Calls Try.prog 11 #[] w fun e w' => e = .returned (.bool true) ∧ Below w.heap.size w w' := by
  refine enter 13 [] [] Try.func11 rfl Try.ntmps11 rfl (by kernel_rfl) (Tab.start w) ?_
  refine cont_seq ?_
  refine cont_region 1 rfl ?_
  refine batch0 [0] 1 0 [] [] rfl rfl (by kernel_rfl) (by kernel_rfl) ?_
  refine cont_done ?_
  refine then_normal ?_
  refine cont_seq ?_
  refine cont_region 2 rfl ?_
  refine pl_step 1 1 rfl rfl ?_
  refine call_gen (d := 2) (α := Nat × Nat × Int) (fun x_ => .pointer (some ⟨x_.1, 0, none⟩)) (fun x_ => [.cells x_.1 [.int .i64 3, .map (some x_.2.1)] 54 true, .gen (mapE x_.2.1 (imsV []) true)]) (fun x_ => x_.2.2 = mn (mx 3 1) 32) (by kernel_rfl) (fun w hT => (idsNew 3 w).mono fun e w' ⟨b_, m_, he_, ht_⟩ => ⟨(b_, m_, mn (mx 3 1) 32), he_, rfl, hT.news ht_ rfl⟩) ?_
  rintro ⟨tb1, tm1, rm1⟩ hrm1
  replace hrm1 : rm1 = mn (mx 3 1) 32 := hrm1
  show Cont _ _ _ [(2, .pointer (some ⟨tb1, 0, none⟩))] [.cells tb1 [.int .i64 3, .map (some tm1)] 54 true, .gen (mapE tm1 (imsV []) true)]
  refine batch0 [0] 2 0 [(1, .pointer (some ⟨tb1, 0, none⟩))] [.cells tb1 [.int .i64 3, .map (some tm1)] 54 true, .gen (mapE tm1 (imsV []) true)] rfl rfl (by kernel_rfl) (by kernel_rfl) ?_
  refine cont_done ?_
  refine then_normal ?_
  refine cont_seq ?_
  refine cont_seq ?_
  refine cont_region 2 rfl ?_
  refine batch0 [0, 0] 2 0 [(1, .pointer (some ⟨tb1, 0, none⟩)), (4, .bool false)] [.cells tb1 [.int .i64 3, .map (some tm1)] 54 true, .gen (mapE tm1 (imsV []) true)] rfl rfl (by kernel_rfl) (by kernel_rfl) ?_
  refine cont_done ?_
  refine then_normal ?_
  refine cont_false rfl ?_
  refine cont_skip ?_
  refine then_normal ?_
  refine cont_seq ?_
  refine cont_region 9 rfl ?_
  refine batch0 [0] 1 8 [(1, .pointer (some ⟨tb1, 0, none⟩)), (5, .pointer (some ⟨tb1, 0, none⟩))] [.cells tb1 [.int .i64 3, .map (some tm1)] 54 true, .gen (mapE tm1 (imsV []) true)] rfl rfl (by kernel_rfl) (by kernel_rfl) ?_
  refine pl_step 2 7 rfl rfl ?_
  refine call_gen (d := 6) (α := Unit) (fun _ => .int .i64 (addE 3 [] 5 1)) (fun _ => [.cells tb1 [.int .i64 3, .map (some tm1)] 54 true, .gen (mapE tm1 (imsV (addL 3 [] 5 1)) true)]) (fun _ => True) (by kernel_rfl) (fun w hT => (idsAdd tb1 tm1 3 [] 5 1 w (hT.view (.cons (i := 0) rfl Vw.roc (.cons (i := 1) rfl Vw.map .nil)) (by decide)) (IdsOk.new (m := 3) (by decide) (by decide))).mono fun e w' ⟨he_, ht_⟩ => ⟨(), he_, trivial, hT.merge (N := []) (s := [0, 1]) ht_ (.skip rfl (.cons (i := 1) rfl Mg.map .nil)) (by decide) (fun i e h => by simp at h)⟩) (fun _ _ => ?_)
  refine cont_recast 6 (.int .i64 (addE 3 [] 5 1)) (.int .i64 0) rfl (congrArg (Value.int .i64) rfl) ?_
  have hl2_ : addL 3 [] 5 1 = [(5, 1)] := rfl
  have hk3_ : IdsOk 3 [(5, 1)] := by have h_ := ((IdsOk.new (m := 3) (by decide) (by decide)).add 5 1); rw [hl2_] at h_; exact h_
  refine cont_mapEq 1 (addL 3 [] 5 1) ([(5, 1)]) rfl hl2_ ?_
  refine batch0 [0, 0, 0] 5 4 [(8, .bool true), (9, .pointer (some ⟨tb1, 0, none⟩))] [.cells tb1 [.int .i64 3, .map (some tm1)] 54 true, .gen (mapE tm1 (imsV [(5, 1)]) true)] rfl rfl (by kernel_rfl) (by kernel_rfl) ?_
  refine pl_step 6 3 rfl rfl ?_
  refine call_pure (d := 10) (.int .i64 (findE [(5, 1)] 5 2)) (by kernel_rfl) (fun w hT => idsFind tb1 tm1 3 [(5, 1)] 5 2 w (hT.view (.cons (i := 0) rfl Vw.roc (.cons (i := 1) rfl Vw.mapRE .nil)) (by decide)) hk3_) ?_
  refine cont_recast 10 (.int .i64 (findE [(5, 1)] 5 2)) (.int .i64 9) rfl (congrArg (Value.int .i64) rfl) ?_
  refine batch0 [0, 0, 0] 9 0 [(0, .bool true)] [.cells tb1 [.int .i64 3, .map (some tm1)] 54 true, .gen (mapE tm1 (imsV [(5, 1)]) true)] rfl rfl (by kernel_rfl) (by kernel_rfl) ?_
  refine cont_forget 0 rfl ?_
  refine cont_done ?_
  refine then_normal ?_
  refine cont_ret ?_
  refine ret_one (.inl rfl) rfl 0 (.bool true) (by kernel_rfl) (by kernel_rfl) (fun w hT => ?_)
  exact ⟨rfl, hT.post rfl⟩

theorem walkIdsBack (i a b : Int) (w : World) (hi : -9223372036854775808 ≤ i ∧ i ≤ 9223372036854775807) (ha : -9223372036854775808 ≤ a ∧ a ≤ 9223372036854775807) (hb : -9223372036854775808 ≤ b ∧ b ≤ 9223372036854775807) :
    Calls Try.prog 4 #[.int .i64 i, .int .i64 a, .int .i64 b] w fun e w' => e = .returned (.bool true) ∧ Below w.heap.size w w' := by
  have i1_ := Int.tmod_lt_of_pos i (show (0 : Int) < 4294967295 by decide)
  have i2_ := Int.lt_tmod_of_pos i (show (0 : Int) < 4294967295 by decide)
  have a1_ := Int.tmod_lt_of_pos a (show (0 : Int) < 8 by decide)
  have a2_ := Int.lt_tmod_of_pos a (show (0 : Int) < 8 by decide)
  have b1_ := Int.tmod_lt_of_pos b (show (0 : Int) < 8 by decide)
  have b2_ := Int.lt_tmod_of_pos b (show (0 : Int) < 8 by decide)
  refine enter 91 [(0, .int .i64 i), (1, .int .i64 a), (2, .int .i64 b)] [] Try.func4 rfl Try.ntmps4 rfl (by kernel_rfl) (Tab.start w) ?_
  refine cont_seq ?_
  refine cont_region 1 rfl ?_
  refine batch0 [0] 1 0 [(0, .int .i64 i), (1, .int .i64 a), (2, .int .i64 b)] [] rfl rfl (by kernel_rfl) (by kernel_rfl) ?_
  refine cont_done ?_
  refine then_normal ?_
  refine cont_seq ?_
  refine cont_region 2 rfl ?_
  refine pl_step 1 1 rfl rfl ?_
  refine call_gen (d := 10) (α := Nat × Nat × Int) (fun x_ => .pointer (some ⟨x_.1, 0, none⟩)) (fun x_ => [.cells x_.1 [.int .i64 1, .map (some x_.2.1)] 54 true, .gen (mapE x_.2.1 (imsV []) true)]) (fun x_ => x_.2.2 = mn (mx 1 1) 32) (by kernel_rfl) (fun w hT => (idsNew 1 w).mono fun e w' ⟨b_, m_, he_, ht_⟩ => ⟨(b_, m_, mn (mx 1 1) 32), he_, rfl, hT.news ht_ rfl⟩) ?_
  rintro ⟨tb1, tm1, rm1⟩ hrm1
  replace hrm1 : rm1 = mn (mx 1 1) 32 := hrm1
  show Cont _ _ _ [(10, .pointer (some ⟨tb1, 0, none⟩)), (0, .int .i64 i), (1, .int .i64 a), (2, .int .i64 b)] [.cells tb1 [.int .i64 1, .map (some tm1)] 54 true, .gen (mapE tm1 (imsV []) true)]
  refine batch0 [0] 2 0 [(0, .int .i64 i), (1, .int .i64 a), (2, .int .i64 b), (7, .pointer (some ⟨tb1, 0, none⟩))] [.cells tb1 [.int .i64 1, .map (some tm1)] 54 true, .gen (mapE tm1 (imsV []) true)] rfl rfl (by kernel_rfl) (by kernel_rfl) ?_
  refine cont_done ?_
  refine then_normal ?_
  refine cont_seq ?_
  refine cont_seq ?_
  refine cont_region 2 rfl ?_
  refine batch0 [0, 0] 2 0 [(0, .int .i64 i), (1, .int .i64 a), (2, .int .i64 b), (7, .pointer (some ⟨tb1, 0, none⟩)), (12, .bool false)] [.cells tb1 [.int .i64 1, .map (some tm1)] 54 true, .gen (mapE tm1 (imsV []) true)] rfl rfl (by kernel_rfl) (by kernel_rfl) ?_
  refine cont_done ?_
  refine then_normal ?_
  refine cont_false rfl ?_
  refine cont_skip ?_
  refine then_normal ?_
  refine cont_seq ?_
  refine cont_region 8 rfl ?_
  refine batch0 [0, 0] 2 6 [(0, .int .i64 i), (1, .int .i64 a), (2, .int .i64 b), (7, .pointer (some ⟨tb1, 0, none⟩)), (14, .int .i64 (i.tmod 4294967295))] [.cells tb1 [.int .i64 1, .map (some tm1)] 54 true, .gen (mapE tm1 (imsV []) true)] rfl rfl (by kernel_rfl) (by kernel_rfl) ?_
  refine batch0 [0, 0] 4 4 [(1, .int .i64 a), (2, .int .i64 b), (7, .pointer (some ⟨tb1, 0, none⟩)), (14, .int .i64 (i.tmod 4294967295)), (16, .int .i64 (i.tmod 4294967295))] [.cells tb1 [.int .i64 1, .map (some tm1)] 54 true, .gen (mapE tm1 (imsV []) true)] rfl rfl (by kernel_rfl) (by kernel_rfl) ?_
  refine batch0 [0] 5 3 [(1, .int .i64 a), (2, .int .i64 b), (7, .pointer (some ⟨tb1, 0, none⟩)), (14, .int .i64 (i.tmod 4294967295)), (17, .int .i64 (IntKind.i64.wrap (0 - (i.tmod 4294967295))))] [.cells tb1 [.int .i64 1, .map (some tm1)] 54 true, .gen (mapE tm1 (imsV []) true)] rfl rfl (by kernel_rfl) (by kernel_rfl) ?_
  refine cont_recast 17 (.int .i64 (IntKind.i64.wrap (0 - (i.tmod 4294967295)))) (.int .i64 (0 - (i.tmod 4294967295))) rfl (wrapI (by omega) (by omega)) ?_
  refine batch0 [0, 0] 7 1 [(1, .int .i64 a), (2, .int .i64 b), (7, .pointer (some ⟨tb1, 0, none⟩)), (19, .int .i64 (IntKind.i64.wrap (1 + (mx (i.tmod 4294967295) (0 - (i.tmod 4294967295))))))] [.cells tb1 [.int .i64 1, .map (some tm1)] 54 true, .gen (mapE tm1 (imsV []) true)] rfl rfl (by kernel_rfl) (by kernel_rfl) ?_
  refine cont_recast 19 (.int .i64 (IntKind.i64.wrap (1 + (mx (i.tmod 4294967295) (0 - (i.tmod 4294967295)))))) (.int .i64 (1 + (mx (i.tmod 4294967295) (0 - (i.tmod 4294967295))))) rfl (wrapI (by unfold mx; omega) (by unfold mx; omega)) ?_
  refine batch0 [0] 8 0 [(0, .int .i64 (1 + (mx (i.tmod 4294967295) (0 - (i.tmod 4294967295))))), (1, .int .i64 a), (2, .int .i64 b), (7, .pointer (some ⟨tb1, 0, none⟩))] [.cells tb1 [.int .i64 1, .map (some tm1)] 54 true, .gen (mapE tm1 (imsV []) true)] rfl rfl (by kernel_rfl) (by kernel_rfl) ?_
  refine cont_done ?_
  refine then_normal ?_
  refine cont_seq ?_
  refine cont_region 8 rfl ?_
  obtain ⟨x, hx⟩ : ∃ y_ : Int, y_ = (1 + (mx (i.tmod 4294967295) (0 - (i.tmod 4294967295)))) := ⟨_, rfl⟩
  refine cont_recast 0 (.int .i64 (1 + (mx (i.tmod 4294967295) (0 - (i.tmod 4294967295))))) (.int .i64 x) rfl (congrArg (Value.int .i64) hx.symm) ?_
  have hx1 : 1 ≤ x ∧ x ≤ 4294967295 := by unfold mx at hx; omega
  refine batch0 [0, 0] 2 6 [(0, .int .i64 x), (1, .int .i64 a), (2, .int .i64 b), (7, .pointer (some ⟨tb1, 0, none⟩)), (21, .int .i64 (a.tmod 8))] [.cells tb1 [.int .i64 1, .map (some tm1)] 54 true, .gen (mapE tm1 (imsV []) true)] rfl rfl (by kernel_rfl) (by kernel_rfl) ?_
  refine batch0 [0, 0] 4 4 [(0, .int .i64 x), (2, .int .i64 b), (7, .pointer (some ⟨tb1, 0, none⟩)), (21, .int .i64 (a.tmod 8)), (23, .int .i64 (a.tmod 8))] [.cells tb1 [.int .i64 1, .map (some tm1)] 54 true, .gen (mapE tm1 (imsV []) true)] rfl rfl (by kernel_rfl) (by kernel_rfl) ?_
  refine batch0 [0] 5 3 [(0, .int .i64 x), (2, .int .i64 b), (7, .pointer (some ⟨tb1, 0, none⟩)), (21, .int .i64 (a.tmod 8)), (24, .int .i64 (IntKind.i64.wrap (0 - (a.tmod 8))))] [.cells tb1 [.int .i64 1, .map (some tm1)] 54 true, .gen (mapE tm1 (imsV []) true)] rfl rfl (by kernel_rfl) (by kernel_rfl) ?_
  refine cont_recast 24 (.int .i64 (IntKind.i64.wrap (0 - (a.tmod 8)))) (.int .i64 (0 - (a.tmod 8))) rfl (wrapI (by omega) (by omega)) ?_
  refine batch0 [0, 0] 7 1 [(0, .int .i64 x), (2, .int .i64 b), (7, .pointer (some ⟨tb1, 0, none⟩)), (26, .int .i64 (IntKind.i64.wrap (1 + (mx (a.tmod 8) (0 - (a.tmod 8))))))] [.cells tb1 [.int .i64 1, .map (some tm1)] 54 true, .gen (mapE tm1 (imsV []) true)] rfl rfl (by kernel_rfl) (by kernel_rfl) ?_
  refine cont_recast 26 (.int .i64 (IntKind.i64.wrap (1 + (mx (a.tmod 8) (0 - (a.tmod 8)))))) (.int .i64 (1 + (mx (a.tmod 8) (0 - (a.tmod 8))))) rfl (wrapI (by unfold mx; omega) (by unfold mx; omega)) ?_
  refine batch0 [0] 8 0 [(0, .int .i64 x), (2, .int .i64 b), (7, .pointer (some ⟨tb1, 0, none⟩)), (8, .int .i64 (1 + (mx (a.tmod 8) (0 - (a.tmod 8)))))] [.cells tb1 [.int .i64 1, .map (some tm1)] 54 true, .gen (mapE tm1 (imsV []) true)] rfl rfl (by kernel_rfl) (by kernel_rfl) ?_
  refine cont_done ?_
  refine then_normal ?_
  refine cont_seq ?_
  refine cont_region 8 rfl ?_
  obtain ⟨p, hp⟩ : ∃ y_ : Int, y_ = (1 + (mx (a.tmod 8) (0 - (a.tmod 8)))) := ⟨_, rfl⟩
  refine cont_recast 8 (.int .i64 (1 + (mx (a.tmod 8) (0 - (a.tmod 8))))) (.int .i64 p) rfl (congrArg (Value.int .i64) hp.symm) ?_
  have hp1 : 1 ≤ p ∧ p ≤ 8 := by unfold mx at hp; omega
  refine batch0 [0, 0] 2 6 [(0, .int .i64 x), (2, .int .i64 b), (7, .pointer (some ⟨tb1, 0, none⟩)), (8, .int .i64 p), (28, .int .i64 (b.tmod 8))] [.cells tb1 [.int .i64 1, .map (some tm1)] 54 true, .gen (mapE tm1 (imsV []) true)] rfl rfl (by kernel_rfl) (by kernel_rfl) ?_
  refine batch0 [0, 0] 4 4 [(0, .int .i64 x), (7, .pointer (some ⟨tb1, 0, none⟩)), (8, .int .i64 p), (28, .int .i64 (b.tmod 8)), (30, .int .i64 (b.tmod 8))] [.cells tb1 [.int .i64 1, .map (some tm1)] 54 true, .gen (mapE tm1 (imsV []) true)] rfl rfl (by kernel_rfl) (by kernel_rfl) ?_
  refine batch0 [0] 5 3 [(0, .int .i64 x), (7, .pointer (some ⟨tb1, 0, none⟩)), (8, .int .i64 p), (28, .int .i64 (b.tmod 8)), (31, .int .i64 (IntKind.i64.wrap (0 - (b.tmod 8))))] [.cells tb1 [.int .i64 1, .map (some tm1)] 54 true, .gen (mapE tm1 (imsV []) true)] rfl rfl (by kernel_rfl) (by kernel_rfl) ?_
  refine cont_recast 31 (.int .i64 (IntKind.i64.wrap (0 - (b.tmod 8)))) (.int .i64 (0 - (b.tmod 8))) rfl (wrapI (by omega) (by omega)) ?_
  refine batch0 [0, 0] 7 1 [(0, .int .i64 x), (7, .pointer (some ⟨tb1, 0, none⟩)), (8, .int .i64 p), (33, .int .i64 (IntKind.i64.wrap (1 + (mx (b.tmod 8) (0 - (b.tmod 8))))))] [.cells tb1 [.int .i64 1, .map (some tm1)] 54 true, .gen (mapE tm1 (imsV []) true)] rfl rfl (by kernel_rfl) (by kernel_rfl) ?_
  refine cont_recast 33 (.int .i64 (IntKind.i64.wrap (1 + (mx (b.tmod 8) (0 - (b.tmod 8)))))) (.int .i64 (1 + (mx (b.tmod 8) (0 - (b.tmod 8))))) rfl (wrapI (by unfold mx; omega) (by unfold mx; omega)) ?_
  refine batch0 [0] 8 0 [(0, .int .i64 x), (7, .pointer (some ⟨tb1, 0, none⟩)), (8, .int .i64 p), (9, .int .i64 (1 + (mx (b.tmod 8) (0 - (b.tmod 8)))))] [.cells tb1 [.int .i64 1, .map (some tm1)] 54 true, .gen (mapE tm1 (imsV []) true)] rfl rfl (by kernel_rfl) (by kernel_rfl) ?_
  refine cont_done ?_
  refine then_normal ?_
  refine cont_seq ?_
  refine cont_seq ?_
  refine cont_region 32 rfl ?_
  obtain ⟨q, hq⟩ : ∃ y_ : Int, y_ = (1 + (mx (b.tmod 8) (0 - (b.tmod 8)))) := ⟨_, rfl⟩
  refine cont_recast 9 (.int .i64 (1 + (mx (b.tmod 8) (0 - (b.tmod 8))))) (.int .i64 q) rfl (congrArg (Value.int .i64) hq.symm) ?_
  have hq1 : 1 ≤ q ∧ q ≤ 8 := by unfold mx at hq; omega
  refine batch0 [0, 0, 0] 3 29 [(0, .int .i64 x), (7, .pointer (some ⟨tb1, 0, none⟩)), (8, .int .i64 p), (9, .int .i64 q), (34, .pointer (some ⟨tb1, 0, none⟩)), (35, .int .i64 x), (36, .int .i64 p)] [.cells tb1 [.int .i64 1, .map (some tm1)] 54 true, .gen (mapE tm1 (imsV []) true)] rfl rfl (by kernel_rfl) (by kernel_rfl) ?_
  refine pl_step 4 28 rfl rfl ?_
  refine call_gen (d := 37) (α := Unit) (fun _ => .int .i64 (addE 1 [] x p)) (fun _ => [.cells tb1 [.int .i64 1, .map (some tm1)] 54 true, .gen (mapE tm1 (imsV (addL 1 [] x p)) true)]) (fun _ => True) (by kernel_rfl) (fun w hT => (idsAdd tb1 tm1 1 [] x p w (hT.view (.cons (i := 0) rfl Vw.roc (.cons (i := 1) rfl Vw.map .nil)) (by decide)) (IdsOk.new (m := 1) (by decide) (by decide))).mono fun e w' ⟨he_, ht_⟩ => ⟨(), he_, trivial, hT.merge (N := []) (s := [0, 1]) ht_ (.skip rfl (.cons (i := 1) rfl Mg.map .nil)) (by decide) (fun i e h => by simp at h)⟩) (fun _ _ => ?_)
  refine cont_recast 37 (.int .i64 (addE 1 [] x p)) (.int .i64 0) rfl (congrArg (Value.int .i64) (by have := hp1; have := hq1; have := hx1; simp [addE, addL, iput, iget, kindL, idel, findE] <;> omega)) ?_
  have hl2_ : addL 1 [] x p = [(x, p)] := (by simp [addE, addL, iput, iget, kindL, idel, findE] <;> omega)
  have hk3_ : IdsOk 1 [(x, p)] := by have h_ := ((IdsOk.new (m := 1) (by decide) (by decide)).add x p); rw [hl2_] at h_; exact h_
  refine cont_mapEq 1 (addL 1 [] x p) ([(x, p)]) rfl hl2_ ?_
  refine batch0 [0, 0, 0, 0, 0] 9 23 [(0, .int .i64 x), (7, .pointer (some ⟨tb1, 0, none⟩)), (8, .int .i64 p), (9, .int .i64 q), (39, .bool false), (40, .pointer (some ⟨tb1, 0, none⟩)), (41, .int .i64 x), (42, .int .i64 q)] [.cells tb1 [.int .i64 1, .map (some tm1)] 54 true, .gen (mapE tm1 (imsV [(x, p)]) true)] rfl rfl (by kernel_rfl) (by kernel_rfl) ?_
  refine pl_step 10 22 rfl rfl ?_
  refine call_gen (d := 43) (α := Unit) (fun _ => .int .i64 (addE 1 [(x, p)] x q)) (fun _ => [.cells tb1 [.int .i64 1, .map (some tm1)] 54 true, .gen (mapE tm1 (imsV (addL 1 [(x, p)] x q)) true)]) (fun _ => True) (by kernel_rfl) (fun w hT => (idsAdd tb1 tm1 1 [(x, p)] x q w (hT.view (.cons (i := 0) rfl Vw.roc (.cons (i := 1) rfl Vw.map .nil)) (by decide)) hk3_).mono fun e w' ⟨he_, ht_⟩ => ⟨(), he_, trivial, hT.merge (N := []) (s := [0, 1]) ht_ (.skip rfl (.cons (i := 1) rfl Mg.map .nil)) (by decide) (fun i e h => by simp at h)⟩) (fun _ _ => ?_)
  refine cont_recast 43 (.int .i64 (addE 1 [(x, p)] x q)) (.int .i64 6) rfl (congrArg (Value.int .i64) (by have := hp1; have := hq1; have := hx1; simp [addE, addL, iput, iget, kindL, idel, findE] <;> omega)) ?_
  have hl4_ : addL 1 [(x, p)] x q = [(x, p)] := (by simp [addE, addL, iput, iget, kindL, idel, findE] <;> omega)
  have hk5_ : IdsOk 1 [(x, p)] := by have h_ := (hk3_.add x q); rw [hl4_] at h_; exact h_
  refine cont_mapEq 1 (addL 1 [(x, p)] x q) ([(x, p)]) rfl hl4_ ?_
  refine batch0 [0, 0, 0, 0, 0] 15 17 [(0, .int .i64 x), (7, .pointer (some ⟨tb1, 0, none⟩)), (8, .int .i64 p), (9, .int .i64 q), (46, .bool false), (47, .pointer (some ⟨tb1, 0, none⟩)), (48, .int .i64 x)] [.cells tb1 [.int .i64 1, .map (some tm1)] 54 true, .gen (mapE tm1 (imsV [(x, p)]) true)] rfl rfl (by kernel_rfl) (by kernel_rfl) ?_
  refine pl_step 16 16 rfl rfl ?_
  refine call_pure (d := 49) (.int .i64 (kindL [(x, p)] x)) (by kernel_rfl) (fun w hT => idsKind tb1 tm1 1 [(x, p)] x w (hT.view (.cons (i := 0) rfl Vw.roc (.cons (i := 1) rfl Vw.mapRE .nil)) (by decide)) hk5_) ?_
  refine cont_recast 49 (.int .i64 (kindL [(x, p)] x)) (.int .i64 p) rfl (congrArg (Value.int .i64) (by simp [addE, addL, iput, iget, kindL, idel, findE] <;> omega)) ?_
  refine batch0 [0, 0, 0, 0] 20 12 [(0, .int .i64 x), (7, .pointer (some ⟨tb1, 0, none⟩)), (8, .int .i64 p), (9, .int .i64 q), (53, .bool (p != p))] [.cells tb1 [.int .i64 1, .map (some tm1)] 54 true, .gen (mapE tm1 (imsV [(x, p)]) true)] rfl rfl (by kernel_rfl) (by kernel_rfl) ?_
  refine cont_recast 53 (.bool (p != p)) (.bool false) rfl (congrArg Value.bool (by simp)) ?_
  refine batch0 [0, 0] 22 10 [(0, .int .i64 x), (7, .pointer (some ⟨tb1, 0, none⟩)), (8, .int .i64 p), (9, .int .i64 q), (53, .bool false), (54, .pointer (some ⟨tb1, 0, none⟩)), (55, .int .i64 x)] [.cells tb1 [.int .i64 1, .map (some tm1)] 54 true, .gen (mapE tm1 (imsV [(x, p)]) true)] rfl rfl (by kernel_rfl) (by kernel_rfl) ?_
  refine pl_step 23 9 rfl rfl ?_
  refine call_gen (d := 56) (α := Unit) (fun _ => .bool (kindL [(x, p)] x != 0)) (fun _ => [.cells tb1 [.int .i64 1, .map (some tm1)] 54 true, .gen (mapE tm1 (imsV (idel [(x, p)] x)) true)]) (fun _ => True) (by kernel_rfl) (fun w hT => (idsDrop tb1 tm1 1 [(x, p)] x w (hT.view (.cons (i := 0) rfl Vw.roc (.cons (i := 1) rfl Vw.map .nil)) (by decide)) hk5_).mono fun e w' ⟨he_, ht_⟩ => ⟨(), he_, trivial, hT.merge (N := []) (s := [0, 1]) ht_ (.skip rfl (.cons (i := 1) rfl Mg.map .nil)) (by decide) (fun i e h => by simp at h)⟩) (fun _ _ => ?_)
  refine cont_recast 56 (.bool (kindL [(x, p)] x != 0)) (.bool true) rfl (congrArg (Value.bool) (by simp [addE, addL, iput, iget, kindL, idel, findE] <;> omega)) ?_
  have hl7_ : idel [(x, p)] x = [] := (by simp [addE, addL, iput, iget, kindL, idel, findE])
  have hk8_ : IdsOk 1 [] := by have h_ := (hk5_.del x); rw [hl7_] at h_; exact h_
  refine cont_mapEq 1 (idel [(x, p)] x) ([]) rfl hl7_ ?_
  refine batch0 [0, 0, 0, 0, 0, 0] 29 3 [(0, .int .i64 x), (7, .pointer (some ⟨tb1, 0, none⟩)), (9, .int .i64 q), (59, .bool false), (60, .pointer (some ⟨tb1, 0, none⟩)), (61, .int .i64 x), (62, .int .i64 p)] [.cells tb1 [.int .i64 1, .map (some tm1)] 54 true, .gen (mapE tm1 (imsV []) true)] rfl rfl (by kernel_rfl) (by kernel_rfl) ?_
  refine pl_step 30 2 rfl rfl ?_
  refine call_pure (d := 63) (.int .i64 (findE [] x p)) (by kernel_rfl) (fun w hT => idsFind tb1 tm1 1 [] x p w (hT.view (.cons (i := 0) rfl Vw.roc (.cons (i := 1) rfl Vw.mapRE .nil)) (by decide)) hk8_) ?_
  refine cont_recast 63 (.int .i64 (findE [] x p)) (.int .i64 5) rfl (congrArg (Value.int .i64) rfl) ?_
  refine batch0 [0, 0] 32 0 [(0, .int .i64 x), (7, .pointer (some ⟨tb1, 0, none⟩)), (9, .int .i64 q), (65, .bool false)] [.cells tb1 [.int .i64 1, .map (some tm1)] 54 true, .gen (mapE tm1 (imsV []) true)] rfl rfl (by kernel_rfl) (by kernel_rfl) ?_
  refine cont_done ?_
  refine then_normal ?_
  refine cont_false rfl ?_
  refine cont_skip ?_
  refine then_normal ?_
  refine cont_seq ?_
  refine cont_region 26 rfl ?_
  refine batch0 [0, 0, 0] 3 23 [(0, .int .i64 x), (7, .pointer (some ⟨tb1, 0, none⟩)), (9, .int .i64 q), (66, .pointer (some ⟨tb1, 0, none⟩)), (67, .int .i64 x), (68, .int .i64 q)] [.cells tb1 [.int .i64 1, .map (some tm1)] 54 true, .gen (mapE tm1 (imsV []) true)] rfl rfl (by kernel_rfl) (by kernel_rfl) ?_
  refine pl_step 4 22 rfl rfl ?_
  refine call_gen (d := 69) (α := Unit) (fun _ => .int .i64 (addE 1 [] x q)) (fun _ => [.cells tb1 [.int .i64 1, .map (some tm1)] 54 true, .gen (mapE tm1 (imsV (addL 1 [] x q)) true)]) (fun _ => True) (by kernel_rfl) (fun w hT => (idsAdd tb1 tm1 1 [] x q w (hT.view (.cons (i := 0) rfl Vw.roc (.cons (i := 1) rfl Vw.map .nil)) (by decide)) hk8_).mono fun e w' ⟨he_, ht_⟩ => ⟨(), he_, trivial, hT.merge (N := []) (s := [0, 1]) ht_ (.skip rfl (.cons (i := 1) rfl Mg.map .nil)) (by decide) (fun i e h => by simp at h)⟩) (fun _ _ => ?_)
  refine cont_recast 69 (.int .i64 (addE 1 [] x q)) (.int .i64 0) rfl (congrArg (Value.int .i64) (by have := hp1; have := hq1; have := hx1; simp [addE, addL, iput, iget, kindL, idel, findE] <;> omega)) ?_
  have hl9_ : addL 1 [] x q = [(x, q)] := (by simp [addE, addL, iput, iget, kindL, idel, findE] <;> omega)
  have hk10_ : IdsOk 1 [(x, q)] := by have h_ := (hk8_.add x q); rw [hl9_] at h_; exact h_
  refine cont_mapEq 1 (addL 1 [] x q) ([(x, q)]) rfl hl9_ ?_
  refine batch0 [0, 0, 0, 0] 8 18 [(7, .pointer (some ⟨tb1, 0, none⟩)), (9, .int .i64 q), (71, .bool true), (72, .pointer (some ⟨tb1, 0, none⟩)), (73, .int .i64 x)] [.cells tb1 [.int .i64 1, .map (some tm1)] 54 true, .gen (mapE tm1 (imsV [(x, q)]) true)] rfl rfl (by kernel_rfl) (by kernel_rfl) ?_
  refine pl_step 9 17 rfl rfl ?_
  refine call_pure (d := 74) (.int .i64 (kindL [(x, q)] x)) (by kernel_rfl) (fun w hT => idsKind tb1 tm1 1 [(x, q)] x w (hT.view (.cons (i := 0) rfl Vw.roc (.cons (i := 1) rfl Vw.mapRE .nil)) (by decide)) hk10_) ?_
  refine cont_recast 74 (.int .i64 (kindL [(x, q)] x)) (.int .i64 q) rfl (congrArg (Value.int .i64) (by simp [addE, addL, iput, iget, kindL, idel, findE] <;> omega)) ?_
  refine batch0 [0, 0, 0, 0] 13 13 [(7, .pointer (some ⟨tb1, 0, none⟩)), (78, .bool (q == q))] [.cells tb1 [.int .i64 1, .map (some tm1)] 54 true, .gen (mapE tm1 (imsV [(x, q)]) true)] rfl rfl (by kernel_rfl) (by kernel_rfl) ?_
  refine cont_recast 78 (.bool (q == q)) (.bool true) rfl (congrArg Value.bool (by simp)) ?_
  refine batch0 [0] 14 12 [(7, .pointer (some ⟨tb1, 0, none⟩)), (78, .bool true), (79, .pointer (some ⟨tb1, 0, none⟩))] [.cells tb1 [.int .i64 1, .map (some tm1)] 54 true, .gen (mapE tm1 (imsV [(x, q)]) true)] rfl rfl (by kernel_rfl) (by kernel_rfl) ?_
  refine pl_step 15 11 rfl rfl ?_
  refine call_pure (d := 80) (.int .i64 ([(x, q)].length : Int)) (by kernel_rfl) (fun w hT => idsLen tb1 tm1 1 [(x, q)] w (hT.view (.cons (i := 0) rfl Vw.roc (.cons (i := 1) rfl Vw.mapRE .nil)) (by decide)) hk10_) ?_
  refine cont_recast 80 (.int .i64 ([(x, q)].length : Int)) (.int .i64 1) rfl (congrArg (Value.int .i64) rfl) ?_
  refine batch0 [0, 0, 0, 0] 19 7 [(83, .bool true), (84, .pointer (some ⟨tb1, 0, none⟩))] [.cells tb1 [.int .i64 1, .map (some tm1)] 54 true, .gen (mapE tm1 (imsV [(x, q)]) true)] rfl rfl (by kernel_rfl) (by kernel_rfl) ?_
  refine pl_step 20 6 rfl rfl ?_
  refine call_pure (d := 85) (.int .i64 (1 - ([(x, q)].length : Int))) (by kernel_rfl) (fun w hT => idsFree tb1 tm1 1 [(x, q)] w (hT.view (.cons (i := 0) rfl Vw.roc (.cons (i := 1) rfl Vw.mapRE .nil)) (by decide)) hk10_) ?_
  refine cont_recast 85 (.int .i64 (1 - ([(x, q)].length : Int))) (.int .i64 0) rfl (congrArg (Value.int .i64) rfl) ?_
  refine batch0 [0, 0, 0] 23 3 [(88, .bool true)] [.cells tb1 [.int .i64 1, .map (some tm1)] 54 true, .gen (mapE tm1 (imsV [(x, q)]) true)] rfl rfl (by kernel_rfl) (by kernel_rfl) ?_
  refine cont_forget 0 rfl ?_
  refine pl_step 24 2 rfl rfl ?_
  refine call_pure (d := 89) (.bool true) (by kernel_rfl) (fun w hT => lives11  w) ?_
  refine batch0 [0, 0] 26 0 [(6, .bool true)] [.gen (mapE tm1 (imsV [(x, q)]) true)] rfl rfl (by kernel_rfl) (by kernel_rfl) ?_
  refine cont_done ?_
  refine then_normal ?_
  refine cont_ret ?_
  refine ret_one (.inl rfl) rfl 0 (.bool true) (by kernel_rfl) (by kernel_rfl) (fun w hT => ?_)
  exact ⟨rfl, hT.post rfl⟩

theorem walkIdsQuota (m n : Int) (w : World) (hm : -9223372036854775808 ≤ m ∧ m ≤ 9223372036854775807) (hn : -9223372036854775808 ≤ n ∧ n ≤ 9223372036854775807) :
    Calls Try.prog 3 #[.int .i64 m, .int .i64 n] w fun e w' => e = .returned (.bool true) ∧ Below w.heap.size w w' := by
  refine enter 89 [(0, .int .i64 m), (1, .int .i64 n)] [] Try.func3 rfl Try.ntmps3 rfl (by kernel_rfl) (Tab.start w) ?_
  refine cont_seq ?_
  refine cont_region 1 rfl ?_
  refine batch0 [0] 1 0 [(0, .int .i64 m), (1, .int .i64 n)] [] rfl rfl (by kernel_rfl) (by kernel_rfl) ?_
  refine cont_done ?_
  refine then_normal ?_
  refine cont_seq ?_
  refine cont_region 3 rfl ?_
  refine batch0 [0] 1 2 [(0, .int .i64 m), (1, .int .i64 n), (9, .int .i64 m)] [] rfl rfl (by kernel_rfl) (by kernel_rfl) ?_
  refine pl_step 2 1 rfl rfl ?_
  refine call_gen (d := 10) (α := Nat × Nat × Int) (fun x_ => .pointer (some ⟨x_.1, 0, none⟩)) (fun x_ => [.cells x_.1 [.int .i64 x_.2.2, .map (some x_.2.1)] 54 true, .gen (mapE x_.2.1 (imsV []) true)]) (fun x_ => x_.2.2 = mn (mx m 1) 32) (by kernel_rfl) (fun w hT => (idsNew m w).mono fun e w' ⟨b_, m_, he_, ht_⟩ => ⟨(b_, m_, mn (mx m 1) 32), he_, rfl, hT.news ht_ rfl⟩) ?_
  rintro ⟨tb1, tm1, rm1⟩ hrm1
  replace hrm1 : rm1 = mn (mx m 1) 32 := hrm1
  show Cont _ _ _ [(10, .pointer (some ⟨tb1, 0, none⟩)), (0, .int .i64 m), (1, .int .i64 n), (9, .int .i64 m)] [.cells tb1 [.int .i64 rm1, .map (some tm1)] 54 true, .gen (mapE tm1 (imsV []) true)]
  have hrm11 : 1 ≤ rm1 ∧ rm1 ≤ 32 := by rw [hrm1]; unfold mn mx; omega
  refine batch0 [0] 3 0 [(0, .int .i64 m), (1, .int .i64 n), (5, .pointer (some ⟨tb1, 0, none⟩))] [.cells tb1 [.int .i64 rm1, .map (some tm1)] 54 true, .gen (mapE tm1 (imsV []) true)] rfl rfl (by kernel_rfl) (by kernel_rfl) ?_
  refine cont_done ?_
  refine then_normal ?_
  refine cont_seq ?_
  refine cont_seq ?_
  refine cont_region 2 rfl ?_
  refine batch0 [0, 0] 2 0 [(0, .int .i64 m), (1, .int .i64 n), (5, .pointer (some ⟨tb1, 0, none⟩)), (12, .bool false)] [.cells tb1 [.int .i64 rm1, .map (some tm1)] 54 true, .gen (mapE tm1 (imsV []) true)] rfl rfl (by kernel_rfl) (by kernel_rfl) ?_
  refine cont_done ?_
  refine then_normal ?_
  refine cont_false rfl ?_
  refine cont_skip ?_
  refine then_normal ?_
  refine cont_seq ?_
  refine cont_region 4 rfl ?_
  refine batch0 [0, 0, 0, 0] 4 0 [(1, .int .i64 n), (5, .pointer (some ⟨tb1, 0, none⟩)), (6, .int .i64 (mn (mx m 1) 32))] [.cells tb1 [.int .i64 rm1, .map (some tm1)] 54 true, .gen (mapE tm1 (imsV []) true)] rfl rfl (by kernel_rfl) (by kernel_rfl) ?_
  refine cont_done ?_
  refine then_normal ?_
  refine cont_seq ?_
  refine cont_region 4 rfl ?_
  refine cont_recast 6 (.int .i64 (mn (mx m 1) 32)) (.int .i64 rm1) rfl (congrArg (Value.int .i64) hrm1.symm) ?_
  refine batch0 [0, 0, 0, 0] 4 0 [(1, .int .i64 (mn (mx n 0) 40)), (5, .pointer (some ⟨tb1, 0, none⟩)), (6, .int .i64 rm1)] [.cells tb1 [.int .i64 rm1, .map (some tm1)] 54 true, .gen (mapE tm1 (imsV []) true)] rfl rfl (by kernel_rfl) (by kernel_rfl) ?_
  refine cont_done ?_
  refine then_normal ?_
  refine cont_seq ?_
  refine cont_seq ?_
  refine cont_region 1 rfl ?_
  obtain ⟨z, hz⟩ : ∃ y_ : Int, y_ = (mn (mx n 0) 40) := ⟨_, rfl⟩
  refine cont_recast 1 (.int .i64 (mn (mx n 0) 40)) (.int .i64 z) rfl (congrArg (Value.int .i64) hz.symm) ?_
  have hz1 : 0 ≤ z ∧ z ≤ 40 := by unfold mn mx at hz; omega
  refine batch0 [0] 1 0 [(1, .int .i64 z), (5, .pointer (some ⟨tb1, 0, none⟩)), (6, .int .i64 rm1), (7, .int .i64 1)] [.cells tb1 [.int .i64 rm1, .map (some tm1)] 54 true, .gen (mapE tm1 (imsV []) true)] rfl rfl (by kernel_rfl) (by kernel_rfl) ?_
  refine cont_done ?_
  refine then_normal ?_
  refine cont_block ?_
  refine cont_loop (α := Int × IL) (fun x_ : Int × IL => 1 ≤ x_.1 ∧ x_.1 ≤ z + 1 ∧ Quota rm1 x_.1 x_.2) (fun x_ : Int × IL => [(1, .int .i64 z), (5, .pointer (some ⟨tb1, 0, none⟩)), (6, .int .i64 rm1), (7, .int .i64 x_.1)]) (fun x_ : Int × IL => [.cells tb1 [.int .i64 rm1, .map (some tm1)] 54 true, .gen (mapE tm1 (imsV x_.2) true)]) (fun x_ : Int × IL => (z + 1 - x_.1).toNat) (1, []) (⟨by omega, by omega, Quota.start hrm11.1 hrm11.2⟩) (by kernel_rfl) (by kernel_rfl) ?_
  rintro ⟨i, l⟩ hinv2_
  replace hinv2_ : 1 ≤ i ∧ i ≤ z + 1 ∧ Quota rm1 i l := hinv2_
  show Cont _ _ _ [(1, .int .i64 z), (5, .pointer (some ⟨tb1, 0, none⟩)), (6, .int .i64 rm1), (7, .int .i64 i)] [.cells tb1 [.int .i64 rm1, .map (some tm1)] 54 true, .gen (mapE tm1 (imsV l) true)]
  obtain ⟨hi1, hi2, hq⟩ := hinv2_
  refine cont_seq ?_
  refine cont_seq ?_
  refine cont_region 3 rfl ?_
  refine batch0 [0, 0, 0] 3 0 [(1, .int .i64 z), (5, .pointer (some ⟨tb1, 0, none⟩)), (6, .int .i64 rm1), (7, .int .i64 i), (21, .bool (decide (i ≤ z)))] [.cells tb1 [.int .i64 rm1, .map (some tm1)] 54 true, .gen (mapE tm1 (imsV l) true)] rfl rfl (by kernel_rfl) (by kernel_rfl) ?_
  refine cont_done ?_
  refine then_normal ?_
  refine cont_split 21 (decide (i ≤ z)) rfl (fun c3_ => ?_) (fun c3_ => ?_)
  ·
    replace c3_ := of_decide_eq_true c3_
    refine cont_true rfl ?_
    refine cont_skip ?_
    refine then_normal ?_
    refine cont_seq ?_
    refine cont_block ?_
    refine cont_seq ?_
    refine cont_region 7 rfl ?_
    refine batch0 [0, 0, 0, 0] 4 3 [(1, .int .i64 z), (5, .pointer (some ⟨tb1, 0, none⟩)), (6, .int .i64 rm1), (7, .int .i64 i), (24, .pointer (some ⟨tb1, 0, none⟩)), (25, .int .i64 i), (27, .int .i64 (i.tmod 8))] [.cells tb1 [.int .i64 rm1, .map (some tm1)] 54 true, .gen (mapE tm1 (imsV l) true)] rfl rfl (by kernel_rfl) (by kernel_rfl) ?_
    refine cont_recast 27 (.int .i64 (i.tmod 8)) (.int .i64 (i % 8)) rfl (tmodI (by omega)) ?_
    refine batch0 [0] 5 2 [(1, .int .i64 z), (5, .pointer (some ⟨tb1, 0, none⟩)), (6, .int .i64 rm1), (7, .int .i64 i), (24, .pointer (some ⟨tb1, 0, none⟩)), (25, .int .i64 i), (28, .int .i64 (IntKind.i64.wrap (1 + (i % 8))))] [.cells tb1 [.int .i64 rm1, .map (some tm1)] 54 true, .gen (mapE tm1 (imsV l) true)] rfl rfl (by kernel_rfl) (by kernel_rfl) ?_
    refine cont_recast 28 (.int .i64 (IntKind.i64.wrap (1 + (i % 8)))) (.int .i64 (1 + (i % 8))) rfl (wrapI (by omega) (by omega)) ?_
    refine pl_step 6 1 rfl rfl ?_
    refine call_gen (d := 29) (α := Unit) (fun _ => .int .i64 (addE rm1 l i (1 + (i % 8)))) (fun _ => [.cells tb1 [.int .i64 rm1, .map (some tm1)] 54 true, .gen (mapE tm1 (imsV (addL rm1 l i (1 + (i % 8)))) true)]) (fun _ => True) (by kernel_rfl) (fun w hT => (idsAdd tb1 tm1 rm1 l i (1 + (i % 8)) w (hT.view (.cons (i := 0) rfl Vw.roc (.cons (i := 1) rfl Vw.map .nil)) (by decide)) hq.ok).mono fun e w' ⟨he_, ht_⟩ => ⟨(), he_, trivial, hT.merge (N := []) (s := [0, 1]) ht_ (.skip rfl (.cons (i := 1) rfl Mg.map .nil)) (by decide) (fun i e h => by simp at h)⟩) (fun _ _ => ?_)
    have hE := (hq.step (by omega) (by omega)).1
    by_cases hle : i ≤ rm1
    ·
      rw [if_pos hle] at hE
      refine cont_recast 29 (.int .i64 (addE rm1 l i (1 + (i % 8)))) (.int .i64 0) rfl (congrArg (Value.int .i64) hE) ?_
      refine batch0 [0] 7 0 [(1, .int .i64 z), (5, .pointer (some ⟨tb1, 0, none⟩)), (6, .int .i64 rm1), (7, .int .i64 i), (8, .int .i64 0)] [.cells tb1 [.int .i64 rm1, .map (some tm1)] 54 true, .gen (mapE tm1 (imsV (addL rm1 l i (1 + (i % 8)))) true)] rfl rfl (by kernel_rfl) (by kernel_rfl) ?_
      refine cont_done ?_
      refine then_normal ?_
      refine cont_seq ?_
      refine cont_region 14 rfl ?_
      refine batch0 [0, 0, 0, 0, 0] 5 9 [(1, .int .i64 z), (5, .pointer (some ⟨tb1, 0, none⟩)), (6, .int .i64 rm1), (7, .int .i64 i), (8, .int .i64 0), (31, .bool true), (34, .bool (decide (i ≤ rm1)))] [.cells tb1 [.int .i64 rm1, .map (some tm1)] 54 true, .gen (mapE tm1 (imsV (addL rm1 l i (1 + (i % 8)))) true)] rfl rfl (by kernel_rfl) (by kernel_rfl) ?_
      refine cont_recast 34 (.bool (decide (i ≤ rm1))) (.bool true) rfl (congrArg Value.bool (decide_eq_true hle)) ?_
      refine batch0 [0, 0, 0, 0, 0, 0, 0, 0, 0] 14 0 [(1, .int .i64 z), (5, .pointer (some ⟨tb1, 0, none⟩)), (6, .int .i64 rm1), (7, .int .i64 i), (37, .int .i64 0), (38, .bool false), (39, .bool false), (40, undef), (41, undef), (42, .bool false), (43, .bool false)] [.cells tb1 [.int .i64 rm1, .map (some tm1)] 54 true, .gen (mapE tm1 (imsV (addL rm1 l i (1 + (i % 8)))) true)] rfl rfl (by kernel_rfl) (by kernel_rfl) ?_
      refine cont_done ?_
      refine then_normal ?_
      refine cont_false rfl ?_
      refine cont_skip ?_
      refine blk_normal ?_
      refine then_normal ?_
      refine cont_region 3 rfl ?_
      refine batch0 [0, 0] 2 1 [(1, .int .i64 z), (5, .pointer (some ⟨tb1, 0, none⟩)), (6, .int .i64 rm1), (23, .int .i64 (IntKind.i64.wrap (i + 1))), (37, .int .i64 0), (38, .bool false), (39, .bool false), (40, undef), (41, undef), (42, .bool false)] [.cells tb1 [.int .i64 rm1, .map (some tm1)] 54 true, .gen (mapE tm1 (imsV (addL rm1 l i (1 + (i % 8)))) true)] rfl rfl (by kernel_rfl) (by kernel_rfl) ?_
      refine cont_recast 23 (.int .i64 (IntKind.i64.wrap (i + 1))) (.int .i64 (i + 1)) rfl (wrapI (by omega) (by omega)) ?_
      refine batch0 [0] 3 0 [(1, .int .i64 z), (5, .pointer (some ⟨tb1, 0, none⟩)), (6, .int .i64 rm1), (7, .int .i64 (i + 1)), (37, .int .i64 0), (38, .bool false), (39, .bool false), (40, undef), (41, undef), (42, .bool false)] [.cells tb1 [.int .i64 rm1, .map (some tm1)] 54 true, .gen (mapE tm1 (imsV (addL rm1 l i (1 + (i % 8)))) true)] rfl rfl (by kernel_rfl) (by kernel_rfl) ?_
      refine cont_done ?_
      refine then_normal ?_
      refine cont_again (i + 1, addL rm1 l i (1 + (i % 8))) (show 1 ≤ (i + 1) ∧ (i + 1) ≤ z + 1 ∧ Quota rm1 (i + 1) (addL rm1 l i (1 + (i % 8))) from ⟨by omega, by omega, (hq.step (by omega) (by omega)).2⟩) (show (z + 1 - (i + 1)).toNat < (z + 1 - i).toNat from by omega) (by kernel_rfl) (by kernel_rfl)
    rw [if_neg hle] at hE
    refine cont_recast 29 (.int .i64 (addE rm1 l i (1 + (i % 8)))) (.int .i64 10) rfl (congrArg (Value.int .i64) hE) ?_
    refine batch0 [0] 7 0 [(1, .int .i64 z), (5, .pointer (some ⟨tb1, 0, none⟩)), (6, .int .i64 rm1), (7, .int .i64 i), (8, .int .i64 10)] [.cells tb1 [.int .i64 rm1, .map (some tm1)] 54 true, .gen (mapE tm1 (imsV (addL rm1 l i (1 + (i % 8)))) true)] rfl rfl (by kernel_rfl) (by kernel_rfl) ?_
    refine cont_done ?_
    refine then_normal ?_
    refine cont_seq ?_
    refine cont_region 14 rfl ?_
    refine batch0 [0, 0, 0, 0, 0] 5 9 [(1, .int .i64 z), (5, .pointer (some ⟨tb1, 0, none⟩)), (6, .int .i64 rm1), (7, .int .i64 i), (8, .int .i64 10), (31, .bool false), (34, .bool (decide (i ≤ rm1)))] [.cells tb1 [.int .i64 rm1, .map (some tm1)] 54 true, .gen (mapE tm1 (imsV (addL rm1 l i (1 + (i % 8)))) true)] rfl rfl (by kernel_rfl) (by kernel_rfl) ?_
    refine cont_recast 34 (.bool (decide (i ≤ rm1))) (.bool false) rfl (congrArg Value.bool (decide_eq_false hle)) ?_
    refine batch0 [0, 0, 0, 0, 0, 0, 0, 0, 0] 14 0 [(1, .int .i64 z), (5, .pointer (some ⟨tb1, 0, none⟩)), (6, .int .i64 rm1), (7, .int .i64 i), (37, .int .i64 10), (38, .bool true), (39, .bool true), (40, .int .i64 10), (41, .bool false), (42, .bool false), (43, .bool false)] [.cells tb1 [.int .i64 rm1, .map (some tm1)] 54 true, .gen (mapE tm1 (imsV (addL rm1 l i (1 + (i % 8)))) true)] rfl rfl (by kernel_rfl) (by kernel_rfl) ?_
    refine cont_done ?_
    refine then_normal ?_
    refine cont_false rfl ?_
    refine cont_skip ?_
    refine blk_normal ?_
    refine then_normal ?_
    refine cont_region 3 rfl ?_
    refine batch0 [0, 0] 2 1 [(1, .int .i64 z), (5, .pointer (some ⟨tb1, 0, none⟩)), (6, .int .i64 rm1), (23, .int .i64 (IntKind.i64.wrap (i + 1))), (37, .int .i64 10), (38, .bool true), (39, .bool true), (40, .int .i64 10), (41, .bool false), (42, .bool false)] [.cells tb1 [.int .i64 rm1, .map (some tm1)] 54 true, .gen (mapE tm1 (imsV (addL rm1 l i (1 + (i % 8)))) true)] rfl rfl (by kernel_rfl) (by kernel_rfl) ?_
    refine cont_recast 23 (.int .i64 (IntKind.i64.wrap (i + 1))) (.int .i64 (i + 1)) rfl (wrapI (by omega) (by omega)) ?_
    refine batch0 [0] 3 0 [(1, .int .i64 z), (5, .pointer (some ⟨tb1, 0, none⟩)), (6, .int .i64 rm1), (7, .int .i64 (i + 1)), (37, .int .i64 10), (38, .bool true), (39, .bool true), (40, .int .i64 10), (41, .bool false), (42, .bool false)] [.cells tb1 [.int .i64 rm1, .map (some tm1)] 54 true, .gen (mapE tm1 (imsV (addL rm1 l i (1 + (i % 8)))) true)] rfl rfl (by kernel_rfl) (by kernel_rfl) ?_
    refine cont_done ?_
    refine then_normal ?_
    refine cont_again (i + 1, addL rm1 l i (1 + (i % 8))) (show 1 ≤ (i + 1) ∧ (i + 1) ≤ z + 1 ∧ Quota rm1 (i + 1) (addL rm1 l i (1 + (i % 8))) from ⟨by omega, by omega, (hq.step (by omega) (by omega)).2⟩) (show (z + 1 - (i + 1)).toNat < (z + 1 - i).toNat from by omega) (by kernel_rfl) (by kernel_rfl)
  replace c3_ := of_decide_eq_false c3_
  refine cont_false rfl ?_
  refine cont_exit ?_
  refine then_exit ?_
  refine then_exit ?_
  refine blk_exit ?_
  refine then_normal ?_
  refine cont_seq ?_
  refine cont_seq ?_
  refine cont_region 3 rfl ?_
  refine batch0 [0, 0, 0] 3 0 [(1, .int .i64 z), (5, .pointer (some ⟨tb1, 0, none⟩)), (46, .bool (decide (z < rm1)))] [.cells tb1 [.int .i64 rm1, .map (some tm1)] 54 true, .gen (mapE tm1 (imsV l) true)] rfl rfl (by kernel_rfl) (by kernel_rfl) ?_
  refine cont_done ?_
  refine then_normal ?_
  refine cont_split 46 (decide (z < rm1)) rfl (fun c6_ => ?_) (fun c6_ => ?_)
  ·
    replace c6_ := of_decide_eq_true c6_
    refine cont_true rfl ?_
    refine cont_seq ?_
    refine cont_region 8 rfl ?_
    refine batch0 [0] 1 7 [(1, .int .i64 z), (47, .pointer (some ⟨tb1, 0, none⟩))] [.cells tb1 [.int .i64 rm1, .map (some tm1)] 54 true, .gen (mapE tm1 (imsV l) true)] rfl rfl (by kernel_rfl) (by kernel_rfl) ?_
    refine pl_step 2 6 rfl rfl ?_
    refine call_pure (d := 48) (.int .i64 (l.length : Int)) (by kernel_rfl) (fun w hT => idsLen tb1 tm1 rm1 l w (hT.view (.cons (i := 0) rfl Vw.roc (.cons (i := 1) rfl Vw.mapRE .nil)) (by decide)) hq.ok) ?_
    refine batch0 [0, 0, 0] 5 3 [(51, .bool ((l.length : Int) == z))] [.cells tb1 [.int .i64 rm1, .map (some tm1)] 54 true, .gen (mapE tm1 (imsV l) true)] rfl rfl (by kernel_rfl) (by kernel_rfl) ?_
    refine cont_forget 0 rfl ?_
    refine cont_recast 51 (.bool ((l.length : Int) == z)) (.bool true) rfl (congrArg Value.bool (by have := hq.len; simp; omega)) ?_
    refine pl_step 6 2 rfl rfl ?_
    refine call_pure (d := 52) (.bool true) (by kernel_rfl) (fun w hT => lives11  w) ?_
    refine batch0 [0, 0] 8 0 [(4, .bool true)] [.gen (mapE tm1 (imsV l) true)] rfl rfl (by kernel_rfl) (by kernel_rfl) ?_
    refine cont_done ?_
    refine then_normal ?_
    refine cont_ret ?_
    refine then_ret ?_
    refine ret_one (.inl rfl) rfl 0 (.bool true) (by kernel_rfl) (by kernel_rfl) (fun w hT => ?_)
    exact ⟨rfl, hT.post rfl⟩
  replace c6_ := of_decide_eq_false c6_
  obtain ⟨f1, f2, f3, f4, f5, f6, f7, f8⟩ := hq.fin (by omega) hrm11.1 hrm11.2
  refine cont_false rfl ?_
  refine cont_skip ?_
  refine then_normal ?_
  refine cont_seq ?_
  refine cont_region 36 rfl ?_
  refine batch0 [0] 1 35 [(5, .pointer (some ⟨tb1, 0, none⟩)), (54, .pointer (some ⟨tb1, 0, none⟩))] [.cells tb1 [.int .i64 rm1, .map (some tm1)] 54 true, .gen (mapE tm1 (imsV l) true)] rfl rfl (by kernel_rfl) (by kernel_rfl) ?_
  refine pl_step 2 34 rfl rfl ?_
  refine call_pure (d := 55) (.int .i64 (rm1 - (l.length : Int))) (by kernel_rfl) (fun w hT => idsFree tb1 tm1 rm1 l w (hT.view (.cons (i := 0) rfl Vw.roc (.cons (i := 1) rfl Vw.mapRE .nil)) (by decide)) hq.ok) ?_
  refine cont_recast 55 (.int .i64 (rm1 - (l.length : Int))) (.int .i64 0) rfl (congrArg (Value.int .i64) f1) ?_
  refine batch0 [0, 0, 0] 5 31 [(5, .pointer (some ⟨tb1, 0, none⟩)), (57, .bool true), (58, .pointer (some ⟨tb1, 0, none⟩))] [.cells tb1 [.int .i64 rm1, .map (some tm1)] 54 true, .gen (mapE tm1 (imsV l) true)] rfl rfl (by kernel_rfl) (by kernel_rfl) ?_
  refine pl_step 6 30 rfl rfl ?_
  refine call_gen (d := 59) (α := Unit) (fun _ => .bool (kindL l 1 != 0)) (fun _ => [.cells tb1 [.int .i64 rm1, .map (some tm1)] 54 true, .gen (mapE tm1 (imsV (idel l 1)) true)]) (fun _ => True) (by kernel_rfl) (fun w hT => (idsDrop tb1 tm1 rm1 l 1 w (hT.view (.cons (i := 0) rfl Vw.roc (.cons (i := 1) rfl Vw.map .nil)) (by decide)) hq.ok).mono fun e w' ⟨he_, ht_⟩ => ⟨(), he_, trivial, hT.merge (N := []) (s := [0, 1]) ht_ (.skip rfl (.cons (i := 1) rfl Mg.map .nil)) (by decide) (fun i e h => by simp at h)⟩) (fun _ _ => ?_)
  refine cont_recast 59 (.bool (kindL l 1 != 0)) (.bool true) rfl (congrArg (Value.bool) (by simp [f2])) ?_
  refine batch0 [0, 0, 0] 9 27 [(5, .pointer (some ⟨tb1, 0, none⟩)), (61, .bool true), (62, .pointer (some ⟨tb1, 0, none⟩))] [.cells tb1 [.int .i64 rm1, .map (some tm1)] 54 true, .gen (mapE tm1 (imsV (idel l 1)) true)] rfl rfl (by kernel_rfl) (by kernel_rfl) ?_
  refine pl_step 10 26 rfl rfl ?_
  refine call_pure (d := 63) (.int .i64 (rm1 - ((idel l 1).length : Int))) (by kernel_rfl) (fun w hT => idsFree tb1 tm1 rm1 (idel l 1) w (hT.view (.cons (i := 0) rfl Vw.roc (.cons (i := 1) rfl Vw.mapRE .nil)) (by decide)) (hq.ok.del 1)) ?_
  refine cont_recast 63 (.int .i64 (rm1 - ((idel l 1).length : Int))) (.int .i64 1) rfl (congrArg (Value.int .i64) f3) ?_
  refine batch0 [0, 0, 0, 0] 14 22 [(5, .pointer (some ⟨tb1, 0, none⟩)), (66, .bool true), (67, .pointer (some ⟨tb1, 0, none⟩))] [.cells tb1 [.int .i64 rm1, .map (some tm1)] 54 true, .gen (mapE tm1 (imsV (idel l 1)) true)] rfl rfl (by kernel_rfl) (by kernel_rfl) ?_
  refine pl_step 15 21 rfl rfl ?_
  refine call_gen (d := 68) (α := Unit) (fun _ => .bool (kindL (idel l 1) 1 != 0)) (fun _ => [.cells tb1 [.int .i64 rm1, .map (some tm1)] 54 true, .gen (mapE tm1 (imsV (idel (idel l 1) 1)) true)]) (fun _ => True) (by kernel_rfl) (fun w hT => (idsDrop tb1 tm1 rm1 (idel l 1) 1 w (hT.view (.cons (i := 0) rfl Vw.roc (.cons (i := 1) rfl Vw.map .nil)) (by decide)) (hq.ok.del 1)).mono fun e w' ⟨he_, ht_⟩ => ⟨(), he_, trivial, hT.merge (N := []) (s := [0, 1]) ht_ (.skip rfl (.cons (i := 1) rfl Mg.map .nil)) (by decide) (fun i e h => by simp at h)⟩) (fun _ _ => ?_)
  refine cont_recast 68 (.bool (kindL (idel l 1) 1 != 0)) (.bool false) rfl (congrArg (Value.bool) (by simp [f4])) ?_
  have hl8_ : idel (idel l 1) 1 = idel l 1 := f5
  have hk9_ : IdsOk rm1 (idel l 1) := by have h_ := ((hq.ok.del 1).del 1); rw [hl8_] at h_; exact h_
  refine cont_mapEq 1 (idel (idel l 1) 1) (idel l 1) rfl hl8_ ?_
  refine batch0 [0, 0, 0, 0] 19 17 [(5, .pointer (some ⟨tb1, 0, none⟩)), (71, .bool true), (72, .pointer (some ⟨tb1, 0, none⟩))] [.cells tb1 [.int .i64 rm1, .map (some tm1)] 54 true, .gen (mapE tm1 (imsV (idel l 1)) true)] rfl rfl (by kernel_rfl) (by kernel_rfl) ?_
  refine pl_step 20 16 rfl rfl ?_
  refine call_gen (d := 73) (α := Unit) (fun _ => .int .i64 (addE rm1 (idel l 1) 99 8)) (fun _ => [.cells tb1 [.int .i64 rm1, .map (some tm1)] 54 true, .gen (mapE tm1 (imsV (addL rm1 (idel l 1) 99 8)) true)]) (fun _ => True) (by kernel_rfl) (fun w hT => (idsAdd tb1 tm1 rm1 (idel l 1) 99 8 w (hT.view (.cons (i := 0) rfl Vw.roc (.cons (i := 1) rfl Vw.map .nil)) (by decide)) hk9_).mono fun e w' ⟨he_, ht_⟩ => ⟨(), he_, trivial, hT.merge (N := []) (s := [0, 1]) ht_ (.skip rfl (.cons (i := 1) rfl Mg.map .nil)) (by decide) (fun i e h => by simp at h)⟩) (fun _ _ => ?_)
  refine cont_recast 73 (.int .i64 (addE rm1 (idel l 1) 99 8)) (.int .i64 0) rfl (congrArg (Value.int .i64) f6) ?_
  refine batch0 [0, 0, 0, 0] 24 12 [(5, .pointer (some ⟨tb1, 0, none⟩)), (76, .bool true), (77, .pointer (some ⟨tb1, 0, none⟩))] [.cells tb1 [.int .i64 rm1, .map (some tm1)] 54 true, .gen (mapE tm1 (imsV (addL rm1 (idel l 1) 99 8)) true)] rfl rfl (by kernel_rfl) (by kernel_rfl) ?_
  refine pl_step 25 11 rfl rfl ?_
  refine call_pure (d := 78) (.int .i64 (findE (addL rm1 (idel l 1) 99 8) 99 8)) (by kernel_rfl) (fun w hT => idsFind tb1 tm1 rm1 (addL rm1 (idel l 1) 99 8) 99 8 w (hT.view (.cons (i := 0) rfl Vw.roc (.cons (i := 1) rfl Vw.mapRE .nil)) (by decide)) (hk9_.add 99 8)) ?_
  refine cont_recast 78 (.int .i64 (findE (addL rm1 (idel l 1) 99 8) 99 8)) (.int .i64 0) rfl (congrArg (Value.int .i64) f7) ?_
  refine batch0 [0, 0, 0, 0] 29 7 [(81, .bool true), (82, .pointer (some ⟨tb1, 0, none⟩))] [.cells tb1 [.int .i64 rm1, .map (some tm1)] 54 true, .gen (mapE tm1 (imsV (addL rm1 (idel l 1) 99 8)) true)] rfl rfl (by kernel_rfl) (by kernel_rfl) ?_
  refine pl_step 30 6 rfl rfl ?_
  refine call_gen (d := 83) (α := Unit) (fun _ => .int .i64 (addE rm1 (addL rm1 (idel l 1) 99 8) 98 1)) (fun _ => [.cells tb1 [.int .i64 rm1, .map (some tm1)] 54 true, .gen (mapE tm1 (imsV (addL rm1 (addL rm1 (idel l 1) 99 8) 98 1)) true)]) (fun _ => True) (by kernel_rfl) (fun w hT => (idsAdd tb1 tm1 rm1 (addL rm1 (idel l 1) 99 8) 98 1 w (hT.view (.cons (i := 0) rfl Vw.roc (.cons (i := 1) rfl Vw.map .nil)) (by decide)) (hk9_.add 99 8)).mono fun e w' ⟨he_, ht_⟩ => ⟨(), he_, trivial, hT.merge (N := []) (s := [0, 1]) ht_ (.skip rfl (.cons (i := 1) rfl Mg.map .nil)) (by decide) (fun i e h => by simp at h)⟩) (fun _ _ => ?_)
  refine cont_recast 83 (.int .i64 (addE rm1 (addL rm1 (idel l 1) 99 8) 98 1)) (.int .i64 10) rfl (congrArg (Value.int .i64) f8) ?_
  refine batch0 [0, 0, 0] 33 3 [(86, .bool true)] [.cells tb1 [.int .i64 rm1, .map (some tm1)] 54 true, .gen (mapE tm1 (imsV (addL rm1 (addL rm1 (idel l 1) 99 8) 98 1)) true)] rfl rfl (by kernel_rfl) (by kernel_rfl) ?_
  refine cont_forget 0 rfl ?_
  refine pl_step 34 2 rfl rfl ?_
  refine call_pure (d := 87) (.bool true) (by kernel_rfl) (fun w hT => lives11  w) ?_
  refine batch0 [0, 0] 36 0 [(4, .bool true)] [.gen (mapE tm1 (imsV (addL rm1 (addL rm1 (idel l 1) 99 8) 98 1)) true)] rfl rfl (by kernel_rfl) (by kernel_rfl) ?_
  refine cont_done ?_
  refine then_normal ?_
  refine cont_ret ?_
  refine ret_one (.inl rfl) rfl 0 (.bool true) (by kernel_rfl) (by kernel_rfl) (fun w hT => ?_)
  exact ⟨rfl, hT.post rfl⟩

theorem walkIdsApart (A : Option Addr) (g o n cap : Nat) (xs : List Int) (w : World) (hr : Rd w A g o n 1 (ivals .i64 xs)) (hl : xs.length = n) (hc : n ≤ cap) (hm : cap ≤ maxLen) (hx : ∀ x ∈ xs, -9223372036854775808 ≤ x ∧ x ≤ 9223372036854775807) :
    Calls Try.prog 5 #[.slice A n cap] w fun e w' => e = .returned (.bool true) ∧ Below w.heap.size w w' := by
  unfold maxLen at hm
  clear hx
  refine enter 71 [(0, .slice A n cap)] [.gen (rdE (A) g o n 1 (ivals .i64 xs))] Try.func5 rfl Try.ntmps5 rfl (by kernel_rfl) hr.tab ?_
  refine cont_seq ?_
  refine cont_region 1 rfl ?_
  refine batch0 [0] 1 0 [(0, .slice A n cap)] [.gen (rdE (A) g o n 1 (ivals .i64 xs))] rfl rfl (by kernel_rfl) (by kernel_rfl) ?_
  refine cont_done ?_
  refine then_normal ?_
  refine cont_seq ?_
  refine cont_region 2 rfl ?_
  refine pl_step 1 1 rfl rfl ?_
  refine call_gen (d := 8) (α := Nat × Nat × Int) (fun x_ => .pointer (some ⟨x_.1, 0, none⟩)) (fun x_ => [.cells x_.1 [.int .i64 32, .map (some x_.2.1)] 54 true, .gen (mapE x_.2.1 (imsV []) true), .gen (rdE (A) g o n 1 (ivals .i64 xs))]) (fun x_ => x_.2.2 = mn (mx 32 1) 32) (by kernel_rfl) (fun w hT => (idsNew 32 w).mono fun e w' ⟨b_, m_, he_, ht_⟩ => ⟨(b_, m_, mn (mx 32 1) 32), he_, rfl, hT.news ht_ rfl⟩) ?_
  rintro ⟨tb1, tm1, rm1⟩ hrm1
  replace hrm1 : rm1 = mn (mx 32 1) 32 := hrm1
  show Cont _ _ _ [(8, .pointer (some ⟨tb1, 0, none⟩)), (0, .slice A n cap)] [.cells tb1 [.int .i64 32, .map (some tm1)] 54 true, .gen (mapE tm1 (imsV []) true), .gen (rdE (A) g o n 1 (ivals .i64 xs))]
  refine batch0 [0] 2 0 [(0, .slice A n cap), (3, .pointer (some ⟨tb1, 0, none⟩))] [.cells tb1 [.int .i64 32, .map (some tm1)] 54 true, .gen (mapE tm1 (imsV []) true), .gen (rdE (A) g o n 1 (ivals .i64 xs))] rfl rfl (by kernel_rfl) (by kernel_rfl) ?_
  refine cont_done ?_
  refine then_normal ?_
  refine cont_seq ?_
  refine cont_region 2 rfl ?_
  refine pl_step 1 1 rfl rfl ?_
  refine call_gen (d := 9) (α := Nat × Nat × Int) (fun x_ => .pointer (some ⟨x_.1, 0, none⟩)) (fun x_ => [.cells x_.1 [.int .i64 32, .map (some x_.2.1)] 54 true, .gen (mapE x_.2.1 (imsV []) true), .cells tb1 [.int .i64 32, .map (some tm1)] 54 true, .gen (mapE tm1 (imsV []) true), .gen (rdE (A) g o n 1 (ivals .i64 xs))]) (fun x_ => x_.2.2 = mn (mx 32 1) 32) (by kernel_rfl) (fun w hT => (idsNew 32 w).mono fun e w' ⟨b_, m_, he_, ht_⟩ => ⟨(b_, m_, mn (mx 32 1) 32), he_, rfl, hT.news ht_ rfl⟩) ?_
  rintro ⟨tb2, tm2, rm2⟩ hrm2
  replace hrm2 : rm2 = mn (mx 32 1) 32 := hrm2
  show Cont _ _ _ [(9, .pointer (some ⟨tb2, 0, none⟩)), (0, .slice A n cap), (3, .pointer (some ⟨tb1, 0, none⟩))] [.cells tb2 [.int .i64 32, .map (some tm2)] 54 true, .gen (mapE tm2 (imsV []) true), .cells tb1 [.int .i64 32, .map (some tm1)] 54 true, .gen (mapE tm1 (imsV []) true), .gen (rdE (A) g o n 1 (ivals .i64 xs))]
  refine batch0 [0] 2 0 [(0, .slice A n cap), (3, .pointer (some ⟨tb1, 0, none⟩)), (4, .pointer (some ⟨tb2, 0, none⟩))] [.cells tb2 [.int .i64 32, .map (some tm2)] 54 true, .gen (mapE tm2 (imsV []) true), .cells tb1 [.int .i64 32, .map (some tm1)] 54 true, .gen (mapE tm1 (imsV []) true), .gen (rdE (A) g o n 1 (ivals .i64 xs))] rfl rfl (by kernel_rfl) (by kernel_rfl) ?_
  refine cont_done ?_
  refine then_normal ?_
  refine cont_seq ?_
  refine cont_seq ?_
  refine cont_region 6 rfl ?_
  refine batch0 [0, 0, 0, 0, 0, 0] 6 0 [(0, .slice A n cap), (3, .pointer (some ⟨tb1, 0, none⟩)), (4, .pointer (some ⟨tb2, 0, none⟩)), (15, .bool false)] [.cells tb2 [.int .i64 32, .map (some tm2)] 54 true, .gen (mapE tm2 (imsV []) true), .cells tb1 [.int .i64 32, .map (some tm1)] 54 true, .gen (mapE tm1 (imsV []) true), .gen (rdE (A) g o n 1 (ivals .i64 xs))] rfl rfl (by kernel_rfl) (by kernel_rfl) ?_
  refine cont_done ?_
  refine then_normal ?_
  refine cont_false rfl ?_
  refine cont_skip ?_
  refine then_normal ?_
  refine cont_seq ?_
  refine cont_seq ?_
  refine cont_region 1 rfl ?_
  refine batch0 [0] 1 0 [(0, .slice A n cap), (3, .pointer (some ⟨tb1, 0, none⟩)), (4, .pointer (some ⟨tb2, 0, none⟩)), (5, .int .i64 0)] [.cells tb2 [.int .i64 32, .map (some tm2)] 54 true, .gen (mapE tm2 (imsV []) true), .cells tb1 [.int .i64 32, .map (some tm1)] 54 true, .gen (mapE tm1 (imsV []) true), .gen (rdE (A) g o n 1 (ivals .i64 xs))] rfl rfl (by kernel_rfl) (by kernel_rfl) ?_
  refine cont_done ?_
  refine then_normal ?_
  refine cont_block ?_
  refine cont_loop (α := Nat × IL) (fun x_ : Nat × IL => x_.1 ≤ n ∧ x_.1 ≤ 10 ∧ x_.2.length ≤ x_.1 ∧ IdsOk 32 x_.2) (fun x_ : Nat × IL => [(0, .slice A n cap), (3, .pointer (some ⟨tb1, 0, none⟩)), (4, .pointer (some ⟨tb2, 0, none⟩)), (5, .int .i64 (x_.1 : Int))]) (fun x_ : Nat × IL => [.cells tb2 [.int .i64 32, .map (some tm2)] 54 true, .gen (mapE tm2 (imsV []) true), .cells tb1 [.int .i64 32, .map (some tm1)] 54 true, .gen (mapE tm1 (imsV x_.2) true), .gen (rdE (A) g o n 1 (ivals .i64 xs))]) (fun x_ : Nat × IL => n - x_.1) (0, []) (⟨by omega, by omega, by simp, IdsOk.new (by decide) (by decide)⟩) (by kernel_rfl) (by kernel_rfl) ?_
  rintro ⟨i, l⟩ hinv3_
  replace hinv3_ : i ≤ n ∧ i ≤ 10 ∧ l.length ≤ i ∧ IdsOk 32 l := hinv3_
  show Cont _ _ _ [(0, .slice A n cap), (3, .pointer (some ⟨tb1, 0, none⟩)), (4, .pointer (some ⟨tb2, 0, none⟩)), (5, .int .i64 (i : Int))] [.cells tb2 [.int .i64 32, .map (some tm2)] 54 true, .gen (mapE tm2 (imsV []) true), .cells tb1 [.int .i64 32, .map (some tm1)] 54 true, .gen (mapE tm1 (imsV l) true), .gen (rdE (A) g o n 1 (ivals .i64 xs))]
  obtain ⟨hi1, hi2, hll, hk⟩ := hinv3_
  have ht1 := Int.tmod_lt_of_pos (xs.getD i 0) (show (0 : Int) < 40 by decide)
  have ht2 := Int.lt_tmod_of_pos (xs.getD i 0) (show (0 : Int) < 40 by decide)
  refine cont_seq ?_
  refine cont_seq ?_
  refine cont_region 8 rfl ?_
  refine batch0 [0, 0, 0, 0, 0] 5 3 [(0, .slice A n cap), (3, .pointer (some ⟨tb1, 0, none⟩)), (4, .pointer (some ⟨tb2, 0, none⟩)), (5, .int .i64 (i : Int)), (20, .bool (decide ((i : Int) < (n : Int))))] [.cells tb2 [.int .i64 32, .map (some tm2)] 54 true, .gen (mapE tm2 (imsV []) true), .cells tb1 [.int .i64 32, .map (some tm1)] 54 true, .gen (mapE tm1 (imsV l) true), .gen (rdE (A) g o n 1 (ivals .i64 xs))] rfl rfl (by kernel_rfl) (by kernel_rfl) ?_
  refine cont_split 20 (decide ((i : Int) < (n : Int))) rfl (fun c4_ => ?_) (fun c4_ => ?_)
  ·
    replace c4_ := of_decide_eq_true c4_
    refine batch0 [0, 0, 0] 8 0 [(0, .slice A n cap), (3, .pointer (some ⟨tb1, 0, none⟩)), (4, .pointer (some ⟨tb2, 0, none⟩)), (5, .int .i64 (i : Int)), (21, .int .i64 (i : Int)), (22, .bool (decide ((i : Int) < 10))), (23, .bool (decide ((i : Int) < 10)))] [.cells tb2 [.int .i64 32, .map (some tm2)] 54 true, .gen (mapE tm2 (imsV []) true), .cells tb1 [.int .i64 32, .map (some tm1)] 54 true, .gen (mapE tm1 (imsV l) true), .gen (rdE (A) g o n 1 (ivals .i64 xs))] rfl rfl (by kernel_rfl) (by kernel_rfl) ?_
    refine cont_done ?_
    refine then_normal ?_
    refine cont_split 23 (decide ((i : Int) < 10)) rfl (fun c5_ => ?_) (fun c5_ => ?_)
    ·
      refine cont_recast 22 (.bool (decide ((i : Int) < 10))) (.bool true) rfl (congrArg Value.bool c5_) ?_
      replace c5_ := of_decide_eq_true c5_
      refine cont_true rfl ?_
      refine cont_skip ?_
      refine then_normal ?_
      refine cont_seq ?_
      refine cont_block ?_
      refine cont_seq ?_
      refine drawn_enter 14 [] rfl (by kernel_rfl) ?_
      refine takes 0 [] [(0, 0), (1, 0), (5, 0), (6, 0)] 10 [6, 5, 1, 0] [(0, .slice A n cap), (3, .pointer (some ⟨tb1, 0, none⟩)), (4, .pointer (some ⟨tb2, 0, none⟩)), (5, .int .i64 (i : Int)), (21, .int .i64 (i : Int)), (22, .bool true), (26, .slice A n cap), (27, .int .i64 (i : Int)), (31, .slice A n cap), (32, .int .i64 (i : Int))] (by kernel_rfl) (by repeat' (first | exact pok_body | refine pok_then ?_ | refine pok_blk ?_)) (by kernel_rfl) rfl rfl (by kernel_rfl) (by kernel_rfl) ?_
      refine cont_recast 26 (.slice A n cap) (.slice (some ⟨g, o, none⟩) n cap) rfl (by rw [hr.at_ (by omega)]) ?_
      refine sem_take 0 [] 2 9 28 (Instr.indexAt 32 (.slice (some ⟨g, o, none⟩) n cap) (.int .i64 (i : Int))) (.pointer (some ⟨g, o + i, none⟩)) (by kernel_rfl) (by repeat' (first | exact pok_body | refine pok_then ?_ | refine pok_blk ?_)) (by kernel_rfl) rfl (by kernel_rfl) (by kernel_rfl) (fun w hT => run_indexAt (e := 3) (sz := 1) _ (by kernel_rfl) (by kernel_rfl) (by omega) (by omega) (by omega) w) ?_
      refine sem_take 0 [] 3 8 29 (Instr.loadAt 3 (.pointer (some ⟨g, o + i, none⟩))) (.int .i64 (xs.getD i 0)) (by kernel_rfl) (by repeat' (first | exact pok_body | refine pok_then ?_ | refine pok_blk ?_)) (by kernel_rfl) rfl (by kernel_rfl) (by kernel_rfl) (fun w hT => run_load1 (by kernel_rfl) (Rd.cell (hT 4 _ rfl) (i) _ (ivals_get (by omega)))) ?_
      refine takes 0 [] [(4, 0)] 7 [4, 3, 2, 6, 5, 1, 0] [(0, .slice A n cap), (3, .pointer (some ⟨tb1, 0, none⟩)), (4, .pointer (some ⟨tb2, 0, none⟩)), (5, .int .i64 (i : Int)), (21, .int .i64 (i : Int)), (22, .bool true), (30, .int .i64 ((xs.getD i 0).tmod 40)), (31, .slice A n cap), (32, .int .i64 (i : Int))] (by kernel_rfl) (by repeat' (first | exact pok_body | refine pok_then ?_ | refine pok_blk ?_)) (by kernel_rfl) rfl rfl (by kernel_rfl) (by kernel_rfl) ?_
      refine cont_recast 31 (.slice A n cap) (.slice (some ⟨g, o, none⟩) n cap) rfl (by rw [hr.at_ (by omega)]) ?_
      refine sem_take 0 [] 7 6 33 (Instr.indexAt 32 (.slice (some ⟨g, o, none⟩) n cap) (.int .i64 (i : Int))) (.pointer (some ⟨g, o + i, none⟩)) (by kernel_rfl) (by repeat' (first | exact pok_body | refine pok_then ?_ | refine pok_blk ?_)) (by kernel_rfl) rfl (by kernel_rfl) (by kernel_rfl) (fun w hT => run_indexAt (e := 3) (sz := 1) _ (by kernel_rfl) (by kernel_rfl) (by omega) (by omega) (by omega) w) ?_
      refine sem_take 0 [] 8 5 34 (Instr.loadAt 3 (.pointer (some ⟨g, o + i, none⟩))) (.int .i64 (xs.getD i 0)) (by kernel_rfl) (by repeat' (first | exact pok_body | refine pok_then ?_ | refine pok_blk ?_)) (by kernel_rfl) rfl (by kernel_rfl) (by kernel_rfl) (fun w hT => run_load1 (by kernel_rfl) (Rd.cell (hT 4 _ rfl) (i) _ (ivals_get (by omega)))) ?_
      refine takes 0 [] [(9, 0)] 4 [9, 8, 7, 4, 3, 2, 6, 5, 1, 0] [(0, .slice A n cap), (3, .pointer (some ⟨tb1, 0, none⟩)), (4, .pointer (some ⟨tb2, 0, none⟩)), (5, .int .i64 (i : Int)), (21, .int .i64 (i : Int)), (22, .bool true), (30, .int .i64 ((xs.getD i 0).tmod 40)), (35, .int .i64 ((xs.getD i 0).tmod 40))] (by kernel_rfl) (by repeat' (first | exact pok_body | refine pok_then ?_ | refine pok_blk ?_)) (by kernel_rfl) rfl rfl (by kernel_rfl) (by kernel_rfl) ?_
      refine takes 0 [] [(10, 0)] 3 [10, 9, 8, 7, 4, 3, 2, 6, 5, 1, 0] [(0, .slice A n cap), (3, .pointer (some ⟨tb1, 0, none⟩)), (4, .pointer (some ⟨tb2, 0, none⟩)), (5, .int .i64 (i : Int)), (21, .int .i64 (i : Int)), (22, .bool true), (30, .int .i64 ((xs.getD i 0).tmod 40)), (36, .int .i64 (IntKind.i64.wrap (0 - ((xs.getD i 0).tmod 40))))] (by kernel_rfl) (by repeat' (first | exact pok_body | refine pok_then ?_ | refine pok_blk ?_)) (by kernel_rfl) rfl rfl (by kernel_rfl) (by kernel_rfl) ?_
      refine cont_recast 36 (.int .i64 (IntKind.i64.wrap (0 - ((xs.getD i 0).tmod 40)))) (.int .i64 (0 - ((xs.getD i 0).tmod 40))) rfl (wrapI (by omega) (by omega)) ?_
      refine takes 0 [] [(11, 0), (12, 0)] 1 [12, 11, 10, 9, 8, 7, 4, 3, 2, 6, 5, 1, 0] [(0, .slice A n cap), (3, .pointer (some ⟨tb1, 0, none⟩)), (4, .pointer (some ⟨tb2, 0, none⟩)), (5, .int .i64 (i : Int)), (21, .int .i64 (i : Int)), (22, .bool true), (38, .int .i64 (IntKind.i64.wrap (1 + (mx ((xs.getD i 0).tmod 40) (0 - ((xs.getD i 0).tmod 40))))))] (by kernel_rfl) (by repeat' (first | exact pok_body | refine pok_then ?_ | refine pok_blk ?_)) (by kernel_rfl) rfl rfl (by kernel_rfl) (by kernel_rfl) ?_
      refine cont_recast 38 (.int .i64 (IntKind.i64.wrap (1 + (mx ((xs.getD i 0).tmod 40) (0 - ((xs.getD i 0).tmod 40)))))) (.int .i64 (1 + (mx ((xs.getD i 0).tmod 40) (0 - ((xs.getD i 0).tmod 40))))) rfl (wrapI (by unfold mx; omega) (by unfold mx; omega)) ?_
      refine takes 0 [] [(13, 0)] 0 [13, 12, 11, 10, 9, 8, 7, 4, 3, 2, 6, 5, 1, 0] [(0, .slice A n cap), (3, .pointer (some ⟨tb1, 0, none⟩)), (4, .pointer (some ⟨tb2, 0, none⟩)), (5, .int .i64 (i : Int)), (6, .int .i64 (1 + (mx ((xs.getD i 0).tmod 40) (0 - ((xs.getD i 0).tmod 40))))), (21, .int .i64 (i : Int)), (22, .bool true)] (by kernel_rfl) (by repeat' (first | exact pok_body | refine pok_then ?_ | refine pok_blk ?_)) (by kernel_rfl) rfl rfl (by kernel_rfl) (by kernel_rfl) ?_
      refine drawn_done (by kernel_rfl) ?_
      refine then_normal ?_
      refine cont_seq ?_
      refine cont_region 4 rfl ?_
      obtain ⟨x, hx⟩ : ∃ y_ : Int, y_ = (1 + (mx ((xs.getD i 0).tmod 40) (0 - ((xs.getD i 0).tmod 40)))) := ⟨_, rfl⟩
      refine cont_recast 6 (.int .i64 (1 + (mx ((xs.getD i 0).tmod 40) (0 - ((xs.getD i 0).tmod 40))))) (.int .i64 x) rfl (congrArg (Value.int .i64) hx.symm) ?_
      have hx1 : 1 ≤ x ∧ x ≤ 40 := by unfold mx at hx; omega
      refine batch0 [0, 0] 2 2 [(0, .slice A n cap), (3, .pointer (some ⟨tb1, 0, none⟩)), (4, .pointer (some ⟨tb2, 0, none⟩)), (5, .int .i64 (i : Int)), (6, .int .i64 x), (21, .int .i64 (i : Int)), (22, .bool true), (39, .pointer (some ⟨tb1, 0, none⟩)), (40, .int .i64 x)] [.cells tb2 [.int .i64 32, .map (some tm2)] 54 true, .gen (mapE tm2 (imsV []) true), .cells tb1 [.int .i64 32, .map (some tm1)] 54 true, .gen (mapE tm1 (imsV l) true), .gen (rdE (A) g o n 1 (ivals .i64 xs))] rfl rfl (by kernel_rfl) (by kernel_rfl) ?_
      refine pl_step 3 1 rfl rfl ?_
      refine call_gen (d := 41) (α := Unit) (fun _ => .int .i64 (addE 32 l x 1)) (fun _ => [.cells tb2 [.int .i64 32, .map (some tm2)] 54 true, .gen (mapE tm2 (imsV []) true), .cells tb1 [.int .i64 32, .map (some tm1)] 54 true, .gen (mapE tm1 (imsV (addL 32 l x 1)) true), .gen (rdE (A) g o n 1 (ivals .i64 xs))]) (fun _ => True) (by kernel_rfl) (fun w hT => (idsAdd tb1 tm1 32 l x 1 w (hT.view (.cons (i := 2) rfl Vw.roc (.cons (i := 3) rfl Vw.map .nil)) (by decide)) hk).mono fun e w' ⟨he_, ht_⟩ => ⟨(), he_, trivial, hT.merge (N := []) (s := [2, 3]) ht_ (.skip rfl (.cons (i := 3) rfl Mg.map .nil)) (by decide) (fun i e h => by simp at h)⟩) (fun _ _ => ?_)
      have hE : addE 32 l x 1 = 0 ∨ addE 32 l x 1 = 6 := by unfold addE; rw [if_neg (by omega)]; split <;> first | exact .inr rfl | (rw [if_neg (by omega)]; exact .inl rfl)
      refine batch0 [0] 4 0 [(0, .slice A n cap), (3, .pointer (some ⟨tb1, 0, none⟩)), (4, .pointer (some ⟨tb2, 0, none⟩)), (5, .int .i64 (i : Int)), (6, .int .i64 x), (7, .int .i64 (addE 32 l x 1)), (21, .int .i64 (i : Int)), (22, .bool true)] [.cells tb2 [.int .i64 32, .map (some tm2)] 54 true, .gen (mapE tm2 (imsV []) true), .cells tb1 [.int .i64 32, .map (some tm1)] 54 true, .gen (mapE tm1 (imsV (addL 32 l x 1)) true), .gen (rdE (A) g o n 1 (ivals .i64 xs))] rfl rfl (by kernel_rfl) (by kernel_rfl) ?_
      refine cont_done ?_
      refine then_normal ?_
      refine cont_seq ?_
      refine cont_region 23 rfl ?_
      refine batch0 [0, 0] 2 21 [(0, .slice A n cap), (3, .pointer (some ⟨tb1, 0, none⟩)), (4, .pointer (some ⟨tb2, 0, none⟩)), (5, .int .i64 (i : Int)), (6, .int .i64 x), (7, .int .i64 (addE 32 l x 1)), (21, .int .i64 (i : Int)), (22, .bool true), (42, .pointer (some ⟨tb2, 0, none⟩)), (43, .int .i64 x)] [.cells tb2 [.int .i64 32, .map (some tm2)] 54 true, .gen (mapE tm2 (imsV []) true), .cells tb1 [.int .i64 32, .map (some tm1)] 54 true, .gen (mapE tm1 (imsV (addL 32 l x 1)) true), .gen (rdE (A) g o n 1 (ivals .i64 xs))] rfl rfl (by kernel_rfl) (by kernel_rfl) ?_
      refine pl_step 3 20 rfl rfl ?_
      refine call_pure (d := 44) (.int .i64 (kindL [] x)) (by kernel_rfl) (fun w hT => idsKind tb2 tm2 32 [] x w (hT.view (.cons (i := 0) rfl Vw.roc (.cons (i := 1) rfl Vw.mapRE .nil)) (by decide)) (IdsOk.new (m := 32) (by decide) (by decide))) ?_
      refine cont_recast 44 (.int .i64 (kindL [] x)) (.int .i64 0) rfl (congrArg (Value.int .i64) rfl) ?_
      refine batch0 [0, 0, 0, 0] 7 16 [(0, .slice A n cap), (3, .pointer (some ⟨tb1, 0, none⟩)), (4, .pointer (some ⟨tb2, 0, none⟩)), (5, .int .i64 (i : Int)), (6, .int .i64 x), (7, .int .i64 (addE 32 l x 1)), (21, .int .i64 (i : Int)), (22, .bool true), (46, .bool false), (47, .pointer (some ⟨tb2, 0, none⟩)), (48, .int .i64 x)] [.cells tb2 [.int .i64 32, .map (some tm2)] 54 true, .gen (mapE tm2 (imsV []) true), .cells tb1 [.int .i64 32, .map (some tm1)] 54 true, .gen (mapE tm1 (imsV (addL 32 l x 1)) true), .gen (rdE (A) g o n 1 (ivals .i64 xs))] rfl rfl (by kernel_rfl) (by kernel_rfl) ?_
      refine pl_step 8 15 rfl rfl ?_
      refine call_pure (d := 49) (.int .i64 (findE [] x 1)) (by kernel_rfl) (fun w hT => idsFind tb2 tm2 32 [] x 1 w (hT.view (.cons (i := 0) rfl Vw.roc (.cons (i := 1) rfl Vw.mapRE .nil)) (by decide)) (IdsOk.new (m := 32) (by decide) (by decide))) ?_
      refine cont_recast 49 (.int .i64 (findE [] x 1)) (.int .i64 5) rfl (congrArg (Value.int .i64) rfl) ?_
      refine batch0 [0, 0, 0, 0, 0] 13 10 [(0, .slice A n cap), (3, .pointer (some ⟨tb1, 0, none⟩)), (4, .pointer (some ⟨tb2, 0, none⟩)), (5, .int .i64 (i : Int)), (7, .int .i64 (addE 32 l x 1)), (21, .int .i64 (i : Int)), (22, .bool true), (47, .pointer (some ⟨tb2, 0, none⟩)), (48, .int .i64 x), (49, .int .i64 5), (50, .bool false), (52, .bool false), (53, .pointer (some ⟨tb2, 0, none⟩)), (54, .int .i64 x)] [.cells tb2 [.int .i64 32, .map (some tm2)] 54 true, .gen (mapE tm2 (imsV []) true), .cells tb1 [.int .i64 32, .map (some tm1)] 54 true, .gen (mapE tm1 (imsV (addL 32 l x 1)) true), .gen (rdE (A) g o n 1 (ivals .i64 xs))] rfl rfl (by kernel_rfl) (by kernel_rfl) ?_
      refine pl_step 14 9 rfl rfl ?_
      refine call_gen (d := 55) (α := Unit) (fun _ => .bool (kindL [] x != 0)) (fun _ => [.cells tb2 [.int .i64 32, .map (some tm2)] 54 true, .gen (mapE tm2 (imsV (idel [] x)) true), .cells tb1 [.int .i64 32, .map (some tm1)] 54 true, .gen (mapE tm1 (imsV (addL 32 l x 1)) true), .gen (rdE (A) g o n 1 (ivals .i64 xs))]) (fun _ => True) (by kernel_rfl) (fun w hT => (idsDrop tb2 tm2 32 [] x w (hT.view (.cons (i := 0) rfl Vw.roc (.cons (i := 1) rfl Vw.map .nil)) (by decide)) (IdsOk.new (m := 32) (by decide) (by decide))).mono fun e w' ⟨he_, ht_⟩ => ⟨(), he_, trivial, hT.merge (N := []) (s := [0, 1]) ht_ (.skip rfl (.cons (i := 1) rfl Mg.map .nil)) (by decide) (fun i e h => by simp at h)⟩) (fun _ _ => ?_)
      refine cont_recast 55 (.bool (kindL [] x != 0)) (.bool false) rfl (congrArg (Value.bool) rfl) ?_
      have hl6_ : idel [] x = [] := rfl
      have hk7_ : IdsOk 32 [] := by have h_ := ((IdsOk.new (m := 32) (by decide) (by decide)).del x); rw [hl6_] at h_; exact h_
      refine cont_mapEq 1 (idel [] x) ([]) rfl hl6_ ?_
      refine batch0 [0, 0, 0, 0, 0] 19 4 [(0, .slice A n cap), (3, .pointer (some ⟨tb1, 0, none⟩)), (4, .pointer (some ⟨tb2, 0, none⟩)), (5, .int .i64 (i : Int)), (7, .int .i64 (addE 32 l x 1)), (21, .int .i64 (i : Int)), (22, .bool true), (47, .pointer (some ⟨tb2, 0, none⟩)), (48, .int .i64 x), (49, .int .i64 5), (50, .bool false), (53, .pointer (some ⟨tb2, 0, none⟩)), (54, .int .i64 x), (55, .bool false), (57, .bool false), (58, .int .i64 (addE 32 l x 1)), (59, .bool ((addE 32 l x 1) != 0)), (60, .bool ((addE 32 l x 1) != 0))] [.cells tb2 [.int .i64 32, .map (some tm2)] 54 true, .gen (mapE tm2 (imsV []) true), .cells tb1 [.int .i64 32, .map (some tm1)] 54 true, .gen (mapE tm1 (imsV (addL 32 l x 1)) true), .gen (rdE (A) g o n 1 (ivals .i64 xs))] rfl rfl (by kernel_rfl) (by kernel_rfl) ?_
      refine cont_split 60 ((addE 32 l x 1) != 0) rfl (fun c8_ => ?_) (fun c8_ => ?_)
      ·
        refine cont_recast 59 (.bool ((addE 32 l x 1) != 0)) (.bool true) rfl (congrArg Value.bool c8_) ?_
        replace c8_ := ne_of_bne c8_
        refine batch0 [0, 0, 0, 0] 23 0 [(0, .slice A n cap), (3, .pointer (some ⟨tb1, 0, none⟩)), (4, .pointer (some ⟨tb2, 0, none⟩)), (5, .int .i64 (i : Int)), (21, .int .i64 (i : Int)), (22, .bool true), (47, .pointer (some ⟨tb2, 0, none⟩)), (48, .int .i64 x), (49, .int .i64 5), (50, .bool false), (53, .pointer (some ⟨tb2, 0, none⟩)), (54, .int .i64 x), (55, .bool false), (58, .int .i64 (addE 32 l x 1)), (59, .bool true), (60, .bool true), (61, .int .i64 (addE 32 l x 1)), (62, .bool ((addE 32 l x 1) != 6)), (63, .bool ((addE 32 l x 1) != 6)), (64, .bool ((addE 32 l x 1) != 6))] [.cells tb2 [.int .i64 32, .map (some tm2)] 54 true, .gen (mapE tm2 (imsV []) true), .cells tb1 [.int .i64 32, .map (some tm1)] 54 true, .gen (mapE tm1 (imsV (addL 32 l x 1)) true), .gen (rdE (A) g o n 1 (ivals .i64 xs))] rfl rfl (by kernel_rfl) (by kernel_rfl) ?_
        refine cont_done ?_
        refine then_normal ?_
        refine cont_recast 64 (.bool ((addE 32 l x 1) != 6)) (.bool false) rfl (congrArg Value.bool (by rcases hE with h_ | h_ <;> simp_all)) ?_
        refine cont_recast 62 (.bool ((addE 32 l x 1) != 6)) (.bool false) rfl (congrArg Value.bool (by rcases hE with h_ | h_ <;> simp_all)) ?_
        refine cont_recast 63 (.bool ((addE 32 l x 1) != 6)) (.bool false) rfl (congrArg Value.bool (by rcases hE with h_ | h_ <;> simp_all)) ?_
        refine cont_false rfl ?_
        refine cont_skip ?_
        refine blk_normal ?_
        refine then_normal ?_
        refine cont_region 3 rfl ?_
        refine batch0 [0, 0] 2 1 [(0, .slice A n cap), (3, .pointer (some ⟨tb1, 0, none⟩)), (4, .pointer (some ⟨tb2, 0, none⟩)), (21, .int .i64 (i : Int)), (22, .bool true), (25, .int .i64 (IntKind.i64.wrap ((i : Int) + 1))), (47, .pointer (some ⟨tb2, 0, none⟩)), (48, .int .i64 x), (49, .int .i64 5), (50, .bool false), (53, .pointer (some ⟨tb2, 0, none⟩)), (54, .int .i64 x), (55, .bool false), (58, .int .i64 (addE 32 l x 1)), (59, .bool true), (60, .bool true), (61, .int .i64 (addE 32 l x 1)), (62, .bool false), (63, .bool false)] [.cells tb2 [.int .i64 32, .map (some tm2)] 54 true, .gen (mapE tm2 (imsV []) true), .cells tb1 [.int .i64 32, .map (some tm1)] 54 true, .gen (mapE tm1 (imsV (addL 32 l x 1)) true), .gen (rdE (A) g o n 1 (ivals .i64 xs))] rfl rfl (by kernel_rfl) (by kernel_rfl) ?_
        refine cont_recast 25 (.int .i64 (IntKind.i64.wrap ((i : Int) + 1))) (.int .i64 ((i : Int) + 1)) rfl (wrapI (by omega) (by omega)) ?_
        refine batch0 [0] 3 0 [(0, .slice A n cap), (3, .pointer (some ⟨tb1, 0, none⟩)), (4, .pointer (some ⟨tb2, 0, none⟩)), (5, .int .i64 ((i : Int) + 1)), (21, .int .i64 (i : Int)), (22, .bool true), (47, .pointer (some ⟨tb2, 0, none⟩)), (48, .int .i64 x), (49, .int .i64 5), (50, .bool false), (53, .pointer (some ⟨tb2, 0, none⟩)), (54, .int .i64 x), (55, .bool false), (58, .int .i64 (addE 32 l x 1)), (59, .bool true), (60, .bool true), (61, .int .i64 (addE 32 l x 1)), (62, .bool false), (63, .bool false)] [.cells tb2 [.int .i64 32, .map (some tm2)] 54 true, .gen (mapE tm2 (imsV []) true), .cells tb1 [.int .i64 32, .map (some tm1)] 54 true, .gen (mapE tm1 (imsV (addL 32 l x 1)) true), .gen (rdE (A) g o n 1 (ivals .i64 xs))] rfl rfl (by kernel_rfl) (by kernel_rfl) ?_
        refine cont_done ?_
        refine then_normal ?_
        refine cont_again (i + 1, addL 32 l x 1) (show (i + 1) ≤ n ∧ (i + 1) ≤ 10 ∧ (addL 32 l x 1).length ≤ (i + 1) ∧ IdsOk 32 (addL 32 l x 1) from ⟨by omega, by omega, by have := len_add hk x 1; split at this <;> omega, hk.add x 1⟩) (show n - (i + 1) < n - i from by omega) (by kernel_rfl) (by kernel_rfl)
      refine cont_recast 59 (.bool ((addE 32 l x 1) != 0)) (.bool false) rfl (congrArg Value.bool c8_) ?_
      replace c8_ := eq_of_bne_false c8_
      refine batch0 [0, 0, 0, 0] 23 0 [(0, .slice A n cap), (3, .pointer (some ⟨tb1, 0, none⟩)), (4, .pointer (some ⟨tb2, 0, none⟩)), (5, .int .i64 (i : Int)), (21, .int .i64 (i : Int)), (22, .bool true), (47, .pointer (some ⟨tb2, 0, none⟩)), (48, .int .i64 x), (49, .int .i64 5), (50, .bool false), (53, .pointer (some ⟨tb2, 0, none⟩)), (54, .int .i64 x), (55, .bool false), (58, .int .i64 (addE 32 l x 1)), (59, .bool false), (60, .bool false), (61, undef), (62, undef), (63, .bool false), (64, .bool false)] [.cells tb2 [.int .i64 32, .map (some tm2)] 54 true, .gen (mapE tm2 (imsV []) true), .cells tb1 [.int .i64 32, .map (some tm1)] 54 true, .gen (mapE tm1 (imsV (addL 32 l x 1)) true), .gen (rdE (A) g o n 1 (ivals .i64 xs))] rfl rfl (by kernel_rfl) (by kernel_rfl) ?_
      refine cont_done ?_
      refine then_normal ?_
      refine cont_false rfl ?_
      refine cont_skip ?_
      refine blk_normal ?_
      refine then_normal ?_
      refine cont_region 3 rfl ?_
      refine batch0 [0, 0] 2 1 [(0, .slice A n cap), (3, .pointer (some ⟨tb1, 0, none⟩)), (4, .pointer (some ⟨tb2, 0, none⟩)), (21, .int .i64 (i : Int)), (22, .bool true), (25, .int .i64 (IntKind.i64.wrap ((i : Int) + 1))), (47, .pointer (some ⟨tb2, 0, none⟩)), (48, .int .i64 x), (49, .int .i64 5), (50, .bool false), (53, .pointer (some ⟨tb2, 0, none⟩)), (54, .int .i64 x), (55, .bool false), (58, .int .i64 (addE 32 l x 1)), (59, .bool false), (60, .bool false), (61, undef), (62, undef), (63, .bool false)] [.cells tb2 [.int .i64 32, .map (some tm2)] 54 true, .gen (mapE tm2 (imsV []) true), .cells tb1 [.int .i64 32, .map (some tm1)] 54 true, .gen (mapE tm1 (imsV (addL 32 l x 1)) true), .gen (rdE (A) g o n 1 (ivals .i64 xs))] rfl rfl (by kernel_rfl) (by kernel_rfl) ?_
      refine cont_recast 25 (.int .i64 (IntKind.i64.wrap ((i : Int) + 1))) (.int .i64 ((i : Int) + 1)) rfl (wrapI (by omega) (by omega)) ?_
      refine batch0 [0] 3 0 [(0, .slice A n cap), (3, .pointer (some ⟨tb1, 0, none⟩)), (4, .pointer (some ⟨tb2, 0, none⟩)), (5, .int .i64 ((i : Int) + 1)), (21, .int .i64 (i : Int)), (22, .bool true), (47, .pointer (some ⟨tb2, 0, none⟩)), (48, .int .i64 x), (49, .int .i64 5), (50, .bool false), (53, .pointer (some ⟨tb2, 0, none⟩)), (54, .int .i64 x), (55, .bool false), (58, .int .i64 (addE 32 l x 1)), (59, .bool false), (60, .bool false), (61, undef), (62, undef), (63, .bool false)] [.cells tb2 [.int .i64 32, .map (some tm2)] 54 true, .gen (mapE tm2 (imsV []) true), .cells tb1 [.int .i64 32, .map (some tm1)] 54 true, .gen (mapE tm1 (imsV (addL 32 l x 1)) true), .gen (rdE (A) g o n 1 (ivals .i64 xs))] rfl rfl (by kernel_rfl) (by kernel_rfl) ?_
      refine cont_done ?_
      refine then_normal ?_
      refine cont_again (i + 1, addL 32 l x 1) (show (i + 1) ≤ n ∧ (i + 1) ≤ 10 ∧ (addL 32 l x 1).length ≤ (i + 1) ∧ IdsOk 32 (addL 32 l x 1) from ⟨by omega, by omega, by have := len_add hk x 1; split at this <;> omega, hk.add x 1⟩) (show n - (i + 1) < n - i from by omega) (by kernel_rfl) (by kernel_rfl)
    refine cont_recast 22 (.bool (decide ((i : Int) < 10))) (.bool false) rfl (congrArg Value.bool c5_) ?_
    replace c5_ := of_decide_eq_false c5_
    refine cont_false rfl ?_
    refine cont_exit ?_
    refine then_exit ?_
    refine then_exit ?_
    refine blk_exit ?_
    refine then_normal ?_
    refine cont_seq ?_
    refine cont_region 7 rfl ?_
    refine batch0 [0] 1 6 [(65, .pointer (some ⟨tb2, 0, none⟩))] [.cells tb2 [.int .i64 32, .map (some tm2)] 54 true, .gen (mapE tm2 (imsV []) true), .cells tb1 [.int .i64 32, .map (some tm1)] 54 true, .gen (mapE tm1 (imsV l) true), .gen (rdE (A) g o n 1 (ivals .i64 xs))] rfl rfl (by kernel_rfl) (by kernel_rfl) ?_
    refine cont_forget 2 rfl ?_
    refine pl_step 2 5 rfl rfl ?_
    refine call_pure (d := 66) (.int .i64 (([] : IL).length : Int)) (by kernel_rfl) (fun w hT => idsLen tb2 tm2 32 [] w (hT.view (.cons (i := 0) rfl Vw.roc (.cons (i := 1) rfl Vw.mapRE .nil)) (by decide)) (IdsOk.new (m := 32) (by decide) (by decide))) ?_
    refine cont_recast 66 (.int .i64 (([] : IL).length : Int)) (.int .i64 0) rfl (congrArg (Value.int .i64) rfl) ?_
    refine batch0 [0, 0] 4 3 [(68, .bool true)] [.cells tb2 [.int .i64 32, .map (some tm2)] 54 true, .gen (mapE tm2 (imsV []) true), .gen (mapE tm1 (imsV l) true), .gen (rdE (A) g o n 1 (ivals .i64 xs))] rfl rfl (by kernel_rfl) (by kernel_rfl) ?_
    refine cont_forget 0 rfl ?_
    refine pl_step 5 2 rfl rfl ?_
    refine call_pure (d := 69) (.bool true) (by kernel_rfl) (fun w hT => lives11  w) ?_
    refine batch0 [0, 0] 7 0 [(2, .bool true)] [.gen (mapE tm2 (imsV []) true), .gen (mapE tm1 (imsV l) true), .gen (rdE (A) g o n 1 (ivals .i64 xs))] rfl rfl (by kernel_rfl) (by kernel_rfl) ?_
    refine cont_done ?_
    refine then_normal ?_
    refine cont_ret ?_
    refine ret_one (.inl rfl) rfl 0 (.bool true) (by kernel_rfl) (by kernel_rfl) (fun w hT => ?_)
    exact ⟨rfl, hT.post rfl⟩
  replace c4_ := of_decide_eq_false c4_
  refine batch0 [0, 0, 0] 8 0 [(0, .slice A n cap), (3, .pointer (some ⟨tb1, 0, none⟩)), (4, .pointer (some ⟨tb2, 0, none⟩)), (5, .int .i64 (i : Int)), (21, undef), (22, undef), (23, .bool false)] [.cells tb2 [.int .i64 32, .map (some tm2)] 54 true, .gen (mapE tm2 (imsV []) true), .cells tb1 [.int .i64 32, .map (some tm1)] 54 true, .gen (mapE tm1 (imsV l) true), .gen (rdE (A) g o n 1 (ivals .i64 xs))] rfl rfl (by kernel_rfl) (by kernel_rfl) ?_
  refine cont_done ?_
  refine then_normal ?_
  refine cont_false rfl ?_
  refine cont_exit ?_
  refine then_exit ?_
  refine then_exit ?_
  refine blk_exit ?_
  refine then_normal ?_
  refine cont_seq ?_
  refine cont_region 7 rfl ?_
  refine batch0 [0] 1 6 [(65, .pointer (some ⟨tb2, 0, none⟩))] [.cells tb2 [.int .i64 32, .map (some tm2)] 54 true, .gen (mapE tm2 (imsV []) true), .cells tb1 [.int .i64 32, .map (some tm1)] 54 true, .gen (mapE tm1 (imsV l) true), .gen (rdE (A) g o n 1 (ivals .i64 xs))] rfl rfl (by kernel_rfl) (by kernel_rfl) ?_
  refine cont_forget 2 rfl ?_
  refine pl_step 2 5 rfl rfl ?_
  refine call_pure (d := 66) (.int .i64 (([] : IL).length : Int)) (by kernel_rfl) (fun w hT => idsLen tb2 tm2 32 [] w (hT.view (.cons (i := 0) rfl Vw.roc (.cons (i := 1) rfl Vw.mapRE .nil)) (by decide)) (IdsOk.new (m := 32) (by decide) (by decide))) ?_
  refine cont_recast 66 (.int .i64 (([] : IL).length : Int)) (.int .i64 0) rfl (congrArg (Value.int .i64) rfl) ?_
  refine batch0 [0, 0] 4 3 [(68, .bool true)] [.cells tb2 [.int .i64 32, .map (some tm2)] 54 true, .gen (mapE tm2 (imsV []) true), .gen (mapE tm1 (imsV l) true), .gen (rdE (A) g o n 1 (ivals .i64 xs))] rfl rfl (by kernel_rfl) (by kernel_rfl) ?_
  refine cont_forget 0 rfl ?_
  refine pl_step 5 2 rfl rfl ?_
  refine call_pure (d := 69) (.bool true) (by kernel_rfl) (fun w hT => lives11  w) ?_
  refine batch0 [0, 0] 7 0 [(2, .bool true)] [.gen (mapE tm2 (imsV []) true), .gen (mapE tm1 (imsV l) true), .gen (rdE (A) g o n 1 (ivals .i64 xs))] rfl rfl (by kernel_rfl) (by kernel_rfl) ?_
  refine cont_done ?_
  refine then_normal ?_
  refine cont_ret ?_
  refine ret_one (.inl rfl) rfl 0 (.bool true) (by kernel_rfl) (by kernel_rfl) (fun w hT => ?_)
  exact ⟨rfl, hT.post rfl⟩

end Go.Proofs.Ytekgdfaggagfmaa
