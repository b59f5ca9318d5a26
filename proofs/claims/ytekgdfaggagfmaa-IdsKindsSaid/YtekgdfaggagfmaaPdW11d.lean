/- Contracts of functions of the given program, printed by a program of this project. -/
import Derived.Test.YtekgdfaggagfmaaPdL11b
import Derived.Test.YtekgdfaggagfmaaPdDk11
import Derived.Test.YtekgdfaggagfmaaProg
set_option linter.unusedVariables false
set_option linter.unusedSimpArgs false
namespace Go.Proofs.Ytekgdfaggagfmaa
open Go Go.RowKit
set_option maxRecDepth 100000
set_option maxHeartbeats 8000000

theorem lives11 (w : World) :
    Calls Try.prog 11 #[] w fun e w' => e = .returned (.bool true) ∧ Below w.heap.size w w' := by
 refine enter 13 [] [] Try.func11 rfl Try.ntmps11 rfl (by kernel_rfl) (Tab.start w) ?_
 refine cont_seq ?_
 refine cont_region 1 rfl ?_
 refine bS [0] 1 0 [] ?_
 refine cont_done ?_
 refine then_normal ?_
 refine cont_seq ?_
 refine cont_region 2 rfl ?_
 refine pl_step 1 1 rfl rfl ?_
 refine call_gen (d := 2) (α := Nat × Nat × Int) (fun x_ => .pointer (pB x_.1)) (fun x_ => [.cells x_.1 [iq 3, .map (some x_.2.1)] 54 true, .gen (mapE x_.2.1 (imsV []) true)]) (fun x_ => x_.2.2 = mn (mx 3 1) 32) (by kernel_rfl) (fun w hT => (idsNew 3 w).mono fun e w' ⟨b_, m_, he_, ht_⟩ => ⟨(b_, m_, mn (mx 3 1) 32), he_, rfl, hT.news ht_ rfl⟩) ?_
 rintro ⟨tb1, tm1, rm1⟩ hrm1
 replace hrm1 : rm1 = mn (mx 3 1) 32 := hrm1
 refine cont_norm [(2, .pointer (pB tb1))] _ (by kernel_rfl) rfl ?_
 refine bS [0] 2 0 [(1, .pointer (pB tb1))] ?_
 refine cont_done ?_
 refine then_normal ?_
 refine cont_seq ?_
 refine cont_seq ?_
 refine cont_region 2 rfl ?_
 refine bS [0, 0] 2 0 [(1, .pointer (pB tb1)), (4, .bool false)] ?_
 refine cont_done ?_
 refine then_normal ?_
 refine cont_false rfl ?_
 refine cont_skip ?_
 refine then_normal ?_
 refine cont_seq ?_
 refine cont_region 9 rfl ?_
 refine bS [0] 1 8 [(1, .pointer (pB tb1)), (5, .pointer (pB tb1))] ?_
 refine pl_step 2 7 rfl rfl ?_
 refine call_gen (d := 6) (α := Unit) (fun _ => iq (addE 3 [] 5 1)) (fun _ => [.cells tb1 [iq 3, .map (some tm1)] 54 true, .gen (mapE tm1 (imsV (addL 3 [] 5 1)) true)]) (fun _ => True) (by kernel_rfl) (fun w hT => (idsAdd tb1 tm1 3 [] 5 1 w (hT.view (.cons (i := 0) rfl Vw.roc (.cons (i := 1) rfl Vw.map .nil)) (by decide)) (IdsOk.new (m := 3) (by decide) (by decide))).mono fun e w' ⟨he_, ht_⟩ => ⟨(), he_, trivial, hT.merge (N := []) (s := [0, 1]) ht_ (.skip rfl (.cons (i := 1) rfl Mg.map .nil)) (by decide) (fun i e h => by simp at h)⟩) (fun _ _ => ?_)
 refine cont_recast 6 (iq (addE 3 [] 5 1)) (iq 0) rfl (congrArg (Value.int .i64) rfl) ?_
 have hl2_ : addL 3 [] 5 1 = [(5, 1)] := rfl
 have hk3_ : IdsOk 3 [(5, 1)] := by have h_ := ((IdsOk.new (m := 3) (by decide) (by decide)).add 5 1); rw [hl2_] at h_; exact h_
 refine cont_mapEq 1 (addL 3 [] 5 1) ([(5, 1)]) rfl hl2_ ?_
 refine bS [0, 0, 0] 5 4 [(8, .bool true), (9, .pointer (pB tb1))] ?_
 refine pl_step 6 3 rfl rfl ?_
 refine call_pure (d := 10) (iq (findE [(5, 1)] 5 2)) (by kernel_rfl) (fun w hT => idsFind tb1 tm1 3 [(5, 1)] 5 2 w (hT.viewRo (.cons (i := 0) rfl Vw.roc (.cons (i := 1) rfl Vw.mapRE .nil)) rfl) hk3_) ?_
 refine cont_recast 10 (iq (findE [(5, 1)] 5 2)) (iq 9) rfl (congrArg (Value.int .i64) rfl) ?_
 refine bS [0, 0, 0] 9 0 [(0, .bool true)] ?_
 refine cont_forget 0 rfl ?_
 refine cont_done ?_
 refine then_normal ?_
 refine cont_ret ?_
 refine ret_one (.inl rfl) rfl 0 (.bool true) (by kernel_rfl) (by kernel_rfl) (fun w hT => ?_)
 exact ⟨rfl, hT.post rfl⟩

theorem walkIdsKinds (A : Option Addr) (g o n cap : Nat) (xs : List Deed11) (w : World) (hr : Rd w A g o n 3 (dvals Deed11.cells xs)) (hl : xs.length = n) (hc : n ≤ cap) (hm : cap ≤ maxLen) (hg : ∀ d ∈ xs, Deed11.Good w d) :
    Calls Try.prog 6 #[.slice A n cap] w fun e w' => e = .returned (.bool true) ∧ Below w.heap.size w w' := by
 unfold maxLen at hm
 obtain ⟨hra, _⟩ := Rd.factsD Deed11.size (by decide) hr
 have hge : ∀ i, i < n → Deed11.Good w (dget xs i) := fun i hi => hg _ (dget_mem (by omega))
 refine enter 118 [(0, .slice A n cap)] [.gen (rdE (A) g o n 3 (dvals Deed11.cells xs))] Try.func6 rfl Try.ntmps6 rfl (by kernel_rfl) (Tab.olds (fun i_ e_ he_ => by
   match i_, he_ with
   | 0, he_ => cases he_; exact ⟨hr, rfl, rfl⟩
   | _ + 1, he_ => cases he_)) ?_
 refine cont_seq ?_
 refine cont_region 1 rfl ?_
 refine bS [0] 1 0 [(0, .slice A n cap)] ?_
 refine cont_done ?_
 refine then_normal ?_
 refine cont_seq ?_
 refine cont_region 2 rfl ?_
 refine pl_step 1 1 rfl rfl ?_
 refine call_gen (d := 11) (α := Nat × Nat × Int) (fun x_ => .pointer (pB x_.1)) (fun x_ => [.cells x_.1 [iq 32, .map (some x_.2.1)] 54 true, .gen (mapE x_.2.1 (imsV []) true), .gen (rdE (A) g o n 3 (dvals Deed11.cells xs))]) (fun x_ => x_.2.2 = mn (mx 32 1) 32) (by kernel_rfl) (fun w hT => (idsNew 32 w).mono fun e w' ⟨b_, m_, he_, ht_⟩ => ⟨(b_, m_, mn (mx 32 1) 32), he_, rfl, hT.news ht_ rfl⟩) ?_
 rintro ⟨tb1, tm1, rm1⟩ hrm1
 replace hrm1 : rm1 = mn (mx 32 1) 32 := hrm1
 refine cont_norm [(0, .slice A n cap), (11, .pointer (pB tb1))] _ (by kernel_rfl) rfl ?_
 refine bS [0] 2 0 [(0, .slice A n cap), (3, .pointer (pB tb1))] ?_
 refine cont_done ?_
 refine then_normal ?_
 refine cont_seq ?_
 refine cont_seq ?_
 refine cont_region 2 rfl ?_
 refine bS [0, 0] 2 0 [(0, .slice A n cap), (3, .pointer (pB tb1)), (13, .bool false)] ?_
 refine cont_done ?_
 refine then_normal ?_
 refine cont_false rfl ?_
 refine cont_skip ?_
 refine then_normal ?_
 refine cont_seq ?_
 refine cont_seq ?_
 refine cont_region 1 rfl ?_
 refine bS [0] 1 0 [(0, .slice A n cap), (3, .pointer (pB tb1)), (4, iq 0)] ?_
 refine cont_done ?_
 refine then_normal ?_
 refine cont_block ?_
 refine cont_loop (α := Nat × IL) (fun x_ : Nat × IL => x_.1 ≤ n ∧ IdsOk 32 x_.2) (fun x_ : Nat × IL => [(0, .slice A n cap), (3, .pointer (pB tb1)), (4, iq (x_.1 : Int))]) (fun x_ : Nat × IL => [.cells tb1 [iq 32, .map (some tm1)] 54 true, .gen (mapE tm1 (imsV x_.2) true), .gen (rdE (A) g o n 3 (dvals Deed11.cells xs))]) (fun x_ : Nat × IL => n - x_.1) (0, []) (show (0) ≤ n ∧ IdsOk 32 ([]) from ⟨by omega, (IdsOk.new (m := 32) (by decide) (by decide))⟩) (by kernel_rfl) (by kernel_rfl) ?_
 rintro ⟨i, l⟩ hinv2_
 replace hinv2_ : i ≤ n ∧ IdsOk 32 l := hinv2_
 refine cont_norm [(0, .slice A n cap), (3, .pointer (pB tb1)), (4, iq (i : Int))] _ (by kernel_rfl) rfl ?_
 obtain ⟨hi, hlk⟩ := hinv2_
 have hmx1 := hlk.le
 refine cont_seq ?_
 refine cont_seq ?_
 refine cont_region 8 rfl ?_
 refine bS [0, 0, 0, 0, 0] 5 3 [(0, .slice A n cap), (3, .pointer (pB tb1)), (4, iq (i : Int)), (18, .bool (decide ((i : Int) < (n : Int))))] ?_
 refine cont_split 18 (decide ((i : Int) < (n : Int))) rfl (fun c3_ => ?_) (fun c3_ => ?_)
 ·
  replace c3_ := of_decide_eq_true c3_
  refine bS [0, 0, 0] 8 0 [(0, .slice A n cap), (3, .pointer (pB tb1)), (4, iq (i : Int)), (19, iq (i : Int)), (20, .bool (decide ((i : Int) < 20))), (21, .bool (decide ((i : Int) < 20)))] ?_
  refine cont_done ?_
  refine then_normal ?_
  refine cont_split 21 (decide ((i : Int) < 20)) rfl (fun c4_ => ?_) (fun c4_ => ?_)
  ·
   refine cont_recast 20 (.bool (decide ((i : Int) < 20))) (.bool true) rfl (congrArg Value.bool c4_) ?_
   replace c4_ := of_decide_eq_true c4_
   refine cont_true rfl ?_
   refine cont_skip ?_
   refine then_normal ?_
   refine cont_seq ?_
   refine cont_block ?_
   refine cont_seq ?_
   refine cont_region 8 rfl ?_
   generalize hel : dget xs i = el
   have helg := hge i (by omega)
   rw [hel] at helg
   have hw1_ := helg.w1
   have hw2_ := helg.w2
   have ht1_ := Int.tmod_lt_of_pos el.x1 (show (0 : Int) < 40 by decide)
   have ht2_ := Int.lt_tmod_of_pos el.x1 (show (0 : Int) < 40 by decide)
   have ht3_ := Int.tmod_lt_of_pos el.x2 (show (0 : Int) < 8 by decide)
   have ht4_ := Int.lt_tmod_of_pos el.x2 (show (0 : Int) < 8 by decide)
   refine bS [0, 0] 2 6 [(0, .slice A n cap), (3, .pointer (pB tb1)), (4, iq (i : Int)), (19, iq (i : Int)), (20, .bool true), (24, .slice A n cap), (25, iq (i : Int))] ?_
   refine pl_step 3 5 rfl rfl ?_
   refine cont_recast 24 (.slice A n cap) (.slice (some ⟨g, o, none⟩) n cap) rfl (by rw [hra (by omega)]) ?_
   refine sem_step 26 (Instr.indexAt 34 (.slice (some ⟨g, o, none⟩) n cap) (iq (i : Int))) (.pointer (some ⟨g, o + i * 3, none⟩)) (by kernel_rfl) (fun w hT => run_indexAt (e := 36) (sz := 3) _ (by kernel_rfl) (by kernel_rfl) (by omega) (by omega) (by omega) w) ?_
   refine bS [0] 4 4 [(0, .slice A n cap), (3, .pointer (pB tb1)), (4, iq (i : Int)), (19, iq (i : Int)), (20, .bool true), (27, .pointer (some ⟨g, o + i * 3 + 1, none⟩))] ?_
   refine pl_step 5 3 rfl rfl ?_
   refine sem_step 28 (Instr.loadAt 3 (.pointer (some ⟨g, o + i * 3 + 1, none⟩))) (iq el.x1) (by kernel_rfl) (fun w hT => run_load1 (by kernel_rfl) (Rd.dcell1 Deed11.size (hT.ok 2 _ rfl) (i := i) (by omega) 1 (by rw [hel]; rfl))) ?_
   refine bS [0] 6 2 [(0, .slice A n cap), (3, .pointer (pB tb1)), (4, iq (i : Int)), (19, iq (i : Int)), (20, .bool true), (29, iq (el.x1.tmod 40))] ?_
   refine bS [0] 7 1 [(0, .slice A n cap), (3, .pointer (pB tb1)), (4, iq (i : Int)), (19, iq (i : Int)), (20, .bool true), (30, iq (IntKind.i64.wrap (1 + (el.x1.tmod 40))))] ?_
   refine cont_recast 30 (iq (IntKind.i64.wrap (1 + (el.x1.tmod 40)))) (iq (1 + (el.x1.tmod 40))) rfl (wrapI (by omega) (by omega)) ?_
   refine bS [0] 8 0 [(0, .slice A n cap), (3, .pointer (pB tb1)), (4, iq (i : Int)), (5, iq (1 + (el.x1.tmod 40))), (19, iq (i : Int)), (20, .bool true)] ?_
   refine cont_done ?_
   refine then_normal ?_
   refine cont_seq ?_
   refine cont_region 8 rfl ?_
   refine bS [0, 0] 2 6 [(0, .slice A n cap), (3, .pointer (pB tb1)), (4, iq (i : Int)), (5, iq (1 + (el.x1.tmod 40))), (19, iq (i : Int)), (20, .bool true), (31, .slice A n cap), (32, iq (i : Int))] ?_
   refine pl_step 3 5 rfl rfl ?_
   refine cont_recast 31 (.slice A n cap) (.slice (some ⟨g, o, none⟩) n cap) rfl (by rw [hra (by omega)]) ?_
   refine sem_step 33 (Instr.indexAt 34 (.slice (some ⟨g, o, none⟩) n cap) (iq (i : Int))) (.pointer (some ⟨g, o + i * 3, none⟩)) (by kernel_rfl) (fun w hT => run_indexAt (e := 36) (sz := 3) _ (by kernel_rfl) (by kernel_rfl) (by omega) (by omega) (by omega) w) ?_
   refine bS [0] 4 4 [(0, .slice A n cap), (3, .pointer (pB tb1)), (4, iq (i : Int)), (5, iq (1 + (el.x1.tmod 40))), (19, iq (i : Int)), (20, .bool true), (34, .pointer (some ⟨g, o + i * 3 + 2, none⟩))] ?_
   refine pl_step 5 3 rfl rfl ?_
   refine sem_step 35 (Instr.loadAt 3 (.pointer (some ⟨g, o + i * 3 + 2, none⟩))) (iq el.x2) (by kernel_rfl) (fun w hT => run_load1 (by kernel_rfl) (Rd.dcell1 Deed11.size (hT.ok 2 _ rfl) (i := i) (by omega) 2 (by rw [hel]; rfl))) ?_
   refine bS [0] 6 2 [(0, .slice A n cap), (3, .pointer (pB tb1)), (4, iq (i : Int)), (5, iq (1 + (el.x1.tmod 40))), (19, iq (i : Int)), (20, .bool true), (36, iq (el.x2.tmod 8))] ?_
   refine bS [0] 7 1 [(0, .slice A n cap), (3, .pointer (pB tb1)), (4, iq (i : Int)), (5, iq (1 + (el.x1.tmod 40))), (19, iq (i : Int)), (20, .bool true), (37, iq (IntKind.i64.wrap (1 + (el.x2.tmod 8))))] ?_
   refine cont_recast 37 (iq (IntKind.i64.wrap (1 + (el.x2.tmod 8)))) (iq (1 + (el.x2.tmod 8))) rfl (wrapI (by omega) (by omega)) ?_
   refine bS [0] 8 0 [(0, .slice A n cap), (3, .pointer (pB tb1)), (4, iq (i : Int)), (5, iq (1 + (el.x1.tmod 40))), (6, iq (1 + (el.x2.tmod 8))), (19, iq (i : Int)), (20, .bool true)] ?_
   refine cont_done ?_
   refine then_normal ?_
   refine cont_region 10 rfl ?_
   refine bS [0, 0, 0, 0] 4 6 [(0, .slice A n cap), (3, .pointer (pB tb1)), (4, iq (i : Int)), (6, iq (1 + (el.x2.tmod 8))), (19, iq (i : Int)), (20, .bool true), (38, .pointer (pB tb1)), (39, iq (1 + (el.x1.tmod 40))), (41, iq (IntKind.i64.wrap (2 - (1 + (el.x1.tmod 40)))))] ?_
   refine cont_recast 41 (iq (IntKind.i64.wrap (2 - (1 + (el.x1.tmod 40))))) (iq (2 - (1 + (el.x1.tmod 40)))) rfl (wrapI (by omega) (by omega)) ?_
   refine bS [0, 0, 0, 0] 8 2 [(0, .slice A n cap), (3, .pointer (pB tb1)), (4, iq (i : Int)), (19, iq (i : Int)), (20, .bool true), (38, .pointer (pB tb1)), (42, iq (mx (1 + (el.x1.tmod 40)) (2 - (1 + (el.x1.tmod 40))))), (43, iq (1 + (el.x2.tmod 8))), (45, iq (IntKind.i64.wrap (2 - (1 + (el.x2.tmod 8)))))] ?_
   refine cont_recast 45 (iq (IntKind.i64.wrap (2 - (1 + (el.x2.tmod 8))))) (iq (2 - (1 + (el.x2.tmod 8)))) rfl (wrapI (by omega) (by omega)) ?_
   refine bS [0] 9 1 [(0, .slice A n cap), (3, .pointer (pB tb1)), (4, iq (i : Int)), (19, iq (i : Int)), (20, .bool true), (38, .pointer (pB tb1)), (42, iq (mx (1 + (el.x1.tmod 40)) (2 - (1 + (el.x1.tmod 40))))), (46, iq (mx (1 + (el.x2.tmod 8)) (2 - (1 + (el.x2.tmod 8)))))] ?_
   refine pl_step 10 0 rfl rfl ?_
   refine call_gen (d := 47) (α := Unit) (fun _ => iq (addE 32 l (mx (1 + (el.x1.tmod 40)) (2 - (1 + (el.x1.tmod 40)))) (mx (1 + (el.x2.tmod 8)) (2 - (1 + (el.x2.tmod 8)))))) (fun _ => [.cells tb1 [iq 32, .map (some tm1)] 54 true, .gen (mapE tm1 (imsV (addL 32 l (mx (1 + (el.x1.tmod 40)) (2 - (1 + (el.x1.tmod 40)))) (mx (1 + (el.x2.tmod 8)) (2 - (1 + (el.x2.tmod 8)))))) true), .gen (rdE (A) g o n 3 (dvals Deed11.cells xs))]) (fun _ => True) (by kernel_rfl) (fun w hT => (idsAdd tb1 tm1 32 l (mx (1 + (el.x1.tmod 40)) (2 - (1 + (el.x1.tmod 40)))) (mx (1 + (el.x2.tmod 8)) (2 - (1 + (el.x2.tmod 8)))) w (hT.view (.cons (i := 0) rfl Vw.roc (.cons (i := 1) rfl Vw.map .nil)) (by decide)) hlk).mono fun e w' ⟨he_, ht_⟩ => ⟨(), he_, trivial, hT.merge (N := []) (s := [0, 1]) ht_ (.skip rfl (.cons (i := 1) rfl Mg.map .nil)) (by decide) (fun i e h => by simp at h)⟩) (fun _ _ => ?_)
   refine cont_done ?_
   refine blk_normal ?_
   refine then_normal ?_
   refine cont_region 3 rfl ?_
   refine bS [0, 0] 2 1 [(0, .slice A n cap), (3, .pointer (pB tb1)), (19, iq (i : Int)), (20, .bool true), (23, iq (IntKind.i64.wrap ((i : Int) + 1)))] ?_
   refine cont_recast 23 (iq (IntKind.i64.wrap ((i : Int) + 1))) (iq ((i : Int) + 1)) rfl (wrapI (by omega) (by omega)) ?_
   refine bS [0] 3 0 [(0, .slice A n cap), (3, .pointer (pB tb1)), (4, iq ((i : Int) + 1)), (19, iq (i : Int)), (20, .bool true)] ?_
   refine cont_done ?_
   refine then_normal ?_
   refine cont_again (i + 1, addL 32 l (mx (1 + (el.x1.tmod 40)) (2 - (1 + (el.x1.tmod 40)))) (mx (1 + (el.x2.tmod 8)) (2 - (1 + (el.x2.tmod 8))))) (show (i + 1) ≤ n ∧ IdsOk 32 (addL 32 l (mx (1 + (el.x1.tmod 40)) (2 - (1 + (el.x1.tmod 40)))) (mx (1 + (el.x2.tmod 8)) (2 - (1 + (el.x2.tmod 8))))) from ⟨by omega, (hlk.add (mx (1 + (el.x1.tmod 40)) (2 - (1 + (el.x1.tmod 40)))) (mx (1 + (el.x2.tmod 8)) (2 - (1 + (el.x2.tmod 8)))))⟩) (show n - (i + 1) < n - i from by omega) (by kernel_rfl) (by kernel_rfl)
  refine cont_recast 20 (.bool (decide ((i : Int) < 20))) (.bool false) rfl (congrArg Value.bool c4_) ?_
  replace c4_ := of_decide_eq_false c4_
  refine cont_false rfl ?_
  refine cont_exit ?_
  refine then_exit ?_
  refine then_exit ?_
  refine blk_exit ?_
  refine then_normal ?_
  refine cont_seq ?_
  refine cont_region 1 rfl ?_
  refine bS [0] 1 0 [(3, .pointer (pB tb1)), (7, iq 0)] ?_
  refine cont_done ?_
  refine then_normal ?_
  refine cont_seq ?_
  refine cont_seq ?_
  refine cont_region 1 rfl ?_
  refine bS [0] 1 0 [(3, .pointer (pB tb1)), (7, iq 0), (8, iq 1)] ?_
  refine cont_done ?_
  refine then_normal ?_
  refine cont_block ?_
  refine cont_recast 7 (iq 0) (iq (cntK l 1)) rfl (congrArg (Value.int .i64) ((cnt_one hlk).symm)) ?_
  refine cont_loop (α := Int) (fun x_ : Int => 1 ≤ x_ ∧ x_ ≤ 9) (fun x_ : Int => [(3, .pointer (pB tb1)), (7, iq (cntK l x_)), (8, iq x_)]) (fun x_ : Int => [.cells tb1 [iq 32, .map (some tm1)] 54 true, .gen (mapE tm1 (imsV l) true), .gen (rdE (A) g o n 3 (dvals Deed11.cells xs))]) (fun x_ : Int => (9 - x_).toNat) 1 (by omega) (by kernel_rfl) (by kernel_rfl) ?_
  rintro q hinv5_
  replace hinv5_ : 1 ≤ q ∧ q ≤ 9 := hinv5_
  refine cont_norm [(3, .pointer (pB tb1)), (7, iq (cntK l q)), (8, iq q)] _ (by kernel_rfl) rfl ?_
  obtain ⟨hq1, hq2⟩ := hinv5_
  have hcr := cnt_range hlk q
  have hol := ofL_len l q
  refine cont_seq ?_
  refine cont_seq ?_
  refine cont_region 2 rfl ?_
  refine bS [0, 0] 2 0 [(3, .pointer (pB tb1)), (7, iq (cntK l q)), (8, iq q), (49, .bool (decide (q ≤ 8)))] ?_
  refine cont_done ?_
  refine then_normal ?_
  refine cont_split 49 (decide (q ≤ 8)) rfl (fun c6_ => ?_) (fun c6_ => ?_)
  ·
   replace c6_ := of_decide_eq_true c6_
   refine cont_true rfl ?_
   refine cont_skip ?_
   refine then_normal ?_
   refine cont_seq ?_
   refine cont_block ?_
   refine cont_seq ?_
   refine cont_region 4 rfl ?_
   refine bS [0, 0] 2 2 [(3, .pointer (pB tb1)), (7, iq (cntK l q)), (8, iq q), (52, .pointer (pB tb1)), (53, iq q)] ?_
   refine pl_step 3 1 rfl rfl ?_
   refine call_gen (d := 54) (α := Option Addr × Nat × Nat × Nat) (fun x_ => .slice x_.1 x_.2.2.1 x_.2.2.2) (fun x_ => [.gen (rowE (x_.1) x_.2.1 x_.2.2.1 x_.2.2.2 3 1 (ivals .i64 (ofL l q)) true), .cells tb1 [iq 32, .map (some tm1)] 54 true, .gen (mapE tm1 (imsV l) true), .gen (rdE (A) g o n 3 (dvals Deed11.cells xs))]) (fun x_ => True) (by kernel_rfl) (fun w hT => (idsOf tb1 tm1 32 l q w (hT.viewRo (.cons (i := 0) rfl Vw.roc (.cons (i := 1) rfl Vw.mapRE .nil)) rfl) hlk).mono fun e w' ⟨A7, g8, k9, cp10, he_, ht_⟩ => ⟨(A7, g8, k9, cp10), he_, trivial, hT.news ht_ rfl⟩) ?_
   rintro ⟨A7, g8, k9, cp10⟩ hf11_
   refine cont_norm [(3, .pointer (pB tb1)), (7, iq (cntK l q)), (8, iq q), (52, .pointer (pB tb1)), (53, iq q), (54, .slice A7 k9 cp10)] _ (by kernel_rfl) rfl ?_
   refine cont_fact (F := (0 < k9 → (A7 : Option Addr) = pB g8) ∧ (ofL l q).length = k9 ∧ k9 ≤ cp10 ∧ cp10 ≤ maxLen) (fun w hT => Row.facts (hT.ok 0 _ rfl)) (fun hr12_ => ?_)
   obtain ⟨hr12_a, hr12_l, hr12_c, hr12_m⟩ := hr12_
   unfold maxLen at hr12_m
   refine bS [0] 4 0 [(3, .pointer (pB tb1)), (7, iq (cntK l q)), (8, iq q), (9, .slice A7 k9 cp10)] ?_
   refine cont_done ?_
   refine then_normal ?_
   refine cont_seq ?_
   refine cont_seq ?_
   refine cont_region 1 rfl ?_
   refine bS [0] 1 0 [(3, .pointer (pB tb1)), (7, iq (cntK l q)), (8, iq q), (9, .slice A7 k9 cp10), (10, iq 0)] ?_
   refine cont_done ?_
   refine then_normal ?_
   refine cont_block ?_
   refine cont_fact (F := (0 < k9 → (A7 : Option Addr) = pB g8) ∧ (ofL l q).length = k9 ∧ k9 ≤ cp10 ∧ cp10 ≤ maxLen) (fun w hT => Row.facts (hT.ok 0 _ rfl)) (fun hr13_ => ?_)
   obtain ⟨hr13_a, hr13_l, hr13_c, hr13_m⟩ := hr13_
   unfold maxLen at hr13_m
   refine cont_loop (α := Nat) (fun x_ : Nat => x_ ≤ k9) (fun x_ : Nat => [(3, .pointer (pB tb1)), (7, iq (cntK l q)), (8, iq q), (9, .slice A7 k9 cp10), (10, iq ((x_ : Nat) : Int))]) (fun x_ : Nat => [.gen (rowE (A7) g8 k9 cp10 3 1 (ivals .i64 (ofL l q)) true), .cells tb1 [iq 32, .map (some tm1)] 54 true, .gen (mapE tm1 (imsV l) true), .gen (rdE (A) g o n 3 (dvals Deed11.cells xs))]) (fun x_ : Nat => k9 - x_) 0 (by omega) (by kernel_rfl) (by kernel_rfl) ?_
   rintro j hinv14_
   replace hinv14_ : j ≤ k9 := hinv14_
   refine cont_norm [(3, .pointer (pB tb1)), (7, iq (cntK l q)), (8, iq q), (9, .slice A7 k9 cp10), (10, iq ((j : Nat) : Int))] _ (by kernel_rfl) rfl ?_
   have hj := hinv14_
   have hjr : j < k9 → 1 ≤ (ofL l q).getD j 0 ∧ (ofL l q).getD j 0 ≤ 4294967295 := fun h_ => by have h2_ := hlk.rng _ (ofL_get (l := l) (k := q) (j := j) (by omega)); exact ⟨h2_.1, h2_.2.1⟩
   refine cont_seq ?_
   refine cont_seq ?_
   refine cont_region 4 rfl ?_
   refine bS [0, 0, 0, 0] 4 0 [(3, .pointer (pB tb1)), (7, iq (cntK l q)), (8, iq q), (9, .slice A7 k9 cp10), (10, iq ((j : Nat) : Int)), (58, .bool (decide (((j : Nat) : Int) < (k9 : Int))))] ?_
   refine cont_done ?_
   refine then_normal ?_
   refine cont_split 58 (decide (((j : Nat) : Int) < (k9 : Int))) rfl (fun c15_ => ?_) (fun c15_ => ?_)
   ·
    replace c15_ := of_decide_eq_true c15_
    refine cont_true rfl ?_
    refine cont_skip ?_
    refine then_normal ?_
    refine cont_seq ?_
    refine cont_block ?_
    refine cont_seq ?_
    refine drawn_enter 46 [] rfl (by kernel_rfl) ?_
    refine takes 0 [] [(0, 0), (1, 0), (2, 0), (6, 0)] 42 [6, 2, 1, 0] [(3, .pointer (pB tb1)), (7, iq (cntK l q)), (8, iq q), (9, .slice A7 k9 cp10), (10, iq ((j : Nat) : Int)), (61, .pointer (pB tb1)), (62, .slice A7 k9 cp10), (63, iq ((j : Nat) : Int)), (67, iq q)] (by kernel_rfl) (pok_then (pok_blk (pok_then (pok_then (pok_blk (pok_then (pok_blk (pok_then (pok_then (pok_blk (pok_then pok_body))))))))))) (by kernel_rfl) rfl rfl (by kernel_rfl) (by kernel_rfl) ?_
    refine cont_recast 62 (.slice A7 k9 cp10) (.slice (pB g8) k9 cp10) rfl (by rw [hr12_a (by omega)]) ?_
    refine sem_take 0 [] 3 41 64 (Instr.indexAt 32 (.slice (pB g8) k9 cp10) (iq ((j : Nat) : Int))) (.pointer (some ⟨g8, (j : Nat), none⟩)) (by kernel_rfl) (pok_then (pok_blk (pok_then (pok_then (pok_blk (pok_then (pok_blk (pok_then (pok_then (pok_blk (pok_then pok_body))))))))))) (by kernel_rfl) rfl (by kernel_rfl) (by kernel_rfl) (fun w hT => run_indexAt (e := 3) (sz := 1) _ (by kernel_rfl) (by kernel_rfl) (by omega) (by omega) (by omega) w) ?_
    refine sem_take 0 [] 4 40 65 (Instr.loadAt 3 (.pointer (some ⟨g8, (j : Nat), none⟩))) (iq ((ofL l q).getD (j : Nat) 0)) (by kernel_rfl) (pok_then (pok_blk (pok_then (pok_then (pok_blk (pok_then (pok_blk (pok_then (pok_then (pok_blk (pok_then pok_body))))))))))) (by kernel_rfl) rfl (by kernel_rfl) (by kernel_rfl) (fun w hT => run_load1 (by kernel_rfl) (Row.cell (hT 0 _ rfl) ((j : Nat)) _ (ivals_get (by omega)))) ?_
    refine drawn_one 5 39 rfl (by kernel_rfl) ?_
    refine call_pure (d := 66) (iq (kindL l ((ofL l q).getD (j : Nat) 0))) (by kernel_rfl) (fun w hT => idsKind tb1 tm1 32 l ((ofL l q).getD (j : Nat) 0) w (hT.viewRo (.cons (i := 1) rfl Vw.roc (.cons (i := 2) rfl Vw.mapRE .nil)) rfl) hlk) ?_
    refine drawn_next 0 [] (by kernel_rfl) ?_
    refine takes 0 [] [(7, 0), (8, 0)] 37 [8, 7, 5, 4, 3, 6, 2, 1, 0] [(3, .pointer (pB tb1)), (7, iq (cntK l q)), (8, iq q), (9, .slice A7 k9 cp10), (10, iq ((j : Nat) : Int)), (69, .bool ((kindL l ((ofL l q).getD (j : Nat) 0)) != q))] (by kernel_rfl) (pok_then (pok_blk (pok_then (pok_then (pok_blk (pok_then (pok_blk (pok_then (pok_then (pok_blk (pok_then pok_body))))))))))) (by kernel_rfl) rfl rfl (by kernel_rfl) (by kernel_rfl) ?_
    refine cont_recast 69 (.bool ((kindL l ((ofL l q).getD (j : Nat) 0)) != q)) (.bool false) rfl (congrArg Value.bool (by rw [ofL_kind hlk (by omega)]; exact bne_self_eq_false _)) ?_
    refine takes 0 [] [(9, 0), (10, 0), (11, 0), (14, 0)] 33 [14, 11, 10, 9, 8, 7, 5, 4, 3, 6, 2, 1, 0] [(3, .pointer (pB tb1)), (7, iq (cntK l q)), (8, iq q), (9, .slice A7 k9 cp10), (10, iq ((j : Nat) : Int)), (69, .bool false), (70, .pointer (pB tb1)), (71, .slice A7 k9 cp10), (72, iq ((j : Nat) : Int)), (75, iq q)] (by kernel_rfl) (pok_then (pok_blk (pok_then (pok_then (pok_blk (pok_then (pok_blk (pok_then (pok_then (pok_blk (pok_then pok_body))))))))))) (by kernel_rfl) rfl rfl (by kernel_rfl) (by kernel_rfl) ?_
    refine cont_recast 71 (.slice A7 k9 cp10) (.slice (pB g8) k9 cp10) rfl (by rw [hr12_a (by omega)]) ?_
    refine sem_take 0 [] 12 32 73 (Instr.indexAt 32 (.slice (pB g8) k9 cp10) (iq ((j : Nat) : Int))) (.pointer (some ⟨g8, (j : Nat), none⟩)) (by kernel_rfl) (pok_then (pok_blk (pok_then (pok_then (pok_blk (pok_then (pok_blk (pok_then (pok_then (pok_blk (pok_then pok_body))))))))))) (by kernel_rfl) rfl (by kernel_rfl) (by kernel_rfl) (fun w hT => run_indexAt (e := 3) (sz := 1) _ (by kernel_rfl) (by kernel_rfl) (by omega) (by omega) (by omega) w) ?_
    refine sem_take 0 [] 13 31 74 (Instr.loadAt 3 (.pointer (some ⟨g8, (j : Nat), none⟩))) (iq ((ofL l q).getD (j : Nat) 0)) (by kernel_rfl) (pok_then (pok_blk (pok_then (pok_then (pok_blk (pok_then (pok_blk (pok_then (pok_then (pok_blk (pok_then pok_body))))))))))) (by kernel_rfl) rfl (by kernel_rfl) (by kernel_rfl) (fun w hT => run_load1 (by kernel_rfl) (Row.cell (hT 0 _ rfl) ((j : Nat)) _ (ivals_get (by omega)))) ?_
    refine drawn_one 15 30 rfl (by kernel_rfl) ?_
    refine call_pure (d := 76) (iq (findE l ((ofL l q).getD (j : Nat) 0) q)) (by kernel_rfl) (fun w hT => idsFind tb1 tm1 32 l ((ofL l q).getD (j : Nat) 0) q w (hT.viewRo (.cons (i := 1) rfl Vw.roc (.cons (i := 2) rfl Vw.mapRE .nil)) rfl) hlk) ?_
    refine drawn_next 0 [] (by kernel_rfl) ?_
    refine takes 0 [] [(16, 0), (17, 0), (18, 0)] 27 [18, 17, 16, 15, 13, 12, 14, 11, 10, 9, 8, 7, 5, 4, 3, 6, 2, 1, 0] [(3, .pointer (pB tb1)), (7, iq (cntK l q)), (8, iq q), (9, .slice A7 k9 cp10), (10, iq ((j : Nat) : Int)), (70, .pointer (pB tb1)), (71, .slice (pB g8) k9 cp10), (72, iq ((j : Nat) : Int)), (73, .pointer (some ⟨g8, (j : Nat), none⟩)), (74, iq ((ofL l q).getD (j : Nat) 0)), (75, iq q), (76, iq (findE l ((ofL l q).getD (j : Nat) 0) q)), (77, .bool ((findE l ((ofL l q).getD (j : Nat) 0) q) != 0)), (79, .bool ((findE l ((ofL l q).getD (j : Nat) 0) q) != 0))] (by kernel_rfl) (pok_then (pok_blk (pok_then (pok_then (pok_blk (pok_then (pok_blk (pok_then (pok_then (pok_blk (pok_then pok_body))))))))))) (by kernel_rfl) rfl rfl (by kernel_rfl) (by kernel_rfl) ?_
    refine cont_recast 79 (.bool ((findE l ((ofL l q).getD (j : Nat) 0) q) != 0)) (.bool false) rfl (congrArg Value.bool (by rw [ofL_find hlk (by omega)]; rfl)) ?_
    refine cont_recast 77 (.bool ((findE l ((ofL l q).getD (j : Nat) 0) q) != 0)) (.bool false) rfl (congrArg Value.bool (by rw [ofL_find hlk (by omega)]; rfl)) ?_
    refine takes 0 [] [(19, 0), (20, 0), (21, 0), (24, 0)] 23 [24, 21, 20, 19, 18, 17, 16, 15, 13, 12, 14, 11, 10, 9, 8, 7, 5, 4, 3, 6, 2, 1, 0] [(3, .pointer (pB tb1)), (7, iq (cntK l q)), (8, iq q), (9, .slice A7 k9 cp10), (10, iq ((j : Nat) : Int)), (70, .pointer (pB tb1)), (71, .slice (pB g8) k9 cp10), (72, iq ((j : Nat) : Int)), (73, .pointer (some ⟨g8, (j : Nat), none⟩)), (74, iq ((ofL l q).getD (j : Nat) 0)), (75, iq q), (76, iq (findE l ((ofL l q).getD (j : Nat) 0) q)), (77, .bool false), (79, .bool false), (80, .pointer (pB tb1)), (81, .slice A7 k9 cp10), (82, iq ((j : Nat) : Int)), (85, iq q)] (by kernel_rfl) (pok_then (pok_blk (pok_then (pok_then (pok_blk (pok_then (pok_blk (pok_then (pok_then (pok_blk (pok_then pok_body))))))))))) (by kernel_rfl) rfl rfl (by kernel_rfl) (by kernel_rfl) ?_
    refine cont_recast 81 (.slice A7 k9 cp10) (.slice (pB g8) k9 cp10) rfl (by rw [hr12_a (by omega)]) ?_
    refine sem_take 0 [] 22 22 83 (Instr.indexAt 32 (.slice (pB g8) k9 cp10) (iq ((j : Nat) : Int))) (.pointer (some ⟨g8, (j : Nat), none⟩)) (by kernel_rfl) (pok_then (pok_blk (pok_then (pok_then (pok_blk (pok_then (pok_blk (pok_then (pok_then (pok_blk (pok_then pok_body))))))))))) (by kernel_rfl) rfl (by kernel_rfl) (by kernel_rfl) (fun w hT => run_indexAt (e := 3) (sz := 1) _ (by kernel_rfl) (by kernel_rfl) (by omega) (by omega) (by omega) w) ?_
    refine sem_take 0 [] 23 21 84 (Instr.loadAt 3 (.pointer (some ⟨g8, (j : Nat), none⟩))) (iq ((ofL l q).getD (j : Nat) 0)) (by kernel_rfl) (pok_then (pok_blk (pok_then (pok_then (pok_blk (pok_then (pok_blk (pok_then (pok_then (pok_blk (pok_then pok_body))))))))))) (by kernel_rfl) rfl (by kernel_rfl) (by kernel_rfl) (fun w hT => run_load1 (by kernel_rfl) (Row.cell (hT 0 _ rfl) ((j : Nat)) _ (ivals_get (by omega)))) ?_
    refine takes 0 [] [(25, 0)] 20 [25, 23, 22, 24, 21, 20, 19, 18, 17, 16, 15, 13, 12, 14, 11, 10, 9, 8, 7, 5, 4, 3, 6, 2, 1, 0] [(3, .pointer (pB tb1)), (7, iq (cntK l q)), (8, iq q), (9, .slice A7 k9 cp10), (10, iq ((j : Nat) : Int)), (70, .pointer (pB tb1)), (71, .slice (pB g8) k9 cp10), (72, iq ((j : Nat) : Int)), (73, .pointer (some ⟨g8, (j : Nat), none⟩)), (74, iq ((ofL l q).getD (j : Nat) 0)), (75, iq q), (76, iq (findE l ((ofL l q).getD (j : Nat) 0) q)), (77, .bool false), (79, .bool false), (80, .pointer (pB tb1)), (81, .slice (pB g8) k9 cp10), (82, iq ((j : Nat) : Int)), (83, .pointer (some ⟨g8, (j : Nat), none⟩)), (84, iq ((ofL l q).getD (j : Nat) 0)), (85, iq q), (86, iq (q.tmod 8))] (by kernel_rfl) (pok_then (pok_blk (pok_then (pok_then (pok_blk (pok_then (pok_blk (pok_then (pok_then (pok_blk (pok_then pok_body))))))))))) (by kernel_rfl) rfl rfl (by kernel_rfl) (by kernel_rfl) ?_
    refine cont_recast 86 (iq (q.tmod 8)) (iq (q % 8)) rfl (tmodI (by omega)) ?_
    refine takes 0 [] [(26, 0)] 19 [26, 25, 23, 22, 24, 21, 20, 19, 18, 17, 16, 15, 13, 12, 14, 11, 10, 9, 8, 7, 5, 4, 3, 6, 2, 1, 0] [(3, .pointer (pB tb1)), (7, iq (cntK l q)), (8, iq q), (9, .slice A7 k9 cp10), (10, iq ((j : Nat) : Int)), (70, .pointer (pB tb1)), (71, .slice (pB g8) k9 cp10), (72, iq ((j : Nat) : Int)), (73, .pointer (some ⟨g8, (j : Nat), none⟩)), (74, iq ((ofL l q).getD (j : Nat) 0)), (75, iq q), (76, iq (findE l ((ofL l q).getD (j : Nat) 0) q)), (77, .bool false), (79, .bool false), (80, .pointer (pB tb1)), (81, .slice (pB g8) k9 cp10), (82, iq ((j : Nat) : Int)), (83, .pointer (some ⟨g8, (j : Nat), none⟩)), (84, iq ((ofL l q).getD (j : Nat) 0)), (85, iq q), (86, iq (q % 8)), (87, iq (IntKind.i64.wrap ((q % 8) + 1)))] (by kernel_rfl) (pok_then (pok_blk (pok_then (pok_then (pok_blk (pok_then (pok_blk (pok_then (pok_then (pok_blk (pok_then pok_body))))))))))) (by kernel_rfl) rfl rfl (by kernel_rfl) (by kernel_rfl) ?_
    refine cont_recast 87 (iq (IntKind.i64.wrap ((q % 8) + 1))) (iq ((q % 8) + 1)) rfl (wrapI (by omega) (by omega)) ?_
    refine drawn_one 27 18 rfl (by kernel_rfl) ?_
    refine call_pure (d := 88) (iq (findE l ((ofL l q).getD (j : Nat) 0) ((q % 8) + 1))) (by kernel_rfl) (fun w hT => idsFind tb1 tm1 32 l ((ofL l q).getD (j : Nat) 0) ((q % 8) + 1) w (hT.viewRo (.cons (i := 1) rfl Vw.roc (.cons (i := 2) rfl Vw.mapRE .nil)) rfl) hlk) ?_
    refine drawn_next 0 [] (by kernel_rfl) ?_
    refine takes 0 [] [(28, 0), (29, 0), (30, 0)] 15 [30, 29, 28, 27, 26, 25, 23, 22, 24, 21, 20, 19, 18, 17, 16, 15, 13, 12, 14, 11, 10, 9, 8, 7, 5, 4, 3, 6, 2, 1, 0] [(3, .pointer (pB tb1)), (7, iq (cntK l q)), (8, iq q), (9, .slice A7 k9 cp10), (10, iq ((j : Nat) : Int)), (70, .pointer (pB tb1)), (71, .slice (pB g8) k9 cp10), (72, iq ((j : Nat) : Int)), (73, .pointer (some ⟨g8, (j : Nat), none⟩)), (74, iq ((ofL l q).getD (j : Nat) 0)), (75, iq q), (76, iq (findE l ((ofL l q).getD (j : Nat) 0) q)), (77, .bool false), (80, .pointer (pB tb1)), (81, .slice (pB g8) k9 cp10), (82, iq ((j : Nat) : Int)), (83, .pointer (some ⟨g8, (j : Nat), none⟩)), (84, iq ((ofL l q).getD (j : Nat) 0)), (85, iq q), (86, iq (q % 8)), (87, iq ((q % 8) + 1)), (88, iq (findE l ((ofL l q).getD (j : Nat) 0) ((q % 8) + 1))), (89, .bool ((findE l ((ofL l q).getD (j : Nat) 0) ((q % 8) + 1)) != 9)), (91, .bool ((findE l ((ofL l q).getD (j : Nat) 0) ((q % 8) + 1)) != 9))] (by kernel_rfl) (pok_then (pok_blk (pok_then (pok_then (pok_blk (pok_then (pok_blk (pok_then (pok_then (pok_blk (pok_then pok_body))))))))))) (by kernel_rfl) rfl rfl (by kernel_rfl) (by kernel_rfl) ?_
    refine cont_recast 91 (.bool ((findE l ((ofL l q).getD (j : Nat) 0) ((q % 8) + 1)) != 9)) (.bool false) rfl (congrArg Value.bool (by rw [ofL_role hlk (by omega)]; rfl)) ?_
    refine cont_recast 89 (.bool ((findE l ((ofL l q).getD (j : Nat) 0) ((q % 8) + 1)) != 9)) (.bool false) rfl (congrArg Value.bool (by rw [ofL_role hlk (by omega)]; rfl)) ?_
    refine takes 0 [] [(31, 0), (32, 0), (33, 0)] 12 [33, 32, 31, 30, 29, 28, 27, 26, 25, 23, 22, 24, 21, 20, 19, 18, 17, 16, 15, 13, 12, 14, 11, 10, 9, 8, 7, 5, 4, 3, 6, 2, 1, 0] [(3, .pointer (pB tb1)), (7, iq (cntK l q)), (8, iq q), (9, .slice A7 k9 cp10), (10, iq ((j : Nat) : Int)), (70, .pointer (pB tb1)), (71, .slice (pB g8) k9 cp10), (72, iq ((j : Nat) : Int)), (73, .pointer (some ⟨g8, (j : Nat), none⟩)), (74, iq ((ofL l q).getD (j : Nat) 0)), (75, iq q), (76, iq (findE l ((ofL l q).getD (j : Nat) 0) q)), (77, .bool false), (80, .pointer (pB tb1)), (81, .slice (pB g8) k9 cp10), (82, iq ((j : Nat) : Int)), (83, .pointer (some ⟨g8, (j : Nat), none⟩)), (84, iq ((ofL l q).getD (j : Nat) 0)), (85, iq q), (86, iq (q % 8)), (87, iq ((q % 8) + 1)), (88, iq (findE l ((ofL l q).getD (j : Nat) 0) ((q % 8) + 1))), (89, .bool false), (91, .bool false), (92, iq ((j : Nat) : Int)), (93, .bool (decide (((j : Nat) : Int) > 0))), (94, .bool (decide (((j : Nat) : Int) > 0)))] (by kernel_rfl) (pok_then (pok_blk (pok_then (pok_then (pok_blk (pok_then (pok_blk (pok_then (pok_then (pok_blk (pok_then pok_body))))))))))) (by kernel_rfl) rfl rfl (by kernel_rfl) (by kernel_rfl) ?_
    refine cont_split 94 (decide (((j : Nat) : Int) > 0)) rfl (fun c19_ => ?_) (fun c19_ => ?_)
    ·
     refine cont_recast 93 (.bool (decide (((j : Nat) : Int) > 0))) (.bool true) rfl (congrArg Value.bool c19_) ?_
     replace c19_ := of_decide_eq_true c19_
     refine takes 0 [] [(34, 0), (35, 0), (38, 0), (39, 0)] 8 [39, 38, 35, 34, 33, 32, 31, 30, 29, 28, 27, 26, 25, 23, 22, 24, 21, 20, 19, 18, 17, 16, 15, 13, 12, 14, 11, 10, 9, 8, 7, 5, 4, 3, 6, 2, 1, 0] [(3, .pointer (pB tb1)), (7, iq (cntK l q)), (8, iq q), (9, .slice A7 k9 cp10), (10, iq ((j : Nat) : Int)), (70, .pointer (pB tb1)), (71, .slice (pB g8) k9 cp10), (72, iq ((j : Nat) : Int)), (73, .pointer (some ⟨g8, (j : Nat), none⟩)), (74, iq ((ofL l q).getD (j : Nat) 0)), (75, iq q), (76, iq (findE l ((ofL l q).getD (j : Nat) 0) q)), (77, .bool false), (80, .pointer (pB tb1)), (81, .slice (pB g8) k9 cp10), (82, iq ((j : Nat) : Int)), (83, .pointer (some ⟨g8, (j : Nat), none⟩)), (84, iq ((ofL l q).getD (j : Nat) 0)), (85, iq q), (86, iq (q % 8)), (87, iq ((q % 8) + 1)), (88, iq (findE l ((ofL l q).getD (j : Nat) 0) ((q % 8) + 1))), (89, .bool false), (91, .bool false), (92, iq ((j : Nat) : Int)), (93, .bool true), (94, .bool true), (95, .slice A7 k9 cp10), (96, iq ((j : Nat) : Int)), (99, .slice A7 k9 cp10), (100, iq ((j : Nat) : Int))] (by kernel_rfl) (pok_then (pok_blk (pok_then (pok_then (pok_blk (pok_then (pok_blk (pok_then (pok_then (pok_blk (pok_then pok_body))))))))))) (by kernel_rfl) rfl rfl (by kernel_rfl) (by kernel_rfl) ?_
     refine cont_recast 95 (.slice A7 k9 cp10) (.slice (pB g8) k9 cp10) rfl (by rw [hr12_a (by omega)]) ?_
     refine sem_take 0 [] 36 7 97 (Instr.indexAt 32 (.slice (pB g8) k9 cp10) (iq ((j : Nat) : Int))) (.pointer (some ⟨g8, (j : Nat), none⟩)) (by kernel_rfl) (pok_then (pok_blk (pok_then (pok_then (pok_blk (pok_then (pok_blk (pok_then (pok_then (pok_blk (pok_then pok_body))))))))))) (by kernel_rfl) rfl (by kernel_rfl) (by kernel_rfl) (fun w hT => run_indexAt (e := 3) (sz := 1) _ (by kernel_rfl) (by kernel_rfl) (by omega) (by omega) (by omega) w) ?_
     refine sem_take 0 [] 37 6 98 (Instr.loadAt 3 (.pointer (some ⟨g8, (j : Nat), none⟩))) (iq ((ofL l q).getD (j : Nat) 0)) (by kernel_rfl) (pok_then (pok_blk (pok_then (pok_then (pok_blk (pok_then (pok_blk (pok_then (pok_then (pok_blk (pok_then pok_body))))))))))) (by kernel_rfl) rfl (by kernel_rfl) (by kernel_rfl) (fun w hT => run_load1 (by kernel_rfl) (Row.cell (hT 0 _ rfl) ((j : Nat)) _ (ivals_get (by omega)))) ?_
     refine takes 0 [] [(40, 0)] 5 [40, 37, 36, 39, 38, 35, 34, 33, 32, 31, 30, 29, 28, 27, 26, 25, 23, 22, 24, 21, 20, 19, 18, 17, 16, 15, 13, 12, 14, 11, 10, 9, 8, 7, 5, 4, 3, 6, 2, 1, 0] [(3, .pointer (pB tb1)), (7, iq (cntK l q)), (8, iq q), (9, .slice A7 k9 cp10), (10, iq ((j : Nat) : Int)), (70, .pointer (pB tb1)), (71, .slice (pB g8) k9 cp10), (72, iq ((j : Nat) : Int)), (73, .pointer (some ⟨g8, (j : Nat), none⟩)), (74, iq ((ofL l q).getD (j : Nat) 0)), (75, iq q), (76, iq (findE l ((ofL l q).getD (j : Nat) 0) q)), (77, .bool false), (80, .pointer (pB tb1)), (81, .slice (pB g8) k9 cp10), (82, iq ((j : Nat) : Int)), (83, .pointer (some ⟨g8, (j : Nat), none⟩)), (84, iq ((ofL l q).getD (j : Nat) 0)), (85, iq q), (86, iq (q % 8)), (87, iq ((q % 8) + 1)), (88, iq (findE l ((ofL l q).getD (j : Nat) 0) ((q % 8) + 1))), (89, .bool false), (91, .bool false), (92, iq ((j : Nat) : Int)), (93, .bool true), (94, .bool true), (95, .slice (pB g8) k9 cp10), (96, iq ((j : Nat) : Int)), (97, .pointer (some ⟨g8, (j : Nat), none⟩)), (98, iq ((ofL l q).getD (j : Nat) 0)), (99, .slice A7 k9 cp10), (100, iq ((j : Nat) : Int)), (101, iq (IntKind.i64.wrap (((j : Nat) : Int) - 1)))] (by kernel_rfl) (pok_then (pok_blk (pok_then (pok_then (pok_blk (pok_then (pok_blk (pok_then (pok_then (pok_blk (pok_then pok_body))))))))))) (by kernel_rfl) rfl rfl (by kernel_rfl) (by kernel_rfl) ?_
     refine cont_recast 101 (iq (IntKind.i64.wrap (((j : Nat) : Int) - 1))) (iq (((j : Nat) : Int) - 1)) rfl (wrapI (by omega) (by omega)) ?_
     refine cont_recast 99 (.slice A7 k9 cp10) (.slice (pB g8) k9 cp10) rfl (by rw [hr12_a (by omega)]) ?_
     refine sem_take 0 [] 41 4 102 (Instr.indexAt 32 (.slice (pB g8) k9 cp10) (iq (((j : Nat) : Int) - 1))) (.pointer (some ⟨g8, Int.toNat (((j : Nat) : Int) - 1), none⟩)) (by kernel_rfl) (pok_then (pok_blk (pok_then (pok_then (pok_blk (pok_then (pok_blk (pok_then (pok_then (pok_blk (pok_then pok_body))))))))))) (by kernel_rfl) rfl (by kernel_rfl) (by kernel_rfl) (fun w hT => run_indexAt (e := 3) (sz := 1) _ (by kernel_rfl) (by kernel_rfl) (by omega) (by omega) (by omega) w) ?_
     refine sem_take 0 [] 42 3 103 (Instr.loadAt 3 (.pointer (some ⟨g8, Int.toNat (((j : Nat) : Int) - 1), none⟩))) (iq ((ofL l q).getD (Int.toNat (((j : Nat) : Int) - 1)) 0)) (by kernel_rfl) (pok_then (pok_blk (pok_then (pok_then (pok_blk (pok_then (pok_blk (pok_then (pok_then (pok_blk (pok_then pok_body))))))))))) (by kernel_rfl) rfl (by kernel_rfl) (by kernel_rfl) (fun w hT => run_load1 (by kernel_rfl) (Row.cell (hT 0 _ rfl) (Int.toNat (((j : Nat) : Int) - 1)) _ (ivals_get (by omega)))) ?_
     refine takes 0 [] [(43, 0), (44, 0), (45, 0)] 0 [45, 44, 43, 42, 41, 40, 37, 36, 39, 38, 35, 34, 33, 32, 31, 30, 29, 28, 27, 26, 25, 23, 22, 24, 21, 20, 19, 18, 17, 16, 15, 13, 12, 14, 11, 10, 9, 8, 7, 5, 4, 3, 6, 2, 1, 0] [(3, .pointer (pB tb1)), (7, iq (cntK l q)), (8, iq q), (9, .slice A7 k9 cp10), (10, iq ((j : Nat) : Int)), (70, .pointer (pB tb1)), (71, .slice (pB g8) k9 cp10), (72, iq ((j : Nat) : Int)), (73, .pointer (some ⟨g8, (j : Nat), none⟩)), (74, iq ((ofL l q).getD (j : Nat) 0)), (75, iq q), (76, iq (findE l ((ofL l q).getD (j : Nat) 0) q)), (77, .bool false), (80, .pointer (pB tb1)), (81, .slice (pB g8) k9 cp10), (82, iq ((j : Nat) : Int)), (83, .pointer (some ⟨g8, (j : Nat), none⟩)), (84, iq ((ofL l q).getD (j : Nat) 0)), (85, iq q), (86, iq (q % 8)), (87, iq ((q % 8) + 1)), (88, iq (findE l ((ofL l q).getD (j : Nat) 0) ((q % 8) + 1))), (89, .bool false), (92, iq ((j : Nat) : Int)), (93, .bool true), (94, .bool true), (95, .slice (pB g8) k9 cp10), (96, iq ((j : Nat) : Int)), (97, .pointer (some ⟨g8, (j : Nat), none⟩)), (98, iq ((ofL l q).getD (j : Nat) 0)), (99, .slice (pB g8) k9 cp10), (100, iq ((j : Nat) : Int)), (101, iq (((j : Nat) : Int) - 1)), (102, .pointer (some ⟨g8, Int.toNat (((j : Nat) : Int) - 1), none⟩)), (103, iq ((ofL l q).getD (Int.toNat (((j : Nat) : Int) - 1)) 0)), (104, .bool (decide (((ofL l q).getD (j : Nat) 0) ≤ ((ofL l q).getD (Int.toNat (((j : Nat) : Int) - 1)) 0)))), (105, .bool (decide (((ofL l q).getD (j : Nat) 0) ≤ ((ofL l q).getD (Int.toNat (((j : Nat) : Int) - 1)) 0)))), (106, .bool (decide (((ofL l q).getD (j : Nat) 0) ≤ ((ofL l q).getD (Int.toNat (((j : Nat) : Int) - 1)) 0))))] (by kernel_rfl) (pok_then (pok_blk (pok_then (pok_then (pok_blk (pok_then (pok_blk (pok_then (pok_then (pok_blk (pok_then pok_body))))))))))) (by kernel_rfl) rfl rfl (by kernel_rfl) (by kernel_rfl) ?_
     refine drawn_done (by kernel_rfl) ?_
     refine then_normal ?_
     refine cont_recast 106 (.bool (decide (((ofL l q).getD (j : Nat) 0) ≤ ((ofL l q).getD (Int.toNat (((j : Nat) : Int) - 1)) 0)))) (.bool false) rfl (congrArg Value.bool (decide_eq_false (by rw [show (((j : Nat) : Int) - 1).toNat = j - 1 by omega]; have h_ := ofL_lt hlk (k := q) (i := j - 1) (j := j) (by omega) (by omega); omega))) ?_
     refine cont_recast 104 (.bool (decide (((ofL l q).getD (j : Nat) 0) ≤ ((ofL l q).getD (Int.toNat (((j : Nat) : Int) - 1)) 0)))) (.bool false) rfl (congrArg Value.bool (decide_eq_false (by rw [show (((j : Nat) : Int) - 1).toNat = j - 1 by omega]; have h_ := ofL_lt hlk (k := q) (i := j - 1) (j := j) (by omega) (by omega); omega))) ?_
     refine cont_recast 105 (.bool (decide (((ofL l q).getD (j : Nat) 0) ≤ ((ofL l q).getD (Int.toNat (((j : Nat) : Int) - 1)) 0)))) (.bool false) rfl (congrArg Value.bool (decide_eq_false (by rw [show (((j : Nat) : Int) - 1).toNat = j - 1 by omega]; have h_ := ofL_lt hlk (k := q) (i := j - 1) (j := j) (by omega) (by omega); omega))) ?_
     refine cont_false rfl ?_
     refine cont_skip ?_
     refine blk_normal ?_
     refine then_normal ?_
     refine cont_region 3 rfl ?_
     refine bS [0, 0] 2 1 [(3, .pointer (pB tb1)), (7, iq (cntK l q)), (8, iq q), (9, .slice A7 k9 cp10), (60, iq (IntKind.i64.wrap (((j : Nat) : Int) + 1))), (70, .pointer (pB tb1)), (71, .slice (pB g8) k9 cp10), (72, iq ((j : Nat) : Int)), (73, .pointer (some ⟨g8, (j : Nat), none⟩)), (74, iq ((ofL l q).getD (j : Nat) 0)), (75, iq q), (76, iq (findE l ((ofL l q).getD (j : Nat) 0) q)), (77, .bool false), (80, .pointer (pB tb1)), (81, .slice (pB g8) k9 cp10), (82, iq ((j : Nat) : Int)), (83, .pointer (some ⟨g8, (j : Nat), none⟩)), (84, iq ((ofL l q).getD (j : Nat) 0)), (85, iq q), (86, iq (q % 8)), (87, iq ((q % 8) + 1)), (88, iq (findE l ((ofL l q).getD (j : Nat) 0) ((q % 8) + 1))), (89, .bool false), (92, iq ((j : Nat) : Int)), (93, .bool true), (94, .bool true), (95, .slice (pB g8) k9 cp10), (96, iq ((j : Nat) : Int)), (97, .pointer (some ⟨g8, (j : Nat), none⟩)), (98, iq ((ofL l q).getD (j : Nat) 0)), (99, .slice (pB g8) k9 cp10), (100, iq ((j : Nat) : Int)), (101, iq (((j : Nat) : Int) - 1)), (102, .pointer (some ⟨g8, Int.toNat (((j : Nat) : Int) - 1), none⟩)), (103, iq ((ofL l q).getD (Int.toNat (((j : Nat) : Int) - 1)) 0)), (104, .bool false), (105, .bool false)] ?_
     refine cont_recast 60 (iq (IntKind.i64.wrap (((j : Nat) : Int) + 1))) (iq (((j : Nat) : Int) + 1)) rfl (wrapI (by omega) (by omega)) ?_
     refine bS [0] 3 0 [(3, .pointer (pB tb1)), (7, iq (cntK l q)), (8, iq q), (9, .slice A7 k9 cp10), (10, iq (((j : Nat) : Int) + 1)), (70, .pointer (pB tb1)), (71, .slice (pB g8) k9 cp10), (72, iq ((j : Nat) : Int)), (73, .pointer (some ⟨g8, (j : Nat), none⟩)), (74, iq ((ofL l q).getD (j : Nat) 0)), (75, iq q), (76, iq (findE l ((ofL l q).getD (j : Nat) 0) q)), (77, .bool false), (80, .pointer (pB tb1)), (81, .slice (pB g8) k9 cp10), (82, iq ((j : Nat) : Int)), (83, .pointer (some ⟨g8, (j : Nat), none⟩)), (84, iq ((ofL l q).getD (j : Nat) 0)), (85, iq q), (86, iq (q % 8)), (87, iq ((q % 8) + 1)), (88, iq (findE l ((ofL l q).getD (j : Nat) 0) ((q % 8) + 1))), (89, .bool false), (92, iq ((j : Nat) : Int)), (93, .bool true), (94, .bool true), (95, .slice (pB g8) k9 cp10), (96, iq ((j : Nat) : Int)), (97, .pointer (some ⟨g8, (j : Nat), none⟩)), (98, iq ((ofL l q).getD (j : Nat) 0)), (99, .slice (pB g8) k9 cp10), (100, iq ((j : Nat) : Int)), (101, iq (((j : Nat) : Int) - 1)), (102, .pointer (some ⟨g8, Int.toNat (((j : Nat) : Int) - 1), none⟩)), (103, iq ((ofL l q).getD (Int.toNat (((j : Nat) : Int) - 1)) 0)), (104, .bool false), (105, .bool false)] ?_
     refine cont_done ?_
     refine then_normal ?_
     refine cont_again (j + 1) (show (j + 1) ≤ k9 from (by omega)) (show k9 - (j + 1) < k9 - j from by omega) (by kernel_rfl) (by kernel_rfl)
    refine cont_recast 93 (.bool (decide (((j : Nat) : Int) > 0))) (.bool false) rfl (congrArg Value.bool c19_) ?_
    replace c19_ := of_decide_eq_false c19_
    refine takes 0 [] [(34, 0), (35, 0), (38, 0), (39, 0), (36, 0), (40, 0), (37, 0), (41, 0), (42, 0), (43, 0), (44, 0), (45, 0)] 0 [45, 44, 43, 42, 41, 37, 40, 36, 39, 38, 35, 34, 33, 32, 31, 30, 29, 28, 27, 26, 25, 23, 22, 24, 21, 20, 19, 18, 17, 16, 15, 13, 12, 14, 11, 10, 9, 8, 7, 5, 4, 3, 6, 2, 1, 0] [(3, .pointer (pB tb1)), (7, iq (cntK l q)), (8, iq q), (9, .slice A7 k9 cp10), (10, iq ((j : Nat) : Int)), (70, .pointer (pB tb1)), (71, .slice (pB g8) k9 cp10), (72, iq ((j : Nat) : Int)), (73, .pointer (some ⟨g8, (j : Nat), none⟩)), (74, iq ((ofL l q).getD (j : Nat) 0)), (75, iq q), (76, iq (findE l ((ofL l q).getD (j : Nat) 0) q)), (77, .bool false), (80, .pointer (pB tb1)), (81, .slice (pB g8) k9 cp10), (82, iq ((j : Nat) : Int)), (83, .pointer (some ⟨g8, (j : Nat), none⟩)), (84, iq ((ofL l q).getD (j : Nat) 0)), (85, iq q), (86, iq (q % 8)), (87, iq ((q % 8) + 1)), (88, iq (findE l ((ofL l q).getD (j : Nat) 0) ((q % 8) + 1))), (89, .bool false), (92, iq ((j : Nat) : Int)), (93, .bool false), (94, .bool false), (95, undef), (96, undef), (97, undef), (98, undef), (99, undef), (100, undef), (101, undef), (102, undef), (103, undef), (104, undef), (105, .bool false), (106, .bool false)] (by kernel_rfl) (pok_then (pok_blk (pok_then (pok_then (pok_blk (pok_then (pok_blk (pok_then (pok_then (pok_blk (pok_then pok_body))))))))))) (by kernel_rfl) rfl rfl (by kernel_rfl) (by kernel_rfl) ?_
    refine drawn_done (by kernel_rfl) ?_
    refine then_normal ?_
    refine cont_false rfl ?_
    refine cont_skip ?_
    refine blk_normal ?_
    refine then_normal ?_
    refine cont_region 3 rfl ?_
    refine bS [0, 0] 2 1 [(3, .pointer (pB tb1)), (7, iq (cntK l q)), (8, iq q), (9, .slice A7 k9 cp10), (60, iq (IntKind.i64.wrap (((j : Nat) : Int) + 1))), (70, .pointer (pB tb1)), (71, .slice (pB g8) k9 cp10), (72, iq ((j : Nat) : Int)), (73, .pointer (some ⟨g8, (j : Nat), none⟩)), (74, iq ((ofL l q).getD (j : Nat) 0)), (75, iq q), (76, iq (findE l ((ofL l q).getD (j : Nat) 0) q)), (77, .bool false), (80, .pointer (pB tb1)), (81, .slice (pB g8) k9 cp10), (82, iq ((j : Nat) : Int)), (83, .pointer (some ⟨g8, (j : Nat), none⟩)), (84, iq ((ofL l q).getD (j : Nat) 0)), (85, iq q), (86, iq (q % 8)), (87, iq ((q % 8) + 1)), (88, iq (findE l ((ofL l q).getD (j : Nat) 0) ((q % 8) + 1))), (89, .bool false), (92, iq ((j : Nat) : Int)), (93, .bool false), (94, .bool false), (95, undef), (96, undef), (97, undef), (98, undef), (99, undef), (100, undef), (101, undef), (102, undef), (103, undef), (104, undef), (105, .bool false)] ?_
    refine cont_recast 60 (iq (IntKind.i64.wrap (((j : Nat) : Int) + 1))) (iq (((j : Nat) : Int) + 1)) rfl (wrapI (by omega) (by omega)) ?_
    refine bS [0] 3 0 [(3, .pointer (pB tb1)), (7, iq (cntK l q)), (8, iq q), (9, .slice A7 k9 cp10), (10, iq (((j : Nat) : Int) + 1)), (70, .pointer (pB tb1)), (71, .slice (pB g8) k9 cp10), (72, iq ((j : Nat) : Int)), (73, .pointer (some ⟨g8, (j : Nat), none⟩)), (74, iq ((ofL l q).getD (j : Nat) 0)), (75, iq q), (76, iq (findE l ((ofL l q).getD (j : Nat) 0) q)), (77, .bool false), (80, .pointer (pB tb1)), (81, .slice (pB g8) k9 cp10), (82, iq ((j : Nat) : Int)), (83, .pointer (some ⟨g8, (j : Nat), none⟩)), (84, iq ((ofL l q).getD (j : Nat) 0)), (85, iq q), (86, iq (q % 8)), (87, iq ((q % 8) + 1)), (88, iq (findE l ((ofL l q).getD (j : Nat) 0) ((q % 8) + 1))), (89, .bool false), (92, iq ((j : Nat) : Int)), (93, .bool false), (94, .bool false), (95, undef), (96, undef), (97, undef), (98, undef), (99, undef), (100, undef), (101, undef), (102, undef), (103, undef), (104, undef), (105, .bool false)] ?_
    refine cont_done ?_
    refine then_normal ?_
    refine cont_again (j + 1) (show (j + 1) ≤ k9 from (by omega)) (show k9 - (j + 1) < k9 - j from by omega) (by kernel_rfl) (by kernel_rfl)
   replace c15_ := of_decide_eq_false c15_
   refine cont_false rfl ?_
   refine cont_exit ?_
   refine then_exit ?_
   refine then_exit ?_
   refine blk_exit ?_
   refine then_normal ?_
   refine cont_region 5 rfl ?_
   refine bS [0, 0, 0, 0] 4 1 [(3, .pointer (pB tb1)), (8, iq q), (110, iq (IntKind.i64.wrap ((cntK l q) + (k9 : Int))))] ?_
   refine cont_recast 110 (iq (IntKind.i64.wrap ((cntK l q) + (k9 : Int)))) (iq ((cntK l q) + (k9 : Int))) rfl (wrapI (by omega) (by omega)) ?_
   refine cont_forget 0 rfl ?_
   refine bS [0] 5 0 [(3, .pointer (pB tb1)), (7, iq ((cntK l q) + (k9 : Int))), (8, iq q)] ?_
   refine cont_done ?_
   refine blk_normal ?_
   refine then_normal ?_
   refine cont_region 3 rfl ?_
   refine bS [0, 0] 2 1 [(3, .pointer (pB tb1)), (7, iq ((cntK l q) + (k9 : Int))), (51, iq (IntKind.i64.wrap (q + 1)))] ?_
   refine cont_recast 51 (iq (IntKind.i64.wrap (q + 1))) (iq (q + 1)) rfl (wrapI (by omega) (by omega)) ?_
   refine bS [0] 3 0 [(3, .pointer (pB tb1)), (7, iq ((cntK l q) + (k9 : Int))), (8, iq (q + 1))] ?_
   refine cont_done ?_
   refine then_normal ?_
   refine cont_recast 7 (iq ((cntK l q) + (k9 : Int))) (iq (cntK l (q + 1))) rfl (congrArg (Value.int .i64) (by rw [cnt_succ]; omega)) ?_
   refine cont_again (q + 1) (show 1 ≤ (q + 1) ∧ (q + 1) ≤ 9 from (by omega)) (show (9 - (q + 1)).toNat < (9 - q).toNat from by omega) (by kernel_rfl) (by kernel_rfl)
  replace c6_ := of_decide_eq_false c6_
  refine cont_false rfl ?_
  refine cont_exit ?_
  refine then_exit ?_
  refine then_exit ?_
  refine blk_exit ?_
  refine then_normal ?_
  refine cont_seq ?_
  refine cont_region 8 rfl ?_
  refine bS [0, 0] 2 6 [(111, iq (cntK l q)), (112, .pointer (pB tb1))] ?_
  refine pl_step 3 5 rfl rfl ?_
  refine call_pure (d := 113) (iq (l.length : Int)) (by kernel_rfl) (fun w hT => idsLen tb1 tm1 32 l w (hT.viewRo (.cons (i := 0) rfl Vw.roc (.cons (i := 1) rfl Vw.mapRE .nil)) rfl) hlk) ?_
  refine bS [0, 0] 5 3 [(115, .bool ((cntK l q) == (l.length : Int)))] ?_
  refine cont_forget 0 rfl ?_
  refine cont_recast 115 (.bool ((cntK l q) == (l.length : Int))) (.bool true) rfl (congrArg Value.bool (by rw [show q = 9 by omega, cnt_all hlk]; exact beq_self_eq_true _)) ?_
  refine pl_step 6 2 rfl rfl ?_
  refine call_pure (d := 116) (.bool true) (by kernel_rfl) (fun w hT => lives11  w) ?_
  refine bS [0, 0] 8 0 [(2, .bool true)] ?_
  refine cont_done ?_
  refine then_normal ?_
  refine cont_ret ?_
  refine ret_one (.inl rfl) rfl 0 (.bool true) (by kernel_rfl) (by kernel_rfl) (fun w hT => ?_)
  exact ⟨rfl, hT.post rfl⟩
 replace c3_ := of_decide_eq_false c3_
 refine bS [0, 0, 0] 8 0 [(0, .slice A n cap), (3, .pointer (pB tb1)), (4, iq (i : Int)), (19, undef), (20, undef), (21, .bool false)] ?_
 refine cont_done ?_
 refine then_normal ?_
 refine cont_false rfl ?_
 refine cont_exit ?_
 refine then_exit ?_
 refine then_exit ?_
 refine blk_exit ?_
 refine then_normal ?_
 refine cont_seq ?_
 refine cont_region 1 rfl ?_
 refine bS [0] 1 0 [(3, .pointer (pB tb1)), (7, iq 0)] ?_
 refine cont_done ?_
 refine then_normal ?_
 refine cont_seq ?_
 refine cont_seq ?_
 refine cont_region 1 rfl ?_
 refine bS [0] 1 0 [(3, .pointer (pB tb1)), (7, iq 0), (8, iq 1)] ?_
 refine cont_done ?_
 refine then_normal ?_
 refine cont_block ?_
 refine cont_recast 7 (iq 0) (iq (cntK l 1)) rfl (congrArg (Value.int .i64) ((cnt_one hlk).symm)) ?_
 refine cont_loop (α := Int) (fun x_ : Int => 1 ≤ x_ ∧ x_ ≤ 9) (fun x_ : Int => [(3, .pointer (pB tb1)), (7, iq (cntK l x_)), (8, iq x_)]) (fun x_ : Int => [.cells tb1 [iq 32, .map (some tm1)] 54 true, .gen (mapE tm1 (imsV l) true), .gen (rdE (A) g o n 3 (dvals Deed11.cells xs))]) (fun x_ : Int => (9 - x_).toNat) 1 (by omega) (by kernel_rfl) (by kernel_rfl) ?_
 rintro q hinv22_
 replace hinv22_ : 1 ≤ q ∧ q ≤ 9 := hinv22_
 refine cont_norm [(3, .pointer (pB tb1)), (7, iq (cntK l q)), (8, iq q)] _ (by kernel_rfl) rfl ?_
 obtain ⟨hq1, hq2⟩ := hinv22_
 have hcr := cnt_range hlk q
 have hol := ofL_len l q
 refine cont_seq ?_
 refine cont_seq ?_
 refine cont_region 2 rfl ?_
 refine bS [0, 0] 2 0 [(3, .pointer (pB tb1)), (7, iq (cntK l q)), (8, iq q), (49, .bool (decide (q ≤ 8)))] ?_
 refine cont_done ?_
 refine then_normal ?_
 refine cont_split 49 (decide (q ≤ 8)) rfl (fun c23_ => ?_) (fun c23_ => ?_)
 ·
  replace c23_ := of_decide_eq_true c23_
  refine cont_true rfl ?_
  refine cont_skip ?_
  refine then_normal ?_
  refine cont_seq ?_
  refine cont_block ?_
  refine cont_seq ?_
  refine cont_region 4 rfl ?_
  refine bS [0, 0] 2 2 [(3, .pointer (pB tb1)), (7, iq (cntK l q)), (8, iq q), (52, .pointer (pB tb1)), (53, iq q)] ?_
  refine pl_step 3 1 rfl rfl ?_
  refine call_gen (d := 54) (α := Option Addr × Nat × Nat × Nat) (fun x_ => .slice x_.1 x_.2.2.1 x_.2.2.2) (fun x_ => [.gen (rowE (x_.1) x_.2.1 x_.2.2.1 x_.2.2.2 3 1 (ivals .i64 (ofL l q)) true), .cells tb1 [iq 32, .map (some tm1)] 54 true, .gen (mapE tm1 (imsV l) true), .gen (rdE (A) g o n 3 (dvals Deed11.cells xs))]) (fun x_ => True) (by kernel_rfl) (fun w hT => (idsOf tb1 tm1 32 l q w (hT.viewRo (.cons (i := 0) rfl Vw.roc (.cons (i := 1) rfl Vw.mapRE .nil)) rfl) hlk).mono fun e w' ⟨A24, g25, k26, cp27, he_, ht_⟩ => ⟨(A24, g25, k26, cp27), he_, trivial, hT.news ht_ rfl⟩) ?_
  rintro ⟨A24, g25, k26, cp27⟩ hf28_
  refine cont_norm [(3, .pointer (pB tb1)), (7, iq (cntK l q)), (8, iq q), (52, .pointer (pB tb1)), (53, iq q), (54, .slice A24 k26 cp27)] _ (by kernel_rfl) rfl ?_
  refine cont_fact (F := (0 < k26 → (A24 : Option Addr) = pB g25) ∧ (ofL l q).length = k26 ∧ k26 ≤ cp27 ∧ cp27 ≤ maxLen) (fun w hT => Row.facts (hT.ok 0 _ rfl)) (fun hr29_ => ?_)
  obtain ⟨hr29_a, hr29_l, hr29_c, hr29_m⟩ := hr29_
  unfold maxLen at hr29_m
  refine bS [0] 4 0 [(3, .pointer (pB tb1)), (7, iq (cntK l q)), (8, iq q), (9, .slice A24 k26 cp27)] ?_
  refine cont_done ?_
  refine then_normal ?_
  refine cont_seq ?_
  refine cont_seq ?_
  refine cont_region 1 rfl ?_
  refine bS [0] 1 0 [(3, .pointer (pB tb1)), (7, iq (cntK l q)), (8, iq q), (9, .slice A24 k26 cp27), (10, iq 0)] ?_
  refine cont_done ?_
  refine then_normal ?_
  refine cont_block ?_
  refine cont_fact (F := (0 < k26 → (A24 : Option Addr) = pB g25) ∧ (ofL l q).length = k26 ∧ k26 ≤ cp27 ∧ cp27 ≤ maxLen) (fun w hT => Row.facts (hT.ok 0 _ rfl)) (fun hr30_ => ?_)
  obtain ⟨hr30_a, hr30_l, hr30_c, hr30_m⟩ := hr30_
  unfold maxLen at hr30_m
  refine cont_loop (α := Nat) (fun x_ : Nat => x_ ≤ k26) (fun x_ : Nat => [(3, .pointer (pB tb1)), (7, iq (cntK l q)), (8, iq q), (9, .slice A24 k26 cp27), (10, iq ((x_ : Nat) : Int))]) (fun x_ : Nat => [.gen (rowE (A24) g25 k26 cp27 3 1 (ivals .i64 (ofL l q)) true), .cells tb1 [iq 32, .map (some tm1)] 54 true, .gen (mapE tm1 (imsV l) true), .gen (rdE (A) g o n 3 (dvals Deed11.cells xs))]) (fun x_ : Nat => k26 - x_) 0 (by omega) (by kernel_rfl) (by kernel_rfl) ?_
  rintro j hinv31_
  replace hinv31_ : j ≤ k26 := hinv31_
  refine cont_norm [(3, .pointer (pB tb1)), (7, iq (cntK l q)), (8, iq q), (9, .slice A24 k26 cp27), (10, iq ((j : Nat) : Int))] _ (by kernel_rfl) rfl ?_
  have hj := hinv31_
  have hjr : j < k26 → 1 ≤ (ofL l q).getD j 0 ∧ (ofL l q).getD j 0 ≤ 4294967295 := fun h_ => by have h2_ := hlk.rng _ (ofL_get (l := l) (k := q) (j := j) (by omega)); exact ⟨h2_.1, h2_.2.1⟩
  refine cont_seq ?_
  refine cont_seq ?_
  refine cont_region 4 rfl ?_
  refine bS [0, 0, 0, 0] 4 0 [(3, .pointer (pB tb1)), (7, iq (cntK l q)), (8, iq q), (9, .slice A24 k26 cp27), (10, iq ((j : Nat) : Int)), (58, .bool (decide (((j : Nat) : Int) < (k26 : Int))))] ?_
  refine cont_done ?_
  refine then_normal ?_
  refine cont_split 58 (decide (((j : Nat) : Int) < (k26 : Int))) rfl (fun c32_ => ?_) (fun c32_ => ?_)
  ·
   replace c32_ := of_decide_eq_true c32_
   refine cont_true rfl ?_
   refine cont_skip ?_
   refine then_normal ?_
   refine cont_seq ?_
   refine cont_block ?_
   refine cont_seq ?_
   refine drawn_enter 46 [] rfl (by kernel_rfl) ?_
   refine takes 0 [] [(0, 0), (1, 0), (2, 0), (6, 0)] 42 [6, 2, 1, 0] [(3, .pointer (pB tb1)), (7, iq (cntK l q)), (8, iq q), (9, .slice A24 k26 cp27), (10, iq ((j : Nat) : Int)), (61, .pointer (pB tb1)), (62, .slice A24 k26 cp27), (63, iq ((j : Nat) : Int)), (67, iq q)] (by kernel_rfl) (pok_then (pok_blk (pok_then (pok_then (pok_blk (pok_then (pok_blk (pok_then (pok_then (pok_blk (pok_then pok_body))))))))))) (by kernel_rfl) rfl rfl (by kernel_rfl) (by kernel_rfl) ?_
   refine cont_recast 62 (.slice A24 k26 cp27) (.slice (pB g25) k26 cp27) rfl (by rw [hr29_a (by omega)]) ?_
   refine sem_take 0 [] 3 41 64 (Instr.indexAt 32 (.slice (pB g25) k26 cp27) (iq ((j : Nat) : Int))) (.pointer (some ⟨g25, (j : Nat), none⟩)) (by kernel_rfl) (pok_then (pok_blk (pok_then (pok_then (pok_blk (pok_then (pok_blk (pok_then (pok_then (pok_blk (pok_then pok_body))))))))))) (by kernel_rfl) rfl (by kernel_rfl) (by kernel_rfl) (fun w hT => run_indexAt (e := 3) (sz := 1) _ (by kernel_rfl) (by kernel_rfl) (by omega) (by omega) (by omega) w) ?_
   refine sem_take 0 [] 4 40 65 (Instr.loadAt 3 (.pointer (some ⟨g25, (j : Nat), none⟩))) (iq ((ofL l q).getD (j : Nat) 0)) (by kernel_rfl) (pok_then (pok_blk (pok_then (pok_then (pok_blk (pok_then (pok_blk (pok_then (pok_then (pok_blk (pok_then pok_body))))))))))) (by kernel_rfl) rfl (by kernel_rfl) (by kernel_rfl) (fun w hT => run_load1 (by kernel_rfl) (Row.cell (hT 0 _ rfl) ((j : Nat)) _ (ivals_get (by omega)))) ?_
   refine drawn_one 5 39 rfl (by kernel_rfl) ?_
   refine call_pure (d := 66) (iq (kindL l ((ofL l q).getD (j : Nat) 0))) (by kernel_rfl) (fun w hT => idsKind tb1 tm1 32 l ((ofL l q).getD (j : Nat) 0) w (hT.viewRo (.cons (i := 1) rfl Vw.roc (.cons (i := 2) rfl Vw.mapRE .nil)) rfl) hlk) ?_
   refine drawn_next 0 [] (by kernel_rfl) ?_
   refine takes 0 [] [(7, 0), (8, 0)] 37 [8, 7, 5, 4, 3, 6, 2, 1, 0] [(3, .pointer (pB tb1)), (7, iq (cntK l q)), (8, iq q), (9, .slice A24 k26 cp27), (10, iq ((j : Nat) : Int)), (69, .bool ((kindL l ((ofL l q).getD (j : Nat) 0)) != q))] (by kernel_rfl) (pok_then (pok_blk (pok_then (pok_then (pok_blk (pok_then (pok_blk (pok_then (pok_then (pok_blk (pok_then pok_body))))))))))) (by kernel_rfl) rfl rfl (by kernel_rfl) (by kernel_rfl) ?_
   refine cont_recast 69 (.bool ((kindL l ((ofL l q).getD (j : Nat) 0)) != q)) (.bool false) rfl (congrArg Value.bool (by rw [ofL_kind hlk (by omega)]; exact bne_self_eq_false _)) ?_
   refine takes 0 [] [(9, 0), (10, 0), (11, 0), (14, 0)] 33 [14, 11, 10, 9, 8, 7, 5, 4, 3, 6, 2, 1, 0] [(3, .pointer (pB tb1)), (7, iq (cntK l q)), (8, iq q), (9, .slice A24 k26 cp27), (10, iq ((j : Nat) : Int)), (69, .bool false), (70, .pointer (pB tb1)), (71, .slice A24 k26 cp27), (72, iq ((j : Nat) : Int)), (75, iq q)] (by kernel_rfl) (pok_then (pok_blk (pok_then (pok_then (pok_blk (pok_then (pok_blk (pok_then (pok_then (pok_blk (pok_then pok_body))))))))))) (by kernel_rfl) rfl rfl (by kernel_rfl) (by kernel_rfl) ?_
   refine cont_recast 71 (.slice A24 k26 cp27) (.slice (pB g25) k26 cp27) rfl (by rw [hr29_a (by omega)]) ?_
   refine sem_take 0 [] 12 32 73 (Instr.indexAt 32 (.slice (pB g25) k26 cp27) (iq ((j : Nat) : Int))) (.pointer (some ⟨g25, (j : Nat), none⟩)) (by kernel_rfl) (pok_then (pok_blk (pok_then (pok_then (pok_blk (pok_then (pok_blk (pok_then (pok_then (pok_blk (pok_then pok_body))))))))))) (by kernel_rfl) rfl (by kernel_rfl) (by kernel_rfl) (fun w hT => run_indexAt (e := 3) (sz := 1) _ (by kernel_rfl) (by kernel_rfl) (by omega) (by omega) (by omega) w) ?_
   refine sem_take 0 [] 13 31 74 (Instr.loadAt 3 (.pointer (some ⟨g25, (j : Nat), none⟩))) (iq ((ofL l q).getD (j : Nat) 0)) (by kernel_rfl) (pok_then (pok_blk (pok_then (pok_then (pok_blk (pok_then (pok_blk (pok_then (pok_then (pok_blk (pok_then pok_body))))))))))) (by kernel_rfl) rfl (by kernel_rfl) (by kernel_rfl) (fun w hT => run_load1 (by kernel_rfl) (Row.cell (hT 0 _ rfl) ((j : Nat)) _ (ivals_get (by omega)))) ?_
   refine drawn_one 15 30 rfl (by kernel_rfl) ?_
   refine call_pure (d := 76) (iq (findE l ((ofL l q).getD (j : Nat) 0) q)) (by kernel_rfl) (fun w hT => idsFind tb1 tm1 32 l ((ofL l q).getD (j : Nat) 0) q w (hT.viewRo (.cons (i := 1) rfl Vw.roc (.cons (i := 2) rfl Vw.mapRE .nil)) rfl) hlk) ?_
   refine drawn_next 0 [] (by kernel_rfl) ?_
   refine takes 0 [] [(16, 0), (17, 0), (18, 0)] 27 [18, 17, 16, 15, 13, 12, 14, 11, 10, 9, 8, 7, 5, 4, 3, 6, 2, 1, 0] [(3, .pointer (pB tb1)), (7, iq (cntK l q)), (8, iq q), (9, .slice A24 k26 cp27), (10, iq ((j : Nat) : Int)), (70, .pointer (pB tb1)), (71, .slice (pB g25) k26 cp27), (72, iq ((j : Nat) : Int)), (73, .pointer (some ⟨g25, (j : Nat), none⟩)), (74, iq ((ofL l q).getD (j : Nat) 0)), (75, iq q), (76, iq (findE l ((ofL l q).getD (j : Nat) 0) q)), (77, .bool ((findE l ((ofL l q).getD (j : Nat) 0) q) != 0)), (79, .bool ((findE l ((ofL l q).getD (j : Nat) 0) q) != 0))] (by kernel_rfl) (pok_then (pok_blk (pok_then (pok_then (pok_blk (pok_then (pok_blk (pok_then (pok_then (pok_blk (pok_then pok_body))))))))))) (by kernel_rfl) rfl rfl (by kernel_rfl) (by kernel_rfl) ?_
   refine cont_recast 79 (.bool ((findE l ((ofL l q).getD (j : Nat) 0) q) != 0)) (.bool false) rfl (congrArg Value.bool (by rw [ofL_find hlk (by omega)]; rfl)) ?_
   refine cont_recast 77 (.bool ((findE l ((ofL l q).getD (j : Nat) 0) q) != 0)) (.bool false) rfl (congrArg Value.bool (by rw [ofL_find hlk (by omega)]; rfl)) ?_
   refine takes 0 [] [(19, 0), (20, 0), (21, 0), (24, 0)] 23 [24, 21, 20, 19, 18, 17, 16, 15, 13, 12, 14, 11, 10, 9, 8, 7, 5, 4, 3, 6, 2, 1, 0] [(3, .pointer (pB tb1)), (7, iq (cntK l q)), (8, iq q), (9, .slice A24 k26 cp27), (10, iq ((j : Nat) : Int)), (70, .pointer (pB tb1)), (71, .slice (pB g25) k26 cp27), (72, iq ((j : Nat) : Int)), (73, .pointer (some ⟨g25, (j : Nat), none⟩)), (74, iq ((ofL l q).getD (j : Nat) 0)), (75, iq q), (76, iq (findE l ((ofL l q).getD (j : Nat) 0) q)), (77, .bool false), (79, .bool false), (80, .pointer (pB tb1)), (81, .slice A24 k26 cp27), (82, iq ((j : Nat) : Int)), (85, iq q)] (by kernel_rfl) (pok_then (pok_blk (pok_then (pok_then (pok_blk (pok_then (pok_blk (pok_then (pok_then (pok_blk (pok_then pok_body))))))))))) (by kernel_rfl) rfl rfl (by kernel_rfl) (by kernel_rfl) ?_
   refine cont_recast 81 (.slice A24 k26 cp27) (.slice (pB g25) k26 cp27) rfl (by rw [hr29_a (by omega)]) ?_
   refine sem_take 0 [] 22 22 83 (Instr.indexAt 32 (.slice (pB g25) k26 cp27) (iq ((j : Nat) : Int))) (.pointer (some ⟨g25, (j : Nat), none⟩)) (by kernel_rfl) (pok_then (pok_blk (pok_then (pok_then (pok_blk (pok_then (pok_blk (pok_then (pok_then (pok_blk (pok_then pok_body))))))))))) (by kernel_rfl) rfl (by kernel_rfl) (by kernel_rfl) (fun w hT => run_indexAt (e := 3) (sz := 1) _ (by kernel_rfl) (by kernel_rfl) (by omega) (by omega) (by omega) w) ?_
   refine sem_take 0 [] 23 21 84 (Instr.loadAt 3 (.pointer (some ⟨g25, (j : Nat), none⟩))) (iq ((ofL l q).getD (j : Nat) 0)) (by kernel_rfl) (pok_then (pok_blk (pok_then (pok_then (pok_blk (pok_then (pok_blk (pok_then (pok_then (pok_blk (pok_then pok_body))))))))))) (by kernel_rfl) rfl (by kernel_rfl) (by kernel_rfl) (fun w hT => run_load1 (by kernel_rfl) (Row.cell (hT 0 _ rfl) ((j : Nat)) _ (ivals_get (by omega)))) ?_
   refine takes 0 [] [(25, 0)] 20 [25, 23, 22, 24, 21, 20, 19, 18, 17, 16, 15, 13, 12, 14, 11, 10, 9, 8, 7, 5, 4, 3, 6, 2, 1, 0] [(3, .pointer (pB tb1)), (7, iq (cntK l q)), (8, iq q), (9, .slice A24 k26 cp27), (10, iq ((j : Nat) : Int)), (70, .pointer (pB tb1)), (71, .slice (pB g25) k26 cp27), (72, iq ((j : Nat) : Int)), (73, .pointer (some ⟨g25, (j : Nat), none⟩)), (74, iq ((ofL l q).getD (j : Nat) 0)), (75, iq q), (76, iq (findE l ((ofL l q).getD (j : Nat) 0) q)), (77, .bool false), (79, .bool false), (80, .pointer (pB tb1)), (81, .slice (pB g25) k26 cp27), (82, iq ((j : Nat) : Int)), (83, .pointer (some ⟨g25, (j : Nat), none⟩)), (84, iq ((ofL l q).getD (j : Nat) 0)), (85, iq q), (86, iq (q.tmod 8))] (by kernel_rfl) (pok_then (pok_blk (pok_then (pok_then (pok_blk (pok_then (pok_blk (pok_then (pok_then (pok_blk (pok_then pok_body))))))))))) (by kernel_rfl) rfl rfl (by kernel_rfl) (by kernel_rfl) ?_
   refine cont_recast 86 (iq (q.tmod 8)) (iq (q % 8)) rfl (tmodI (by omega)) ?_
   refine takes 0 [] [(26, 0)] 19 [26, 25, 23, 22, 24, 21, 20, 19, 18, 17, 16, 15, 13, 12, 14, 11, 10, 9, 8, 7, 5, 4, 3, 6, 2, 1, 0] [(3, .pointer (pB tb1)), (7, iq (cntK l q)), (8, iq q), (9, .slice A24 k26 cp27), (10, iq ((j : Nat) : Int)), (70, .pointer (pB tb1)), (71, .slice (pB g25) k26 cp27), (72, iq ((j : Nat) : Int)), (73, .pointer (some ⟨g25, (j : Nat), none⟩)), (74, iq ((ofL l q).getD (j : Nat) 0)), (75, iq q), (76, iq (findE l ((ofL l q).getD (j : Nat) 0) q)), (77, .bool false), (79, .bool false), (80, .pointer (pB tb1)), (81, .slice (pB g25) k26 cp27), (82, iq ((j : Nat) : Int)), (83, .pointer (some ⟨g25, (j : Nat), none⟩)), (84, iq ((ofL l q).getD (j : Nat) 0)), (85, iq q), (86, iq (q % 8)), (87, iq (IntKind.i64.wrap ((q % 8) + 1)))] (by kernel_rfl) (pok_then (pok_blk (pok_then (pok_then (pok_blk (pok_then (pok_blk (pok_then (pok_then (pok_blk (pok_then pok_body))))))))))) (by kernel_rfl) rfl rfl (by kernel_rfl) (by kernel_rfl) ?_
   refine cont_recast 87 (iq (IntKind.i64.wrap ((q % 8) + 1))) (iq ((q % 8) + 1)) rfl (wrapI (by omega) (by omega)) ?_
   refine drawn_one 27 18 rfl (by kernel_rfl) ?_
   refine call_pure (d := 88) (iq (findE l ((ofL l q).getD (j : Nat) 0) ((q % 8) + 1))) (by kernel_rfl) (fun w hT => idsFind tb1 tm1 32 l ((ofL l q).getD (j : Nat) 0) ((q % 8) + 1) w (hT.viewRo (.cons (i := 1) rfl Vw.roc (.cons (i := 2) rfl Vw.mapRE .nil)) rfl) hlk) ?_
   refine drawn_next 0 [] (by kernel_rfl) ?_
   refine takes 0 [] [(28, 0), (29, 0), (30, 0)] 15 [30, 29, 28, 27, 26, 25, 23, 22, 24, 21, 20, 19, 18, 17, 16, 15, 13, 12, 14, 11, 10, 9, 8, 7, 5, 4, 3, 6, 2, 1, 0] [(3, .pointer (pB tb1)), (7, iq (cntK l q)), (8, iq q), (9, .slice A24 k26 cp27), (10, iq ((j : Nat) : Int)), (70, .pointer (pB tb1)), (71, .slice (pB g25) k26 cp27), (72, iq ((j : Nat) : Int)), (73, .pointer (some ⟨g25, (j : Nat), none⟩)), (74, iq ((ofL l q).getD (j : Nat) 0)), (75, iq q), (76, iq (findE l ((ofL l q).getD (j : Nat) 0) q)), (77, .bool false), (80, .pointer (pB tb1)), (81, .slice (pB g25) k26 cp27), (82, iq ((j : Nat) : Int)), (83, .pointer (some ⟨g25, (j : Nat), none⟩)), (84, iq ((ofL l q).getD (j : Nat) 0)), (85, iq q), (86, iq (q % 8)), (87, iq ((q % 8) + 1)), (88, iq (findE l ((ofL l q).getD (j : Nat) 0) ((q % 8) + 1))), (89, .bool ((findE l ((ofL l q).getD (j : Nat) 0) ((q % 8) + 1)) != 9)), (91, .bool ((findE l ((ofL l q).getD (j : Nat) 0) ((q % 8) + 1)) != 9))] (by kernel_rfl) (pok_then (pok_blk (pok_then (pok_then (pok_blk (pok_then (pok_blk (pok_then (pok_then (pok_blk (pok_then pok_body))))))))))) (by kernel_rfl) rfl rfl (by kernel_rfl) (by kernel_rfl) ?_
   refine cont_recast 91 (.bool ((findE l ((ofL l q).getD (j : Nat) 0) ((q % 8) + 1)) != 9)) (.bool false) rfl (congrArg Value.bool (by rw [ofL_role hlk (by omega)]; rfl)) ?_
   refine cont_recast 89 (.bool ((findE l ((ofL l q).getD (j : Nat) 0) ((q % 8) + 1)) != 9)) (.bool false) rfl (congrArg Value.bool (by rw [ofL_role hlk (by omega)]; rfl)) ?_
   refine takes 0 [] [(31, 0), (32, 0), (33, 0)] 12 [33, 32, 31, 30, 29, 28, 27, 26, 25, 23, 22, 24, 21, 20, 19, 18, 17, 16, 15, 13, 12, 14, 11, 10, 9, 8, 7, 5, 4, 3, 6, 2, 1, 0] [(3, .pointer (pB tb1)), (7, iq (cntK l q)), (8, iq q), (9, .slice A24 k26 cp27), (10, iq ((j : Nat) : Int)), (70, .pointer (pB tb1)), (71, .slice (pB g25) k26 cp27), (72, iq ((j : Nat) : Int)), (73, .pointer (some ⟨g25, (j : Nat), none⟩)), (74, iq ((ofL l q).getD (j : Nat) 0)), (75, iq q), (76, iq (findE l ((ofL l q).getD (j : Nat) 0) q)), (77, .bool false), (80, .pointer (pB tb1)), (81, .slice (pB g25) k26 cp27), (82, iq ((j : Nat) : Int)), (83, .pointer (some ⟨g25, (j : Nat), none⟩)), (84, iq ((ofL l q).getD (j : Nat) 0)), (85, iq q), (86, iq (q % 8)), (87, iq ((q % 8) + 1)), (88, iq (findE l ((ofL l q).getD (j : Nat) 0) ((q % 8) + 1))), (89, .bool false), (91, .bool false), (92, iq ((j : Nat) : Int)), (93, .bool (decide (((j : Nat) : Int) > 0))), (94, .bool (decide (((j : Nat) : Int) > 0)))] (by kernel_rfl) (pok_then (pok_blk (pok_then (pok_then (pok_blk (pok_then (pok_blk (pok_then (pok_then (pok_blk (pok_then pok_body))))))))))) (by kernel_rfl) rfl rfl (by kernel_rfl) (by kernel_rfl) ?_
   refine cont_split 94 (decide (((j : Nat) : Int) > 0)) rfl (fun c36_ => ?_) (fun c36_ => ?_)
   ·
    refine cont_recast 93 (.bool (decide (((j : Nat) : Int) > 0))) (.bool true) rfl (congrArg Value.bool c36_) ?_
    replace c36_ := of_decide_eq_true c36_
    refine takes 0 [] [(34, 0), (35, 0), (38, 0), (39, 0)] 8 [39, 38, 35, 34, 33, 32, 31, 30, 29, 28, 27, 26, 25, 23, 22, 24, 21, 20, 19, 18, 17, 16, 15, 13, 12, 14, 11, 10, 9, 8, 7, 5, 4, 3, 6, 2, 1, 0] [(3, .pointer (pB tb1)), (7, iq (cntK l q)), (8, iq q), (9, .slice A24 k26 cp27), (10, iq ((j : Nat) : Int)), (70, .pointer (pB tb1)), (71, .slice (pB g25) k26 cp27), (72, iq ((j : Nat) : Int)), (73, .pointer (some ⟨g25, (j : Nat), none⟩)), (74, iq ((ofL l q).getD (j : Nat) 0)), (75, iq q), (76, iq (findE l ((ofL l q).getD (j : Nat) 0) q)), (77, .bool false), (80, .pointer (pB tb1)), (81, .slice (pB g25) k26 cp27), (82, iq ((j : Nat) : Int)), (83, .pointer (some ⟨g25, (j : Nat), none⟩)), (84, iq ((ofL l q).getD (j : Nat) 0)), (85, iq q), (86, iq (q % 8)), (87, iq ((q % 8) + 1)), (88, iq (findE l ((ofL l q).getD (j : Nat) 0) ((q % 8) + 1))), (89, .bool false), (91, .bool false), (92, iq ((j : Nat) : Int)), (93, .bool true), (94, .bool true), (95, .slice A24 k26 cp27), (96, iq ((j : Nat) : Int)), (99, .slice A24 k26 cp27), (100, iq ((j : Nat) : Int))] (by kernel_rfl) (pok_then (pok_blk (pok_then (pok_then (pok_blk (pok_then (pok_blk (pok_then (pok_then (pok_blk (pok_then pok_body))))))))))) (by kernel_rfl) rfl rfl (by kernel_rfl) (by kernel_rfl) ?_
    refine cont_recast 95 (.slice A24 k26 cp27) (.slice (pB g25) k26 cp27) rfl (by rw [hr29_a (by omega)]) ?_
    refine sem_take 0 [] 36 7 97 (Instr.indexAt 32 (.slice (pB g25) k26 cp27) (iq ((j : Nat) : Int))) (.pointer (some ⟨g25, (j : Nat), none⟩)) (by kernel_rfl) (pok_then (pok_blk (pok_then (pok_then (pok_blk (pok_then (pok_blk (pok_then (pok_then (pok_blk (pok_then pok_body))))))))))) (by kernel_rfl) rfl (by kernel_rfl) (by kernel_rfl) (fun w hT => run_indexAt (e := 3) (sz := 1) _ (by kernel_rfl) (by kernel_rfl) (by omega) (by omega) (by omega) w) ?_
    refine sem_take 0 [] 37 6 98 (Instr.loadAt 3 (.pointer (some ⟨g25, (j : Nat), none⟩))) (iq ((ofL l q).getD (j : Nat) 0)) (by kernel_rfl) (pok_then (pok_blk (pok_then (pok_then (pok_blk (pok_then (pok_blk (pok_then (pok_then (pok_blk (pok_then pok_body))))))))))) (by kernel_rfl) rfl (by kernel_rfl) (by kernel_rfl) (fun w hT => run_load1 (by kernel_rfl) (Row.cell (hT 0 _ rfl) ((j : Nat)) _ (ivals_get (by omega)))) ?_
    refine takes 0 [] [(40, 0)] 5 [40, 37, 36, 39, 38, 35, 34, 33, 32, 31, 30, 29, 28, 27, 26, 25, 23, 22, 24, 21, 20, 19, 18, 17, 16, 15, 13, 12, 14, 11, 10, 9, 8, 7, 5, 4, 3, 6, 2, 1, 0] [(3, .pointer (pB tb1)), (7, iq (cntK l q)), (8, iq q), (9, .slice A24 k26 cp27), (10, iq ((j : Nat) : Int)), (70, .pointer (pB tb1)), (71, .slice (pB g25) k26 cp27), (72, iq ((j : Nat) : Int)), (73, .pointer (some ⟨g25, (j : Nat), none⟩)), (74, iq ((ofL l q).getD (j : Nat) 0)), (75, iq q), (76, iq (findE l ((ofL l q).getD (j : Nat) 0) q)), (77, .bool false), (80, .pointer (pB tb1)), (81, .slice (pB g25) k26 cp27), (82, iq ((j : Nat) : Int)), (83, .pointer (some ⟨g25, (j : Nat), none⟩)), (84, iq ((ofL l q).getD (j : Nat) 0)), (85, iq q), (86, iq (q % 8)), (87, iq ((q % 8) + 1)), (88, iq (findE l ((ofL l q).getD (j : Nat) 0) ((q % 8) + 1))), (89, .bool false), (91, .bool false), (92, iq ((j : Nat) : Int)), (93, .bool true), (94, .bool true), (95, .slice (pB g25) k26 cp27), (96, iq ((j : Nat) : Int)), (97, .pointer (some ⟨g25, (j : Nat), none⟩)), (98, iq ((ofL l q).getD (j : Nat) 0)), (99, .slice A24 k26 cp27), (100, iq ((j : Nat) : Int)), (101, iq (IntKind.i64.wrap (((j : Nat) : Int) - 1)))] (by kernel_rfl) (pok_then (pok_blk (pok_then (pok_then (pok_blk (pok_then (pok_blk (pok_then (pok_then (pok_blk (pok_then pok_body))))))))))) (by kernel_rfl) rfl rfl (by kernel_rfl) (by kernel_rfl) ?_
    refine cont_recast 101 (iq (IntKind.i64.wrap (((j : Nat) : Int) - 1))) (iq (((j : Nat) : Int) - 1)) rfl (wrapI (by omega) (by omega)) ?_
    refine cont_recast 99 (.slice A24 k26 cp27) (.slice (pB g25) k26 cp27) rfl (by rw [hr29_a (by omega)]) ?_
    refine sem_take 0 [] 41 4 102 (Instr.indexAt 32 (.slice (pB g25) k26 cp27) (iq (((j : Nat) : Int) - 1))) (.pointer (some ⟨g25, Int.toNat (((j : Nat) : Int) - 1), none⟩)) (by kernel_rfl) (pok_then (pok_blk (pok_then (pok_then (pok_blk (pok_then (pok_blk (pok_then (pok_then (pok_blk (pok_then pok_body))))))))))) (by kernel_rfl) rfl (by kernel_rfl) (by kernel_rfl) (fun w hT => run_indexAt (e := 3) (sz := 1) _ (by kernel_rfl) (by kernel_rfl) (by omega) (by omega) (by omega) w) ?_
    refine sem_take 0 [] 42 3 103 (Instr.loadAt 3 (.pointer (some ⟨g25, Int.toNat (((j : Nat) : Int) - 1), none⟩))) (iq ((ofL l q).getD (Int.toNat (((j : Nat) : Int) - 1)) 0)) (by kernel_rfl) (pok_then (pok_blk (pok_then (pok_then (pok_blk (pok_then (pok_blk (pok_then (pok_then (pok_blk (pok_then pok_body))))))))))) (by kernel_rfl) rfl (by kernel_rfl) (by kernel_rfl) (fun w hT => run_load1 (by kernel_rfl) (Row.cell (hT 0 _ rfl) (Int.toNat (((j : Nat) : Int) - 1)) _ (ivals_get (by omega)))) ?_
    refine takes 0 [] [(43, 0), (44, 0), (45, 0)] 0 [45, 44, 43, 42, 41, 40, 37, 36, 39, 38, 35, 34, 33, 32, 31, 30, 29, 28, 27, 26, 25, 23, 22, 24, 21, 20, 19, 18, 17, 16, 15, 13, 12, 14, 11, 10, 9, 8, 7, 5, 4, 3, 6, 2, 1, 0] [(3, .pointer (pB tb1)), (7, iq (cntK l q)), (8, iq q), (9, .slice A24 k26 cp27), (10, iq ((j : Nat) : Int)), (70, .pointer (pB tb1)), (71, .slice (pB g25) k26 cp27), (72, iq ((j : Nat) : Int)), (73, .pointer (some ⟨g25, (j : Nat), none⟩)), (74, iq ((ofL l q).getD (j : Nat) 0)), (75, iq q), (76, iq (findE l ((ofL l q).getD (j : Nat) 0) q)), (77, .bool false), (80, .pointer (pB tb1)), (81, .slice (pB g25) k26 cp27), (82, iq ((j : Nat) : Int)), (83, .pointer (some ⟨g25, (j : Nat), none⟩)), (84, iq ((ofL l q).getD (j : Nat) 0)), (85, iq q), (86, iq (q % 8)), (87, iq ((q % 8) + 1)), (88, iq (findE l ((ofL l q).getD (j : Nat) 0) ((q % 8) + 1))), (89, .bool false), (92, iq ((j : Nat) : Int)), (93, .bool true), (94, .bool true), (95, .slice (pB g25) k26 cp27), (96, iq ((j : Nat) : Int)), (97, .pointer (some ⟨g25, (j : Nat), none⟩)), (98, iq ((ofL l q).getD (j : Nat) 0)), (99, .slice (pB g25) k26 cp27), (100, iq ((j : Nat) : Int)), (101, iq (((j : Nat) : Int) - 1)), (102, .pointer (some ⟨g25, Int.toNat (((j : Nat) : Int) - 1), none⟩)), (103, iq ((ofL l q).getD (Int.toNat (((j : Nat) : Int) - 1)) 0)), (104, .bool (decide (((ofL l q).getD (j : Nat) 0) ≤ ((ofL l q).getD (Int.toNat (((j : Nat) : Int) - 1)) 0)))), (105, .bool (decide (((ofL l q).getD (j : Nat) 0) ≤ ((ofL l q).getD (Int.toNat (((j : Nat) : Int) - 1)) 0)))), (106, .bool (decide (((ofL l q).getD (j : Nat) 0) ≤ ((ofL l q).getD (Int.toNat (((j : Nat) : Int) - 1)) 0))))] (by kernel_rfl) (pok_then (pok_blk (pok_then (pok_then (pok_blk (pok_then (pok_blk (pok_then (pok_then (pok_blk (pok_then pok_body))))))))))) (by kernel_rfl) rfl rfl (by kernel_rfl) (by kernel_rfl) ?_
    refine drawn_done (by kernel_rfl) ?_
    refine then_normal ?_
    refine cont_recast 106 (.bool (decide (((ofL l q).getD (j : Nat) 0) ≤ ((ofL l q).getD (Int.toNat (((j : Nat) : Int) - 1)) 0)))) (.bool false) rfl (congrArg Value.bool (decide_eq_false (by rw [show (((j : Nat) : Int) - 1).toNat = j - 1 by omega]; have h_ := ofL_lt hlk (k := q) (i := j - 1) (j := j) (by omega) (by omega); omega))) ?_
    refine cont_recast 104 (.bool (decide (((ofL l q).getD (j : Nat) 0) ≤ ((ofL l q).getD (Int.toNat (((j : Nat) : Int) - 1)) 0)))) (.bool false) rfl (congrArg Value.bool (decide_eq_false (by rw [show (((j : Nat) : Int) - 1).toNat = j - 1 by omega]; have h_ := ofL_lt hlk (k := q) (i := j - 1) (j := j) (by omega) (by omega); omega))) ?_
    refine cont_recast 105 (.bool (decide (((ofL l q).getD (j : Nat) 0) ≤ ((ofL l q).getD (Int.toNat (((j : Nat) : Int) - 1)) 0)))) (.bool false) rfl (congrArg Value.bool (decide_eq_false (by rw [show (((j : Nat) : Int) - 1).toNat = j - 1 by omega]; have h_ := ofL_lt hlk (k := q) (i := j - 1) (j := j) (by omega) (by omega); omega))) ?_
    refine cont_false rfl ?_
    refine cont_skip ?_
    refine blk_normal ?_
    refine then_normal ?_
    refine cont_region 3 rfl ?_
    refine bS [0, 0] 2 1 [(3, .pointer (pB tb1)), (7, iq (cntK l q)), (8, iq q), (9, .slice A24 k26 cp27), (60, iq (IntKind.i64.wrap (((j : Nat) : Int) + 1))), (70, .pointer (pB tb1)), (71, .slice (pB g25) k26 cp27), (72, iq ((j : Nat) : Int)), (73, .pointer (some ⟨g25, (j : Nat), none⟩)), (74, iq ((ofL l q).getD (j : Nat) 0)), (75, iq q), (76, iq (findE l ((ofL l q).getD (j : Nat) 0) q)), (77, .bool false), (80, .pointer (pB tb1)), (81, .slice (pB g25) k26 cp27), (82, iq ((j : Nat) : Int)), (83, .pointer (some ⟨g25, (j : Nat), none⟩)), (84, iq ((ofL l q).getD (j : Nat) 0)), (85, iq q), (86, iq (q % 8)), (87, iq ((q % 8) + 1)), (88, iq (findE l ((ofL l q).getD (j : Nat) 0) ((q % 8) + 1))), (89, .bool false), (92, iq ((j : Nat) : Int)), (93, .bool true), (94, .bool true), (95, .slice (pB g25) k26 cp27), (96, iq ((j : Nat) : Int)), (97, .pointer (some ⟨g25, (j : Nat), none⟩)), (98, iq ((ofL l q).getD (j : Nat) 0)), (99, .slice (pB g25) k26 cp27), (100, iq ((j : Nat) : Int)), (101, iq (((j : Nat) : Int) - 1)), (102, .pointer (some ⟨g25, Int.toNat (((j : Nat) : Int) - 1), none⟩)), (103, iq ((ofL l q).getD (Int.toNat (((j : Nat) : Int) - 1)) 0)), (104, .bool false), (105, .bool false)] ?_
    refine cont_recast 60 (iq (IntKind.i64.wrap (((j : Nat) : Int) + 1))) (iq (((j : Nat) : Int) + 1)) rfl (wrapI (by omega) (by omega)) ?_
    refine bS [0] 3 0 [(3, .pointer (pB tb1)), (7, iq (cntK l q)), (8, iq q), (9, .slice A24 k26 cp27), (10, iq (((j : Nat) : Int) + 1)), (70, .pointer (pB tb1)), (71, .slice (pB g25) k26 cp27), (72, iq ((j : Nat) : Int)), (73, .pointer (some ⟨g25, (j : Nat), none⟩)), (74, iq ((ofL l q).getD (j : Nat) 0)), (75, iq q), (76, iq (findE l ((ofL l q).getD (j : Nat) 0) q)), (77, .bool false), (80, .pointer (pB tb1)), (81, .slice (pB g25) k26 cp27), (82, iq ((j : Nat) : Int)), (83, .pointer (some ⟨g25, (j : Nat), none⟩)), (84, iq ((ofL l q).getD (j : Nat) 0)), (85, iq q), (86, iq (q % 8)), (87, iq ((q % 8) + 1)), (88, iq (findE l ((ofL l q).getD (j : Nat) 0) ((q % 8) + 1))), (89, .bool false), (92, iq ((j : Nat) : Int)), (93, .bool true), (94, .bool true), (95, .slice (pB g25) k26 cp27), (96, iq ((j : Nat) : Int)), (97, .pointer (some ⟨g25, (j : Nat), none⟩)), (98, iq ((ofL l q).getD (j : Nat) 0)), (99, .slice (pB g25) k26 cp27), (100, iq ((j : Nat) : Int)), (101, iq (((j : Nat) : Int) - 1)), (102, .pointer (some ⟨g25, Int.toNat (((j : Nat) : Int) - 1), none⟩)), (103, iq ((ofL l q).getD (Int.toNat (((j : Nat) : Int) - 1)) 0)), (104, .bool false), (105, .bool false)] ?_
    refine cont_done ?_
    refine then_normal ?_
    refine cont_again (j + 1) (show (j + 1) ≤ k26 from (by omega)) (show k26 - (j + 1) < k26 - j from by omega) (by kernel_rfl) (by kernel_rfl)
   refine cont_recast 93 (.bool (decide (((j : Nat) : Int) > 0))) (.bool false) rfl (congrArg Value.bool c36_) ?_
   replace c36_ := of_decide_eq_false c36_
   refine takes 0 [] [(34, 0), (35, 0), (38, 0), (39, 0), (36, 0), (40, 0), (37, 0), (41, 0), (42, 0), (43, 0), (44, 0), (45, 0)] 0 [45, 44, 43, 42, 41, 37, 40, 36, 39, 38, 35, 34, 33, 32, 31, 30, 29, 28, 27, 26, 25, 23, 22, 24, 21, 20, 19, 18, 17, 16, 15, 13, 12, 14, 11, 10, 9, 8, 7, 5, 4, 3, 6, 2, 1, 0] [(3, .pointer (pB tb1)), (7, iq (cntK l q)), (8, iq q), (9, .slice A24 k26 cp27), (10, iq ((j : Nat) : Int)), (70, .pointer (pB tb1)), (71, .slice (pB g25) k26 cp27), (72, iq ((j : Nat) : Int)), (73, .pointer (some ⟨g25, (j : Nat), none⟩)), (74, iq ((ofL l q).getD (j : Nat) 0)), (75, iq q), (76, iq (findE l ((ofL l q).getD (j : Nat) 0) q)), (77, .bool false), (80, .pointer (pB tb1)), (81, .slice (pB g25) k26 cp27), (82, iq ((j : Nat) : Int)), (83, .pointer (some ⟨g25, (j : Nat), none⟩)), (84, iq ((ofL l q).getD (j : Nat) 0)), (85, iq q), (86, iq (q % 8)), (87, iq ((q % 8) + 1)), (88, iq (findE l ((ofL l q).getD (j : Nat) 0) ((q % 8) + 1))), (89, .bool false), (92, iq ((j : Nat) : Int)), (93, .bool false), (94, .bool false), (95, undef), (96, undef), (97, undef), (98, undef), (99, undef), (100, undef), (101, undef), (102, undef), (103, undef), (104, undef), (105, .bool false), (106, .bool false)] (by kernel_rfl) (pok_then (pok_blk (pok_then (pok_then (pok_blk (pok_then (pok_blk (pok_then (pok_then (pok_blk (pok_then pok_body))))))))))) (by kernel_rfl) rfl rfl (by kernel_rfl) (by kernel_rfl) ?_
   refine drawn_done (by kernel_rfl) ?_
   refine then_normal ?_
   refine cont_false rfl ?_
   refine cont_skip ?_
   refine blk_normal ?_
   refine then_normal ?_
   refine cont_region 3 rfl ?_
   refine bS [0, 0] 2 1 [(3, .pointer (pB tb1)), (7, iq (cntK l q)), (8, iq q), (9, .slice A24 k26 cp27), (60, iq (IntKind.i64.wrap (((j : Nat) : Int) + 1))), (70, .pointer (pB tb1)), (71, .slice (pB g25) k26 cp27), (72, iq ((j : Nat) : Int)), (73, .pointer (some ⟨g25, (j : Nat), none⟩)), (74, iq ((ofL l q).getD (j : Nat) 0)), (75, iq q), (76, iq (findE l ((ofL l q).getD (j : Nat) 0) q)), (77, .bool false), (80, .pointer (pB tb1)), (81, .slice (pB g25) k26 cp27), (82, iq ((j : Nat) : Int)), (83, .pointer (some ⟨g25, (j : Nat), none⟩)), (84, iq ((ofL l q).getD (j : Nat) 0)), (85, iq q), (86, iq (q % 8)), (87, iq ((q % 8) + 1)), (88, iq (findE l ((ofL l q).getD (j : Nat) 0) ((q % 8) + 1))), (89, .bool false), (92, iq ((j : Nat) : Int)), (93, .bool false), (94, .bool false), (95, undef), (96, undef), (97, undef), (98, undef), (99, undef), (100, undef), (101, undef), (102, undef), (103, undef), (104, undef), (105, .bool false)] ?_
   refine cont_recast 60 (iq (IntKind.i64.wrap (((j : Nat) : Int) + 1))) (iq (((j : Nat) : Int) + 1)) rfl (wrapI (by omega) (by omega)) ?_
   refine bS [0] 3 0 [(3, .pointer (pB tb1)), (7, iq (cntK l q)), (8, iq q), (9, .slice A24 k26 cp27), (10, iq (((j : Nat) : Int) + 1)), (70, .pointer (pB tb1)), (71, .slice (pB g25) k26 cp27), (72, iq ((j : Nat) : Int)), (73, .pointer (some ⟨g25, (j : Nat), none⟩)), (74, iq ((ofL l q).getD (j : Nat) 0)), (75, iq q), (76, iq (findE l ((ofL l q).getD (j : Nat) 0) q)), (77, .bool false), (80, .pointer (pB tb1)), (81, .slice (pB g25) k26 cp27), (82, iq ((j : Nat) : Int)), (83, .pointer (some ⟨g25, (j : Nat), none⟩)), (84, iq ((ofL l q).getD (j : Nat) 0)), (85, iq q), (86, iq (q % 8)), (87, iq ((q % 8) + 1)), (88, iq (findE l ((ofL l q).getD (j : Nat) 0) ((q % 8) + 1))), (89, .bool false), (92, iq ((j : Nat) : Int)), (93, .bool false), (94, .bool false), (95, undef), (96, undef), (97, undef), (98, undef), (99, undef), (100, undef), (101, undef), (102, undef), (103, undef), (104, undef), (105, .bool false)] ?_
   refine cont_done ?_
   refine then_normal ?_
   refine cont_again (j + 1) (show (j + 1) ≤ k26 from (by omega)) (show k26 - (j + 1) < k26 - j from by omega) (by kernel_rfl) (by kernel_rfl)
  replace c32_ := of_decide_eq_false c32_
  refine cont_false rfl ?_
  refine cont_exit ?_
  refine then_exit ?_
  refine then_exit ?_
  refine blk_exit ?_
  refine then_normal ?_
  refine cont_region 5 rfl ?_
  refine bS [0, 0, 0, 0] 4 1 [(3, .pointer (pB tb1)), (8, iq q), (110, iq (IntKind.i64.wrap ((cntK l q) + (k26 : Int))))] ?_
  refine cont_recast 110 (iq (IntKind.i64.wrap ((cntK l q) + (k26 : Int)))) (iq ((cntK l q) + (k26 : Int))) rfl (wrapI (by omega) (by omega)) ?_
  refine cont_forget 0 rfl ?_
  refine bS [0] 5 0 [(3, .pointer (pB tb1)), (7, iq ((cntK l q) + (k26 : Int))), (8, iq q)] ?_
  refine cont_done ?_
  refine blk_normal ?_
  refine then_normal ?_
  refine cont_region 3 rfl ?_
  refine bS [0, 0] 2 1 [(3, .pointer (pB tb1)), (7, iq ((cntK l q) + (k26 : Int))), (51, iq (IntKind.i64.wrap (q + 1)))] ?_
  refine cont_recast 51 (iq (IntKind.i64.wrap (q + 1))) (iq (q + 1)) rfl (wrapI (by omega) (by omega)) ?_
  refine bS [0] 3 0 [(3, .pointer (pB tb1)), (7, iq ((cntK l q) + (k26 : Int))), (8, iq (q + 1))] ?_
  refine cont_done ?_
  refine then_normal ?_
  refine cont_recast 7 (iq ((cntK l q) + (k26 : Int))) (iq (cntK l (q + 1))) rfl (congrArg (Value.int .i64) (by rw [cnt_succ]; omega)) ?_
  refine cont_again (q + 1) (show 1 ≤ (q + 1) ∧ (q + 1) ≤ 9 from (by omega)) (show (9 - (q + 1)).toNat < (9 - q).toNat from by omega) (by kernel_rfl) (by kernel_rfl)
 replace c23_ := of_decide_eq_false c23_
 refine cont_false rfl ?_
 refine cont_exit ?_
 refine then_exit ?_
 refine then_exit ?_
 refine blk_exit ?_
 refine then_normal ?_
 refine cont_seq ?_
 refine cont_region 8 rfl ?_
 refine bS [0, 0] 2 6 [(111, iq (cntK l q)), (112, .pointer (pB tb1))] ?_
 refine pl_step 3 5 rfl rfl ?_
 refine call_pure (d := 113) (iq (l.length : Int)) (by kernel_rfl) (fun w hT => idsLen tb1 tm1 32 l w (hT.viewRo (.cons (i := 0) rfl Vw.roc (.cons (i := 1) rfl Vw.mapRE .nil)) rfl) hlk) ?_
 refine bS [0, 0] 5 3 [(115, .bool ((cntK l q) == (l.length : Int)))] ?_
 refine cont_forget 0 rfl ?_
 refine cont_recast 115 (.bool ((cntK l q) == (l.length : Int))) (.bool true) rfl (congrArg Value.bool (by rw [show q = 9 by omega, cnt_all hlk]; exact beq_self_eq_true _)) ?_
 refine pl_step 6 2 rfl rfl ?_
 refine call_pure (d := 116) (.bool true) (by kernel_rfl) (fun w hT => lives11  w) ?_
 refine bS [0, 0] 8 0 [(2, .bool true)] ?_
 refine cont_done ?_
 refine then_normal ?_
 refine cont_ret ?_
 refine ret_one (.inl rfl) rfl 0 (.bool true) (by kernel_rfl) (by kernel_rfl) (fun w hT => ?_)
 exact ⟨rfl, hT.post rfl⟩

end Go.Proofs.Ytekgdfaggagfmaa

