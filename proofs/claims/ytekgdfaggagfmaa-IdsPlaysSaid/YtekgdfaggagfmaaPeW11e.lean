/- Contracts of functions of the given program, printed by a program of this project. -/
import Derived.Test.YtekgdfaggagfmaaPeL11c
import Derived.Test.YtekgdfaggagfmaaPeDk11
import Derived.Test.YtekgdfaggagfmaaProg
set_option linter.unusedVariables false
set_option linter.unusedSimpArgs false
namespace Go.Proofs.Ytekgdfaggagfmaa
open Go Go.RowKit
set_option maxRecDepth 100000
set_option maxHeartbeats 8000000

theorem lives11 (w : World) :
    Calls Try.prog 11 #[] w fun e w' => e = .returned (.bool true) ∧ Below w.heap.size w w' := by
 refine enter 13 [] [] Try.func11 rfl Try.ntmps11 rfl (by kernel_rfl) (Tab.start w) ?_
 refine cont_seq ?_
 refine cont_region 1 rfl ?_
 refine bS [0] 1 0 [] ?_
 refine cont_done ?_
 refine then_normal ?_
 refine cont_seq ?_
 refine cont_region 2 rfl ?_
 refine pl_step 1 1 rfl rfl ?_
 refine call_gen (d := 2) (α := Nat × Nat × Int) (fun x_ => .pointer (pB x_.1)) (fun x_ => [.cells x_.1 [iq 3, .map (some x_.2.1)] 54 true, .gen (mapE x_.2.1 (imsV []) true)]) (fun x_ => x_.2.2 = mn (mx 3 1) 32) (by kernel_rfl) (fun w hT => (idsNew 3 w).mono fun e w' ⟨b_, m_, he_, ht_⟩ => ⟨(b_, m_, mn (mx 3 1) 32), he_, rfl, hT.news ht_ rfl⟩) ?_
 rintro ⟨tb1, tm1, rm1⟩ hrm1
 replace hrm1 : rm1 = mn (mx 3 1) 32 := hrm1
 refine cont_norm [(2, .pointer (pB tb1))] _ (by kernel_rfl) rfl ?_
 refine bS [0] 2 0 [(1, .pointer (pB tb1))] ?_
 refine cont_done ?_
 refine then_normal ?_
 refine cont_seq ?_
 refine cont_seq ?_
 refine cont_region 2 rfl ?_
 refine bS [0, 0] 2 0 [(1, .pointer (pB tb1)), (4, .bool false)] ?_
 refine cont_done ?_
 refine then_normal ?_
 refine cont_false rfl ?_
 refine cont_skip ?_
 refine then_normal ?_
 refine cont_seq ?_
 refine cont_region 9 rfl ?_
 refine bS [0] 1 8 [(1, .pointer (pB tb1)), (5, .pointer (pB tb1))] ?_
 refine pl_step 2 7 rfl rfl ?_
 refine call_gen (d := 6) (α := Unit) (fun _ => iq (addE 3 [] 5 1)) (fun _ => [.cells tb1 [iq 3, .map (some tm1)] 54 true, .gen (mapE tm1 (imsV (addL 3 [] 5 1)) true)]) (fun _ => True) (by kernel_rfl) (fun w hT => (idsAdd tb1 tm1 3 [] 5 1 w (hT.view (.cons (i := 0) rfl Vw.roc (.cons (i := 1) rfl Vw.map .nil)) (by decide)) (IdsOk.new (m := 3) (by decide) (by decide))).mono fun e w' ⟨he_, ht_⟩ => ⟨(), he_, trivial, hT.merge (N := []) (s := [0, 1]) ht_ (.skip rfl (.cons (i := 1) rfl Mg.map .nil)) (by decide) (fun i e h => by simp at h)⟩) (fun _ _ => ?_)
 refine cont_recast 6 (iq (addE 3 [] 5 1)) (iq 0) rfl (congrArg (Value.int .i64) rfl) ?_
 have hl2_ : addL 3 [] 5 1 = [(5, 1)] := rfl
 have hk3_ : IdsOk 3 [(5, 1)] := by have h_ := ((IdsOk.new (m := 3) (by decide) (by decide)).add 5 1); rw [hl2_] at h_; exact h_
 refine cont_mapEq 1 (addL 3 [] 5 1) ([(5, 1)]) rfl hl2_ ?_
 refine bS [0, 0, 0] 5 4 [(8, .bool true), (9, .pointer (pB tb1))] ?_
 refine pl_step 6 3 rfl rfl ?_
 refine call_pure (d := 10) (iq (findE [(5, 1)] 5 2)) (by kernel_rfl) (fun w hT => idsFind tb1 tm1 3 [(5, 1)] 5 2 w (hT.viewRo (.cons (i := 0) rfl Vw.roc (.cons (i := 1) rfl Vw.mapRE .nil)) rfl) hk3_) ?_
 refine cont_recast 10 (iq (findE [(5, 1)] 5 2)) (iq 9) rfl (congrArg (Value.int .i64) rfl) ?_
 refine bS [0, 0, 0] 9 0 [(0, .bool true)] ?_
 refine cont_forget 0 rfl ?_
 refine cont_done ?_
 refine then_normal ?_
 refine cont_ret ?_
 refine ret_one (.inl rfl) rfl 0 (.bool true) (by kernel_rfl) (by kernel_rfl) (fun w hT => ?_)
 exact ⟨rfl, hT.post rfl⟩

theorem walkIdsPlays (mq : Int) (A : Option Addr) (g o n cap : Nat) (xs : List Deed11) (w : World) (hmm : -9223372036854775808 ≤ mq ∧ mq ≤ 9223372036854775807) (hr : Rd w A g o n 3 (dvals Deed11.cells xs)) (hl : xs.length = n) (hc : n ≤ cap) (hm : cap ≤ maxLen) (hg : ∀ d ∈ xs, Deed11.Good w d) :
    Calls Try.prog 7 #[.int .i64 mq, .slice A n cap] w fun e w' => e = .returned (.bool true) ∧ Below w.heap.size w w' := by
 unfold maxLen at hm
 obtain ⟨hra, _⟩ := Rd.factsD Deed11.size (by decide) hr
 have hge : ∀ i, i < n → Deed11.Good w (dget xs i) := fun i hi => hg _ (dget_mem (by omega))
 refine enter 129 [(0, iq mq), (1, .slice A n cap)] [.gen (rdE (A) g o n 3 (dvals Deed11.cells xs))] Try.func7 rfl Try.ntmps7 rfl (by kernel_rfl) (Tab.olds (fun i_ e_ he_ => by
   match i_, he_ with
   | 0, he_ => cases he_; exact ⟨hr, rfl, rfl⟩
   | _ + 1, he_ => cases he_)) ?_
 refine cont_seq ?_
 refine cont_region 1 rfl ?_
 refine bS [0] 1 0 [(0, iq mq), (1, .slice A n cap)] ?_
 refine cont_done ?_
 refine then_normal ?_
 refine cont_seq ?_
 refine cont_region 3 rfl ?_
 refine bS [0] 1 2 [(0, iq mq), (1, .slice A n cap), (14, iq mq)] ?_
 refine pl_step 2 1 rfl rfl ?_
 refine call_gen (d := 15) (α := Nat × Nat × Int) (fun x_ => .pointer (pB x_.1)) (fun x_ => [.cells x_.1 [iq x_.2.2, .map (some x_.2.1)] 54 true, .gen (mapE x_.2.1 (imsV []) true), .gen (rdE (A) g o n 3 (dvals Deed11.cells xs))]) (fun x_ => x_.2.2 = mn (mx mq 1) 32) (by kernel_rfl) (fun w hT => (idsNew mq w).mono fun e w' ⟨b_, m_, he_, ht_⟩ => ⟨(b_, m_, mn (mx mq 1) 32), he_, rfl, hT.news ht_ rfl⟩) ?_
 rintro ⟨tb1, tm1, rm1⟩ hrm1
 replace hrm1 : rm1 = mn (mx mq 1) 32 := hrm1
 refine cont_norm [(0, iq mq), (1, .slice A n cap), (14, iq mq), (15, .pointer (pB tb1))] _ (by kernel_rfl) rfl ?_
 have hrm11 : 1 ≤ rm1 ∧ rm1 ≤ 32 := by rw [hrm1]; unfold mn mx; omega
 refine bS [0] 3 0 [(0, iq mq), (1, .slice A n cap), (5, .pointer (pB tb1))] ?_
 refine cont_done ?_
 refine then_normal ?_
 refine cont_seq ?_
 refine cont_seq ?_
 refine cont_region 2 rfl ?_
 refine bS [0, 0] 2 0 [(0, iq mq), (1, .slice A n cap), (5, .pointer (pB tb1)), (17, .bool false)] ?_
 refine cont_done ?_
 refine then_normal ?_
 refine cont_false rfl ?_
 refine cont_skip ?_
 refine then_normal ?_
 refine cont_seq ?_
 refine cont_region 4 rfl ?_
 refine bS [0] 1 3 [(1, .slice A n cap), (5, .pointer (pB tb1)), (18, iq mq)] ?_
 refine pl_step 2 2 rfl rfl ?_
 refine call_pure (d := 19) (.agg #[iq (mn (mx mq 1) 32), .slice none 0 0]) (by kernel_rfl) (fun w hT => refNew11 mq w) ?_
 refine batch1 [0, 0] 4 0 (fun b2 => [(1, .slice A n cap), (5, .pointer (pB tb1)), (6, .pointer (pB b2))]) (fun b2 => [.cells b2 [iq (mn (mx mq 1) 32), .slice none 0 0] 41 true, .cells tb1 [iq rm1, .map (some tm1)] 54 true, .gen (mapE tm1 (imsV []) true), .gen (rdE (A) g o n 3 (dvals Deed11.cells xs))]) rfl rfl [1, 5, 6] (fun _ => rfl) (fun b2 => by kernel_rfl) (fun b2 => by kernel_rfl) (fun b2 => ?_)
 refine cont_done ?_
 refine then_normal ?_
 refine cont_seq ?_
 refine cont_seq ?_
 refine cont_region 1 rfl ?_
 refine bS [0] 1 0 [(1, .slice A n cap), (5, .pointer (pB tb1)), (6, .pointer (pB b2)), (7, iq 0)] ?_
 refine cont_done ?_
 refine then_normal ?_
 refine cont_block ?_
 refine cont_nilrow 57 2 ?_
 refine cont_norm [(1, .slice A n cap), (5, .pointer (pB tb1)), (6, .pointer (pB b2)), (7, iq 0)] _ (by kernel_rfl) rfl ?_
 refine cont_norm [(1, .slice A n cap), (5, .pointer (pB tb1)), (6, .pointer (pB b2)), (7, iq 0)] [.gen (rowE (none) 0 0 0 57 2 (dvals X11.cells []) true), .cells b2 [iq rm1, .slice none 0 0] 41 true, .cells tb1 [iq rm1, .map (some tm1)] 54 true, .gen (mapE tm1 (imsV []) true), .gen (rdE (A) g o n 3 (dvals Deed11.cells xs))] (by kernel_rfl) (congrArg (fun c_ : List Value => ([.gen (rowE (none) 0 0 0 57 2 (dvals X11.cells []) true), .cells b2 c_ 41 true, .cells tb1 [iq rm1, .map (some tm1)] 54 true, .gen (mapE tm1 (imsV []) true), .gen (rdE (A) g o n 3 (dvals Deed11.cells xs))] : List Ent)) (by rw [hrm1])) ?_
 refine cont_loop (α := Nat × IL × List X11 × Option Addr × Nat × Nat × Nat) (fun x_ : Nat × IL × List X11 × Option Addr × Nat × Nat × Nat => x_.1 ≤ n ∧ IdsOk rm1 x_.2.1 ∧ RelX x_.2.1 x_.2.2.1) (fun x_ : Nat × IL × List X11 × Option Addr × Nat × Nat × Nat => [(1, .slice A n cap), (5, .pointer (pB tb1)), (6, .pointer (pB b2)), (7, iq (x_.1 : Int))]) (fun x_ : Nat × IL × List X11 × Option Addr × Nat × Nat × Nat => [.gen (rowE (x_.2.2.2.1) x_.2.2.2.2.1 x_.2.2.2.2.2.1 x_.2.2.2.2.2.2 57 2 (dvals X11.cells x_.2.2.1) true), .cells b2 [iq rm1, .slice x_.2.2.2.1 x_.2.2.2.2.2.1 x_.2.2.2.2.2.2] 41 true, .cells tb1 [iq rm1, .map (some tm1)] 54 true, .gen (mapE tm1 (imsV x_.2.1) true), .gen (rdE (A) g o n 3 (dvals Deed11.cells xs))]) (fun x_ : Nat × IL × List X11 × Option Addr × Nat × Nat × Nat => n - x_.1) (0, [], [], none, 0, 0, 0) (show (0) ≤ n ∧ IdsOk rm1 ([]) ∧ RelX ([]) ([]) from ⟨by omega, (IdsOk.new hrm11.1 hrm11.2), RelX.nil⟩) (by kernel_rfl) (by kernel_rfl) ?_
 rintro ⟨i, l, LL, Ar, gr, kr, cr⟩ hinv4_
 replace hinv4_ : i ≤ n ∧ IdsOk rm1 l ∧ RelX l LL := hinv4_
 refine cont_norm [(1, .slice A n cap), (5, .pointer (pB tb1)), (6, .pointer (pB b2)), (7, iq (i : Int))] _ (by kernel_rfl) rfl ?_
 obtain ⟨hi, hlk, hrel⟩ := hinv4_
 have hmx1 := hlk.le
 have hmx2 := hlk.hi
 have hrl_ := hrel.len
 skip
 ·
  refine cont_fact (F := (0 < kr → (Ar : Option Addr) = pB gr) ∧ LL.length = kr ∧ kr ≤ cr ∧ cr ≤ maxLen) (fun w hT => Row.factsD X11.size (by decide) (hT.ok 0 _ rfl)) (fun hr5_ => ?_)
  obtain ⟨hr5_a, hr5_l, hr5_c, hr5_m⟩ := hr5_
  unfold maxLen at hr5_m
  refine cont_seq ?_
  refine cont_seq ?_
  refine cont_region 8 rfl ?_
  refine bS [0, 0, 0, 0, 0] 5 3 [(1, .slice A n cap), (5, .pointer (pB tb1)), (6, .pointer (pB b2)), (7, iq (i : Int)), (24, .bool (decide ((i : Int) < (n : Int))))] ?_
  refine cont_split 24 (decide ((i : Int) < (n : Int))) rfl (fun c6_ => ?_) (fun c6_ => ?_)
  ·
   replace c6_ := of_decide_eq_true c6_
   refine bS [0, 0, 0] 8 0 [(1, .slice A n cap), (5, .pointer (pB tb1)), (6, .pointer (pB b2)), (7, iq (i : Int)), (25, iq (i : Int)), (26, .bool (decide ((i : Int) < 60))), (27, .bool (decide ((i : Int) < 60)))] ?_
   refine cont_done ?_
   refine then_normal ?_
   refine cont_split 27 (decide ((i : Int) < 60)) rfl (fun c7_ => ?_) (fun c7_ => ?_)
   ·
    refine cont_recast 26 (.bool (decide ((i : Int) < 60))) (.bool true) rfl (congrArg Value.bool c7_) ?_
    replace c7_ := of_decide_eq_true c7_
    refine cont_true rfl ?_
    refine cont_skip ?_
    refine then_normal ?_
    refine cont_seq ?_
    refine cont_block ?_
    refine cont_seq ?_
    refine cont_region 6 rfl ?_
    generalize hel : dget xs i = el
    have helg := hge i (by omega)
    rw [hel] at helg
    refine bS [0, 0] 2 4 [(1, .slice A n cap), (5, .pointer (pB tb1)), (6, .pointer (pB b2)), (7, iq (i : Int)), (25, iq (i : Int)), (26, .bool true), (30, .slice A n cap), (31, iq (i : Int))] ?_
    refine pl_step 3 3 rfl rfl ?_
    refine cont_recast 30 (.slice A n cap) (.slice (some ⟨g, o, none⟩) n cap) rfl (by rw [hra (by omega)]) ?_
    refine sem_step 32 (Instr.indexAt 34 (.slice (some ⟨g, o, none⟩) n cap) (iq (i : Int))) (.pointer (some ⟨g, o + i * 3, none⟩)) (by kernel_rfl) (fun w hT => run_indexAt (e := 36) (sz := 3) _ (by kernel_rfl) (by kernel_rfl) (by omega) (by omega) (by omega) w) ?_
    refine pl_step 4 2 rfl rfl ?_
    refine sem_step 33 (Instr.loadAt 36 (.pointer (some ⟨g, o + i * 3, none⟩))) (.agg #[iq el.x0, iq el.x1, iq el.x2]) (by kernel_rfl) (fun w hT => run_loadN (m := 3) (cs := [iq el.x0, iq el.x1, iq el.x2]) (by kernel_rfl) (by kernel_rfl) rfl (by have h_ := Rd.dcell Deed11.size (hT.ok 4 _ rfl) (i := i) (by omega); rw [hel] at h_; exact h_)) ?_
    refine batch1 [0, 0] 6 0 (fun b8 => [(1, .slice A n cap), (5, .pointer (pB tb1)), (6, .pointer (pB b2)), (7, iq (i : Int)), (8, .pointer (pB b8)), (25, iq (i : Int)), (26, .bool true)]) (fun b8 => [.cells b8 [iq el.x0, iq el.x1, iq el.x2] 36 true, .gen (rowE (Ar) gr kr cr 57 2 (dvals X11.cells LL) true), .cells b2 [iq rm1, .slice Ar kr cr] 41 true, .cells tb1 [iq rm1, .map (some tm1)] 54 true, .gen (mapE tm1 (imsV l) true), .gen (rdE (A) g o n 3 (dvals Deed11.cells xs))]) rfl rfl [1, 5, 6, 7, 8, 25, 26] (fun _ => rfl) (fun b8 => by kernel_rfl) (fun b8 => by kernel_rfl) (fun b8 => ?_)
    refine cont_done ?_
    refine then_normal ?_
    refine cont_seq ?_
    refine cont_region 1 rfl ?_
    refine bS [0] 1 0 [(1, .slice A n cap), (5, .pointer (pB tb1)), (6, .pointer (pB b2)), (7, iq (i : Int)), (8, .pointer (pB b8)), (25, iq (i : Int)), (26, .bool true)] ?_
    refine cont_done ?_
    refine then_normal ?_
    refine cont_seq ?_
    refine cont_seq ?_
    refine cont_region 2 rfl ?_
    refine bS [0, 0] 2 0 [(1, .slice A n cap), (5, .pointer (pB tb1)), (6, .pointer (pB b2)), (7, iq (i : Int)), (8, .pointer (pB b8)), (25, iq (i : Int)), (26, .bool true), (35, iq el.x0)] ?_
    refine cont_done ?_
    refine then_normal ?_
    refine cont_block ?_
    refine cont_seq ?_
    refine cont_region 2 rfl ?_
    refine bS [0, 0] 2 0 [(1, .slice A n cap), (5, .pointer (pB tb1)), (6, .pointer (pB b2)), (7, iq (i : Int)), (8, .pointer (pB b8)), (25, iq (i : Int)), (26, .bool true), (35, iq el.x0), (45, .bool (el.x0 == 0))] ?_
    refine cont_done ?_
    refine then_normal ?_
    refine cont_split 45 (el.x0 == 0) rfl (fun c9_ => ?_) (fun c9_ => ?_)
    ·
     replace c9_ := eq_of_beqt c9_
     refine cont_true rfl ?_
     refine cont_seq ?_
     refine cont_region 12 rfl ?_
     refine bS [2, 0, 0, 0, 0] 5 7 [(1, .slice A n cap), (5, .pointer (pB tb1)), (6, .pointer (pB b2)), (7, iq (i : Int)), (8, .pointer (pB b8)), (25, iq (i : Int)), (26, .bool true), (48, .agg #[iq rm1, .slice Ar kr cr]), (50, iq el.x1), (52, iq el.x2)] ?_
     refine pl_step 6 6 rfl rfl ?_
     by_cases hae10_ : addEX rm1 LL el.x1 el.x2 = 0
     ·
      refine call_gen (d := 53) (α := Nat × Option Addr × Nat × Nat × Nat) (fun x_ => .tuple #[.agg #[iq rm1, .slice x_.2.1 x_.2.2.2.1 x_.2.2.2.2], iq 0]) (fun x_ => [.gen (rowE (x_.2.1) x_.2.2.1 x_.2.2.2.1 x_.2.2.2.2 57 2 (dvals X11.cells (addX LL el.x1 el.x2 x_.1)) true), .cells b8 [iq el.x0, iq el.x1, iq el.x2] 36 true, .gen (rowE (Ar) gr kr cr 57 2 (dvals X11.cells LL) true), .cells b2 [iq rm1, .slice Ar kr cr] 41 true, .cells tb1 [iq rm1, .map (some tm1)] 54 true, .gen (mapE tm1 (imsV l) true), .gen (rdE (A) g o n 3 (dvals Deed11.cells xs))]) (fun x_ => x_.1 ≤ LL.length ∧ (x_.1 = 0 ∨ (dget LL (x_.1 - 1)).x0 ≤ el.x1) ∧ ∀ j, x_.1 ≤ j → j < LL.length → el.x1 < (dget LL j).x0) (by kernel_rfl) (fun w hT => (refAddY11 rm1 Ar gr 0 kr cr LL el.x1 el.x2 w (hT.viewRo (.cons (i := 1) rfl Vw.rowRd .nil) rfl) (by omega) (by omega) hae10_).mono fun e w' ⟨p11, A12, g13, k14, cp15, he_, hf_, ht_⟩ => ⟨(p11, A12, g13, k14, cp15), he_, hf_, hT.news ht_ rfl⟩) ?_
      rintro ⟨p11, A12, g13, k14, cp15⟩ hf16_
      replace hf16_ : p11 ≤ LL.length ∧ (p11 = 0 ∨ (dget LL (p11 - 1)).x0 ≤ el.x1) ∧ ∀ j, p11 ≤ j → j < LL.length → el.x1 < (dget LL j).x0 := hf16_
      refine cont_norm [(1, .slice A n cap), (5, .pointer (pB tb1)), (6, .pointer (pB b2)), (7, iq (i : Int)), (8, .pointer (pB b8)), (25, iq (i : Int)), (26, .bool true), (48, .agg #[iq rm1, .slice Ar kr cr]), (50, iq el.x1), (52, iq el.x2), (53, .tuple #[.agg #[iq rm1, .slice A12 k14 cp15], iq 0])] _ (by kernel_rfl) rfl ?_
      obtain ⟨hf16_a, hf16_b, hf16_c⟩ := hf16_
      refine cont_fact (F := (0 < k14 → (A12 : Option Addr) = pB g13) ∧ (addX LL el.x1 el.x2 p11).length = k14 ∧ k14 ≤ cp15 ∧ cp15 ≤ maxLen) (fun w hT => Row.factsD X11.size (by decide) (hT.ok 0 _ rfl)) (fun hr17_ => ?_)
      obtain ⟨hr17_a, hr17_l, hr17_c, hr17_m⟩ := hr17_
      unfold maxLen at hr17_m
      have hr17_q := hr17_l
      rw [addX_len _ _ _ hf16_a] at hr17_l
      refine batch1 [0, 0, 0, 0, 0, 0] 12 0 (fun b18 => [(1, .slice A n cap), (5, .pointer (pB tb1)), (6, .pointer (pB b2)), (7, iq (i : Int)), (8, .pointer (pB b8)), (10, .pointer (pB b18)), (11, iq 0), (25, iq (i : Int)), (26, .bool true)]) (fun b18 => [.cells b18 [iq rm1, .slice A12 k14 cp15] 41 true, .gen (rowE (A12) g13 k14 cp15 57 2 (dvals X11.cells (addX LL el.x1 el.x2 p11)) true), .cells b8 [iq el.x0, iq el.x1, iq el.x2] 36 true, .gen (rowE (Ar) gr kr cr 57 2 (dvals X11.cells LL) true), .cells b2 [iq rm1, .slice Ar kr cr] 41 true, .cells tb1 [iq rm1, .map (some tm1)] 54 true, .gen (mapE tm1 (imsV l) true), .gen (rdE (A) g o n 3 (dvals Deed11.cells xs))]) rfl rfl [1, 5, 6, 7, 8, 10, 11, 25, 26] (fun _ => rfl) (fun b18 => by kernel_rfl) (fun b18 => by kernel_rfl) (fun b18 => ?_)
      refine cont_done ?_
      refine then_normal ?_
      refine cont_seq ?_
      refine cont_region 2 rfl ?_
      refine batch0 [0, 4] 2 0 [(1, .slice A n cap), (5, .pointer (pB tb1)), (6, .pointer (pB b2)), (7, iq (i : Int)), (8, .pointer (pB b8)), (11, iq 0), (25, iq (i : Int)), (26, .bool true)] [.cells b18 [iq rm1, .slice A12 k14 cp15] 41 true, .gen (rowE (A12) g13 k14 cp15 57 2 (dvals X11.cells (addX LL el.x1 el.x2 p11)) true), .cells b8 [iq el.x0, iq el.x1, iq el.x2] 36 true, .gen (rowE (Ar) gr kr cr 57 2 (dvals X11.cells LL) true), .cells b2 [iq rm1, .slice A12 k14 cp15] 41 true, .cells tb1 [iq rm1, .map (some tm1)] 54 true, .gen (mapE tm1 (imsV l) true), .gen (rdE (A) g o n 3 (dvals Deed11.cells xs))] rfl rfl (by kernel_rfl) (by kernel_rfl) ?_
      refine cont_forget 0 rfl ?_
      refine cont_forget 2 rfl ?_
      refine cont_done ?_
      refine then_normal ?_
      refine cont_region 9 rfl ?_
      refine bS [0, 0, 1, 0, 1] 5 4 [(1, .slice A n cap), (5, .pointer (pB tb1)), (6, .pointer (pB b2)), (7, iq (i : Int)), (11, iq 0), (25, iq (i : Int)), (26, .bool true), (57, .pointer (pB tb1)), (59, iq el.x1), (61, iq el.x2)] ?_
      refine cont_forget 1 rfl ?_
      refine pl_step 6 3 rfl rfl ?_
      refine call_gen (d := 62) (α := Unit) (fun _ => iq (addE rm1 l el.x1 el.x2)) (fun _ => [.gen (rowE (A12) g13 k14 cp15 57 2 (dvals X11.cells (addX LL el.x1 el.x2 p11)) true), .cells b2 [iq rm1, .slice A12 k14 cp15] 41 true, .cells tb1 [iq rm1, .map (some tm1)] 54 true, .gen (mapE tm1 (imsV (addL rm1 l el.x1 el.x2)) true), .gen (rdE (A) g o n 3 (dvals Deed11.cells xs))]) (fun _ => True) (by kernel_rfl) (fun w hT => (idsAdd tb1 tm1 rm1 l el.x1 el.x2 w (hT.view (.cons (i := 2) rfl Vw.roc (.cons (i := 3) rfl Vw.map .nil)) (by decide)) hlk).mono fun e w' ⟨he_, ht_⟩ => ⟨(), he_, trivial, hT.merge (N := []) (s := [2, 3]) ht_ (.skip rfl (.cons (i := 3) rfl Mg.map .nil)) (by decide) (fun i e h => by simp at h)⟩) (fun _ _ => ?_)
      refine bS [0, 0, 0] 9 0 [(1, .slice A n cap), (5, .pointer (pB tb1)), (6, .pointer (pB b2)), (7, iq (i : Int)), (9, .bool ((addE rm1 l el.x1 el.x2) == 0)), (25, iq (i : Int)), (26, .bool true)] ?_
      refine cont_done ?_
      refine blk_normal ?_
      refine then_normal ?_
      refine cont_seq ?_
      refine drawn_enter 21 [] rfl (by kernel_rfl) ?_
      refine takes 0 [] [(0, 0), (1, 0), (2, 0)] 18 [2, 1, 0] [(1, .slice A n cap), (5, .pointer (pB tb1)), (6, .pointer (pB b2)), (7, iq (i : Int)), (25, iq (i : Int)), (26, .bool true), (109, .bool (!((addE rm1 l el.x1 el.x2) == 0)))] (by kernel_rfl) (pok_then (pok_blk (pok_then (pok_then (pok_blk (pok_then pok_body)))))) (by kernel_rfl) rfl rfl (by kernel_rfl) (by kernel_rfl) ?_
      refine cont_recast 109 (.bool (!((addE rm1 l el.x1 el.x2) == 0))) (.bool false) rfl (congrArg Value.bool (by rw [show ((addE rm1 l el.x1 el.x2) == 0) = true from (by rw [← hrel.addC hlk]; exact beq_iff_eq.2 hae10_)]; rfl)) ?_
      refine takes 0 [] [(3, 0), (5, 0), (6, 1), (7, 0)] 14 [7, 6, 5, 3, 2, 1, 0] [(1, .slice A n cap), (5, .pointer (pB tb1)), (6, .pointer (pB b2)), (7, iq (i : Int)), (25, iq (i : Int)), (26, .bool true), (109, .bool false), (110, .pointer (pB tb1)), (112, .pointer (some ⟨b2, 1, none⟩)), (113, .slice A12 k14 cp15), (114, iq (k14 : Int))] (by kernel_rfl) (pok_then (pok_blk (pok_then (pok_then (pok_blk (pok_then pok_body)))))) (by kernel_rfl) rfl rfl (by kernel_rfl) (by kernel_rfl) ?_
      refine drawn_one 4 13 rfl (by kernel_rfl) ?_
      refine call_pure (d := 111) (iq ((addL rm1 l el.x1 el.x2).length : Int)) (by kernel_rfl) (fun w hT => idsLen tb1 tm1 rm1 (addL rm1 l el.x1 el.x2) w (hT.viewRo (.cons (i := 2) rfl Vw.roc (.cons (i := 3) rfl Vw.mapRE .nil)) rfl) (hlk.add el.x1 el.x2)) ?_
      refine drawn_next 0 [] (by kernel_rfl) ?_
      refine takes 0 [] [(8, 0), (9, 0), (10, 0)] 10 [10, 9, 8, 4, 7, 6, 5, 3, 2, 1, 0] [(1, .slice A n cap), (5, .pointer (pB tb1)), (6, .pointer (pB b2)), (7, iq (i : Int)), (25, iq (i : Int)), (26, .bool true), (110, .pointer (pB tb1)), (111, iq ((addL rm1 l el.x1 el.x2).length : Int)), (112, .pointer (some ⟨b2, 1, none⟩)), (113, .slice A12 k14 cp15), (114, iq (k14 : Int)), (115, .bool (((addL rm1 l el.x1 el.x2).length : Int) != (k14 : Int))), (117, .bool (((addL rm1 l el.x1 el.x2).length : Int) != (k14 : Int)))] (by kernel_rfl) (pok_then (pok_blk (pok_then (pok_then (pok_blk (pok_then pok_body)))))) (by kernel_rfl) rfl rfl (by kernel_rfl) (by kernel_rfl) ?_
      refine cont_recast 117 (.bool (((addL rm1 l el.x1 el.x2).length : Int) != (k14 : Int))) (.bool false) rfl (congrArg Value.bool (by rw [show ((addL rm1 l el.x1 el.x2).length : Int) = (k14 : Int) by (have h1_ := ((hrel.addY hlk hae10_ hf16_a hf16_b hf16_c)).len; omega)]; exact bne_self_eq_false _)) ?_
      refine cont_recast 115 (.bool (((addL rm1 l el.x1 el.x2).length : Int) != (k14 : Int))) (.bool false) rfl (congrArg Value.bool (by rw [show ((addL rm1 l el.x1 el.x2).length : Int) = (k14 : Int) by (have h1_ := ((hrel.addY hlk hae10_ hf16_a hf16_b hf16_c)).len; omega)]; exact bne_self_eq_false _)) ?_
      refine takes 0 [] [(11, 0), (13, 0), (15, 0), (14, 1), (16, 1), (17, 0), (18, 0)] 3 [18, 17, 16, 14, 15, 13, 11, 10, 9, 8, 4, 7, 6, 5, 3, 2, 1, 0] [(1, .slice A n cap), (5, .pointer (pB tb1)), (6, .pointer (pB b2)), (7, iq (i : Int)), (25, iq (i : Int)), (26, .bool true), (110, .pointer (pB tb1)), (111, iq ((addL rm1 l el.x1 el.x2).length : Int)), (112, .pointer (some ⟨b2, 1, none⟩)), (113, .slice A12 k14 cp15), (114, iq (k14 : Int)), (115, .bool false), (117, .bool false), (118, .pointer (pB tb1)), (120, .pointer (pB b2)), (121, iq rm1), (122, .pointer (some ⟨b2, 1, none⟩)), (123, .slice A12 k14 cp15), (124, iq (k14 : Int)), (125, iq (IntKind.i64.wrap (rm1 - (k14 : Int))))] (by kernel_rfl) (pok_then (pok_blk (pok_then (pok_then (pok_blk (pok_then pok_body)))))) (by kernel_rfl) rfl rfl (by kernel_rfl) (by kernel_rfl) ?_
      refine cont_recast 125 (iq (IntKind.i64.wrap (rm1 - (k14 : Int)))) (iq (rm1 - (k14 : Int))) rfl (wrapI (by omega) (by omega)) ?_
      refine drawn_one 12 2 rfl (by kernel_rfl) ?_
      refine call_pure (d := 119) (iq (rm1 - ((addL rm1 l el.x1 el.x2).length : Int))) (by kernel_rfl) (fun w hT => idsFree tb1 tm1 rm1 (addL rm1 l el.x1 el.x2) w (hT.viewRo (.cons (i := 2) rfl Vw.roc (.cons (i := 3) rfl Vw.mapRE .nil)) rfl) (hlk.add el.x1 el.x2)) ?_
      refine drawn_next 0 [] (by kernel_rfl) ?_
      refine takes 0 [] [(19, 0), (20, 0)] 0 [20, 19, 12, 18, 17, 16, 14, 15, 13, 11, 10, 9, 8, 4, 7, 6, 5, 3, 2, 1, 0] [(1, .slice A n cap), (5, .pointer (pB tb1)), (6, .pointer (pB b2)), (7, iq (i : Int)), (25, iq (i : Int)), (26, .bool true), (110, .pointer (pB tb1)), (111, iq ((addL rm1 l el.x1 el.x2).length : Int)), (112, .pointer (some ⟨b2, 1, none⟩)), (113, .slice A12 k14 cp15), (114, iq (k14 : Int)), (115, .bool false), (118, .pointer (pB tb1)), (119, iq (rm1 - ((addL rm1 l el.x1 el.x2).length : Int))), (120, .pointer (pB b2)), (121, iq rm1), (122, .pointer (some ⟨b2, 1, none⟩)), (123, .slice A12 k14 cp15), (124, iq (k14 : Int)), (125, iq (rm1 - (k14 : Int))), (126, .bool ((rm1 - ((addL rm1 l el.x1 el.x2).length : Int)) != (rm1 - (k14 : Int)))), (127, .bool ((rm1 - ((addL rm1 l el.x1 el.x2).length : Int)) != (rm1 - (k14 : Int))))] (by kernel_rfl) (pok_then (pok_blk (pok_then (pok_then (pok_blk (pok_then pok_body)))))) (by kernel_rfl) rfl rfl (by kernel_rfl) (by kernel_rfl) ?_
      refine drawn_done (by kernel_rfl) ?_
      refine then_normal ?_
      refine cont_recast 127 (.bool ((rm1 - ((addL rm1 l el.x1 el.x2).length : Int)) != (rm1 - (k14 : Int)))) (.bool false) rfl (congrArg Value.bool (by rw [show (rm1 - ((addL rm1 l el.x1 el.x2).length : Int)) = (rm1 - (k14 : Int)) by (have h1_ := ((hrel.addY hlk hae10_ hf16_a hf16_b hf16_c)).len; omega)]; exact bne_self_eq_false _)) ?_
      refine cont_recast 126 (.bool ((rm1 - ((addL rm1 l el.x1 el.x2).length : Int)) != (rm1 - (k14 : Int)))) (.bool false) rfl (congrArg Value.bool (by rw [show (rm1 - ((addL rm1 l el.x1 el.x2).length : Int)) = (rm1 - (k14 : Int)) by (have h1_ := ((hrel.addY hlk hae10_ hf16_a hf16_b hf16_c)).len; omega)]; exact bne_self_eq_false _)) ?_
      refine cont_false rfl ?_
      refine cont_skip ?_
      refine blk_normal ?_
      refine then_normal ?_
      refine cont_region 3 rfl ?_
      refine bS [0, 0] 2 1 [(1, .slice A n cap), (5, .pointer (pB tb1)), (6, .pointer (pB b2)), (25, iq (i : Int)), (26, .bool true), (29, iq (IntKind.i64.wrap ((i : Int) + 1))), (110, .pointer (pB tb1)), (111, iq ((addL rm1 l el.x1 el.x2).length : Int)), (112, .pointer (some ⟨b2, 1, none⟩)), (113, .slice A12 k14 cp15), (114, iq (k14 : Int)), (115, .bool false), (118, .pointer (pB tb1)), (119, iq (rm1 - ((addL rm1 l el.x1 el.x2).length : Int))), (120, .pointer (pB b2)), (121, iq rm1), (122, .pointer (some ⟨b2, 1, none⟩)), (123, .slice A12 k14 cp15), (124, iq (k14 : Int)), (125, iq (rm1 - (k14 : Int))), (126, .bool false)] ?_
      refine cont_recast 29 (iq (IntKind.i64.wrap ((i : Int) + 1))) (iq ((i : Int) + 1)) rfl (wrapI (by omega) (by omega)) ?_
      refine bS [0] 3 0 [(1, .slice A n cap), (5, .pointer (pB tb1)), (6, .pointer (pB b2)), (7, iq ((i : Int) + 1)), (25, iq (i : Int)), (26, .bool true), (110, .pointer (pB tb1)), (111, iq ((addL rm1 l el.x1 el.x2).length : Int)), (112, .pointer (some ⟨b2, 1, none⟩)), (113, .slice A12 k14 cp15), (114, iq (k14 : Int)), (115, .bool false), (118, .pointer (pB tb1)), (119, iq (rm1 - ((addL rm1 l el.x1 el.x2).length : Int))), (120, .pointer (pB b2)), (121, iq rm1), (122, .pointer (some ⟨b2, 1, none⟩)), (123, .slice A12 k14 cp15), (124, iq (k14 : Int)), (125, iq (rm1 - (k14 : Int))), (126, .bool false)] ?_
      refine cont_done ?_
      refine then_normal ?_
      refine cont_pick [0, 1, 2, 3, 4] [.gen (rowE (A12) g13 k14 cp15 57 2 (dvals X11.cells (addX LL el.x1 el.x2 p11)) true), .cells b2 [iq rm1, .slice A12 k14 cp15] 41 true, .cells tb1 [iq rm1, .map (some tm1)] 54 true, .gen (mapE tm1 (imsV (addL rm1 l el.x1 el.x2)) true), .gen (rdE (A) g o n 3 (dvals Deed11.cells xs))] (by decide) rfl rfl ?_
      refine cont_norm [(1, .slice A n cap), (5, .pointer (pB tb1)), (6, .pointer (pB b2)), (7, iq ((i : Int) + 1)), (25, iq (i : Int)), (26, .bool true), (110, .pointer (pB tb1)), (111, iq ((addL rm1 l el.x1 el.x2).length : Int)), (112, .pointer (some ⟨b2, 1, none⟩)), (113, .slice A12 k14 cp15), (114, iq (k14 : Int)), (115, .bool false), (118, .pointer (pB tb1)), (119, iq (rm1 - ((addL rm1 l el.x1 el.x2).length : Int))), (120, .pointer (pB b2)), (121, iq rm1), (122, .pointer (some ⟨b2, 1, none⟩)), (123, .slice A12 k14 cp15), (124, iq (k14 : Int)), (125, iq (rm1 - (k14 : Int))), (126, .bool false)] _ (by kernel_rfl) rfl ?_
      refine cont_again (i + 1, addL rm1 l el.x1 el.x2, addX LL el.x1 el.x2 p11, A12, g13, k14, cp15) (show (i + 1) ≤ n ∧ IdsOk rm1 (addL rm1 l el.x1 el.x2) ∧ RelX (addL rm1 l el.x1 el.x2) (addX LL el.x1 el.x2 p11) from ⟨by omega, (hlk.add el.x1 el.x2), (hrel.addY hlk hae10_ hf16_a hf16_b hf16_c)⟩) (show n - (i + 1) < n - i from by omega) (by kernel_rfl) (by kernel_rfl)
     refine call_pure (d := 53) (.tuple #[.agg #[iq rm1, .slice Ar kr cr], iq (addEX rm1 LL el.x1 el.x2)]) (by kernel_rfl) (fun w hT => refAddN11 rm1 Ar gr 0 kr cr LL el.x1 el.x2 w (hT.viewRo (.cons (i := 1) rfl Vw.rowRd .nil) rfl) (by omega) (by omega) hae10_) ?_
     refine batch1 [0, 0, 0, 0, 0, 0] 12 0 (fun b22 => [(1, .slice A n cap), (5, .pointer (pB tb1)), (6, .pointer (pB b2)), (7, iq (i : Int)), (8, .pointer (pB b8)), (10, .pointer (pB b22)), (11, iq (addEX rm1 LL el.x1 el.x2)), (25, iq (i : Int)), (26, .bool true)]) (fun b22 => [.cells b22 [iq rm1, .slice Ar kr cr] 41 true, .cells b8 [iq el.x0, iq el.x1, iq el.x2] 36 true, .gen (rowE (Ar) gr kr cr 57 2 (dvals X11.cells LL) true), .cells b2 [iq rm1, .slice Ar kr cr] 41 true, .cells tb1 [iq rm1, .map (some tm1)] 54 true, .gen (mapE tm1 (imsV l) true), .gen (rdE (A) g o n 3 (dvals Deed11.cells xs))]) rfl rfl [1, 5, 6, 7, 8, 10, 11, 25, 26] (fun _ => rfl) (fun b22 => by kernel_rfl) (fun b22 => by kernel_rfl) (fun b22 => ?_)
     refine cont_done ?_
     refine then_normal ?_
     refine cont_seq ?_
     refine cont_region 2 rfl ?_
     refine bS [0, 3] 2 0 [(1, .slice A n cap), (5, .pointer (pB tb1)), (6, .pointer (pB b2)), (7, iq (i : Int)), (8, .pointer (pB b8)), (11, iq (addEX rm1 LL el.x1 el.x2)), (25, iq (i : Int)), (26, .bool true)] ?_
     refine cont_forget 0 rfl ?_
     refine cont_done ?_
     refine then_normal ?_
     refine cont_region 9 rfl ?_
     refine bS [0, 0, 0, 0, 0] 5 4 [(1, .slice A n cap), (5, .pointer (pB tb1)), (6, .pointer (pB b2)), (7, iq (i : Int)), (11, iq (addEX rm1 LL el.x1 el.x2)), (25, iq (i : Int)), (26, .bool true), (57, .pointer (pB tb1)), (59, iq el.x1), (61, iq el.x2)] ?_
     refine cont_forget 0 rfl ?_
     refine pl_step 6 3 rfl rfl ?_
     refine call_gen (d := 62) (α := Unit) (fun _ => iq (addE rm1 l el.x1 el.x2)) (fun _ => [.gen (rowE (Ar) gr kr cr 57 2 (dvals X11.cells LL) true), .cells b2 [iq rm1, .slice Ar kr cr] 41 true, .cells tb1 [iq rm1, .map (some tm1)] 54 true, .gen (mapE tm1 (imsV (addL rm1 l el.x1 el.x2)) true), .gen (rdE (A) g o n 3 (dvals Deed11.cells xs))]) (fun _ => True) (by kernel_rfl) (fun w hT => (idsAdd tb1 tm1 rm1 l el.x1 el.x2 w (hT.view (.cons (i := 2) rfl Vw.roc (.cons (i := 3) rfl Vw.map .nil)) (by decide)) hlk).mono fun e w' ⟨he_, ht_⟩ => ⟨(), he_, trivial, hT.merge (N := []) (s := [2, 3]) ht_ (.skip rfl (.cons (i := 3) rfl Mg.map .nil)) (by decide) (fun i e h => by simp at h)⟩) (fun _ _ => ?_)
     refine bS [0, 0, 0] 9 0 [(1, .slice A n cap), (5, .pointer (pB tb1)), (6, .pointer (pB b2)), (7, iq (i : Int)), (9, .bool ((addE rm1 l el.x1 el.x2) == (addEX rm1 LL el.x1 el.x2))), (25, iq (i : Int)), (26, .bool true)] ?_
     refine cont_done ?_
     refine blk_normal ?_
     refine then_normal ?_
     refine cont_seq ?_
     refine drawn_enter 21 [] rfl (by kernel_rfl) ?_
     refine takes 0 [] [(0, 0), (1, 0), (2, 0)] 18 [2, 1, 0] [(1, .slice A n cap), (5, .pointer (pB tb1)), (6, .pointer (pB b2)), (7, iq (i : Int)), (25, iq (i : Int)), (26, .bool true), (109, .bool (!((addE rm1 l el.x1 el.x2) == (addEX rm1 LL el.x1 el.x2))))] (by kernel_rfl) (pok_then (pok_blk (pok_then (pok_then (pok_blk (pok_then pok_body)))))) (by kernel_rfl) rfl rfl (by kernel_rfl) (by kernel_rfl) ?_
     refine cont_recast 109 (.bool (!((addE rm1 l el.x1 el.x2) == (addEX rm1 LL el.x1 el.x2)))) (.bool false) rfl (congrArg Value.bool (by rw [show ((addE rm1 l el.x1 el.x2) == (addEX rm1 LL el.x1 el.x2)) = true from (by rw [← hrel.addC hlk]; exact beq_self_eq_true _)]; rfl)) ?_
     refine takes 0 [] [(3, 0), (5, 0), (6, 1), (7, 0)] 14 [7, 6, 5, 3, 2, 1, 0] [(1, .slice A n cap), (5, .pointer (pB tb1)), (6, .pointer (pB b2)), (7, iq (i : Int)), (25, iq (i : Int)), (26, .bool true), (109, .bool false), (110, .pointer (pB tb1)), (112, .pointer (some ⟨b2, 1, none⟩)), (113, .slice Ar kr cr), (114, iq (kr : Int))] (by kernel_rfl) (pok_then (pok_blk (pok_then (pok_then (pok_blk (pok_then pok_body)))))) (by kernel_rfl) rfl rfl (by kernel_rfl) (by kernel_rfl) ?_
     refine drawn_one 4 13 rfl (by kernel_rfl) ?_
     refine call_pure (d := 111) (iq ((addL rm1 l el.x1 el.x2).length : Int)) (by kernel_rfl) (fun w hT => idsLen tb1 tm1 rm1 (addL rm1 l el.x1 el.x2) w (hT.viewRo (.cons (i := 2) rfl Vw.roc (.cons (i := 3) rfl Vw.mapRE .nil)) rfl) (hlk.add el.x1 el.x2)) ?_
     refine drawn_next 0 [] (by kernel_rfl) ?_
     refine takes 0 [] [(8, 0), (9, 0), (10, 0)] 10 [10, 9, 8, 4, 7, 6, 5, 3, 2, 1, 0] [(1, .slice A n cap), (5, .pointer (pB tb1)), (6, .pointer (pB b2)), (7, iq (i : Int)), (25, iq (i : Int)), (26, .bool true), (110, .pointer (pB tb1)), (111, iq ((addL rm1 l el.x1 el.x2).length : Int)), (112, .pointer (some ⟨b2, 1, none⟩)), (113, .slice Ar kr cr), (114, iq (kr : Int)), (115, .bool (((addL rm1 l el.x1 el.x2).length : Int) != (kr : Int))), (117, .bool (((addL rm1 l el.x1 el.x2).length : Int) != (kr : Int)))] (by kernel_rfl) (pok_then (pok_blk (pok_then (pok_then (pok_blk (pok_then pok_body)))))) (by kernel_rfl) rfl rfl (by kernel_rfl) (by kernel_rfl) ?_
     refine cont_recast 117 (.bool (((addL rm1 l el.x1 el.x2).length : Int) != (kr : Int))) (.bool false) rfl (congrArg Value.bool (by rw [show ((addL rm1 l el.x1 el.x2).length : Int) = (kr : Int) by (have h1_ := ((hrel.addN hlk hae10_)).len; omega)]; exact bne_self_eq_false _)) ?_
     refine cont_recast 115 (.bool (((addL rm1 l el.x1 el.x2).length : Int) != (kr : Int))) (.bool false) rfl (congrArg Value.bool (by rw [show ((addL rm1 l el.x1 el.x2).length : Int) = (kr : Int) by (have h1_ := ((hrel.addN hlk hae10_)).len; omega)]; exact bne_self_eq_false _)) ?_
     refine takes 0 [] [(11, 0), (13, 0), (15, 0), (14, 1), (16, 1), (17, 0), (18, 0)] 3 [18, 17, 16, 14, 15, 13, 11, 10, 9, 8, 4, 7, 6, 5, 3, 2, 1, 0] [(1, .slice A n cap), (5, .pointer (pB tb1)), (6, .pointer (pB b2)), (7, iq (i : Int)), (25, iq (i : Int)), (26, .bool true), (110, .pointer (pB tb1)), (111, iq ((addL rm1 l el.x1 el.x2).length : Int)), (112, .pointer (some ⟨b2, 1, none⟩)), (113, .slice Ar kr cr), (114, iq (kr : Int)), (115, .bool false), (117, .bool false), (118, .pointer (pB tb1)), (120, .pointer (pB b2)), (121, iq rm1), (122, .pointer (some ⟨b2, 1, none⟩)), (123, .slice Ar kr cr), (124, iq (kr : Int)), (125, iq (IntKind.i64.wrap (rm1 - (kr : Int))))] (by kernel_rfl) (pok_then (pok_blk (pok_then (pok_then (pok_blk (pok_then pok_body)))))) (by kernel_rfl) rfl rfl (by kernel_rfl) (by kernel_rfl) ?_
     refine cont_recast 125 (iq (IntKind.i64.wrap (rm1 - (kr : Int)))) (iq (rm1 - (kr : Int))) rfl (wrapI (by omega) (by omega)) ?_
     refine drawn_one 12 2 rfl (by kernel_rfl) ?_
     refine call_pure (d := 119) (iq (rm1 - ((addL rm1 l el.x1 el.x2).length : Int))) (by kernel_rfl) (fun w hT => idsFree tb1 tm1 rm1 (addL rm1 l el.x1 el.x2) w (hT.viewRo (.cons (i := 2) rfl Vw.roc (.cons (i := 3) rfl Vw.mapRE .nil)) rfl) (hlk.add el.x1 el.x2)) ?_
     refine drawn_next 0 [] (by kernel_rfl) ?_
     refine takes 0 [] [(19, 0), (20, 0)] 0 [20, 19, 12, 18, 17, 16, 14, 15, 13, 11, 10, 9, 8, 4, 7, 6, 5, 3, 2, 1, 0] [(1, .slice A n cap), (5, .pointer (pB tb1)), (6, .pointer (pB b2)), (7, iq (i : Int)), (25, iq (i : Int)), (26, .bool true), (110, .pointer (pB tb1)), (111, iq ((addL rm1 l el.x1 el.x2).length : Int)), (112, .pointer (some ⟨b2, 1, none⟩)), (113, .slice Ar kr cr), (114, iq (kr : Int)), (115, .bool false), (118, .pointer (pB tb1)), (119, iq (rm1 - ((addL rm1 l el.x1 el.x2).length : Int))), (120, .pointer (pB b2)), (121, iq rm1), (122, .pointer (some ⟨b2, 1, none⟩)), (123, .slice Ar kr cr), (124, iq (kr : Int)), (125, iq (rm1 - (kr : Int))), (126, .bool ((rm1 - ((addL rm1 l el.x1 el.x2).length : Int)) != (rm1 - (kr : Int)))), (127, .bool ((rm1 - ((addL rm1 l el.x1 el.x2).length : Int)) != (rm1 - (kr : Int))))] (by kernel_rfl) (pok_then (pok_blk (pok_then (pok_then (pok_blk (pok_then pok_body)))))) (by kernel_rfl) rfl rfl (by kernel_rfl) (by kernel_rfl) ?_
     refine drawn_done (by kernel_rfl) ?_
     refine then_normal ?_
     refine cont_recast 127 (.bool ((rm1 - ((addL rm1 l el.x1 el.x2).length : Int)) != (rm1 - (kr : Int)))) (.bool false) rfl (congrArg Value.bool (by rw [show (rm1 - ((addL rm1 l el.x1 el.x2).length : Int)) = (rm1 - (kr : Int)) by (have h1_ := ((hrel.addN hlk hae10_)).len; omega)]; exact bne_self_eq_false _)) ?_
     refine cont_recast 126 (.bool ((rm1 - ((addL rm1 l el.x1 el.x2).length : Int)) != (rm1 - (kr : Int)))) (.bool false) rfl (congrArg Value.bool (by rw [show (rm1 - ((addL rm1 l el.x1 el.x2).length : Int)) = (rm1 - (kr : Int)) by (have h1_ := ((hrel.addN hlk hae10_)).len; omega)]; exact bne_self_eq_false _)) ?_
     refine cont_false rfl ?_
     refine cont_skip ?_
     refine blk_normal ?_
     refine then_normal ?_
     refine cont_region 3 rfl ?_
     refine bS [0, 0] 2 1 [(1, .slice A n cap), (5, .pointer (pB tb1)), (6, .pointer (pB b2)), (25, iq (i : Int)), (26, .bool true), (29, iq (IntKind.i64.wrap ((i : Int) + 1))), (110, .pointer (pB tb1)), (111, iq ((addL rm1 l el.x1 el.x2).length : Int)), (112, .pointer (some ⟨b2, 1, none⟩)), (113, .slice Ar kr cr), (114, iq (kr : Int)), (115, .bool false), (118, .pointer (pB tb1)), (119, iq (rm1 - ((addL rm1 l el.x1 el.x2).length : Int))), (120, .pointer (pB b2)), (121, iq rm1), (122, .pointer (some ⟨b2, 1, none⟩)), (123, .slice Ar kr cr), (124, iq (kr : Int)), (125, iq (rm1 - (kr : Int))), (126, .bool false)] ?_
     refine cont_recast 29 (iq (IntKind.i64.wrap ((i : Int) + 1))) (iq ((i : Int) + 1)) rfl (wrapI (by omega) (by omega)) ?_
     refine bS [0] 3 0 [(1, .slice A n cap), (5, .pointer (pB tb1)), (6, .pointer (pB b2)), (7, iq ((i : Int) + 1)), (25, iq (i : Int)), (26, .bool true), (110, .pointer (pB tb1)), (111, iq ((addL rm1 l el.x1 el.x2).length : Int)), (112, .pointer (some ⟨b2, 1, none⟩)), (113, .slice Ar kr cr), (114, iq (kr : Int)), (115, .bool false), (118, .pointer (pB tb1)), (119, iq (rm1 - ((addL rm1 l el.x1 el.x2).length : Int))), (120, .pointer (pB b2)), (121, iq rm1), (122, .pointer (some ⟨b2, 1, none⟩)), (123, .slice Ar kr cr), (124, iq (kr : Int)), (125, iq (rm1 - (kr : Int))), (126, .bool false)] ?_
     refine cont_done ?_
     refine then_normal ?_
     refine cont_pick [0, 1, 2, 3, 4] [.gen (rowE (Ar) gr kr cr 57 2 (dvals X11.cells LL) true), .cells b2 [iq rm1, .slice Ar kr cr] 41 true, .cells tb1 [iq rm1, .map (some tm1)] 54 true, .gen (mapE tm1 (imsV (addL rm1 l el.x1 el.x2)) true), .gen (rdE (A) g o n 3 (dvals Deed11.cells xs))] (by decide) rfl rfl ?_
     refine cont_norm [(1, .slice A n cap), (5, .pointer (pB tb1)), (6, .pointer (pB b2)), (7, iq ((i : Int) + 1)), (25, iq (i : Int)), (26, .bool true), (110, .pointer (pB tb1)), (111, iq ((addL rm1 l el.x1 el.x2).length : Int)), (112, .pointer (some ⟨b2, 1, none⟩)), (113, .slice Ar kr cr), (114, iq (kr : Int)), (115, .bool false), (118, .pointer (pB tb1)), (119, iq (rm1 - ((addL rm1 l el.x1 el.x2).length : Int))), (120, .pointer (pB b2)), (121, iq rm1), (122, .pointer (some ⟨b2, 1, none⟩)), (123, .slice Ar kr cr), (124, iq (kr : Int)), (125, iq (rm1 - (kr : Int))), (126, .bool false)] _ (by kernel_rfl) rfl ?_
     refine cont_again (i + 1, addL rm1 l el.x1 el.x2, LL, Ar, gr, kr, cr) (show (i + 1) ≤ n ∧ IdsOk rm1 (addL rm1 l el.x1 el.x2) ∧ RelX (addL rm1 l el.x1 el.x2) (LL) from ⟨by omega, (hlk.add el.x1 el.x2), (hrel.addN hlk hae10_)⟩) (show n - (i + 1) < n - i from by omega) (by kernel_rfl) (by kernel_rfl)
    replace c9_ := ne_of_beqf c9_
    refine cont_false rfl ?_
    refine cont_seq ?_
    refine cont_region 2 rfl ?_
    refine bS [0, 0] 2 0 [(1, .slice A n cap), (5, .pointer (pB tb1)), (6, .pointer (pB b2)), (7, iq (i : Int)), (8, .pointer (pB b8)), (25, iq (i : Int)), (26, .bool true), (35, iq el.x0), (65, .bool (el.x0 == 1))] ?_
    refine cont_done ?_
    refine then_normal ?_
    refine cont_split 65 (el.x0 == 1) rfl (fun c26_ => ?_) (fun c26_ => ?_)
    ·
     replace c26_ := eq_of_beqt c26_
     refine cont_true rfl ?_
     refine drawn_enter 14 [] rfl (by kernel_rfl) ?_
     refine takes 0 [] [(0, 0), (1, 0), (3, 0), (6, 2), (7, 0), (9, 0), (2, 0), (4, 0), (8, 0), (10, 0)] 4 [10, 8, 4, 2, 9, 7, 6, 3, 1, 0] [(1, .slice A n cap), (5, .pointer (pB tb1)), (6, .pointer (pB b2)), (7, iq (i : Int)), (25, iq (i : Int)), (26, .bool true), (67, .pointer (pB tb1)), (69, iq el.x1), (71, iq el.x2), (73, .agg #[iq rm1, .slice Ar kr cr]), (75, iq el.x1), (77, iq el.x2)] (by kernel_rfl) (pok_blk (pok_then (pok_blk (pok_then (pok_then (pok_blk (pok_then pok_body))))))) (by kernel_rfl) rfl rfl (by kernel_rfl) (by kernel_rfl) ?_
     refine drawn_one 5 3 rfl (by kernel_rfl) ?_
     refine call_pure (d := 72) (iq (findE l el.x1 el.x2)) (by kernel_rfl) (fun w hT => idsFind tb1 tm1 rm1 l el.x1 el.x2 w (hT.viewRo (.cons (i := 3) rfl Vw.roc (.cons (i := 4) rfl Vw.mapRE .nil)) rfl) hlk) ?_
     refine drawn_next 0 [] (by kernel_rfl) ?_
     refine drawn_one 11 2 rfl (by kernel_rfl) ?_
     refine call_pure (d := 78) (iq (findX LL el.x1 el.x2)) (by kernel_rfl) (fun w hT => refFind11 rm1 Ar gr 0 kr cr LL el.x1 el.x2 w (hT.viewRo (.cons (i := 1) rfl Vw.rowRd .nil) rfl) (by omega)) ?_
     refine drawn_next 0 [] (by kernel_rfl) ?_
     refine takes 0 [] [(12, 0), (13, 0)] 0 [13, 12, 11, 5, 10, 8, 4, 2, 9, 7, 6, 3, 1, 0] [(1, .slice A n cap), (5, .pointer (pB tb1)), (6, .pointer (pB b2)), (7, iq (i : Int)), (9, .bool ((findE l el.x1 el.x2) == (findX LL el.x1 el.x2))), (25, iq (i : Int)), (26, .bool true)] (by kernel_rfl) (pok_blk (pok_then (pok_blk (pok_then (pok_then (pok_blk (pok_then pok_body))))))) (by kernel_rfl) rfl rfl (by kernel_rfl) (by kernel_rfl) ?_
     refine drawn_done (by kernel_rfl) ?_
     refine blk_normal ?_
     refine then_normal ?_
     refine cont_seq ?_
     refine drawn_enter 21 [] rfl (by kernel_rfl) ?_
     refine takes 0 [] [(0, 0), (1, 0), (2, 0)] 18 [2, 1, 0] [(1, .slice A n cap), (5, .pointer (pB tb1)), (6, .pointer (pB b2)), (7, iq (i : Int)), (25, iq (i : Int)), (26, .bool true), (109, .bool (!((findE l el.x1 el.x2) == (findX LL el.x1 el.x2))))] (by kernel_rfl) (pok_then (pok_blk (pok_then (pok_then (pok_blk (pok_then pok_body)))))) (by kernel_rfl) rfl rfl (by kernel_rfl) (by kernel_rfl) ?_
     refine cont_recast 109 (.bool (!((findE l el.x1 el.x2) == (findX LL el.x1 el.x2)))) (.bool false) rfl (congrArg Value.bool (by rw [show ((findE l el.x1 el.x2) == (findX LL el.x1 el.x2)) = true from (by rw [hrel.find hlk]; exact beq_self_eq_true _)]; rfl)) ?_
     refine takes 0 [] [(3, 0), (5, 0), (6, 2), (7, 0)] 14 [7, 6, 5, 3, 2, 1, 0] [(1, .slice A n cap), (5, .pointer (pB tb1)), (6, .pointer (pB b2)), (7, iq (i : Int)), (25, iq (i : Int)), (26, .bool true), (109, .bool false), (110, .pointer (pB tb1)), (112, .pointer (some ⟨b2, 1, none⟩)), (113, .slice Ar kr cr), (114, iq (kr : Int))] (by kernel_rfl) (pok_then (pok_blk (pok_then (pok_then (pok_blk (pok_then pok_body)))))) (by kernel_rfl) rfl rfl (by kernel_rfl) (by kernel_rfl) ?_
     refine drawn_one 4 13 rfl (by kernel_rfl) ?_
     refine call_pure (d := 111) (iq (l.length : Int)) (by kernel_rfl) (fun w hT => idsLen tb1 tm1 rm1 l w (hT.viewRo (.cons (i := 3) rfl Vw.roc (.cons (i := 4) rfl Vw.mapRE .nil)) rfl) hlk) ?_
     refine drawn_next 0 [] (by kernel_rfl) ?_
     refine takes 0 [] [(8, 0), (9, 0), (10, 0)] 10 [10, 9, 8, 4, 7, 6, 5, 3, 2, 1, 0] [(1, .slice A n cap), (5, .pointer (pB tb1)), (6, .pointer (pB b2)), (7, iq (i : Int)), (25, iq (i : Int)), (26, .bool true), (110, .pointer (pB tb1)), (111, iq (l.length : Int)), (112, .pointer (some ⟨b2, 1, none⟩)), (113, .slice Ar kr cr), (114, iq (kr : Int)), (115, .bool ((l.length : Int) != (kr : Int))), (117, .bool ((l.length : Int) != (kr : Int)))] (by kernel_rfl) (pok_then (pok_blk (pok_then (pok_then (pok_blk (pok_then pok_body)))))) (by kernel_rfl) rfl rfl (by kernel_rfl) (by kernel_rfl) ?_
     refine cont_recast 117 (.bool ((l.length : Int) != (kr : Int))) (.bool false) rfl (congrArg Value.bool (by rw [show (l.length : Int) = (kr : Int) by (have h1_ := (hrel).len; omega)]; exact bne_self_eq_false _)) ?_
     refine cont_recast 115 (.bool ((l.length : Int) != (kr : Int))) (.bool false) rfl (congrArg Value.bool (by rw [show (l.length : Int) = (kr : Int) by (have h1_ := (hrel).len; omega)]; exact bne_self_eq_false _)) ?_
     refine takes 0 [] [(11, 0), (13, 0), (15, 0), (14, 2), (16, 2), (17, 0), (18, 0)] 3 [18, 17, 16, 14, 15, 13, 11, 10, 9, 8, 4, 7, 6, 5, 3, 2, 1, 0] [(1, .slice A n cap), (5, .pointer (pB tb1)), (6, .pointer (pB b2)), (7, iq (i : Int)), (25, iq (i : Int)), (26, .bool true), (110, .pointer (pB tb1)), (111, iq (l.length : Int)), (112, .pointer (some ⟨b2, 1, none⟩)), (113, .slice Ar kr cr), (114, iq (kr : Int)), (115, .bool false), (117, .bool false), (118, .pointer (pB tb1)), (120, .pointer (pB b2)), (121, iq rm1), (122, .pointer (some ⟨b2, 1, none⟩)), (123, .slice Ar kr cr), (124, iq (kr : Int)), (125, iq (IntKind.i64.wrap (rm1 - (kr : Int))))] (by kernel_rfl) (pok_then (pok_blk (pok_then (pok_then (pok_blk (pok_then pok_body)))))) (by kernel_rfl) rfl rfl (by kernel_rfl) (by kernel_rfl) ?_
     refine cont_recast 125 (iq (IntKind.i64.wrap (rm1 - (kr : Int)))) (iq (rm1 - (kr : Int))) rfl (wrapI (by omega) (by omega)) ?_
     refine drawn_one 12 2 rfl (by kernel_rfl) ?_
     refine call_pure (d := 119) (iq (rm1 - (l.length : Int))) (by kernel_rfl) (fun w hT => idsFree tb1 tm1 rm1 l w (hT.viewRo (.cons (i := 3) rfl Vw.roc (.cons (i := 4) rfl Vw.mapRE .nil)) rfl) hlk) ?_
     refine drawn_next 0 [] (by kernel_rfl) ?_
     refine takes 0 [] [(19, 0), (20, 0)] 0 [20, 19, 12, 18, 17, 16, 14, 15, 13, 11, 10, 9, 8, 4, 7, 6, 5, 3, 2, 1, 0] [(1, .slice A n cap), (5, .pointer (pB tb1)), (6, .pointer (pB b2)), (7, iq (i : Int)), (25, iq (i : Int)), (26, .bool true), (110, .pointer (pB tb1)), (111, iq (l.length : Int)), (112, .pointer (some ⟨b2, 1, none⟩)), (113, .slice Ar kr cr), (114, iq (kr : Int)), (115, .bool false), (118, .pointer (pB tb1)), (119, iq (rm1 - (l.length : Int))), (120, .pointer (pB b2)), (121, iq rm1), (122, .pointer (some ⟨b2, 1, none⟩)), (123, .slice Ar kr cr), (124, iq (kr : Int)), (125, iq (rm1 - (kr : Int))), (126, .bool ((rm1 - (l.length : Int)) != (rm1 - (kr : Int)))), (127, .bool ((rm1 - (l.length : Int)) != (rm1 - (kr : Int))))] (by kernel_rfl) (pok_then (pok_blk (pok_then (pok_then (pok_blk (pok_then pok_body)))))) (by kernel_rfl) rfl rfl (by kernel_rfl) (by kernel_rfl) ?_
     refine drawn_done (by kernel_rfl) ?_
     refine then_normal ?_
     refine cont_recast 127 (.bool ((rm1 - (l.length : Int)) != (rm1 - (kr : Int)))) (.bool false) rfl (congrArg Value.bool (by rw [show (rm1 - (l.length : Int)) = (rm1 - (kr : Int)) by (have h1_ := (hrel).len; omega)]; exact bne_self_eq_false _)) ?_
     refine cont_recast 126 (.bool ((rm1 - (l.length : Int)) != (rm1 - (kr : Int)))) (.bool false) rfl (congrArg Value.bool (by rw [show (rm1 - (l.length : Int)) = (rm1 - (kr : Int)) by (have h1_ := (hrel).len; omega)]; exact bne_self_eq_false _)) ?_
     refine cont_false rfl ?_
     refine cont_skip ?_
     refine blk_normal ?_
     refine then_normal ?_
     refine cont_region 3 rfl ?_
     refine bS [0, 0] 2 1 [(1, .slice A n cap), (5, .pointer (pB tb1)), (6, .pointer (pB b2)), (25, iq (i : Int)), (26, .bool true), (29, iq (IntKind.i64.wrap ((i : Int) + 1))), (110, .pointer (pB tb1)), (111, iq (l.length : Int)), (112, .pointer (some ⟨b2, 1, none⟩)), (113, .slice Ar kr cr), (114, iq (kr : Int)), (115, .bool false), (118, .pointer (pB tb1)), (119, iq (rm1 - (l.length : Int))), (120, .pointer (pB b2)), (121, iq rm1), (122, .pointer (some ⟨b2, 1, none⟩)), (123, .slice Ar kr cr), (124, iq (kr : Int)), (125, iq (rm1 - (kr : Int))), (126, .bool false)] ?_
     refine cont_recast 29 (iq (IntKind.i64.wrap ((i : Int) + 1))) (iq ((i : Int) + 1)) rfl (wrapI (by omega) (by omega)) ?_
     refine cont_forget 0 rfl ?_
     refine bS [0] 3 0 [(1, .slice A n cap), (5, .pointer (pB tb1)), (6, .pointer (pB b2)), (7, iq ((i : Int) + 1)), (25, iq (i : Int)), (26, .bool true), (110, .pointer (pB tb1)), (111, iq (l.length : Int)), (112, .pointer (some ⟨b2, 1, none⟩)), (113, .slice Ar kr cr), (114, iq (kr : Int)), (115, .bool false), (118, .pointer (pB tb1)), (119, iq (rm1 - (l.length : Int))), (120, .pointer (pB b2)), (121, iq rm1), (122, .pointer (some ⟨b2, 1, none⟩)), (123, .slice Ar kr cr), (124, iq (kr : Int)), (125, iq (rm1 - (kr : Int))), (126, .bool false)] ?_
     refine cont_done ?_
     refine then_normal ?_
     refine cont_pick [0, 1, 2, 3, 4] [.gen (rowE (Ar) gr kr cr 57 2 (dvals X11.cells LL) true), .cells b2 [iq rm1, .slice Ar kr cr] 41 true, .cells tb1 [iq rm1, .map (some tm1)] 54 true, .gen (mapE tm1 (imsV l) true), .gen (rdE (A) g o n 3 (dvals Deed11.cells xs))] (by decide) rfl rfl ?_
     refine cont_norm [(1, .slice A n cap), (5, .pointer (pB tb1)), (6, .pointer (pB b2)), (7, iq ((i : Int) + 1)), (25, iq (i : Int)), (26, .bool true), (110, .pointer (pB tb1)), (111, iq (l.length : Int)), (112, .pointer (some ⟨b2, 1, none⟩)), (113, .slice Ar kr cr), (114, iq (kr : Int)), (115, .bool false), (118, .pointer (pB tb1)), (119, iq (rm1 - (l.length : Int))), (120, .pointer (pB b2)), (121, iq rm1), (122, .pointer (some ⟨b2, 1, none⟩)), (123, .slice Ar kr cr), (124, iq (kr : Int)), (125, iq (rm1 - (kr : Int))), (126, .bool false)] _ (by kernel_rfl) rfl ?_
     refine cont_again (i + 1, l, LL, Ar, gr, kr, cr) (show (i + 1) ≤ n ∧ IdsOk rm1 (l) ∧ RelX (l) (LL) from ⟨by omega, hlk, hrel⟩) (show n - (i + 1) < n - i from by omega) (by kernel_rfl) (by kernel_rfl)
    replace c26_ := ne_of_beqf c26_
    refine cont_false rfl ?_
    refine cont_seq ?_
    refine cont_region 2 rfl ?_
    refine bS [0, 0] 2 0 [(1, .slice A n cap), (5, .pointer (pB tb1)), (6, .pointer (pB b2)), (7, iq (i : Int)), (8, .pointer (pB b8)), (25, iq (i : Int)), (26, .bool true), (35, iq el.x0), (80, .bool (el.x0 == 2))] ?_
    refine cont_done ?_
    refine then_normal ?_
    refine cont_split 80 (el.x0 == 2) rfl (fun c30_ => ?_) (fun c30_ => ?_)
    ·
     replace c30_ := eq_of_beqt c30_
     refine cont_true rfl ?_
     refine cont_seq ?_
     refine cont_region 10 rfl ?_
     refine bS [2, 0, 0] 3 7 [(1, .slice A n cap), (5, .pointer (pB tb1)), (6, .pointer (pB b2)), (7, iq (i : Int)), (8, .pointer (pB b8)), (25, iq (i : Int)), (26, .bool true), (83, .agg #[iq rm1, .slice Ar kr cr]), (85, iq el.x1)] ?_
     refine pl_step 4 6 rfl rfl ?_
     refine call_gen (d := 86) (α := Option Addr × Nat × Nat × Nat) (fun x_ => .tuple #[.agg #[iq rm1, .slice x_.1 x_.2.2.1 x_.2.2.2], .bool (decide (((dropX LL el.x1).length : Int) < (LL.length : Int)))]) (fun x_ => [.gen (rowE (x_.1) x_.2.1 x_.2.2.1 x_.2.2.2 57 2 (dvals X11.cells (dropX LL el.x1)) true), .cells b8 [iq el.x0, iq el.x1, iq el.x2] 36 true, .gen (rowE (Ar) gr kr cr 57 2 (dvals X11.cells LL) true), .cells b2 [iq rm1, .slice Ar kr cr] 41 true, .cells tb1 [iq rm1, .map (some tm1)] 54 true, .gen (mapE tm1 (imsV l) true), .gen (rdE (A) g o n 3 (dvals Deed11.cells xs))]) (fun x_ => True) (by kernel_rfl) (fun w hT => (refDrop11 rm1 Ar gr 0 kr cr LL el.x1 w (hT.viewRo (.cons (i := 1) rfl Vw.rowRd .nil) rfl) (by omega)).mono fun e w' ⟨A31, g32, k33, cp34, he_, ht_⟩ => ⟨(A31, g32, k33, cp34), he_, trivial, hT.news ht_ rfl⟩) ?_
     rintro ⟨A31, g32, k33, cp34⟩ hf35_
     refine cont_norm [(1, .slice A n cap), (5, .pointer (pB tb1)), (6, .pointer (pB b2)), (7, iq (i : Int)), (8, .pointer (pB b8)), (25, iq (i : Int)), (26, .bool true), (83, .agg #[iq rm1, .slice Ar kr cr]), (85, iq el.x1), (86, .tuple #[.agg #[iq rm1, .slice A31 k33 cp34], .bool (decide (((dropX LL el.x1).length : Int) < (LL.length : Int)))])] _ (by kernel_rfl) rfl ?_
     refine cont_fact (F := (0 < k33 → (A31 : Option Addr) = pB g32) ∧ (dropX LL el.x1).length = k33 ∧ k33 ≤ cp34 ∧ cp34 ≤ maxLen) (fun w hT => Row.factsD X11.size (by decide) (hT.ok 0 _ rfl)) (fun hr36_ => ?_)
     obtain ⟨hr36_a, hr36_l, hr36_c, hr36_m⟩ := hr36_
     unfold maxLen at hr36_m
     have hr36_d := dropX_len LL el.x1
     refine batch1 [0, 0, 0, 0, 0, 0] 10 0 (fun b37 => [(1, .slice A n cap), (5, .pointer (pB tb1)), (6, .pointer (pB b2)), (7, iq (i : Int)), (8, .pointer (pB b8)), (12, .pointer (pB b37)), (13, .bool (decide (((dropX LL el.x1).length : Int) < (LL.length : Int)))), (25, iq (i : Int)), (26, .bool true)]) (fun b37 => [.cells b37 [iq rm1, .slice A31 k33 cp34] 41 true, .gen (rowE (A31) g32 k33 cp34 57 2 (dvals X11.cells (dropX LL el.x1)) true), .cells b8 [iq el.x0, iq el.x1, iq el.x2] 36 true, .gen (rowE (Ar) gr kr cr 57 2 (dvals X11.cells LL) true), .cells b2 [iq rm1, .slice Ar kr cr] 41 true, .cells tb1 [iq rm1, .map (some tm1)] 54 true, .gen (mapE tm1 (imsV l) true), .gen (rdE (A) g o n 3 (dvals Deed11.cells xs))]) rfl rfl [1, 5, 6, 7, 8, 12, 13, 25, 26] (fun _ => rfl) (fun b37 => by kernel_rfl) (fun b37 => by kernel_rfl) (fun b37 => ?_)
     refine cont_done ?_
     refine then_normal ?_
     refine cont_seq ?_
     refine cont_region 2 rfl ?_
     refine batch0 [0, 4] 2 0 [(1, .slice A n cap), (5, .pointer (pB tb1)), (6, .pointer (pB b2)), (7, iq (i : Int)), (8, .pointer (pB b8)), (13, .bool (decide (((dropX LL el.x1).length : Int) < (LL.length : Int)))), (25, iq (i : Int)), (26, .bool true)] [.cells b37 [iq rm1, .slice A31 k33 cp34] 41 true, .gen (rowE (A31) g32 k33 cp34 57 2 (dvals X11.cells (dropX LL el.x1)) true), .cells b8 [iq el.x0, iq el.x1, iq el.x2] 36 true, .gen (rowE (Ar) gr kr cr 57 2 (dvals X11.cells LL) true), .cells b2 [iq rm1, .slice A31 k33 cp34] 41 true, .cells tb1 [iq rm1, .map (some tm1)] 54 true, .gen (mapE tm1 (imsV l) true), .gen (rdE (A) g o n 3 (dvals Deed11.cells xs))] rfl rfl (by kernel_rfl) (by kernel_rfl) ?_
     refine cont_forget 0 rfl ?_
     refine cont_forget 2 rfl ?_
     refine cont_done ?_
     refine then_normal ?_
     refine cont_region 7 rfl ?_
     refine bS [0, 0, 1] 3 4 [(1, .slice A n cap), (5, .pointer (pB tb1)), (6, .pointer (pB b2)), (7, iq (i : Int)), (13, .bool (decide (((dropX LL el.x1).length : Int) < (LL.length : Int)))), (25, iq (i : Int)), (26, .bool true), (90, .pointer (pB tb1)), (92, iq el.x1)] ?_
     refine cont_forget 1 rfl ?_
     refine pl_step 4 3 rfl rfl ?_
     refine call_gen (d := 93) (α := Unit) (fun _ => .bool (kindL l el.x1 != 0)) (fun _ => [.gen (rowE (A31) g32 k33 cp34 57 2 (dvals X11.cells (dropX LL el.x1)) true), .cells b2 [iq rm1, .slice A31 k33 cp34] 41 true, .cells tb1 [iq rm1, .map (some tm1)] 54 true, .gen (mapE tm1 (imsV (idel l el.x1)) true), .gen (rdE (A) g o n 3 (dvals Deed11.cells xs))]) (fun _ => True) (by kernel_rfl) (fun w hT => (idsDrop tb1 tm1 rm1 l el.x1 w (hT.view (.cons (i := 2) rfl Vw.roc (.cons (i := 3) rfl Vw.map .nil)) (by decide)) hlk).mono fun e w' ⟨he_, ht_⟩ => ⟨(), he_, trivial, hT.merge (N := []) (s := [2, 3]) ht_ (.skip rfl (.cons (i := 3) rfl Mg.map .nil)) (by decide) (fun i e h => by simp at h)⟩) (fun _ _ => ?_)
     refine bS [0] 5 2 [(1, .slice A n cap), (5, .pointer (pB tb1)), (6, .pointer (pB b2)), (7, iq (i : Int)), (25, iq (i : Int)), (26, .bool true), (93, .bool (kindL l el.x1 != 0)), (94, .bool (decide (((dropX LL el.x1).length : Int) < (LL.length : Int))))] ?_
     refine cont_split 93 (kindL l el.x1 != 0) rfl (fun c38_ => ?_) (fun c38_ => ?_)
     ·
      replace c38_ := ne_of_bne c38_
      refine cont_recast 94 (.bool (decide (((dropX LL el.x1).length : Int) < (LL.length : Int)))) (.bool true) rfl (congrArg Value.bool (by rw [hrel.was hlk]; exact bne_iff_ne.2 c38_)) ?_
      refine bS [0, 0] 7 0 [(1, .slice A n cap), (5, .pointer (pB tb1)), (6, .pointer (pB b2)), (7, iq (i : Int)), (9, .bool true), (25, iq (i : Int)), (26, .bool true)] ?_
      refine cont_done ?_
      refine blk_normal ?_
      refine then_normal ?_
      refine cont_seq ?_
      refine drawn_enter 21 [] rfl (by kernel_rfl) ?_
      refine takes 0 [] [(0, 0), (1, 0), (2, 0), (3, 0), (5, 0), (6, 1), (7, 0)] 14 [7, 6, 5, 3, 2, 1, 0] [(1, .slice A n cap), (5, .pointer (pB tb1)), (6, .pointer (pB b2)), (7, iq (i : Int)), (25, iq (i : Int)), (26, .bool true), (109, .bool false), (110, .pointer (pB tb1)), (112, .pointer (some ⟨b2, 1, none⟩)), (113, .slice A31 k33 cp34), (114, iq (k33 : Int))] (by kernel_rfl) (pok_then (pok_blk (pok_then (pok_then (pok_blk (pok_then pok_body)))))) (by kernel_rfl) rfl rfl (by kernel_rfl) (by kernel_rfl) ?_
      refine drawn_one 4 13 rfl (by kernel_rfl) ?_
      refine call_pure (d := 111) (iq ((idel l el.x1).length : Int)) (by kernel_rfl) (fun w hT => idsLen tb1 tm1 rm1 (idel l el.x1) w (hT.viewRo (.cons (i := 2) rfl Vw.roc (.cons (i := 3) rfl Vw.mapRE .nil)) rfl) (hlk.del el.x1)) ?_
      refine drawn_next 0 [] (by kernel_rfl) ?_
      refine takes 0 [] [(8, 0), (9, 0), (10, 0)] 10 [10, 9, 8, 4, 7, 6, 5, 3, 2, 1, 0] [(1, .slice A n cap), (5, .pointer (pB tb1)), (6, .pointer (pB b2)), (7, iq (i : Int)), (25, iq (i : Int)), (26, .bool true), (110, .pointer (pB tb1)), (111, iq ((idel l el.x1).length : Int)), (112, .pointer (some ⟨b2, 1, none⟩)), (113, .slice A31 k33 cp34), (114, iq (k33 : Int)), (115, .bool (((idel l el.x1).length : Int) != (k33 : Int))), (117, .bool (((idel l el.x1).length : Int) != (k33 : Int)))] (by kernel_rfl) (pok_then (pok_blk (pok_then (pok_then (pok_blk (pok_then pok_body)))))) (by kernel_rfl) rfl rfl (by kernel_rfl) (by kernel_rfl) ?_
      refine cont_recast 117 (.bool (((idel l el.x1).length : Int) != (k33 : Int))) (.bool false) rfl (congrArg Value.bool (by rw [show ((idel l el.x1).length : Int) = (k33 : Int) by (have h1_ := ((hrel.drop hlk el.x1)).len; omega)]; exact bne_self_eq_false _)) ?_
      refine cont_recast 115 (.bool (((idel l el.x1).length : Int) != (k33 : Int))) (.bool false) rfl (congrArg Value.bool (by rw [show ((idel l el.x1).length : Int) = (k33 : Int) by (have h1_ := ((hrel.drop hlk el.x1)).len; omega)]; exact bne_self_eq_false _)) ?_
      refine takes 0 [] [(11, 0), (13, 0), (15, 0), (14, 1), (16, 1), (17, 0), (18, 0)] 3 [18, 17, 16, 14, 15, 13, 11, 10, 9, 8, 4, 7, 6, 5, 3, 2, 1, 0] [(1, .slice A n cap), (5, .pointer (pB tb1)), (6, .pointer (pB b2)), (7, iq (i : Int)), (25, iq (i : Int)), (26, .bool true), (110, .pointer (pB tb1)), (111, iq ((idel l el.x1).length : Int)), (112, .pointer (some ⟨b2, 1, none⟩)), (113, .slice A31 k33 cp34), (114, iq (k33 : Int)), (115, .bool false), (117, .bool false), (118, .pointer (pB tb1)), (120, .pointer (pB b2)), (121, iq rm1), (122, .pointer (some ⟨b2, 1, none⟩)), (123, .slice A31 k33 cp34), (124, iq (k33 : Int)), (125, iq (IntKind.i64.wrap (rm1 - (k33 : Int))))] (by kernel_rfl) (pok_then (pok_blk (pok_then (pok_then (pok_blk (pok_then pok_body)))))) (by kernel_rfl) rfl rfl (by kernel_rfl) (by kernel_rfl) ?_
      refine cont_recast 125 (iq (IntKind.i64.wrap (rm1 - (k33 : Int)))) (iq (rm1 - (k33 : Int))) rfl (wrapI (by omega) (by omega)) ?_
      refine drawn_one 12 2 rfl (by kernel_rfl) ?_
      refine call_pure (d := 119) (iq (rm1 - ((idel l el.x1).length : Int))) (by kernel_rfl) (fun w hT => idsFree tb1 tm1 rm1 (idel l el.x1) w (hT.viewRo (.cons (i := 2) rfl Vw.roc (.cons (i := 3) rfl Vw.mapRE .nil)) rfl) (hlk.del el.x1)) ?_
      refine drawn_next 0 [] (by kernel_rfl) ?_
      refine takes 0 [] [(19, 0), (20, 0)] 0 [20, 19, 12, 18, 17, 16, 14, 15, 13, 11, 10, 9, 8, 4, 7, 6, 5, 3, 2, 1, 0] [(1, .slice A n cap), (5, .pointer (pB tb1)), (6, .pointer (pB b2)), (7, iq (i : Int)), (25, iq (i : Int)), (26, .bool true), (110, .pointer (pB tb1)), (111, iq ((idel l el.x1).length : Int)), (112, .pointer (some ⟨b2, 1, none⟩)), (113, .slice A31 k33 cp34), (114, iq (k33 : Int)), (115, .bool false), (118, .pointer (pB tb1)), (119, iq (rm1 - ((idel l el.x1).length : Int))), (120, .pointer (pB b2)), (121, iq rm1), (122, .pointer (some ⟨b2, 1, none⟩)), (123, .slice A31 k33 cp34), (124, iq (k33 : Int)), (125, iq (rm1 - (k33 : Int))), (126, .bool ((rm1 - ((idel l el.x1).length : Int)) != (rm1 - (k33 : Int)))), (127, .bool ((rm1 - ((idel l el.x1).length : Int)) != (rm1 - (k33 : Int))))] (by kernel_rfl) (pok_then (pok_blk (pok_then (pok_then (pok_blk (pok_then pok_body)))))) (by kernel_rfl) rfl rfl (by kernel_rfl) (by kernel_rfl) ?_
      refine drawn_done (by kernel_rfl) ?_
      refine then_normal ?_
      refine cont_recast 127 (.bool ((rm1 - ((idel l el.x1).length : Int)) != (rm1 - (k33 : Int)))) (.bool false) rfl (congrArg Value.bool (by rw [show (rm1 - ((idel l el.x1).length : Int)) = (rm1 - (k33 : Int)) by (have h1_ := ((hrel.drop hlk el.x1)).len; omega)]; exact bne_self_eq_false _)) ?_
      refine cont_recast 126 (.bool ((rm1 - ((idel l el.x1).length : Int)) != (rm1 - (k33 : Int)))) (.bool false) rfl (congrArg Value.bool (by rw [show (rm1 - ((idel l el.x1).length : Int)) = (rm1 - (k33 : Int)) by (have h1_ := ((hrel.drop hlk el.x1)).len; omega)]; exact bne_self_eq_false _)) ?_
      refine cont_false rfl ?_
      refine cont_skip ?_
      refine blk_normal ?_
      refine then_normal ?_
      refine cont_region 3 rfl ?_
      refine bS [0, 0] 2 1 [(1, .slice A n cap), (5, .pointer (pB tb1)), (6, .pointer (pB b2)), (25, iq (i : Int)), (26, .bool true), (29, iq (IntKind.i64.wrap ((i : Int) + 1))), (110, .pointer (pB tb1)), (111, iq ((idel l el.x1).length : Int)), (112, .pointer (some ⟨b2, 1, none⟩)), (113, .slice A31 k33 cp34), (114, iq (k33 : Int)), (115, .bool false), (118, .pointer (pB tb1)), (119, iq (rm1 - ((idel l el.x1).length : Int))), (120, .pointer (pB b2)), (121, iq rm1), (122, .pointer (some ⟨b2, 1, none⟩)), (123, .slice A31 k33 cp34), (124, iq (k33 : Int)), (125, iq (rm1 - (k33 : Int))), (126, .bool false)] ?_
      refine cont_recast 29 (iq (IntKind.i64.wrap ((i : Int) + 1))) (iq ((i : Int) + 1)) rfl (wrapI (by omega) (by omega)) ?_
      refine bS [0] 3 0 [(1, .slice A n cap), (5, .pointer (pB tb1)), (6, .pointer (pB b2)), (7, iq ((i : Int) + 1)), (25, iq (i : Int)), (26, .bool true), (110, .pointer (pB tb1)), (111, iq ((idel l el.x1).length : Int)), (112, .pointer (some ⟨b2, 1, none⟩)), (113, .slice A31 k33 cp34), (114, iq (k33 : Int)), (115, .bool false), (118, .pointer (pB tb1)), (119, iq (rm1 - ((idel l el.x1).length : Int))), (120, .pointer (pB b2)), (121, iq rm1), (122, .pointer (some ⟨b2, 1, none⟩)), (123, .slice A31 k33 cp34), (124, iq (k33 : Int)), (125, iq (rm1 - (k33 : Int))), (126, .bool false)] ?_
      refine cont_done ?_
      refine then_normal ?_
      refine cont_pick [0, 1, 2, 3, 4] [.gen (rowE (A31) g32 k33 cp34 57 2 (dvals X11.cells (dropX LL el.x1)) true), .cells b2 [iq rm1, .slice A31 k33 cp34] 41 true, .cells tb1 [iq rm1, .map (some tm1)] 54 true, .gen (mapE tm1 (imsV (idel l el.x1)) true), .gen (rdE (A) g o n 3 (dvals Deed11.cells xs))] (by decide) rfl rfl ?_
      refine cont_norm [(1, .slice A n cap), (5, .pointer (pB tb1)), (6, .pointer (pB b2)), (7, iq ((i : Int) + 1)), (25, iq (i : Int)), (26, .bool true), (110, .pointer (pB tb1)), (111, iq ((idel l el.x1).length : Int)), (112, .pointer (some ⟨b2, 1, none⟩)), (113, .slice A31 k33 cp34), (114, iq (k33 : Int)), (115, .bool false), (118, .pointer (pB tb1)), (119, iq (rm1 - ((idel l el.x1).length : Int))), (120, .pointer (pB b2)), (121, iq rm1), (122, .pointer (some ⟨b2, 1, none⟩)), (123, .slice A31 k33 cp34), (124, iq (k33 : Int)), (125, iq (rm1 - (k33 : Int))), (126, .bool false)] _ (by kernel_rfl) rfl ?_
      refine cont_again (i + 1, idel l el.x1, dropX LL el.x1, A31, g32, k33, cp34) (show (i + 1) ≤ n ∧ IdsOk rm1 (idel l el.x1) ∧ RelX (idel l el.x1) (dropX LL el.x1) from ⟨by omega, (hlk.del el.x1), (hrel.drop hlk el.x1)⟩) (show n - (i + 1) < n - i from by omega) (by kernel_rfl) (by kernel_rfl)
     replace c38_ := eq_of_bne_false c38_
     refine cont_recast 94 (.bool (decide (((dropX LL el.x1).length : Int) < (LL.length : Int)))) (.bool false) rfl (congrArg Value.bool (by rw [hrel.was hlk, c38_]; rfl)) ?_
     refine bS [0, 0] 7 0 [(1, .slice A n cap), (5, .pointer (pB tb1)), (6, .pointer (pB b2)), (7, iq (i : Int)), (9, .bool true), (25, iq (i : Int)), (26, .bool true)] ?_
     refine cont_done ?_
     refine blk_normal ?_
     refine then_normal ?_
     refine cont_seq ?_
     refine drawn_enter 21 [] rfl (by kernel_rfl) ?_
     refine takes 0 [] [(0, 0), (1, 0), (2, 0), (3, 0), (5, 0), (6, 1), (7, 0)] 14 [7, 6, 5, 3, 2, 1, 0] [(1, .slice A n cap), (5, .pointer (pB tb1)), (6, .pointer (pB b2)), (7, iq (i : Int)), (25, iq (i : Int)), (26, .bool true), (109, .bool false), (110, .pointer (pB tb1)), (112, .pointer (some ⟨b2, 1, none⟩)), (113, .slice A31 k33 cp34), (114, iq (k33 : Int))] (by kernel_rfl) (pok_then (pok_blk (pok_then (pok_then (pok_blk (pok_then pok_body)))))) (by kernel_rfl) rfl rfl (by kernel_rfl) (by kernel_rfl) ?_
     refine drawn_one 4 13 rfl (by kernel_rfl) ?_
     refine call_pure (d := 111) (iq ((idel l el.x1).length : Int)) (by kernel_rfl) (fun w hT => idsLen tb1 tm1 rm1 (idel l el.x1) w (hT.viewRo (.cons (i := 2) rfl Vw.roc (.cons (i := 3) rfl Vw.mapRE .nil)) rfl) (hlk.del el.x1)) ?_
     refine drawn_next 0 [] (by kernel_rfl) ?_
     refine takes 0 [] [(8, 0), (9, 0), (10, 0)] 10 [10, 9, 8, 4, 7, 6, 5, 3, 2, 1, 0] [(1, .slice A n cap), (5, .pointer (pB tb1)), (6, .pointer (pB b2)), (7, iq (i : Int)), (25, iq (i : Int)), (26, .bool true), (110, .pointer (pB tb1)), (111, iq ((idel l el.x1).length : Int)), (112, .pointer (some ⟨b2, 1, none⟩)), (113, .slice A31 k33 cp34), (114, iq (k33 : Int)), (115, .bool (((idel l el.x1).length : Int) != (k33 : Int))), (117, .bool (((idel l el.x1).length : Int) != (k33 : Int)))] (by kernel_rfl) (pok_then (pok_blk (pok_then (pok_then (pok_blk (pok_then pok_body)))))) (by kernel_rfl) rfl rfl (by kernel_rfl) (by kernel_rfl) ?_
     refine cont_recast 117 (.bool (((idel l el.x1).length : Int) != (k33 : Int))) (.bool false) rfl (congrArg Value.bool (by rw [show ((idel l el.x1).length : Int) = (k33 : Int) by (have h1_ := ((hrel.drop hlk el.x1)).len; omega)]; exact bne_self_eq_false _)) ?_
     refine cont_recast 115 (.bool (((idel l el.x1).length : Int) != (k33 : Int))) (.bool false) rfl (congrArg Value.bool (by rw [show ((idel l el.x1).length : Int) = (k33 : Int) by (have h1_ := ((hrel.drop hlk el.x1)).len; omega)]; exact bne_self_eq_false _)) ?_
     refine takes 0 [] [(11, 0), (13, 0), (15, 0), (14, 1), (16, 1), (17, 0), (18, 0)] 3 [18, 17, 16, 14, 15, 13, 11, 10, 9, 8, 4, 7, 6, 5, 3, 2, 1, 0] [(1, .slice A n cap), (5, .pointer (pB tb1)), (6, .pointer (pB b2)), (7, iq (i : Int)), (25, iq (i : Int)), (26, .bool true), (110, .pointer (pB tb1)), (111, iq ((idel l el.x1).length : Int)), (112, .pointer (some ⟨b2, 1, none⟩)), (113, .slice A31 k33 cp34), (114, iq (k33 : Int)), (115, .bool false), (117, .bool false), (118, .pointer (pB tb1)), (120, .pointer (pB b2)), (121, iq rm1), (122, .pointer (some ⟨b2, 1, none⟩)), (123, .slice A31 k33 cp34), (124, iq (k33 : Int)), (125, iq (IntKind.i64.wrap (rm1 - (k33 : Int))))] (by kernel_rfl) (pok_then (pok_blk (pok_then (pok_then (pok_blk (pok_then pok_body)))))) (by kernel_rfl) rfl rfl (by kernel_rfl) (by kernel_rfl) ?_
     refine cont_recast 125 (iq (IntKind.i64.wrap (rm1 - (k33 : Int)))) (iq (rm1 - (k33 : Int))) rfl (wrapI (by omega) (by omega)) ?_
     refine drawn_one 12 2 rfl (by kernel_rfl) ?_
     refine call_pure (d := 119) (iq (rm1 - ((idel l el.x1).length : Int))) (by kernel_rfl) (fun w hT => idsFree tb1 tm1 rm1 (idel l el.x1) w (hT.viewRo (.cons (i := 2) rfl Vw.roc (.cons (i := 3) rfl Vw.mapRE .nil)) rfl) (hlk.del el.x1)) ?_
     refine drawn_next 0 [] (by kernel_rfl) ?_
     refine takes 0 [] [(19, 0), (20, 0)] 0 [20, 19, 12, 18, 17, 16, 14, 15, 13, 11, 10, 9, 8, 4, 7, 6, 5, 3, 2, 1, 0] [(1, .slice A n cap), (5, .pointer (pB tb1)), (6, .pointer (pB b2)), (7, iq (i : Int)), (25, iq (i : Int)), (26, .bool true), (110, .pointer (pB tb1)), (111, iq ((idel l el.x1).length : Int)), (112, .pointer (some ⟨b2, 1, none⟩)), (113, .slice A31 k33 cp34), (114, iq (k33 : Int)), (115, .bool false), (118, .pointer (pB tb1)), (119, iq (rm1 - ((idel l el.x1).length : Int))), (120, .pointer (pB b2)), (121, iq rm1), (122, .pointer (some ⟨b2, 1, none⟩)), (123, .slice A31 k33 cp34), (124, iq (k33 : Int)), (125, iq (rm1 - (k33 : Int))), (126, .bool ((rm1 - ((idel l el.x1).length : Int)) != (rm1 - (k33 : Int)))), (127, .bool ((rm1 - ((idel l el.x1).length : Int)) != (rm1 - (k33 : Int))))] (by kernel_rfl) (pok_then (pok_blk (pok_then (pok_then (pok_blk (pok_then pok_body)))))) (by kernel_rfl) rfl rfl (by kernel_rfl) (by kernel_rfl) ?_
     refine drawn_done (by kernel_rfl) ?_
     refine then_normal ?_
     refine cont_recast 127 (.bool ((rm1 - ((idel l el.x1).length : Int)) != (rm1 - (k33 : Int)))) (.bool false) rfl (congrArg Value.bool (by rw [show (rm1 - ((idel l el.x1).length : Int)) = (rm1 - (k33 : Int)) by (have h1_ := ((hrel.drop hlk el.x1)).len; omega)]; exact bne_self_eq_false _)) ?_
     refine cont_recast 126 (.bool ((rm1 - ((idel l el.x1).length : Int)) != (rm1 - (k33 : Int)))) (.bool false) rfl (congrArg Value.bool (by rw [show (rm1 - ((idel l el.x1).length : Int)) = (rm1 - (k33 : Int)) by (have h1_ := ((hrel.drop hlk el.x1)).len; omega)]; exact bne_self_eq_false _)) ?_
     refine cont_false rfl ?_
     refine cont_skip ?_
     refine blk_normal ?_
     refine then_normal ?_
     refine cont_region 3 rfl ?_
     refine bS [0, 0] 2 1 [(1, .slice A n cap), (5, .pointer (pB tb1)), (6, .pointer (pB b2)), (25, iq (i : Int)), (26, .bool true), (29, iq (IntKind.i64.wrap ((i : Int) + 1))), (110, .pointer (pB tb1)), (111, iq ((idel l el.x1).length : Int)), (112, .pointer (some ⟨b2, 1, none⟩)), (113, .slice A31 k33 cp34), (114, iq (k33 : Int)), (115, .bool false), (118, .pointer (pB tb1)), (119, iq (rm1 - ((idel l el.x1).length : Int))), (120, .pointer (pB b2)), (121, iq rm1), (122, .pointer (some ⟨b2, 1, none⟩)), (123, .slice A31 k33 cp34), (124, iq (k33 : Int)), (125, iq (rm1 - (k33 : Int))), (126, .bool false)] ?_
     refine cont_recast 29 (iq (IntKind.i64.wrap ((i : Int) + 1))) (iq ((i : Int) + 1)) rfl (wrapI (by omega) (by omega)) ?_
     refine bS [0] 3 0 [(1, .slice A n cap), (5, .pointer (pB tb1)), (6, .pointer (pB b2)), (7, iq ((i : Int) + 1)), (25, iq (i : Int)), (26, .bool true), (110, .pointer (pB tb1)), (111, iq ((idel l el.x1).length : Int)), (112, .pointer (some ⟨b2, 1, none⟩)), (113, .slice A31 k33 cp34), (114, iq (k33 : Int)), (115, .bool false), (118, .pointer (pB tb1)), (119, iq (rm1 - ((idel l el.x1).length : Int))), (120, .pointer (pB b2)), (121, iq rm1), (122, .pointer (some ⟨b2, 1, none⟩)), (123, .slice A31 k33 cp34), (124, iq (k33 : Int)), (125, iq (rm1 - (k33 : Int))), (126, .bool false)] ?_
     refine cont_done ?_
     refine then_normal ?_
     refine cont_pick [0, 1, 2, 3, 4] [.gen (rowE (A31) g32 k33 cp34 57 2 (dvals X11.cells (dropX LL el.x1)) true), .cells b2 [iq rm1, .slice A31 k33 cp34] 41 true, .cells tb1 [iq rm1, .map (some tm1)] 54 true, .gen (mapE tm1 (imsV (idel l el.x1)) true), .gen (rdE (A) g o n 3 (dvals Deed11.cells xs))] (by decide) rfl rfl ?_
     refine cont_norm [(1, .slice A n cap), (5, .pointer (pB tb1)), (6, .pointer (pB b2)), (7, iq ((i : Int) + 1)), (25, iq (i : Int)), (26, .bool true), (110, .pointer (pB tb1)), (111, iq ((idel l el.x1).length : Int)), (112, .pointer (some ⟨b2, 1, none⟩)), (113, .slice A31 k33 cp34), (114, iq (k33 : Int)), (115, .bool false), (118, .pointer (pB tb1)), (119, iq (rm1 - ((idel l el.x1).length : Int))), (120, .pointer (pB b2)), (121, iq rm1), (122, .pointer (some ⟨b2, 1, none⟩)), (123, .slice A31 k33 cp34), (124, iq (k33 : Int)), (125, iq (rm1 - (k33 : Int))), (126, .bool false)] _ (by kernel_rfl) rfl ?_
     refine cont_again (i + 1, idel l el.x1, dropX LL el.x1, A31, g32, k33, cp34) (show (i + 1) ≤ n ∧ IdsOk rm1 (idel l el.x1) ∧ RelX (idel l el.x1) (dropX LL el.x1) from ⟨by omega, (hlk.del el.x1), (hrel.drop hlk el.x1)⟩) (show n - (i + 1) < n - i from by omega) (by kernel_rfl) (by kernel_rfl)
    replace c30_ := ne_of_beqf c30_
    refine cont_false rfl ?_
    refine cont_seq ?_
    refine cont_region 2 rfl ?_
    refine bS [0, 0] 2 0 [(1, .slice A n cap), (5, .pointer (pB tb1)), (6, .pointer (pB b2)), (7, iq (i : Int)), (8, .pointer (pB b8)), (25, iq (i : Int)), (26, .bool true), (96, .bool (el.x0 == 3))] ?_
    refine cont_done ?_
    refine then_normal ?_
    refine cont_split 96 (el.x0 == 3) rfl (fun c45_ => ?_) (fun c45_ => ?_)
    ·
     replace c45_ := eq_of_beqt c45_
     refine cont_true rfl ?_
     refine drawn_enter 10 [] rfl (by kernel_rfl) ?_
     refine takes 0 [] [(0, 0), (1, 0), (4, 2), (5, 0), (2, 0), (6, 0)] 4 [6, 2, 5, 4, 1, 0] [(1, .slice A n cap), (5, .pointer (pB tb1)), (6, .pointer (pB b2)), (7, iq (i : Int)), (25, iq (i : Int)), (26, .bool true), (98, .pointer (pB tb1)), (100, iq el.x1), (102, .agg #[iq rm1, .slice Ar kr cr]), (104, iq el.x1)] (by kernel_rfl) (pok_blk (pok_then (pok_blk (pok_then (pok_then (pok_blk (pok_then pok_body))))))) (by kernel_rfl) rfl rfl (by kernel_rfl) (by kernel_rfl) ?_
     refine drawn_one 3 3 rfl (by kernel_rfl) ?_
     refine call_pure (d := 101) (iq (kindL l el.x1)) (by kernel_rfl) (fun w hT => idsKind tb1 tm1 rm1 l el.x1 w (hT.viewRo (.cons (i := 3) rfl Vw.roc (.cons (i := 4) rfl Vw.mapRE .nil)) rfl) hlk) ?_
     refine drawn_next 0 [] (by kernel_rfl) ?_
     refine drawn_one 7 2 rfl (by kernel_rfl) ?_
     refine call_pure (d := 105) (iq (kindX LL el.x1)) (by kernel_rfl) (fun w hT => refKind11 rm1 Ar gr 0 kr cr LL el.x1 w (hT.viewRo (.cons (i := 1) rfl Vw.rowRd .nil) rfl) (by omega)) ?_
     refine drawn_next 0 [] (by kernel_rfl) ?_
     refine takes 0 [] [(8, 0), (9, 0)] 0 [9, 8, 7, 3, 6, 2, 5, 4, 1, 0] [(1, .slice A n cap), (5, .pointer (pB tb1)), (6, .pointer (pB b2)), (7, iq (i : Int)), (9, .bool ((kindL l el.x1) == (kindX LL el.x1))), (25, iq (i : Int)), (26, .bool true)] (by kernel_rfl) (pok_blk (pok_then (pok_blk (pok_then (pok_then (pok_blk (pok_then pok_body))))))) (by kernel_rfl) rfl rfl (by kernel_rfl) (by kernel_rfl) ?_
     refine drawn_done (by kernel_rfl) ?_
     refine blk_normal ?_
     refine then_normal ?_
     refine cont_seq ?_
     refine drawn_enter 21 [] rfl (by kernel_rfl) ?_
     refine takes 0 [] [(0, 0), (1, 0), (2, 0)] 18 [2, 1, 0] [(1, .slice A n cap), (5, .pointer (pB tb1)), (6, .pointer (pB b2)), (7, iq (i : Int)), (25, iq (i : Int)), (26, .bool true), (109, .bool (!((kindL l el.x1) == (kindX LL el.x1))))] (by kernel_rfl) (pok_then (pok_blk (pok_then (pok_then (pok_blk (pok_then pok_body)))))) (by kernel_rfl) rfl rfl (by kernel_rfl) (by kernel_rfl) ?_
     refine cont_recast 109 (.bool (!((kindL l el.x1) == (kindX LL el.x1)))) (.bool false) rfl (congrArg Value.bool (by rw [show ((kindL l el.x1) == (kindX LL el.x1)) = true from (by rw [hrel.kind hlk]; exact beq_self_eq_true _)]; rfl)) ?_
     refine takes 0 [] [(3, 0), (5, 0), (6, 2), (7, 0)] 14 [7, 6, 5, 3, 2, 1, 0] [(1, .slice A n cap), (5, .pointer (pB tb1)), (6, .pointer (pB b2)), (7, iq (i : Int)), (25, iq (i : Int)), (26, .bool true), (109, .bool false), (110, .pointer (pB tb1)), (112, .pointer (some ⟨b2, 1, none⟩)), (113, .slice Ar kr cr), (114, iq (kr : Int))] (by kernel_rfl) (pok_then (pok_blk (pok_then (pok_then (pok_blk (pok_then pok_body)))))) (by kernel_rfl) rfl rfl (by kernel_rfl) (by kernel_rfl) ?_
     refine drawn_one 4 13 rfl (by kernel_rfl) ?_
     refine call_pure (d := 111) (iq (l.length : Int)) (by kernel_rfl) (fun w hT => idsLen tb1 tm1 rm1 l w (hT.viewRo (.cons (i := 3) rfl Vw.roc (.cons (i := 4) rfl Vw.mapRE .nil)) rfl) hlk) ?_
     refine drawn_next 0 [] (by kernel_rfl) ?_
     refine takes 0 [] [(8, 0), (9, 0), (10, 0)] 10 [10, 9, 8, 4, 7, 6, 5, 3, 2, 1, 0] [(1, .slice A n cap), (5, .pointer (pB tb1)), (6, .pointer (pB b2)), (7, iq (i : Int)), (25, iq (i : Int)), (26, .bool true), (110, .pointer (pB tb1)), (111, iq (l.length : Int)), (112, .pointer (some ⟨b2, 1, none⟩)), (113, .slice Ar kr cr), (114, iq (kr : Int)), (115, .bool ((l.length : Int) != (kr : Int))), (117, .bool ((l.length : Int) != (kr : Int)))] (by kernel_rfl) (pok_then (pok_blk (pok_then (pok_then (pok_blk (pok_then pok_body)))))) (by kernel_rfl) rfl rfl (by kernel_rfl) (by kernel_rfl) ?_
     refine cont_recast 117 (.bool ((l.length : Int) != (kr : Int))) (.bool false) rfl (congrArg Value.bool (by rw [show (l.length : Int) = (kr : Int) by (have h1_ := (hrel).len; omega)]; exact bne_self_eq_false _)) ?_
     refine cont_recast 115 (.bool ((l.length : Int) != (kr : Int))) (.bool false) rfl (congrArg Value.bool (by rw [show (l.length : Int) = (kr : Int) by (have h1_ := (hrel).len; omega)]; exact bne_self_eq_false _)) ?_
     refine takes 0 [] [(11, 0), (13, 0), (15, 0), (14, 2), (16, 2), (17, 0), (18, 0)] 3 [18, 17, 16, 14, 15, 13, 11, 10, 9, 8, 4, 7, 6, 5, 3, 2, 1, 0] [(1, .slice A n cap), (5, .pointer (pB tb1)), (6, .pointer (pB b2)), (7, iq (i : Int)), (25, iq (i : Int)), (26, .bool true), (110, .pointer (pB tb1)), (111, iq (l.length : Int)), (112, .pointer (some ⟨b2, 1, none⟩)), (113, .slice Ar kr cr), (114, iq (kr : Int)), (115, .bool false), (117, .bool false), (118, .pointer (pB tb1)), (120, .pointer (pB b2)), (121, iq rm1), (122, .pointer (some ⟨b2, 1, none⟩)), (123, .slice Ar kr cr), (124, iq (kr : Int)), (125, iq (IntKind.i64.wrap (rm1 - (kr : Int))))] (by kernel_rfl) (pok_then (pok_blk (pok_then (pok_then (pok_blk (pok_then pok_body)))))) (by kernel_rfl) rfl rfl (by kernel_rfl) (by kernel_rfl) ?_
     refine cont_recast 125 (iq (IntKind.i64.wrap (rm1 - (kr : Int)))) (iq (rm1 - (kr : Int))) rfl (wrapI (by omega) (by omega)) ?_
     refine drawn_one 12 2 rfl (by kernel_rfl) ?_
     refine call_pure (d := 119) (iq (rm1 - (l.length : Int))) (by kernel_rfl) (fun w hT => idsFree tb1 tm1 rm1 l w (hT.viewRo (.cons (i := 3) rfl Vw.roc (.cons (i := 4) rfl Vw.mapRE .nil)) rfl) hlk) ?_
     refine drawn_next 0 [] (by kernel_rfl) ?_
     refine takes 0 [] [(19, 0), (20, 0)] 0 [20, 19, 12, 18, 17, 16, 14, 15, 13, 11, 10, 9, 8, 4, 7, 6, 5, 3, 2, 1, 0] [(1, .slice A n cap), (5, .pointer (pB tb1)), (6, .pointer (pB b2)), (7, iq (i : Int)), (25, iq (i : Int)), (26, .bool true), (110, .pointer (pB tb1)), (111, iq (l.length : Int)), (112, .pointer (some ⟨b2, 1, none⟩)), (113, .slice Ar kr cr), (114, iq (kr : Int)), (115, .bool false), (118, .pointer (pB tb1)), (119, iq (rm1 - (l.length : Int))), (120, .pointer (pB b2)), (121, iq rm1), (122, .pointer (some ⟨b2, 1, none⟩)), (123, .slice Ar kr cr), (124, iq (kr : Int)), (125, iq (rm1 - (kr : Int))), (126, .bool ((rm1 - (l.length : Int)) != (rm1 - (kr : Int)))), (127, .bool ((rm1 - (l.length : Int)) != (rm1 - (kr : Int))))] (by kernel_rfl) (pok_then (pok_blk (pok_then (pok_then (pok_blk (pok_then pok_body)))))) (by kernel_rfl) rfl rfl (by kernel_rfl) (by kernel_rfl) ?_
     refine drawn_done (by kernel_rfl) ?_
     refine then_normal ?_
     refine cont_recast 127 (.bool ((rm1 - (l.length : Int)) != (rm1 - (kr : Int)))) (.bool false) rfl (congrArg Value.bool (by rw [show (rm1 - (l.length : Int)) = (rm1 - (kr : Int)) by (have h1_ := (hrel).len; omega)]; exact bne_self_eq_false _)) ?_
     refine cont_recast 126 (.bool ((rm1 - (l.length : Int)) != (rm1 - (kr : Int)))) (.bool false) rfl (congrArg Value.bool (by rw [show (rm1 - (l.length : Int)) = (rm1 - (kr : Int)) by (have h1_ := (hrel).len; omega)]; exact bne_self_eq_false _)) ?_
     refine cont_false rfl ?_
     refine cont_skip ?_
     refine blk_normal ?_
     refine then_normal ?_
     refine cont_region 3 rfl ?_
     refine bS [0, 0] 2 1 [(1, .slice A n cap), (5, .pointer (pB tb1)), (6, .pointer (pB b2)), (25, iq (i : Int)), (26, .bool true), (29, iq (IntKind.i64.wrap ((i : Int) + 1))), (110, .pointer (pB tb1)), (111, iq (l.length : Int)), (112, .pointer (some ⟨b2, 1, none⟩)), (113, .slice Ar kr cr), (114, iq (kr : Int)), (115, .bool false), (118, .pointer (pB tb1)), (119, iq (rm1 - (l.length : Int))), (120, .pointer (pB b2)), (121, iq rm1), (122, .pointer (some ⟨b2, 1, none⟩)), (123, .slice Ar kr cr), (124, iq (kr : Int)), (125, iq (rm1 - (kr : Int))), (126, .bool false)] ?_
     refine cont_recast 29 (iq (IntKind.i64.wrap ((i : Int) + 1))) (iq ((i : Int) + 1)) rfl (wrapI (by omega) (by omega)) ?_
     refine cont_forget 0 rfl ?_
     refine bS [0] 3 0 [(1, .slice A n cap), (5, .pointer (pB tb1)), (6, .pointer (pB b2)), (7, iq ((i : Int) + 1)), (25, iq (i : Int)), (26, .bool true), (110, .pointer (pB tb1)), (111, iq (l.length : Int)), (112, .pointer (some ⟨b2, 1, none⟩)), (113, .slice Ar kr cr), (114, iq (kr : Int)), (115, .bool false), (118, .pointer (pB tb1)), (119, iq (rm1 - (l.length : Int))), (120, .pointer (pB b2)), (121, iq rm1), (122, .pointer (some ⟨b2, 1, none⟩)), (123, .slice Ar kr cr), (124, iq (kr : Int)), (125, iq (rm1 - (kr : Int))), (126, .bool false)] ?_
     refine cont_done ?_
     refine then_normal ?_
     refine cont_pick [0, 1, 2, 3, 4] [.gen (rowE (Ar) gr kr cr 57 2 (dvals X11.cells LL) true), .cells b2 [iq rm1, .slice Ar kr cr] 41 true, .cells tb1 [iq rm1, .map (some tm1)] 54 true, .gen (mapE tm1 (imsV l) true), .gen (rdE (A) g o n 3 (dvals Deed11.cells xs))] (by decide) rfl rfl ?_
     refine cont_norm [(1, .slice A n cap), (5, .pointer (pB tb1)), (6, .pointer (pB b2)), (7, iq ((i : Int) + 1)), (25, iq (i : Int)), (26, .bool true), (110, .pointer (pB tb1)), (111, iq (l.length : Int)), (112, .pointer (some ⟨b2, 1, none⟩)), (113, .slice Ar kr cr), (114, iq (kr : Int)), (115, .bool false), (118, .pointer (pB tb1)), (119, iq (rm1 - (l.length : Int))), (120, .pointer (pB b2)), (121, iq rm1), (122, .pointer (some ⟨b2, 1, none⟩)), (123, .slice Ar kr cr), (124, iq (kr : Int)), (125, iq (rm1 - (kr : Int))), (126, .bool false)] _ (by kernel_rfl) rfl ?_
     refine cont_again (i + 1, l, LL, Ar, gr, kr, cr) (show (i + 1) ≤ n ∧ IdsOk rm1 (l) ∧ RelX (l) (LL) from ⟨by omega, hlk, hrel⟩) (show n - (i + 1) < n - i from by omega) (by kernel_rfl) (by kernel_rfl)
    replace c45_ := ne_of_beqf c45_
    refine cont_false rfl ?_
    refine drawn_enter 10 [] rfl (by kernel_rfl) ?_
    refine takes 0 [] [(0, 0), (1, 0), (4, 2), (5, 0), (2, 0), (6, 0)] 4 [6, 2, 5, 4, 1, 0] [(1, .slice A n cap), (5, .pointer (pB tb1)), (6, .pointer (pB b2)), (7, iq (i : Int)), (25, iq (i : Int)), (26, .bool true), (36, .pointer (pB tb1)), (38, iq el.x2), (40, .agg #[iq rm1, .slice Ar kr cr]), (42, iq el.x2)] (by kernel_rfl) (pok_blk (pok_then (pok_blk (pok_then (pok_then (pok_blk (pok_then pok_body))))))) (by kernel_rfl) rfl rfl (by kernel_rfl) (by kernel_rfl) ?_
    refine drawn_one 3 3 rfl (by kernel_rfl) ?_
    refine call_gen (d := 39) (α := Option Addr × Nat × Nat × Nat) (fun x_ => .slice x_.1 x_.2.2.1 x_.2.2.2) (fun x_ => [.gen (rowE (x_.1) x_.2.1 x_.2.2.1 x_.2.2.2 3 1 (ivals .i64 (ofL l el.x2)) true), .cells b8 [iq el.x0, iq el.x1, iq el.x2] 36 true, .gen (rowE (Ar) gr kr cr 57 2 (dvals X11.cells LL) true), .cells b2 [iq rm1, .slice Ar kr cr] 41 true, .cells tb1 [iq rm1, .map (some tm1)] 54 true, .gen (mapE tm1 (imsV l) true), .gen (rdE (A) g o n 3 (dvals Deed11.cells xs))]) (fun x_ => True) (by kernel_rfl) (fun w hT => (idsOf tb1 tm1 rm1 l el.x2 w (hT.viewRo (.cons (i := 3) rfl Vw.roc (.cons (i := 4) rfl Vw.mapRE .nil)) rfl) hlk).mono fun e w' ⟨A49, g50, k51, cp52, he_, ht_⟩ => ⟨(A49, g50, k51, cp52), he_, trivial, hT.news ht_ rfl⟩) ?_
    rintro ⟨A49, g50, k51, cp52⟩ hf53_
    refine cont_norm [(1, .slice A n cap), (5, .pointer (pB tb1)), (6, .pointer (pB b2)), (7, iq (i : Int)), (25, iq (i : Int)), (26, .bool true), (36, .pointer (pB tb1)), (38, iq el.x2), (39, .slice A49 k51 cp52), (40, .agg #[iq rm1, .slice Ar kr cr]), (42, iq el.x2)] _ (by kernel_rfl) rfl ?_
    refine cont_fact (F := (0 < k51 → (A49 : Option Addr) = pB g50) ∧ (ofL l el.x2).length = k51 ∧ k51 ≤ cp52 ∧ cp52 ≤ maxLen) (fun w hT => Row.facts (hT.ok 0 _ rfl)) (fun hr54_ => ?_)
    obtain ⟨hr54_a, hr54_l, hr54_c, hr54_m⟩ := hr54_
    unfold maxLen at hr54_m
    have hol_ := ofL_len l el.x2
    refine drawn_next 1 [] (by kernel_rfl) ?_
    refine drawn_one 7 2 rfl (by kernel_rfl) ?_
    refine call_gen (d := 43) (α := Option Addr × Nat × Nat × Nat) (fun x_ => .slice x_.1 x_.2.2.1 x_.2.2.2) (fun x_ => [.gen (rowE (x_.1) x_.2.1 x_.2.2.1 x_.2.2.2 3 1 (ivals .i64 (ofX LL el.x2)) true), .gen (rowE (A49) g50 k51 cp52 3 1 (ivals .i64 (ofL l el.x2)) true), .cells b8 [iq el.x0, iq el.x1, iq el.x2] 36 true, .gen (rowE (Ar) gr kr cr 57 2 (dvals X11.cells LL) true), .cells b2 [iq rm1, .slice Ar kr cr] 41 true, .cells tb1 [iq rm1, .map (some tm1)] 54 true, .gen (mapE tm1 (imsV l) true), .gen (rdE (A) g o n 3 (dvals Deed11.cells xs))]) (fun x_ => True) (by kernel_rfl) (fun w hT => (refOf11 rm1 Ar gr 0 kr cr LL el.x2 w (hT.viewRo (.cons (i := 2) rfl Vw.rowRd .nil) rfl) (by omega)).mono fun e w' ⟨A55, g56, k57, cp58, he_, ht_⟩ => ⟨(A55, g56, k57, cp58), he_, trivial, hT.news ht_ rfl⟩) ?_
    rintro ⟨A55, g56, k57, cp58⟩ hf59_
    refine cont_norm [(1, .slice A n cap), (5, .pointer (pB tb1)), (6, .pointer (pB b2)), (7, iq (i : Int)), (25, iq (i : Int)), (26, .bool true), (36, .pointer (pB tb1)), (38, iq el.x2), (39, .slice A49 k51 cp52), (40, .agg #[iq rm1, .slice Ar kr cr]), (42, iq el.x2), (43, .slice A55 k57 cp58)] _ (by kernel_rfl) rfl ?_
    refine cont_fact (F := (0 < k57 → (A55 : Option Addr) = pB g56) ∧ (ofX LL el.x2).length = k57 ∧ k57 ≤ cp58 ∧ cp58 ≤ maxLen) (fun w hT => Row.facts (hT.ok 0 _ rfl)) (fun hr60_ => ?_)
    obtain ⟨hr60_a, hr60_l, hr60_c, hr60_m⟩ := hr60_
    unfold maxLen at hr60_m
    refine drawn_next 2 [] (by kernel_rfl) ?_
    refine drawn_one 8 1 rfl (by kernel_rfl) ?_
    refine call_pure (d := 44) (.bool (decide ((ofL l el.x2) = (ofX LL el.x2)))) (by kernel_rfl) (fun w hT => refSame11 A49 g50 0 k51 cp52 (ofL l el.x2) A55 g56 0 k57 cp58 (ofX LL el.x2) w (hT.viewRo (.cons (i := 1) rfl Vw.rowRd (.cons (i := 0) rfl Vw.rowRd .nil)) rfl) (by omega)) ?_
    refine drawn_next 2 [] (by kernel_rfl) ?_
    refine takes 2 [] [(9, 0)] 0 [9, 8, 7, 3, 6, 2, 5, 4, 1, 0] [(1, .slice A n cap), (5, .pointer (pB tb1)), (6, .pointer (pB b2)), (7, iq (i : Int)), (9, .bool (decide ((ofL l el.x2) = (ofX LL el.x2)))), (25, iq (i : Int)), (26, .bool true)] (by kernel_rfl) (pok_blk (pok_then (pok_blk (pok_then (pok_then (pok_blk (pok_then pok_body))))))) (by kernel_rfl) rfl rfl (by kernel_rfl) (by kernel_rfl) ?_
    refine drawn_done (by kernel_rfl) ?_
    refine blk_normal ?_
    refine then_normal ?_
    refine cont_seq ?_
    refine drawn_enter 21 [] rfl (by kernel_rfl) ?_
    refine takes 0 [] [(0, 0), (1, 0), (2, 0)] 18 [2, 1, 0] [(1, .slice A n cap), (5, .pointer (pB tb1)), (6, .pointer (pB b2)), (7, iq (i : Int)), (25, iq (i : Int)), (26, .bool true), (109, .bool (!(decide ((ofL l el.x2) = (ofX LL el.x2)))))] (by kernel_rfl) (pok_then (pok_blk (pok_then (pok_then (pok_blk (pok_then pok_body)))))) (by kernel_rfl) rfl rfl (by kernel_rfl) (by kernel_rfl) ?_
    refine cont_recast 109 (.bool (!(decide ((ofL l el.x2) = (ofX LL el.x2))))) (.bool false) rfl (congrArg Value.bool (by rw [show (decide ((ofL l el.x2) = (ofX LL el.x2))) = true from (decide_eq_true (hrel.of _).symm)]; rfl)) ?_
    refine takes 0 [] [(3, 0), (5, 0), (6, 4), (7, 0)] 14 [7, 6, 5, 3, 2, 1, 0] [(1, .slice A n cap), (5, .pointer (pB tb1)), (6, .pointer (pB b2)), (7, iq (i : Int)), (25, iq (i : Int)), (26, .bool true), (109, .bool false), (110, .pointer (pB tb1)), (112, .pointer (some ⟨b2, 1, none⟩)), (113, .slice Ar kr cr), (114, iq (kr : Int))] (by kernel_rfl) (pok_then (pok_blk (pok_then (pok_then (pok_blk (pok_then pok_body)))))) (by kernel_rfl) rfl rfl (by kernel_rfl) (by kernel_rfl) ?_
    refine drawn_one 4 13 rfl (by kernel_rfl) ?_
    refine call_pure (d := 111) (iq (l.length : Int)) (by kernel_rfl) (fun w hT => idsLen tb1 tm1 rm1 l w (hT.viewRo (.cons (i := 5) rfl Vw.roc (.cons (i := 6) rfl Vw.mapRE .nil)) rfl) hlk) ?_
    refine drawn_next 0 [] (by kernel_rfl) ?_
    refine takes 0 [] [(8, 0), (9, 0), (10, 0)] 10 [10, 9, 8, 4, 7, 6, 5, 3, 2, 1, 0] [(1, .slice A n cap), (5, .pointer (pB tb1)), (6, .pointer (pB b2)), (7, iq (i : Int)), (25, iq (i : Int)), (26, .bool true), (110, .pointer (pB tb1)), (111, iq (l.length : Int)), (112, .pointer (some ⟨b2, 1, none⟩)), (113, .slice Ar kr cr), (114, iq (kr : Int)), (115, .bool ((l.length : Int) != (kr : Int))), (117, .bool ((l.length : Int) != (kr : Int)))] (by kernel_rfl) (pok_then (pok_blk (pok_then (pok_then (pok_blk (pok_then pok_body)))))) (by kernel_rfl) rfl rfl (by kernel_rfl) (by kernel_rfl) ?_
    refine cont_recast 117 (.bool ((l.length : Int) != (kr : Int))) (.bool false) rfl (congrArg Value.bool (by rw [show (l.length : Int) = (kr : Int) by (have h1_ := (hrel).len; omega)]; exact bne_self_eq_false _)) ?_
    refine cont_recast 115 (.bool ((l.length : Int) != (kr : Int))) (.bool false) rfl (congrArg Value.bool (by rw [show (l.length : Int) = (kr : Int) by (have h1_ := (hrel).len; omega)]; exact bne_self_eq_false _)) ?_
    refine takes 0 [] [(11, 0), (13, 0), (15, 0), (14, 4), (16, 4), (17, 0), (18, 0)] 3 [18, 17, 16, 14, 15, 13, 11, 10, 9, 8, 4, 7, 6, 5, 3, 2, 1, 0] [(1, .slice A n cap), (5, .pointer (pB tb1)), (6, .pointer (pB b2)), (7, iq (i : Int)), (25, iq (i : Int)), (26, .bool true), (110, .pointer (pB tb1)), (111, iq (l.length : Int)), (112, .pointer (some ⟨b2, 1, none⟩)), (113, .slice Ar kr cr), (114, iq (kr : Int)), (115, .bool false), (117, .bool false), (118, .pointer (pB tb1)), (120, .pointer (pB b2)), (121, iq rm1), (122, .pointer (some ⟨b2, 1, none⟩)), (123, .slice Ar kr cr), (124, iq (kr : Int)), (125, iq (IntKind.i64.wrap (rm1 - (kr : Int))))] (by kernel_rfl) (pok_then (pok_blk (pok_then (pok_then (pok_blk (pok_then pok_body)))))) (by kernel_rfl) rfl rfl (by kernel_rfl) (by kernel_rfl) ?_
    refine cont_recast 125 (iq (IntKind.i64.wrap (rm1 - (kr : Int)))) (iq (rm1 - (kr : Int))) rfl (wrapI (by omega) (by omega)) ?_
    refine drawn_one 12 2 rfl (by kernel_rfl) ?_
    refine call_pure (d := 119) (iq (rm1 - (l.length : Int))) (by kernel_rfl) (fun w hT => idsFree tb1 tm1 rm1 l w (hT.viewRo (.cons (i := 5) rfl Vw.roc (.cons (i := 6) rfl Vw.mapRE .nil)) rfl) hlk) ?_
    refine drawn_next 0 [] (by kernel_rfl) ?_
    refine takes 0 [] [(19, 0), (20, 0)] 0 [20, 19, 12, 18, 17, 16, 14, 15, 13, 11, 10, 9, 8, 4, 7, 6, 5, 3, 2, 1, 0] [(1, .slice A n cap), (5, .pointer (pB tb1)), (6, .pointer (pB b2)), (7, iq (i : Int)), (25, iq (i : Int)), (26, .bool true), (110, .pointer (pB tb1)), (111, iq (l.length : Int)), (112, .pointer (some ⟨b2, 1, none⟩)), (113, .slice Ar kr cr), (114, iq (kr : Int)), (115, .bool false), (118, .pointer (pB tb1)), (119, iq (rm1 - (l.length : Int))), (120, .pointer (pB b2)), (121, iq rm1), (122, .pointer (some ⟨b2, 1, none⟩)), (123, .slice Ar kr cr), (124, iq (kr : Int)), (125, iq (rm1 - (kr : Int))), (126, .bool ((rm1 - (l.length : Int)) != (rm1 - (kr : Int)))), (127, .bool ((rm1 - (l.length : Int)) != (rm1 - (kr : Int))))] (by kernel_rfl) (pok_then (pok_blk (pok_then (pok_then (pok_blk (pok_then pok_body)))))) (by kernel_rfl) rfl rfl (by kernel_rfl) (by kernel_rfl) ?_
    refine drawn_done (by kernel_rfl) ?_
    refine then_normal ?_
    refine cont_recast 127 (.bool ((rm1 - (l.length : Int)) != (rm1 - (kr : Int)))) (.bool false) rfl (congrArg Value.bool (by rw [show (rm1 - (l.length : Int)) = (rm1 - (kr : Int)) by (have h1_ := (hrel).len; omega)]; exact bne_self_eq_false _)) ?_
    refine cont_recast 126 (.bool ((rm1 - (l.length : Int)) != (rm1 - (kr : Int)))) (.bool false) rfl (congrArg Value.bool (by rw [show (rm1 - (l.length : Int)) = (rm1 - (kr : Int)) by (have h1_ := (hrel).len; omega)]; exact bne_self_eq_false _)) ?_
    refine cont_false rfl ?_
    refine cont_skip ?_
    refine blk_normal ?_
    refine then_normal ?_
    refine cont_region 3 rfl ?_
    refine bS [0, 0] 2 1 [(1, .slice A n cap), (5, .pointer (pB tb1)), (6, .pointer (pB b2)), (25, iq (i : Int)), (26, .bool true), (29, iq (IntKind.i64.wrap ((i : Int) + 1))), (110, .pointer (pB tb1)), (111, iq (l.length : Int)), (112, .pointer (some ⟨b2, 1, none⟩)), (113, .slice Ar kr cr), (114, iq (kr : Int)), (115, .bool false), (118, .pointer (pB tb1)), (119, iq (rm1 - (l.length : Int))), (120, .pointer (pB b2)), (121, iq rm1), (122, .pointer (some ⟨b2, 1, none⟩)), (123, .slice Ar kr cr), (124, iq (kr : Int)), (125, iq (rm1 - (kr : Int))), (126, .bool false)] ?_
    refine cont_recast 29 (iq (IntKind.i64.wrap ((i : Int) + 1))) (iq ((i : Int) + 1)) rfl (wrapI (by omega) (by omega)) ?_
    refine cont_forget 0 rfl ?_
    refine cont_forget 0 rfl ?_
    refine cont_forget 0 rfl ?_
    refine bS [0] 3 0 [(1, .slice A n cap), (5, .pointer (pB tb1)), (6, .pointer (pB b2)), (7, iq ((i : Int) + 1)), (25, iq (i : Int)), (26, .bool true), (110, .pointer (pB tb1)), (111, iq (l.length : Int)), (112, .pointer (some ⟨b2, 1, none⟩)), (113, .slice Ar kr cr), (114, iq (kr : Int)), (115, .bool false), (118, .pointer (pB tb1)), (119, iq (rm1 - (l.length : Int))), (120, .pointer (pB b2)), (121, iq rm1), (122, .pointer (some ⟨b2, 1, none⟩)), (123, .slice Ar kr cr), (124, iq (kr : Int)), (125, iq (rm1 - (kr : Int))), (126, .bool false)] ?_
    refine cont_done ?_
    refine then_normal ?_
    refine cont_pick [0, 1, 2, 3, 4] [.gen (rowE (Ar) gr kr cr 57 2 (dvals X11.cells LL) true), .cells b2 [iq rm1, .slice Ar kr cr] 41 true, .cells tb1 [iq rm1, .map (some tm1)] 54 true, .gen (mapE tm1 (imsV l) true), .gen (rdE (A) g o n 3 (dvals Deed11.cells xs))] (by decide) rfl rfl ?_
    refine cont_norm [(1, .slice A n cap), (5, .pointer (pB tb1)), (6, .pointer (pB b2)), (7, iq ((i : Int) + 1)), (25, iq (i : Int)), (26, .bool true), (110, .pointer (pB tb1)), (111, iq (l.length : Int)), (112, .pointer (some ⟨b2, 1, none⟩)), (113, .slice Ar kr cr), (114, iq (kr : Int)), (115, .bool false), (118, .pointer (pB tb1)), (119, iq (rm1 - (l.length : Int))), (120, .pointer (pB b2)), (121, iq rm1), (122, .pointer (some ⟨b2, 1, none⟩)), (123, .slice Ar kr cr), (124, iq (kr : Int)), (125, iq (rm1 - (kr : Int))), (126, .bool false)] _ (by kernel_rfl) rfl ?_
    refine cont_again (i + 1, l, LL, Ar, gr, kr, cr) (show (i + 1) ≤ n ∧ IdsOk rm1 (l) ∧ RelX (l) (LL) from ⟨by omega, hlk, hrel⟩) (show n - (i + 1) < n - i from by omega) (by kernel_rfl) (by kernel_rfl)
   refine cont_recast 26 (.bool (decide ((i : Int) < 60))) (.bool false) rfl (congrArg Value.bool c7_) ?_
   replace c7_ := of_decide_eq_false c7_
   refine cont_false rfl ?_
   refine cont_exit ?_
   refine then_exit ?_
   refine then_exit ?_
   refine blk_exit ?_
   refine then_normal ?_
   refine cont_seq ?_
   refine cont_region 2 rfl ?_
   refine pl_step 1 1 rfl rfl ?_
   refine call_pure (d := 128) (.bool true) (by kernel_rfl) (fun w hT => lives11  w) ?_
   refine bS [0] 2 0 [(4, .bool true)] ?_
   refine cont_forget 1 rfl ?_
   refine cont_forget 0 rfl ?_
   refine cont_forget 0 rfl ?_
   refine cont_done ?_
   refine then_normal ?_
   refine cont_ret ?_
   refine ret_one (.inl rfl) rfl 0 (.bool true) (by kernel_rfl) (by kernel_rfl) (fun w hT => ?_)
   exact ⟨rfl, hT.post rfl⟩
  replace c6_ := of_decide_eq_false c6_
  refine bS [0, 0, 0] 8 0 [(1, .slice A n cap), (5, .pointer (pB tb1)), (6, .pointer (pB b2)), (7, iq (i : Int)), (25, undef), (26, undef), (27, .bool false)] ?_
  refine cont_done ?_
  refine then_normal ?_
  refine cont_false rfl ?_
  refine cont_exit ?_
  refine then_exit ?_
  refine then_exit ?_
  refine blk_exit ?_
  refine then_normal ?_
  refine cont_seq ?_
  refine cont_region 2 rfl ?_
  refine pl_step 1 1 rfl rfl ?_
  refine call_pure (d := 128) (.bool true) (by kernel_rfl) (fun w hT => lives11  w) ?_
  refine bS [0] 2 0 [(4, .bool true)] ?_
  refine cont_forget 1 rfl ?_
  refine cont_forget 0 rfl ?_
  refine cont_forget 0 rfl ?_
  refine cont_done ?_
  refine then_normal ?_
  refine cont_ret ?_
  refine ret_one (.inl rfl) rfl 0 (.bool true) (by kernel_rfl) (by kernel_rfl) (fun w hT => ?_)
  exact ⟨rfl, hT.post rfl⟩

end Go.Proofs.Ytekgdfaggagfmaa

