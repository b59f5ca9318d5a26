/- Contracts of functions of the given program, printed by a program of this project. -/
import Derived.Test.YtlfahohbkgdabaaL2
import Derived.Test.YtlfahohbkgdabaaProg
set_option linter.unusedVariables false
set_option linter.unusedSimpArgs false
namespace Go.Proofs.Ytlfahohbkgdabaa
open Go Go.RowKit
set_option maxRecDepth 100000
set_option maxHeartbeats 8000000

theorem regBand (A : Option Addr) (g o n cap : Nat) (xs : List Rect) (A' : Option Addr) (g' o' n' cap' : Nat) (xs' : List Rect) (y y' : Int) (fk : FuncId) (kf : Bool → Bool → Bool) (w : World) (hT0 : Tab w w [.gen (rdE (A) g o n 4 (rvals xs)), .gen (rdE (A') g' o' n' 4 (rvals xs'))]) (hE : Enters Try.prog fk) (hf : ∀ (p q : Bool) (w : World), Calls Try.prog fk #[.bool p, .bool q] w fun e w' => e = .returned (.bool (kf p q)) ∧ Below w.heap.size w w') (hn : n + n' ≤ 262144) :
    Calls Try.prog 107 #[.slice A n cap, .slice A' n' cap', .int .i64 y, .int .i64 y', .func (.func fk) #[] #[]] w fun e w' => ∃ (A_ : Option Addr) (g_ k_ cp_ : Nat), e = .returned (.slice A_ k_ cp_) ∧ Tab w w' [.gen (rowE (A_) g_ k_ cp_ 53 4 (rvals (bandP kf xs xs' y y')) true)] := by
 obtain ⟨hra, hrl⟩ := Rd.factsR (hT0.ok 0 _ rfl)
 obtain ⟨hra', hrl'⟩ := Rd.factsR (hT0.ok 1 _ rfl)
 refine enter 90 [(0, .slice A n cap), (1, .slice A' n' cap'), (2, iq y), (3, iq y'), (4, .func (.func fk) #[] #[])] [.gen (rdE (A) g o n 4 (rvals xs)), .gen (rdE (A') g' o' n' 4 (rvals xs'))] Try.func107 rfl Try.ntmps107 rfl (by kernel_rfl) hT0 ?_
 refine cont_seq ?_
 refine cont_region 1 rfl ?_
 refine bS [0] 1 0 [(0, .slice A n cap), (1, .slice A' n' cap'), (2, iq y), (3, iq y'), (4, .func (.func fk) #[] #[])] ?_
 refine cont_done ?_
 refine then_normal ?_
 refine cont_seq ?_
 refine cont_region 8 rfl ?_
 refine bS [0, 0] 2 6 [(1, .slice A' n' cap'), (2, iq y), (3, iq y'), (4, .func (.func fk) #[] #[]), (15, .slice A n cap), (16, iq y)] ?_
 refine pl_step 3 5 rfl rfl ?_
 refine call_gen (d := 17) (α := Option Addr × Nat × Nat × Nat) (fun x_ => .slice x_.1 x_.2.2.1 x_.2.2.2) (fun x_ => [.gen (rowE (x_.1) x_.2.1 x_.2.2.1 x_.2.2.2 53 4 (rvals (acrossL xs y)) true), .gen (rdE (A) g o n 4 (rvals xs)), .gen (rdE (A') g' o' n' 4 (rvals xs'))]) (fun x_ => True) (by kernel_rfl) (fun w hT => (regAcross A g o n cap xs y w (hT.viewRo (.cons (i := 0) rfl Vw.rd .nil) rfl) (by omega)).mono fun e w' ⟨A1, g2, k3, cp4, he_, ht_⟩ => ⟨(A1, g2, k3, cp4), he_, trivial, hT.news ht_ rfl⟩) ?_
 rintro ⟨A1, g2, k3, cp4⟩ hf5_
 refine cont_norm [(1, .slice A' n' cap'), (2, iq y), (3, iq y'), (4, .func (.func fk) #[] #[]), (15, .slice A n cap), (16, iq y), (17, .slice A1 k3 cp4)] [.gen (rowE (A1) g2 k3 cp4 53 4 (rvals (acrossL xs y)) true), .gen (rdE (A) g o n 4 (rvals xs)), .gen (rdE (A') g' o' n' 4 (rvals xs'))] (by kernel_rfl) rfl ?_
 refine cont_fact (F := (0 < k3 → (A1 : Option Addr) = pB g2) ∧ (acrossL xs y).length = k3 ∧ k3 ≤ cp4 ∧ cp4 ≤ maxLen) (fun w hT => Row.factsR (hT.ok 0 _ rfl)) (fun hr6_ => ?_)
 obtain ⟨hr6_a, hr6_l, hr6_c, hr6_m⟩ := hr6_
 unfold maxLen at hr6_m
 refine bS [0, 0] 5 3 [(2, iq y), (3, iq y'), (4, .func (.func fk) #[] #[]), (17, .slice A1 k3 cp4), (18, .slice A' n' cap'), (19, iq y)] ?_
 refine pl_step 6 2 rfl rfl ?_
 refine call_gen (d := 20) (α := Option Addr × Nat × Nat × Nat) (fun x_ => .slice x_.1 x_.2.2.1 x_.2.2.2) (fun x_ => [.gen (rowE (x_.1) x_.2.1 x_.2.2.1 x_.2.2.2 53 4 (rvals (acrossL xs' y)) true), .gen (rowE (A1) g2 k3 cp4 53 4 (rvals (acrossL xs y)) true), .gen (rdE (A) g o n 4 (rvals xs)), .gen (rdE (A') g' o' n' 4 (rvals xs'))]) (fun x_ => True) (by kernel_rfl) (fun w hT => (regAcross A' g' o' n' cap' xs' y w (hT.viewRo (.cons (i := 2) rfl Vw.rd .nil) rfl) (by omega)).mono fun e w' ⟨A7, g8, k9, cp10, he_, ht_⟩ => ⟨(A7, g8, k9, cp10), he_, trivial, hT.news ht_ rfl⟩) ?_
 rintro ⟨A7, g8, k9, cp10⟩ hf11_
 refine cont_norm [(2, iq y), (3, iq y'), (4, .func (.func fk) #[] #[]), (17, .slice A1 k3 cp4), (18, .slice A' n' cap'), (19, iq y), (20, .slice A7 k9 cp10)] [.gen (rowE (A7) g8 k9 cp10 53 4 (rvals (acrossL xs' y)) true), .gen (rowE (A1) g2 k3 cp4 53 4 (rvals (acrossL xs y)) true), .gen (rdE (A) g o n 4 (rvals xs)), .gen (rdE (A') g' o' n' 4 (rvals xs'))] (by kernel_rfl) rfl ?_
 refine cont_fact (F := (0 < k9 → (A7 : Option Addr) = pB g8) ∧ (acrossL xs' y).length = k9 ∧ k9 ≤ cp10 ∧ cp10 ≤ maxLen) (fun w hT => Row.factsR (hT.ok 0 _ rfl)) (fun hr12_ => ?_)
 obtain ⟨hr12_a, hr12_l, hr12_c, hr12_m⟩ := hr12_
 unfold maxLen at hr12_m
 refine bS [0, 0] 8 0 [(0, .slice A1 k3 cp4), (1, .slice A7 k9 cp10), (2, iq y), (3, iq y'), (4, .func (.func fk) #[] #[])] ?_
 refine cont_done ?_
 refine then_normal ?_
 refine cont_seq ?_
 refine cont_region 5 rfl ?_
 obtain ⟨AA, hAA⟩ : ∃ y_ : List Rect, y_ = (acrossL xs y) := ⟨_, rfl⟩
 refine cont_rowEqR 1 (acrossL xs y) (AA) rfl hAA.symm ?_
 refine cont_fact (F := (0 < k3 → (A1 : Option Addr) = pB g2) ∧ AA.length = k3 ∧ k3 ≤ cp4 ∧ cp4 ≤ maxLen) (fun w hT => Row.factsR (hT.ok 1 _ rfl)) (fun hr13_ => ?_)
 obtain ⟨hr13_a, hr13_l, hr13_c, hr13_m⟩ := hr13_
 unfold maxLen at hr13_m
 obtain ⟨BB, hBB⟩ : ∃ y_ : List Rect, y_ = (acrossL xs' y) := ⟨_, rfl⟩
 refine cont_rowEqR 0 (acrossL xs' y) (BB) rfl hBB.symm ?_
 refine cont_fact (F := (0 < k9 → (A7 : Option Addr) = pB g8) ∧ BB.length = k9 ∧ k9 ≤ cp10 ∧ cp10 ≤ maxLen) (fun w hT => Row.factsR (hT.ok 0 _ rfl)) (fun hr14_ => ?_)
 obtain ⟨hr14_a, hr14_l, hr14_c, hr14_m⟩ := hr14_
 unfold maxLen at hr14_m
 have hbA := acrossL_length xs y
 have hbB := acrossL_length xs' y
 refine batch1 [0, 0, 0] 3 2 (fun b15 => [(0, .slice A1 k3 cp4), (1, .slice A7 k9 cp10), (2, iq y), (3, iq y'), (4, .func (.func fk) #[] #[]), (23, .slice (pB b15) 2 2)]) (fun b15 => [.cells b15 [.slice A1 k3 cp4, .slice A7 k9 cp10] 58 true, .gen (rowE (A7) g8 k9 cp10 53 4 (rvals BB) true), .gen (rowE (A1) g2 k3 cp4 53 4 (rvals AA) true), .gen (rdE (A) g o n 4 (rvals xs)), .gen (rdE (A') g' o' n' 4 (rvals xs'))]) rfl rfl [0, 1, 2, 3, 4, 23] (fun _ => rfl) (fun b15 => by kernel_rfl) (fun b15 => by kernel_rfl) (fun b15 => ?_)
 refine pl_step 4 1 rfl rfl ?_
 refine call_gen (d := 24) (α := Option Addr × Nat × Nat × Nat) (fun x_ => .slice x_.1 x_.2.2.1 x_.2.2.2) (fun x_ => [.gen (rowE (x_.1) x_.2.1 x_.2.2.1 x_.2.2.2 3 1 (ivals .i64 (gridL (evX AA ++ evX BB))) true), .cells b15 [.slice A1 k3 cp4, .slice A7 k9 cp10] 58 true, .gen (rowE (A7) g8 k9 cp10 53 4 (rvals BB) true), .gen (rowE (A1) g2 k3 cp4 53 4 (rvals AA) true), .gen (rdE (A) g o n 4 (rvals xs)), .gen (rdE (A') g' o' n' 4 (rvals xs'))]) (fun x_ => True) (by kernel_rfl) (fun w hT => (regEdges 119 (fun r : Rect => r.x0) (fun r : Rect => r.x1) b15 A1 g2 0 k3 cp4 AA A7 g8 0 k9 cp10 BB w (hT.viewRo (.cons (i := 0) rfl Vw.roc (.cons (i := 2) rfl Vw.rowRd (.cons (i := 1) rfl Vw.rowRd .nil))) rfl) (fun _ => by kernel_rfl) (fun r w => sideX r.x0 r.y0 r.x1 r.y1 w) (by omega)).mono fun e w' ⟨A16, g17, k18, cp19, he_, ht_⟩ => ⟨(A16, g17, k18, cp19), he_, trivial, hT.news ht_ rfl⟩) ?_
 rintro ⟨A16, g17, k18, cp19⟩ hf20_
 refine cont_norm [(0, .slice A1 k3 cp4), (1, .slice A7 k9 cp10), (2, iq y), (3, iq y'), (4, .func (.func fk) #[] #[]), (23, .slice (pB b15) 2 2), (24, .slice A16 k18 cp19)] [.gen (rowE (A16) g17 k18 cp19 3 1 (ivals .i64 (gridL (evX AA ++ evX BB))) true), .cells b15 [.slice A1 k3 cp4, .slice A7 k9 cp10] 58 true, .gen (rowE (A7) g8 k9 cp10 53 4 (rvals BB) true), .gen (rowE (A1) g2 k3 cp4 53 4 (rvals AA) true), .gen (rdE (A) g o n 4 (rvals xs)), .gen (rdE (A') g' o' n' 4 (rvals xs'))] (by kernel_rfl) rfl ?_
 refine cont_fact (F := (0 < k18 → (A16 : Option Addr) = pB g17) ∧ (gridL (evX AA ++ evX BB)).length = k18 ∧ k18 ≤ cp19 ∧ cp19 ≤ maxLen) (fun w hT => Row.facts (hT.ok 0 _ rfl)) (fun hr21_ => ?_)
 obtain ⟨hr21_a, hr21_l, hr21_c, hr21_m⟩ := hr21_
 unfold maxLen at hr21_m
 refine bS [0] 5 0 [(0, .slice A1 k3 cp4), (1, .slice A7 k9 cp10), (2, iq y), (3, iq y'), (4, .func (.func fk) #[] #[]), (11, .slice A16 k18 cp19)] ?_
 refine cont_forget 1 rfl ?_
 refine cont_done ?_
 refine then_normal ?_
 refine cont_seq ?_
 refine cont_region 1 rfl ?_
 obtain ⟨XS, hXS⟩ : ∃ y_ : List Int, y_ = (gridL (evX AA ++ evX BB)) := ⟨_, rfl⟩
 refine cont_rowEq (k := .i64) 0 (gridL (evX AA ++ evX BB)) (XS) rfl hXS.symm ?_
 refine cont_fact (F := (0 < k18 → (A16 : Option Addr) = pB g17) ∧ XS.length = k18 ∧ k18 ≤ cp19 ∧ cp19 ≤ maxLen) (fun w hT => Row.facts (hT.ok 0 _ rfl)) (fun hr22_ => ?_)
 obtain ⟨hr22_a, hr22_l, hr22_c, hr22_m⟩ := hr22_
 unfold maxLen at hr22_m
 have hbX : XS.length ≤ 2 * (n + n') := by have := xsP_length xs xs' y; rw [hXS, hAA, hBB]; unfold xsP at this; omega
 refine bS [0] 1 0 [(0, .slice A1 k3 cp4), (1, .slice A7 k9 cp10), (2, iq y), (3, iq y'), (4, .func (.func fk) #[] #[]), (11, .slice A16 k18 cp19), (12, .slice none 0 0)] ?_
 refine cont_done ?_
 refine then_normal ?_
 refine cont_seq ?_
 refine cont_seq ?_
 refine cont_region 5 rfl ?_
 refine bS [0, 0, 0] 3 2 [(0, .slice A1 k3 cp4), (1, .slice A7 k9 cp10), (2, iq y), (3, iq y'), (4, .func (.func fk) #[] #[]), (11, .slice A16 k18 cp19), (12, .slice none 0 0), (27, iq (IntKind.i64.wrap ((k18 : Int) - 1)))] ?_
 refine cont_recast 27 (iq (IntKind.i64.wrap ((k18 : Int) - 1))) (iq ((k18 : Int) - 1)) rfl (wrapI (by omega) (by omega)) ?_
 refine bS [0, 0] 5 0 [(0, .slice A1 k3 cp4), (1, .slice A7 k9 cp10), (2, iq y), (3, iq y'), (4, .func (.func fk) #[] #[]), (11, .slice A16 k18 cp19), (12, .slice none 0 0), (28, iq (mx ((k18 : Int) - 1) 0)), (29, iq 0)] ?_
 refine cont_done ?_
 refine then_normal ?_
 refine cont_block ?_
 refine cont_recast 28 (iq (mx ((k18 : Int) - 1) 0)) (iq ((XS.length - 1 : Nat) : Int)) rfl (congrArg (Value.int .i64) (by unfold mx; omega)) ?_
 refine cont_nilrow 53 4 ?_
 refine cont_norm [(0, .slice A1 k3 cp4), (1, .slice A7 k9 cp10), (2, iq y), (3, iq y'), (4, .func (.func fk) #[] #[]), (11, .slice A16 k18 cp19), (12, .slice none 0 0), (28, iq ((XS.length - 1 : Nat) : Int)), (29, iq 0)] [.gen (rowE (none) 0 0 0 53 4 (rvals []) true), .gen (rowE (A16) g17 k18 cp19 3 1 (ivals .i64 XS) true), .gen (rowE (A7) g8 k9 cp10 53 4 (rvals BB) true), .gen (rowE (A1) g2 k3 cp4 53 4 (rvals AA) true), .gen (rdE (A) g o n 4 (rvals xs)), .gen (rdE (A') g' o' n' 4 (rvals xs'))] (by kernel_rfl) rfl ?_
 refine cont_rowEqR 0 ([]) (ownL (bandF kf AA BB) y y' XS 0) rfl rfl ?_
 refine cont_loop (α := Nat × Nat × Option Addr × Nat × Nat) (fun x_ : Nat × Nat × Option Addr × Nat × Nat => x_.1 ≤ XS.length - 1 ∧ x_.2.1 ≤ x_.1) (fun x_ : Nat × Nat × Option Addr × Nat × Nat => [(0, .slice A1 k3 cp4), (1, .slice A7 k9 cp10), (2, iq y), (3, iq y'), (4, .func (.func fk) #[] #[]), (11, .slice A16 k18 cp19), (12, .slice x_.2.2.1 x_.2.1 x_.2.2.2.2), (28, iq ((XS.length - 1 : Nat) : Int)), (29, iq (x_.1 : Int))]) (fun x_ : Nat × Nat × Option Addr × Nat × Nat => [.gen (rowE (x_.2.2.1) x_.2.2.2.1 x_.2.1 x_.2.2.2.2 53 4 (rvals (ownL (bandF kf AA BB) y y' XS x_.1)) true), .gen (rowE (A16) g17 k18 cp19 3 1 (ivals .i64 XS) true), .gen (rowE (A7) g8 k9 cp10 53 4 (rvals BB) true), .gen (rowE (A1) g2 k3 cp4 53 4 (rvals AA) true), .gen (rdE (A) g o n 4 (rvals xs)), .gen (rdE (A') g' o' n' 4 (rvals xs'))]) (fun x_ : Nat × Nat × Option Addr × Nat × Nat => XS.length - 1 - x_.1) (0, 0, none, 0, 0) (show (0) ≤ XS.length - 1 ∧ (0) ≤ (0) from ⟨by omega, by omega⟩) (by kernel_rfl) (by kernel_rfl) ?_
 rintro ⟨i, kq, Aq, gq, cq⟩ hinv24_
 replace hinv24_ : i ≤ XS.length - 1 ∧ kq ≤ i := hinv24_
 refine cont_norm [(0, .slice A1 k3 cp4), (1, .slice A7 k9 cp10), (2, iq y), (3, iq y'), (4, .func (.func fk) #[] #[]), (11, .slice A16 k18 cp19), (12, .slice Aq kq cq), (28, iq ((XS.length - 1 : Nat) : Int)), (29, iq (i : Int))] [.gen (rowE (Aq) gq kq cq 53 4 (rvals (ownL (bandF kf AA BB) y y' XS i)) true), .gen (rowE (A16) g17 k18 cp19 3 1 (ivals .i64 XS) true), .gen (rowE (A7) g8 k9 cp10 53 4 (rvals BB) true), .gen (rowE (A1) g2 k3 cp4 53 4 (rvals AA) true), .gen (rdE (A) g o n 4 (rvals xs)), .gen (rdE (A') g' o' n' 4 (rvals xs'))] (by kernel_rfl) rfl ?_
 obtain ⟨hi, hk⟩ := hinv24_
 refine cont_seq ?_
 refine cont_region 1 rfl ?_
 refine bS [0] 1 0 [(0, .slice A1 k3 cp4), (1, .slice A7 k9 cp10), (2, iq y), (3, iq y'), (4, .func (.func fk) #[] #[]), (11, .slice A16 k18 cp19), (12, .slice Aq kq cq), (28, iq ((XS.length - 1 : Nat) : Int)), (29, iq (i : Int)), (30, .bool (decide ((i : Int) < ((XS.length - 1 : Nat) : Int))))] ?_
 refine cont_done ?_
 refine then_normal ?_
 refine cont_seq ?_
 refine cont_split 30 (decide ((i : Int) < ((XS.length - 1 : Nat) : Int))) rfl (fun c25_ => ?_) (fun c25_ => ?_)
 ·
  replace c25_ := of_decide_eq_true c25_
  refine cont_true rfl ?_
  refine cont_skip ?_
  refine then_normal ?_
  refine cont_seq ?_
  refine cont_block ?_
  refine cont_seq ?_
  refine cont_region 2 rfl ?_
  refine bS [0, 0] 2 0 [(0, .slice A1 k3 cp4), (1, .slice A7 k9 cp10), (2, iq y), (3, iq y'), (4, .func (.func fk) #[] #[]), (11, .slice A16 k18 cp19), (12, .slice Aq kq cq), (13, iq (i : Int)), (28, iq ((XS.length - 1 : Nat) : Int)), (29, iq (i : Int))] ?_
  refine cont_done ?_
  refine then_normal ?_
  refine cont_seq ?_
  refine cont_seq ?_
  refine drawn_enter 15 [] rfl (by kernel_rfl) ?_
  refine takes 0 [] [(0, 0), (1, 0), (2, 0), (3, 0), (7, 0), (8, 0), (9, 0)] 8 [9, 8, 7, 3, 2, 1, 0] [(0, .slice A1 k3 cp4), (1, .slice A7 k9 cp10), (2, iq y), (3, iq y'), (4, .func (.func fk) #[] #[]), (11, .slice A16 k18 cp19), (12, .slice Aq kq cq), (13, iq (i : Int)), (28, iq ((XS.length - 1 : Nat) : Int)), (29, iq (i : Int)), (32, .func (.func fk) #[] #[]), (33, .slice A1 k3 cp4), (34, .slice A16 k18 cp19), (35, iq (i : Int)), (39, .slice A7 k9 cp10), (40, .slice A16 k18 cp19), (41, iq (i : Int))] (by kernel_rfl) (pok_then (pok_then (pok_blk (pok_then (pok_then (pok_blk (pok_then pok_body))))))) (by kernel_rfl) rfl rfl (by kernel_rfl) (by kernel_rfl) ?_
  refine cont_recast 34 (.slice A16 k18 cp19) (.slice (pB g17) k18 cp19) rfl (by rw [hr22_a (by omega)]) ?_
  refine sem_take 0 [] 4 7 36 (Instr.indexAt 34 (.slice (pB g17) k18 cp19) (iq (i : Int))) (.pointer (some ⟨g17, i, none⟩)) (by kernel_rfl) (pok_then (pok_then (pok_blk (pok_then (pok_then (pok_blk (pok_then pok_body))))))) (by kernel_rfl) rfl (by kernel_rfl) (by kernel_rfl) (fun w hT => run_indexAt (e := 3) (sz := 1) _ (by kernel_rfl) (by kernel_rfl) (by omega) (by omega) (by omega) w) ?_
  refine sem_take 0 [] 5 6 37 (Instr.loadAt 3 (.pointer (some ⟨g17, i, none⟩))) (iq (XS.getD i 0)) (by kernel_rfl) (pok_then (pok_then (pok_blk (pok_then (pok_then (pok_blk (pok_then pok_body))))))) (by kernel_rfl) rfl (by kernel_rfl) (by kernel_rfl) (fun w hT => run_load1 (by kernel_rfl) (Row.cell (hT 1 _ rfl) (i) _ (ivals_get (by omega)))) ?_
  refine cont_recast 40 (.slice A16 k18 cp19) (.slice (pB g17) k18 cp19) rfl (by rw [hr22_a (by omega)]) ?_
  refine sem_take 0 [] 10 5 42 (Instr.indexAt 34 (.slice (pB g17) k18 cp19) (iq (i : Int))) (.pointer (some ⟨g17, i, none⟩)) (by kernel_rfl) (pok_then (pok_then (pok_blk (pok_then (pok_then (pok_blk (pok_then pok_body))))))) (by kernel_rfl) rfl (by kernel_rfl) (by kernel_rfl) (fun w hT => run_indexAt (e := 3) (sz := 1) _ (by kernel_rfl) (by kernel_rfl) (by omega) (by omega) (by omega) w) ?_
  refine sem_take 0 [] 11 4 43 (Instr.loadAt 3 (.pointer (some ⟨g17, i, none⟩))) (iq (XS.getD i 0)) (by kernel_rfl) (pok_then (pok_then (pok_blk (pok_then (pok_then (pok_blk (pok_then pok_body))))))) (by kernel_rfl) rfl (by kernel_rfl) (by kernel_rfl) (fun w hT => run_load1 (by kernel_rfl) (Row.cell (hT 1 _ rfl) (i) _ (ivals_get (by omega)))) ?_
  refine drawn_one 6 3 rfl (by kernel_rfl) ?_
  refine call_pure (d := 38) (.bool (hasXL AA (XS.getD i 0))) (by kernel_rfl) (fun w hT => regHasX A1 g2 0 k3 cp4 AA (XS.getD i 0) w (hT.viewRo (.cons (i := 3) rfl Vw.rowRd .nil) rfl) (by omega)) ?_
  refine drawn_next 0 [] (by kernel_rfl) ?_
  refine drawn_one 12 2 rfl (by kernel_rfl) ?_
  refine call_pure (d := 44) (.bool (hasXL BB (XS.getD i 0))) (by kernel_rfl) (fun w hT => regHasX A7 g8 0 k9 cp10 BB (XS.getD i 0) w (hT.viewRo (.cons (i := 2) rfl Vw.rowRd .nil) rfl) (by omega)) ?_
  refine drawn_next 0 [] (by kernel_rfl) ?_
  refine drawn_one 13 1 rfl (by kernel_rfl) ?_
  refine call_pureF (d := 45) (.bool (kf (hasXL AA (XS.getD i 0)) (hasXL BB (XS.getD i 0)))) (by kernel_rfl) hE (fun w hT => hf (hasXL AA (XS.getD i 0)) (hasXL BB (XS.getD i 0)) w) ?_
  refine drawn_next 0 [] (by kernel_rfl) ?_
  refine takes 0 [] [(14, 0)] 0 [14, 13, 12, 6, 11, 10, 5, 4, 9, 8, 7, 3, 2, 1, 0] [(0, .slice A1 k3 cp4), (1, .slice A7 k9 cp10), (2, iq y), (3, iq y'), (4, .func (.func fk) #[] #[]), (11, .slice A16 k18 cp19), (12, .slice Aq kq cq), (13, iq (i : Int)), (28, iq ((XS.length - 1 : Nat) : Int)), (29, iq (i : Int)), (46, .bool (!(kf (hasXL AA (XS.getD i 0)) (hasXL BB (XS.getD i 0)))))] (by kernel_rfl) (pok_then (pok_then (pok_blk (pok_then (pok_then (pok_blk (pok_then pok_body))))))) (by kernel_rfl) rfl rfl (by kernel_rfl) (by kernel_rfl) ?_
  refine drawn_done (by kernel_rfl) ?_
  refine then_normal ?_
  refine cont_split 46 (!(kf (hasXL AA (XS.getD i 0)) (hasXL BB (XS.getD i 0)))) rfl (fun c26_ => ?_) (fun c26_ => ?_)
  ·
   replace c26_ : (kf (hasXL AA (XS.getD i 0)) (hasXL BB (XS.getD i 0))) = false := by simpa using c26_
   have hkeep_ : kf (hasXL AA (XS.getD i 0)) (hasXL BB (XS.getD i 0)) = false := c26_
   refine cont_true rfl ?_
   refine cont_exit ?_
   refine then_exit ?_
   refine blk_exit ?_
   refine then_normal ?_
   refine cont_region 2 rfl ?_
   refine bS [0] 1 1 [(0, .slice A1 k3 cp4), (1, .slice A7 k9 cp10), (2, iq y), (3, iq y'), (4, .func (.func fk) #[] #[]), (11, .slice A16 k18 cp19), (12, .slice Aq kq cq), (28, iq ((XS.length - 1 : Nat) : Int)), (88, iq (IntKind.i64.wrap ((i : Int) + 1)))] ?_
   refine cont_recast 88 (iq (IntKind.i64.wrap ((i : Int) + 1))) (iq ((i : Int) + 1)) rfl (wrapI (by omega) (by omega)) ?_
   refine bS [0] 2 0 [(0, .slice A1 k3 cp4), (1, .slice A7 k9 cp10), (2, iq y), (3, iq y'), (4, .func (.func fk) #[] #[]), (11, .slice A16 k18 cp19), (12, .slice Aq kq cq), (28, iq ((XS.length - 1 : Nat) : Int)), (29, iq ((i : Int) + 1))] ?_
   refine cont_done ?_
   refine then_normal ?_
   refine cont_rowEqR 0 (ownL (bandF kf AA BB) y y' XS i) (ownL (bandF kf AA BB) y y' XS (i + 1)) rfl (ownL_skip (f := bandF kf AA BB) hkeep_) ?_
   refine cont_again (i + 1, kq, Aq, gq, cq) (show (i + 1) ≤ XS.length - 1 ∧ (kq) ≤ (i + 1) from ⟨by omega, by omega⟩) (show XS.length - 1 - (i + 1) < XS.length - 1 - i from by omega) (by kernel_rfl) (by kernel_rfl)
  replace c26_ : (kf (hasXL AA (XS.getD i 0)) (hasXL BB (XS.getD i 0))) = true := by simpa using c26_
  have hkeep_ : kf (hasXL AA (XS.getD i 0)) (hasXL BB (XS.getD i 0)) = true := c26_
  refine cont_false rfl ?_
  refine cont_skip ?_
  refine then_normal ?_
  refine cont_seq ?_
  refine cont_seq ?_
  refine cont_region 4 rfl ?_
  refine cont_fact (F := (0 < kq → (Aq : Option Addr) = pB gq) ∧ (ownL (bandF kf AA BB) y y' XS i).length = kq ∧ kq ≤ cq ∧ cq ≤ maxLen) (fun w hT => Row.factsR (hT.ok 0 _ rfl)) (fun hr27_ => ?_)
  obtain ⟨hr27_a, hr27_l, hr27_c, hr27_m⟩ := hr27_
  unfold maxLen at hr27_m
  refine bS [0, 0, 0] 3 1 [(0, .slice A1 k3 cp4), (1, .slice A7 k9 cp10), (2, iq y), (3, iq y'), (4, .func (.func fk) #[] #[]), (11, .slice A16 k18 cp19), (12, .slice Aq kq cq), (13, iq (i : Int)), (28, iq ((XS.length - 1 : Nat) : Int)), (29, iq (i : Int)), (49, iq (IntKind.i64.wrap ((kq : Int) - 1)))] ?_
  refine cont_recast 49 (iq (IntKind.i64.wrap ((kq : Int) - 1))) (iq ((kq : Int) - 1)) rfl (wrapI (by omega) (by omega)) ?_
  refine bS [0] 4 0 [(0, .slice A1 k3 cp4), (1, .slice A7 k9 cp10), (2, iq y), (3, iq y'), (4, .func (.func fk) #[] #[]), (11, .slice A16 k18 cp19), (12, .slice Aq kq cq), (13, iq (i : Int)), (14, iq ((kq : Int) - 1)), (28, iq ((XS.length - 1 : Nat) : Int)), (29, iq (i : Int))] ?_
  refine cont_done ?_
  refine then_normal ?_
  refine cont_seq ?_
  refine drawn_enter 14 [] rfl (by kernel_rfl) ?_
  refine takes 0 [] [(0, 0), (1, 0), (2, 0)] 11 [2, 1, 0] [(0, .slice A1 k3 cp4), (1, .slice A7 k9 cp10), (2, iq y), (3, iq y'), (4, .func (.func fk) #[] #[]), (11, .slice A16 k18 cp19), (12, .slice Aq kq cq), (13, iq (i : Int)), (14, iq ((kq : Int) - 1)), (28, iq ((XS.length - 1 : Nat) : Int)), (29, iq (i : Int)), (52, .bool (decide (((kq : Int) - 1) ≥ 0)))] (by kernel_rfl) (pok_then (pok_then (pok_blk (pok_then (pok_then (pok_blk (pok_then pok_body))))))) (by kernel_rfl) rfl rfl (by kernel_rfl) (by kernel_rfl) ?_
  refine cont_split 52 (decide (((kq : Int) - 1) ≥ 0)) rfl (fun c28_ => ?_) (fun c28_ => ?_)
  ·
   replace c28_ := of_decide_eq_true c28_
   refine takes 0 [] [(3, 0), (4, 0), (8, 0), (9, 0)] 7 [9, 8, 4, 3, 2, 1, 0] [(0, .slice A1 k3 cp4), (1, .slice A7 k9 cp10), (2, iq y), (3, iq y'), (4, .func (.func fk) #[] #[]), (11, .slice A16 k18 cp19), (12, .slice Aq kq cq), (13, iq (i : Int)), (14, iq ((kq : Int) - 1)), (28, iq ((XS.length - 1 : Nat) : Int)), (29, iq (i : Int)), (52, .bool true), (53, .slice Aq kq cq), (54, iq ((kq : Int) - 1)), (58, .slice A16 k18 cp19), (59, iq (i : Int))] (by kernel_rfl) (pok_then (pok_then (pok_blk (pok_then (pok_then (pok_blk (pok_then pok_body))))))) (by kernel_rfl) rfl rfl (by kernel_rfl) (by kernel_rfl) ?_
   refine cont_recast 53 (.slice Aq kq cq) (.slice (pB gq) kq cq) rfl (by rw [hr27_a (by omega)]) ?_
   refine sem_take 0 [] 5 6 55 (Instr.indexAt 58 (.slice (pB gq) kq cq) (iq ((kq : Int) - 1))) (.pointer (some ⟨gq, (Int.toNat ((kq : Int) - 1)) * 4, none⟩)) (by kernel_rfl) (pok_then (pok_then (pok_blk (pok_then (pok_then (pok_blk (pok_then pok_body))))))) (by kernel_rfl) rfl (by kernel_rfl) (by kernel_rfl) (fun w hT => run_indexAt (e := 53) (sz := 4) _ (by kernel_rfl) (by kernel_rfl) (by omega) (by omega) (by omega) w) ?_
   refine takes 0 [] [(6, 0)] 5 [6, 5, 9, 8, 4, 3, 2, 1, 0] [(0, .slice A1 k3 cp4), (1, .slice A7 k9 cp10), (2, iq y), (3, iq y'), (4, .func (.func fk) #[] #[]), (11, .slice A16 k18 cp19), (12, .slice Aq kq cq), (13, iq (i : Int)), (14, iq ((kq : Int) - 1)), (28, iq ((XS.length - 1 : Nat) : Int)), (29, iq (i : Int)), (52, .bool true), (53, .slice (pB gq) kq cq), (54, iq ((kq : Int) - 1)), (55, .pointer (some ⟨gq, (Int.toNat ((kq : Int) - 1)) * 4, none⟩)), (56, .pointer (some ⟨gq, (Int.toNat ((kq : Int) - 1)) * 4 + 2, none⟩)), (58, .slice A16 k18 cp19), (59, iq (i : Int))] (by kernel_rfl) (pok_then (pok_then (pok_blk (pok_then (pok_then (pok_blk (pok_then pok_body))))))) (by kernel_rfl) rfl rfl (by kernel_rfl) (by kernel_rfl) ?_
   refine sem_take 0 [] 7 4 57 (Instr.loadAt 3 (.pointer (some ⟨gq, (Int.toNat ((kq : Int) - 1)) * 4 + 2, none⟩))) (iq ((rget (ownL (bandF kf AA BB) y y' XS i) (Int.toNat ((kq : Int) - 1))).x1)) (by kernel_rfl) (pok_then (pok_then (pok_blk (pok_then (pok_then (pok_blk (pok_then pok_body))))))) (by kernel_rfl) rfl (by kernel_rfl) (by kernel_rfl) (fun w hT => run_load1 (by kernel_rfl) (Rd.cellF0 (Row.rd (hT 0 _ rfl)) (Int.toNat ((kq : Int) - 1)) 2 _ (by omega) rfl)) ?_
   refine cont_recast 58 (.slice A16 k18 cp19) (.slice (pB g17) k18 cp19) rfl (by rw [hr22_a (by omega)]) ?_
   refine sem_take 0 [] 10 3 60 (Instr.indexAt 34 (.slice (pB g17) k18 cp19) (iq (i : Int))) (.pointer (some ⟨g17, i, none⟩)) (by kernel_rfl) (pok_then (pok_then (pok_blk (pok_then (pok_then (pok_blk (pok_then pok_body))))))) (by kernel_rfl) rfl (by kernel_rfl) (by kernel_rfl) (fun w hT => run_indexAt (e := 3) (sz := 1) _ (by kernel_rfl) (by kernel_rfl) (by omega) (by omega) (by omega) w) ?_
   refine sem_take 0 [] 11 2 61 (Instr.loadAt 3 (.pointer (some ⟨g17, i, none⟩))) (iq (XS.getD i 0)) (by kernel_rfl) (pok_then (pok_then (pok_blk (pok_then (pok_then (pok_blk (pok_then pok_body))))))) (by kernel_rfl) rfl (by kernel_rfl) (by kernel_rfl) (fun w hT => run_load1 (by kernel_rfl) (Row.cell (hT 1 _ rfl) (i) _ (ivals_get (by omega)))) ?_
   refine takes 0 [] [(12, 0), (13, 0)] 0 [13, 12, 11, 10, 7, 6, 5, 9, 8, 4, 3, 2, 1, 0] [(0, .slice A1 k3 cp4), (1, .slice A7 k9 cp10), (2, iq y), (3, iq y'), (4, .func (.func fk) #[] #[]), (11, .slice A16 k18 cp19), (12, .slice Aq kq cq), (13, iq (i : Int)), (14, iq ((kq : Int) - 1)), (28, iq ((XS.length - 1 : Nat) : Int)), (29, iq (i : Int)), (53, .slice (pB gq) kq cq), (54, iq ((kq : Int) - 1)), (55, .pointer (some ⟨gq, (Int.toNat ((kq : Int) - 1)) * 4, none⟩)), (56, .pointer (some ⟨gq, (Int.toNat ((kq : Int) - 1)) * 4 + 2, none⟩)), (57, iq ((rget (ownL (bandF kf AA BB) y y' XS i) (Int.toNat ((kq : Int) - 1))).x1)), (58, .slice (pB g17) k18 cp19), (59, iq (i : Int)), (60, .pointer (some ⟨g17, i, none⟩)), (61, iq (XS.getD i 0)), (62, .bool (((rget (ownL (bandF kf AA BB) y y' XS i) (Int.toNat ((kq : Int) - 1))).x1) == (XS.getD i 0))), (63, .bool (((rget (ownL (bandF kf AA BB) y y' XS i) (Int.toNat ((kq : Int) - 1))).x1) == (XS.getD i 0)))] (by kernel_rfl) (pok_then (pok_then (pok_blk (pok_then (pok_then (pok_blk (pok_then pok_body))))))) (by kernel_rfl) rfl rfl (by kernel_rfl) (by kernel_rfl) ?_
   refine drawn_done (by kernel_rfl) ?_
   refine then_normal ?_
   refine cont_split 63 (((rget (ownL (bandF kf AA BB) y y' XS i) (Int.toNat ((kq : Int) - 1))).x1) == (XS.getD i 0)) rfl (fun c29_ => ?_) (fun c29_ => ?_)
   ·
    refine cont_recast 62 (.bool (((rget (ownL (bandF kf AA BB) y y' XS i) (Int.toNat ((kq : Int) - 1))).x1) == (XS.getD i 0))) (.bool true) rfl (congrArg Value.bool c29_) ?_
    replace c29_ := eq_of_beqt c29_
    refine cont_true rfl ?_
    refine cont_seq ?_
    refine cont_region 10 rfl ?_
    refine bS [0, 0, 0, 0, 0] 5 5 [(0, .slice A1 k3 cp4), (1, .slice A7 k9 cp10), (2, iq y), (3, iq y'), (4, .func (.func fk) #[] #[]), (11, .slice A16 k18 cp19), (12, .slice Aq kq cq), (28, iq ((XS.length - 1 : Nat) : Int)), (29, iq (i : Int)), (53, .slice (pB gq) kq cq), (54, iq ((kq : Int) - 1)), (55, .pointer (some ⟨gq, (Int.toNat ((kq : Int) - 1)) * 4, none⟩)), (56, .pointer (some ⟨gq, (Int.toNat ((kq : Int) - 1)) * 4 + 2, none⟩)), (57, iq ((rget (ownL (bandF kf AA BB) y y' XS i) (Int.toNat ((kq : Int) - 1))).x1)), (58, .slice (pB g17) k18 cp19), (59, iq (i : Int)), (60, .pointer (some ⟨g17, i, none⟩)), (61, iq (XS.getD i 0)), (62, .bool true), (64, .slice Aq kq cq), (65, iq ((kq : Int) - 1)), (66, .slice A16 k18 cp19), (68, iq (IntKind.i64.wrap ((i : Int) + 1)))] ?_
    refine cont_recast 68 (iq (IntKind.i64.wrap ((i : Int) + 1))) (iq ((i + 1 : Nat) : Int)) rfl (by rw [show (((i + 1 : Nat) : Int)) = (i : Int) + 1 by omega]; exact wrapI (by omega) (by omega)) ?_
    refine pl_step 6 4 rfl rfl ?_
    refine cont_recast 66 (.slice A16 k18 cp19) (.slice (pB g17) k18 cp19) rfl (by rw [hr22_a (by omega)]) ?_
    refine sem_step 69 (Instr.indexAt 34 (.slice (pB g17) k18 cp19) (iq ((i + 1 : Nat) : Int))) (.pointer (some ⟨g17, (i + 1 : Nat), none⟩)) (by kernel_rfl) (fun w hT => run_indexAt (e := 3) (sz := 1) _ (by kernel_rfl) (by kernel_rfl) (by omega) (by omega) (by omega) w) ?_
    refine pl_step 7 3 rfl rfl ?_
    refine sem_step 70 (Instr.loadAt 3 (.pointer (some ⟨g17, (i + 1 : Nat), none⟩))) (iq (XS.getD (i + 1 : Nat) 0)) (by kernel_rfl) (fun w hT => run_load1 (by kernel_rfl) (Row.cell (hT.ok 1 _ rfl) ((i + 1 : Nat)) _ (ivals_get (by omega)))) ?_
    refine pl_step 8 2 rfl rfl ?_
    refine cont_recast 64 (.slice Aq kq cq) (.slice (pB gq) kq cq) rfl (by rw [hr27_a (by omega)]) ?_
    refine sem_step 71 (Instr.indexAt 58 (.slice (pB gq) kq cq) (iq ((kq : Int) - 1))) (.pointer (some ⟨gq, (Int.toNat ((kq : Int) - 1)) * 4, none⟩)) (by kernel_rfl) (fun w hT => run_indexAt (e := 53) (sz := 4) _ (by kernel_rfl) (by kernel_rfl) (by omega) (by omega) (by omega) w) ?_
    refine bS [0] 9 1 [(0, .slice A1 k3 cp4), (1, .slice A7 k9 cp10), (2, iq y), (3, iq y'), (4, .func (.func fk) #[] #[]), (11, .slice A16 k18 cp19), (12, .slice Aq kq cq), (28, iq ((XS.length - 1 : Nat) : Int)), (29, iq (i : Int)), (53, .slice (pB gq) kq cq), (54, iq ((kq : Int) - 1)), (55, .pointer (some ⟨gq, (Int.toNat ((kq : Int) - 1)) * 4, none⟩)), (56, .pointer (some ⟨gq, (Int.toNat ((kq : Int) - 1)) * 4 + 2, none⟩)), (57, iq ((rget (ownL (bandF kf AA BB) y y' XS i) (Int.toNat ((kq : Int) - 1))).x1)), (58, .slice (pB g17) k18 cp19), (59, iq (i : Int)), (60, .pointer (some ⟨g17, i, none⟩)), (61, iq (XS.getD i 0)), (62, .bool true), (70, iq (XS.getD (i + 1 : Nat) 0)), (72, .pointer (some ⟨gq, (Int.toNat ((kq : Int) - 1)) * 4 + 2, none⟩))] ?_
    refine pl_step 10 0 rfl rfl ?_
    refine sem_stepU (Instr.storeAt 3 (.pointer (some ⟨gq, (Int.toNat ((kq : Int) - 1)) * 4 + 2, none⟩)) (iq (XS.getD (i + 1 : Nat) 0))) (fun _ => [.gen (rowE (Aq) gq kq cq 53 4 (rvals ((ownL (bandF kf AA BB) y y' XS i).set (Int.toNat ((kq : Int) - 1)) { rget (ownL (bandF kf AA BB) y y' XS i) (Int.toNat ((kq : Int) - 1)) with x1 := XS.getD (i + 1 : Nat) 0 })) true), .gen (rowE (A16) g17 k18 cp19 3 1 (ivals .i64 XS) true), .gen (rowE (A7) g8 k9 cp10 53 4 (rvals BB) true), .gen (rowE (A1) g2 k3 cp4 53 4 (rvals AA) true), .gen (rdE (A) g o n 4 (rvals xs)), .gen (rdE (A') g' o' n' 4 (rvals xs'))]) (fun _ => True) (by kernel_rfl) (fun w hT => store_fieldR hT (i := 0) (J := Int.toNat ((kq : Int) - 1)) (k := 2) { rget (ownL (bandF kf AA BB) y y' XS i) (Int.toNat ((kq : Int) - 1)) with x1 := XS.getD (i + 1 : Nat) 0 } rfl (by kernel_rfl) (by omega) (by decide) (by omega) rfl) (fun _ _ => ?_)
    refine cont_done ?_
    refine then_normal ?_
    refine cont_exit ?_
    refine then_exit ?_
    refine blk_exit ?_
    refine then_normal ?_
    refine cont_region 2 rfl ?_
    refine bS [0] 1 1 [(0, .slice A1 k3 cp4), (1, .slice A7 k9 cp10), (2, iq y), (3, iq y'), (4, .func (.func fk) #[] #[]), (11, .slice A16 k18 cp19), (12, .slice Aq kq cq), (28, iq ((XS.length - 1 : Nat) : Int)), (53, .slice (pB gq) kq cq), (54, iq ((kq : Int) - 1)), (55, .pointer (some ⟨gq, (Int.toNat ((kq : Int) - 1)) * 4, none⟩)), (56, .pointer (some ⟨gq, (Int.toNat ((kq : Int) - 1)) * 4 + 2, none⟩)), (57, iq ((rget (ownL (bandF kf AA BB) y y' XS i) (Int.toNat ((kq : Int) - 1))).x1)), (58, .slice (pB g17) k18 cp19), (59, iq (i : Int)), (60, .pointer (some ⟨g17, i, none⟩)), (61, iq (XS.getD i 0)), (62, .bool true), (88, iq (IntKind.i64.wrap ((i : Int) + 1)))] ?_
    refine cont_recast 88 (iq (IntKind.i64.wrap ((i : Int) + 1))) (iq ((i : Int) + 1)) rfl (wrapI (by omega) (by omega)) ?_
    refine bS [0] 2 0 [(0, .slice A1 k3 cp4), (1, .slice A7 k9 cp10), (2, iq y), (3, iq y'), (4, .func (.func fk) #[] #[]), (11, .slice A16 k18 cp19), (12, .slice Aq kq cq), (28, iq ((XS.length - 1 : Nat) : Int)), (29, iq ((i : Int) + 1)), (53, .slice (pB gq) kq cq), (54, iq ((kq : Int) - 1)), (55, .pointer (some ⟨gq, (Int.toNat ((kq : Int) - 1)) * 4, none⟩)), (56, .pointer (some ⟨gq, (Int.toNat ((kq : Int) - 1)) * 4 + 2, none⟩)), (57, iq ((rget (ownL (bandF kf AA BB) y y' XS i) (Int.toNat ((kq : Int) - 1))).x1)), (58, .slice (pB g17) k18 cp19), (59, iq (i : Int)), (60, .pointer (some ⟨g17, i, none⟩)), (61, iq (XS.getD i 0)), (62, .bool true)] ?_
    refine cont_done ?_
    refine then_normal ?_
    refine cont_rowEqR 0 ((ownL (bandF kf AA BB) y y' XS i).set (Int.toNat ((kq : Int) - 1)) { rget (ownL (bandF kf AA BB) y y' XS i) (Int.toNat ((kq : Int) - 1)) with x1 := XS.getD (i + 1 : Nat) 0 }) (ownL (bandF kf AA BB) y y' XS (i + 1)) rfl (ownL_put (f := bandF kf AA BB) hkeep_ (by omega) c29_) ?_
    refine cont_again (i + 1, kq, Aq, gq, cq) (show (i + 1) ≤ XS.length - 1 ∧ (kq) ≤ (i + 1) from ⟨by omega, by omega⟩) (show XS.length - 1 - (i + 1) < XS.length - 1 - i from by omega) (by kernel_rfl) (by kernel_rfl)
   refine cont_recast 62 (.bool (((rget (ownL (bandF kf AA BB) y y' XS i) (Int.toNat ((kq : Int) - 1))).x1) == (XS.getD i 0))) (.bool false) rfl (congrArg Value.bool c29_) ?_
   replace c29_ := ne_of_beqf c29_
   refine cont_false rfl ?_
   refine cont_skip ?_
   refine then_normal ?_
   refine drawn_enter 16 [0] rfl (by kernel_rfl) ?_
   refine takes 0 [0] [(0, 0), (1, 0), (2, 0), (5, 0), (6, 0), (7, 0), (11, 0)] 9 [11, 7, 6, 5, 2, 1, 0] [(0, .slice A1 k3 cp4), (1, .slice A7 k9 cp10), (2, iq y), (3, iq y'), (4, .func (.func fk) #[] #[]), (11, .slice A16 k18 cp19), (12, .slice Aq kq cq), (28, iq ((XS.length - 1 : Nat) : Int)), (29, iq (i : Int)), (53, .slice (pB gq) kq cq), (54, iq ((kq : Int) - 1)), (55, .pointer (some ⟨gq, (Int.toNat ((kq : Int) - 1)) * 4, none⟩)), (56, .pointer (some ⟨gq, (Int.toNat ((kq : Int) - 1)) * 4 + 2, none⟩)), (57, iq ((rget (ownL (bandF kf AA BB) y y' XS i) (Int.toNat ((kq : Int) - 1))).x1)), (58, .slice (pB g17) k18 cp19), (59, iq (i : Int)), (60, .pointer (some ⟨g17, i, none⟩)), (61, iq (XS.getD i 0)), (62, .bool false), (73, .slice Aq kq cq), (74, .slice A16 k18 cp19), (75, iq (i : Int)), (78, iq y), (79, .slice A16 k18 cp19), (80, iq (i : Int)), (84, iq y')] (by kernel_rfl) (pok_blk (pok_then (pok_then (pok_blk (pok_then pok_body))))) (by kernel_rfl) rfl rfl (by kernel_rfl) (by kernel_rfl) ?_
   refine cont_recast 74 (.slice A16 k18 cp19) (.slice (pB g17) k18 cp19) rfl (by rw [hr22_a (by omega)]) ?_
   refine sem_take 0 [0] 3 8 76 (Instr.indexAt 34 (.slice (pB g17) k18 cp19) (iq (i : Int))) (.pointer (some ⟨g17, i, none⟩)) (by kernel_rfl) (pok_blk (pok_then (pok_then (pok_blk (pok_then pok_body))))) (by kernel_rfl) rfl (by kernel_rfl) (by kernel_rfl) (fun w hT => run_indexAt (e := 3) (sz := 1) _ (by kernel_rfl) (by kernel_rfl) (by omega) (by omega) (by omega) w) ?_
   refine sem_take 0 [0] 4 7 77 (Instr.loadAt 3 (.pointer (some ⟨g17, i, none⟩))) (iq (XS.getD i 0)) (by kernel_rfl) (pok_blk (pok_then (pok_then (pok_blk (pok_then pok_body))))) (by kernel_rfl) rfl (by kernel_rfl) (by kernel_rfl) (fun w hT => run_load1 (by kernel_rfl) (Row.cell (hT 1 _ rfl) (i) _ (ivals_get (by omega)))) ?_
   refine takes 0 [0] [(8, 0)] 6 [8, 4, 3, 11, 7, 6, 5, 2, 1, 0] [(0, .slice A1 k3 cp4), (1, .slice A7 k9 cp10), (2, iq y), (3, iq y'), (4, .func (.func fk) #[] #[]), (11, .slice A16 k18 cp19), (12, .slice Aq kq cq), (28, iq ((XS.length - 1 : Nat) : Int)), (29, iq (i : Int)), (53, .slice (pB gq) kq cq), (54, iq ((kq : Int) - 1)), (55, .pointer (some ⟨gq, (Int.toNat ((kq : Int) - 1)) * 4, none⟩)), (56, .pointer (some ⟨gq, (Int.toNat ((kq : Int) - 1)) * 4 + 2, none⟩)), (57, iq ((rget (ownL (bandF kf AA BB) y y' XS i) (Int.toNat ((kq : Int) - 1))).x1)), (58, .slice (pB g17) k18 cp19), (59, iq (i : Int)), (60, .pointer (some ⟨g17, i, none⟩)), (61, iq (XS.getD i 0)), (62, .bool false), (73, .slice Aq kq cq), (77, iq (XS.getD i 0)), (78, iq y), (79, .slice A16 k18 cp19), (81, iq (IntKind.i64.wrap ((i : Int) + 1))), (84, iq y')] (by kernel_rfl) (pok_blk (pok_then (pok_then (pok_blk (pok_then pok_body))))) (by kernel_rfl) rfl rfl (by kernel_rfl) (by kernel_rfl) ?_
   refine cont_recast 81 (iq (IntKind.i64.wrap ((i : Int) + 1))) (iq ((i + 1 : Nat) : Int)) rfl (by rw [show (((i + 1 : Nat) : Int)) = (i : Int) + 1 by omega]; exact wrapI (by omega) (by omega)) ?_
   refine cont_recast 79 (.slice A16 k18 cp19) (.slice (pB g17) k18 cp19) rfl (by rw [hr22_a (by omega)]) ?_
   refine sem_take 0 [0] 9 5 82 (Instr.indexAt 34 (.slice (pB g17) k18 cp19) (iq ((i + 1 : Nat) : Int))) (.pointer (some ⟨g17, (i + 1 : Nat), none⟩)) (by kernel_rfl) (pok_blk (pok_then (pok_then (pok_blk (pok_then pok_body))))) (by kernel_rfl) rfl (by kernel_rfl) (by kernel_rfl) (fun w hT => run_indexAt (e := 3) (sz := 1) _ (by kernel_rfl) (by kernel_rfl) (by omega) (by omega) (by omega) w) ?_
   refine sem_take 0 [0] 10 4 83 (Instr.loadAt 3 (.pointer (some ⟨g17, (i + 1 : Nat), none⟩))) (iq (XS.getD (i + 1 : Nat) 0)) (by kernel_rfl) (pok_blk (pok_then (pok_then (pok_blk (pok_then pok_body))))) (by kernel_rfl) rfl (by kernel_rfl) (by kernel_rfl) (fun w hT => run_load1 (by kernel_rfl) (Row.cell (hT 1 _ rfl) ((i + 1 : Nat)) _ (ivals_get (by omega)))) ?_
   refine takes 0 [0] [(12, 0)] 3 [12, 10, 9, 8, 4, 3, 11, 7, 6, 5, 2, 1, 0] [(0, .slice A1 k3 cp4), (1, .slice A7 k9 cp10), (2, iq y), (3, iq y'), (4, .func (.func fk) #[] #[]), (11, .slice A16 k18 cp19), (12, .slice Aq kq cq), (28, iq ((XS.length - 1 : Nat) : Int)), (29, iq (i : Int)), (53, .slice (pB gq) kq cq), (54, iq ((kq : Int) - 1)), (55, .pointer (some ⟨gq, (Int.toNat ((kq : Int) - 1)) * 4, none⟩)), (56, .pointer (some ⟨gq, (Int.toNat ((kq : Int) - 1)) * 4 + 2, none⟩)), (57, iq ((rget (ownL (bandF kf AA BB) y y' XS i) (Int.toNat ((kq : Int) - 1))).x1)), (58, .slice (pB g17) k18 cp19), (59, iq (i : Int)), (60, .pointer (some ⟨g17, i, none⟩)), (61, iq (XS.getD i 0)), (62, .bool false), (73, .slice Aq kq cq), (85, .agg #[iq (XS.getD i 0), iq y, iq (XS.getD (i + 1 : Nat) 0), iq y'])] (by kernel_rfl) (pok_blk (pok_then (pok_then (pok_blk (pok_then pok_body))))) (by kernel_rfl) rfl rfl (by kernel_rfl) (by kernel_rfl) ?_
   refine drawn_one 13 2 rfl (by kernel_rfl) ?_
   refine one_step1 0 (fun b30 => [(0, .slice A1 k3 cp4), (1, .slice A7 k9 cp10), (2, iq y), (3, iq y'), (4, .func (.func fk) #[] #[]), (11, .slice A16 k18 cp19), (12, .slice Aq kq cq), (28, iq ((XS.length - 1 : Nat) : Int)), (29, iq (i : Int)), (53, .slice (pB gq) kq cq), (54, iq ((kq : Int) - 1)), (55, .pointer (some ⟨gq, (Int.toNat ((kq : Int) - 1)) * 4, none⟩)), (56, .pointer (some ⟨gq, (Int.toNat ((kq : Int) - 1)) * 4 + 2, none⟩)), (57, iq ((rget (ownL (bandF kf AA BB) y y' XS i) (Int.toNat ((kq : Int) - 1))).x1)), (58, .slice (pB g17) k18 cp19), (59, iq (i : Int)), (60, .pointer (some ⟨g17, i, none⟩)), (61, iq (XS.getD i 0)), (62, .bool false), (73, .slice Aq kq cq), (86, .slice (pB b30) 1 1)]) (fun b30 => [.cells b30 [iq (XS.getD i 0), iq y, iq (XS.getD (i + 1 : Nat) 0), iq y'] 53 true, .gen (rowE (Aq) gq kq cq 53 4 (rvals (ownL (bandF kf AA BB) y y' XS i)) true), .gen (rowE (A16) g17 k18 cp19 3 1 (ivals .i64 XS) true), .gen (rowE (A7) g8 k9 cp10 53 4 (rvals BB) true), .gen (rowE (A1) g2 k3 cp4 53 4 (rvals AA) true), .gen (rdE (A) g o n 4 (rvals xs)), .gen (rdE (A') g' o' n' 4 (rvals xs'))]) (fun b30 => by kernel_rfl) (fun b30 => by kernel_rfl) (fun b30 => ?_)
   refine drawn_next 1 [0] (by kernel_rfl) ?_
   refine drawn_one 14 1 rfl (by kernel_rfl) ?_
   refine sem_stepW (α := Option Addr × Nat × Nat) 87 (Builtin.append_ #[58, 58] 58 #[.slice Aq kq cq, .slice (pB b30) 1 1]) (fun x_ => .slice x_.1 (kq + 1) x_.2.2) (fun x_ => [.cells b30 [iq (XS.getD i 0), iq y, iq (XS.getD (i + 1 : Nat) 0), iq y'] 53 true, .gen (rowE (x_.1) x_.2.1 (kq + 1) x_.2.2 53 4 (rvals ((ownL (bandF kf AA BB) y y' XS i) ++ [(⟨XS.getD i 0, y, XS.getD (i + 1 : Nat) 0, y'⟩ : Rect)])) true), .gen (rowE (A16) g17 k18 cp19 3 1 (ivals .i64 XS) true), .gen (rowE (A7) g8 k9 cp10 53 4 (rvals BB) true), .gen (rowE (A1) g2 k3 cp4 53 4 (rvals AA) true), .gen (rdE (A) g o n 4 (rvals xs)), .gen (rdE (A') g' o' n' 4 (rvals xs'))]) (fun _ => True) (by kernel_rfl) (fun w hT => append_own (n' := (kq + 1)) (z := .agg #[iq 0, iq 0, iq 0, iq 0]) hT (i := 1) (bytes := 32) rfl (by kernel_rfl) (by kernel_rfl) rfl (by decide) (by decide) (Rd.ofCells (vals := rvals [(⟨XS.getD i 0, y, XS.getD (i + 1 : Nat) 0, y'⟩ : Rect)]) (hT.ok 0 _ rfl) rfl rfl) (rvals_one [(⟨XS.getD i 0, y, XS.getD (i + 1 : Nat) 0, y'⟩ : Rect)]) (by omega) (rvals_append (ownL (bandF kf AA BB) y y' XS i) [(⟨XS.getD i 0, y, XS.getD (i + 1 : Nat) 0, y'⟩ : Rect)]) rfl) ?_
   rintro ⟨A31, g31, cp31⟩ -
   refine cont_norm [(0, .slice A1 k3 cp4), (1, .slice A7 k9 cp10), (2, iq y), (3, iq y'), (4, .func (.func fk) #[] #[]), (11, .slice A16 k18 cp19), (12, .slice Aq kq cq), (28, iq ((XS.length - 1 : Nat) : Int)), (29, iq (i : Int)), (53, .slice (pB gq) kq cq), (54, iq ((kq : Int) - 1)), (55, .pointer (some ⟨gq, (Int.toNat ((kq : Int) - 1)) * 4, none⟩)), (56, .pointer (some ⟨gq, (Int.toNat ((kq : Int) - 1)) * 4 + 2, none⟩)), (57, iq ((rget (ownL (bandF kf AA BB) y y' XS i) (Int.toNat ((kq : Int) - 1))).x1)), (58, .slice (pB g17) k18 cp19), (59, iq (i : Int)), (60, .pointer (some ⟨g17, i, none⟩)), (61, iq (XS.getD i 0)), (62, .bool false), (73, .slice Aq kq cq), (86, .slice (pB b30) 1 1), (87, .slice A31 (kq + 1) cp31)] [.cells b30 [iq (XS.getD i 0), iq y, iq (XS.getD (i + 1 : Nat) 0), iq y'] 53 true, .gen (rowE (A31) g31 (kq + 1) cp31 53 4 (rvals ((ownL (bandF kf AA BB) y y' XS i) ++ [(⟨XS.getD i 0, y, XS.getD (i + 1 : Nat) 0, y'⟩ : Rect)])) true), .gen (rowE (A16) g17 k18 cp19 3 1 (ivals .i64 XS) true), .gen (rowE (A7) g8 k9 cp10 53 4 (rvals BB) true), .gen (rowE (A1) g2 k3 cp4 53 4 (rvals AA) true), .gen (rdE (A) g o n 4 (rvals xs)), .gen (rdE (A') g' o' n' 4 (rvals xs'))] (by kernel_rfl) rfl ?_
   refine cont_fact (F := (0 < (kq + 1) → (A31 : Option Addr) = pB g31) ∧ ((ownL (bandF kf AA BB) y y' XS i) ++ [(⟨XS.getD i 0, y, XS.getD (i + 1 : Nat) 0, y'⟩ : Rect)]).length = (kq + 1) ∧ (kq + 1) ≤ cp31 ∧ cp31 ≤ maxLen) (fun w hT => Row.factsR (hT.ok 1 _ rfl)) (fun hr32_ => ?_)
   obtain ⟨hr32_a, hr32_l, hr32_c, hr32_m⟩ := hr32_
   unfold maxLen at hr32_m
   refine drawn_next 1 [0] (by kernel_rfl) ?_
   refine takes 1 [0] [(15, 0)] 0 [15, 14, 13, 12, 10, 9, 8, 4, 3, 11, 7, 6, 5, 2, 1, 0] [(0, .slice A1 k3 cp4), (1, .slice A7 k9 cp10), (2, iq y), (3, iq y'), (4, .func (.func fk) #[] #[]), (11, .slice A16 k18 cp19), (12, .slice A31 (kq + 1) cp31), (28, iq ((XS.length - 1 : Nat) : Int)), (29, iq (i : Int)), (53, .slice (pB gq) kq cq), (54, iq ((kq : Int) - 1)), (55, .pointer (some ⟨gq, (Int.toNat ((kq : Int) - 1)) * 4, none⟩)), (56, .pointer (some ⟨gq, (Int.toNat ((kq : Int) - 1)) * 4 + 2, none⟩)), (57, iq ((rget (ownL (bandF kf AA BB) y y' XS i) (Int.toNat ((kq : Int) - 1))).x1)), (58, .slice (pB g17) k18 cp19), (59, iq (i : Int)), (60, .pointer (some ⟨g17, i, none⟩)), (61, iq (XS.getD i 0)), (62, .bool false)] (by kernel_rfl) (pok_blk (pok_then (pok_then (pok_blk (pok_then pok_body))))) (by kernel_rfl) rfl rfl (by kernel_rfl) (by kernel_rfl) ?_
   refine drawn_done (by kernel_rfl) ?_
   refine blk_normal ?_
   refine then_normal ?_
   refine cont_region 2 rfl ?_
   refine bS [0] 1 1 [(0, .slice A1 k3 cp4), (1, .slice A7 k9 cp10), (2, iq y), (3, iq y'), (4, .func (.func fk) #[] #[]), (11, .slice A16 k18 cp19), (12, .slice A31 (kq + 1) cp31), (28, iq ((XS.length - 1 : Nat) : Int)), (53, .slice (pB gq) kq cq), (54, iq ((kq : Int) - 1)), (55, .pointer (some ⟨gq, (Int.toNat ((kq : Int) - 1)) * 4, none⟩)), (56, .pointer (some ⟨gq, (Int.toNat ((kq : Int) - 1)) * 4 + 2, none⟩)), (57, iq ((rget (ownL (bandF kf AA BB) y y' XS i) (Int.toNat ((kq : Int) - 1))).x1)), (58, .slice (pB g17) k18 cp19), (59, iq (i : Int)), (60, .pointer (some ⟨g17, i, none⟩)), (61, iq (XS.getD i 0)), (62, .bool false), (88, iq (IntKind.i64.wrap ((i : Int) + 1)))] ?_
   refine cont_recast 88 (iq (IntKind.i64.wrap ((i : Int) + 1))) (iq ((i : Int) + 1)) rfl (wrapI (by omega) (by omega)) ?_
   refine cont_forget 0 rfl ?_
   refine bS [0] 2 0 [(0, .slice A1 k3 cp4), (1, .slice A7 k9 cp10), (2, iq y), (3, iq y'), (4, .func (.func fk) #[] #[]), (11, .slice A16 k18 cp19), (12, .slice A31 (kq + 1) cp31), (28, iq ((XS.length - 1 : Nat) : Int)), (29, iq ((i : Int) + 1)), (53, .slice (pB gq) kq cq), (54, iq ((kq : Int) - 1)), (55, .pointer (some ⟨gq, (Int.toNat ((kq : Int) - 1)) * 4, none⟩)), (56, .pointer (some ⟨gq, (Int.toNat ((kq : Int) - 1)) * 4 + 2, none⟩)), (57, iq ((rget (ownL (bandF kf AA BB) y y' XS i) (Int.toNat ((kq : Int) - 1))).x1)), (58, .slice (pB g17) k18 cp19), (59, iq (i : Int)), (60, .pointer (some ⟨g17, i, none⟩)), (61, iq (XS.getD i 0)), (62, .bool false)] ?_
   refine cont_done ?_
   refine then_normal ?_
   refine cont_rowEqR 0 ((ownL (bandF kf AA BB) y y' XS i) ++ [(⟨XS.getD i 0, y, XS.getD (i + 1 : Nat) 0, y'⟩ : Rect)]) (ownL (bandF kf AA BB) y y' XS (i + 1)) rfl (ownL_new (f := bandF kf AA BB) hkeep_ (fun J hJ he_ => by have hJ2 : J = Int.toNat ((kq : Int) - 1) := (by omega); subst hJ2; exact c29_ he_)) ?_
   refine cont_again (i + 1, (kq + 1), A31, g31, cp31) (show (i + 1) ≤ XS.length - 1 ∧ ((kq + 1)) ≤ (i + 1) from ⟨by omega, by omega⟩) (show XS.length - 1 - (i + 1) < XS.length - 1 - i from by omega) (by kernel_rfl) (by kernel_rfl)
  replace c28_ := of_decide_eq_false c28_
  refine takes 0 [] [(3, 0), (4, 0), (8, 0), (9, 0), (5, 0), (10, 0), (6, 0), (11, 0), (7, 0), (12, 0), (13, 0)] 0 [13, 12, 7, 11, 6, 10, 5, 9, 8, 4, 3, 2, 1, 0] [(0, .slice A1 k3 cp4), (1, .slice A7 k9 cp10), (2, iq y), (3, iq y'), (4, .func (.func fk) #[] #[]), (11, .slice A16 k18 cp19), (12, .slice Aq kq cq), (13, iq (i : Int)), (14, iq ((kq : Int) - 1)), (28, iq ((XS.length - 1 : Nat) : Int)), (29, iq (i : Int)), (53, undef), (54, undef), (55, undef), (56, undef), (57, undef), (58, undef), (59, undef), (60, undef), (61, undef), (62, undef), (63, .bool false)] (by kernel_rfl) (pok_then (pok_then (pok_blk (pok_then (pok_then (pok_blk (pok_then pok_body))))))) (by kernel_rfl) rfl rfl (by kernel_rfl) (by kernel_rfl) ?_
  refine drawn_done (by kernel_rfl) ?_
  refine then_normal ?_
  refine cont_false rfl ?_
  refine cont_skip ?_
  refine then_normal ?_
  refine drawn_enter 16 [0] rfl (by kernel_rfl) ?_
  refine takes 0 [0] [(0, 0), (1, 0), (2, 0), (5, 0), (6, 0), (7, 0), (11, 0)] 9 [11, 7, 6, 5, 2, 1, 0] [(0, .slice A1 k3 cp4), (1, .slice A7 k9 cp10), (2, iq y), (3, iq y'), (4, .func (.func fk) #[] #[]), (11, .slice A16 k18 cp19), (12, .slice Aq kq cq), (28, iq ((XS.length - 1 : Nat) : Int)), (29, iq (i : Int)), (53, undef), (54, undef), (55, undef), (56, undef), (57, undef), (58, undef), (59, undef), (60, undef), (61, undef), (62, undef), (73, .slice Aq kq cq), (74, .slice A16 k18 cp19), (75, iq (i : Int)), (78, iq y), (79, .slice A16 k18 cp19), (80, iq (i : Int)), (84, iq y')] (by kernel_rfl) (pok_blk (pok_then (pok_then (pok_blk (pok_then pok_body))))) (by kernel_rfl) rfl rfl (by kernel_rfl) (by kernel_rfl) ?_
  refine cont_recast 74 (.slice A16 k18 cp19) (.slice (pB g17) k18 cp19) rfl (by rw [hr22_a (by omega)]) ?_
  refine sem_take 0 [0] 3 8 76 (Instr.indexAt 34 (.slice (pB g17) k18 cp19) (iq (i : Int))) (.pointer (some ⟨g17, i, none⟩)) (by kernel_rfl) (pok_blk (pok_then (pok_then (pok_blk (pok_then pok_body))))) (by kernel_rfl) rfl (by kernel_rfl) (by kernel_rfl) (fun w hT => run_indexAt (e := 3) (sz := 1) _ (by kernel_rfl) (by kernel_rfl) (by omega) (by omega) (by omega) w) ?_
  refine sem_take 0 [0] 4 7 77 (Instr.loadAt 3 (.pointer (some ⟨g17, i, none⟩))) (iq (XS.getD i 0)) (by kernel_rfl) (pok_blk (pok_then (pok_then (pok_blk (pok_then pok_body))))) (by kernel_rfl) rfl (by kernel_rfl) (by kernel_rfl) (fun w hT => run_load1 (by kernel_rfl) (Row.cell (hT 1 _ rfl) (i) _ (ivals_get (by omega)))) ?_
  refine takes 0 [0] [(8, 0)] 6 [8, 4, 3, 11, 7, 6, 5, 2, 1, 0] [(0, .slice A1 k3 cp4), (1, .slice A7 k9 cp10), (2, iq y), (3, iq y'), (4, .func (.func fk) #[] #[]), (11, .slice A16 k18 cp19), (12, .slice Aq kq cq), (28, iq ((XS.length - 1 : Nat) : Int)), (29, iq (i : Int)), (53, undef), (54, undef), (55, undef), (56, undef), (57, undef), (58, undef), (59, undef), (60, undef), (61, undef), (62, undef), (73, .slice Aq kq cq), (77, iq (XS.getD i 0)), (78, iq y), (79, .slice A16 k18 cp19), (81, iq (IntKind.i64.wrap ((i : Int) + 1))), (84, iq y')] (by kernel_rfl) (pok_blk (pok_then (pok_then (pok_blk (pok_then pok_body))))) (by kernel_rfl) rfl rfl (by kernel_rfl) (by kernel_rfl) ?_
  refine cont_recast 81 (iq (IntKind.i64.wrap ((i : Int) + 1))) (iq ((i + 1 : Nat) : Int)) rfl (by rw [show (((i + 1 : Nat) : Int)) = (i : Int) + 1 by omega]; exact wrapI (by omega) (by omega)) ?_
  refine cont_recast 79 (.slice A16 k18 cp19) (.slice (pB g17) k18 cp19) rfl (by rw [hr22_a (by omega)]) ?_
  refine sem_take 0 [0] 9 5 82 (Instr.indexAt 34 (.slice (pB g17) k18 cp19) (iq ((i + 1 : Nat) : Int))) (.pointer (some ⟨g17, (i + 1 : Nat), none⟩)) (by kernel_rfl) (pok_blk (pok_then (pok_then (pok_blk (pok_then pok_body))))) (by kernel_rfl) rfl (by kernel_rfl) (by kernel_rfl) (fun w hT => run_indexAt (e := 3) (sz := 1) _ (by kernel_rfl) (by kernel_rfl) (by omega) (by omega) (by omega) w) ?_
  refine sem_take 0 [0] 10 4 83 (Instr.loadAt 3 (.pointer (some ⟨g17, (i + 1 : Nat), none⟩))) (iq (XS.getD (i + 1 : Nat) 0)) (by kernel_rfl) (pok_blk (pok_then (pok_then (pok_blk (pok_then pok_body))))) (by kernel_rfl) rfl (by kernel_rfl) (by kernel_rfl) (fun w hT => run_load1 (by kernel_rfl) (Row.cell (hT 1 _ rfl) ((i + 1 : Nat)) _ (ivals_get (by omega)))) ?_
  refine takes 0 [0] [(12, 0)] 3 [12, 10, 9, 8, 4, 3, 11, 7, 6, 5, 2, 1, 0] [(0, .slice A1 k3 cp4), (1, .slice A7 k9 cp10), (2, iq y), (3, iq y'), (4, .func (.func fk) #[] #[]), (11, .slice A16 k18 cp19), (12, .slice Aq kq cq), (28, iq ((XS.length - 1 : Nat) : Int)), (29, iq (i : Int)), (53, undef), (54, undef), (55, undef), (56, undef), (57, undef), (58, undef), (59, undef), (60, undef), (61, undef), (62, undef), (73, .slice Aq kq cq), (85, .agg #[iq (XS.getD i 0), iq y, iq (XS.getD (i + 1 : Nat) 0), iq y'])] (by kernel_rfl) (pok_blk (pok_then (pok_then (pok_blk (pok_then pok_body))))) (by kernel_rfl) rfl rfl (by kernel_rfl) (by kernel_rfl) ?_
  refine drawn_one 13 2 rfl (by kernel_rfl) ?_
  refine one_step1 0 (fun b33 => [(0, .slice A1 k3 cp4), (1, .slice A7 k9 cp10), (2, iq y), (3, iq y'), (4, .func (.func fk) #[] #[]), (11, .slice A16 k18 cp19), (12, .slice Aq kq cq), (28, iq ((XS.length - 1 : Nat) : Int)), (29, iq (i : Int)), (53, undef), (54, undef), (55, undef), (56, undef), (57, undef), (58, undef), (59, undef), (60, undef), (61, undef), (62, undef), (73, .slice Aq kq cq), (86, .slice (pB b33) 1 1)]) (fun b33 => [.cells b33 [iq (XS.getD i 0), iq y, iq (XS.getD (i + 1 : Nat) 0), iq y'] 53 true, .gen (rowE (Aq) gq kq cq 53 4 (rvals (ownL (bandF kf AA BB) y y' XS i)) true), .gen (rowE (A16) g17 k18 cp19 3 1 (ivals .i64 XS) true), .gen (rowE (A7) g8 k9 cp10 53 4 (rvals BB) true), .gen (rowE (A1) g2 k3 cp4 53 4 (rvals AA) true), .gen (rdE (A) g o n 4 (rvals xs)), .gen (rdE (A') g' o' n' 4 (rvals xs'))]) (fun b33 => by kernel_rfl) (fun b33 => by kernel_rfl) (fun b33 => ?_)
  refine drawn_next 1 [0] (by kernel_rfl) ?_
  refine drawn_one 14 1 rfl (by kernel_rfl) ?_
  refine sem_stepW (α := Option Addr × Nat × Nat) 87 (Builtin.append_ #[58, 58] 58 #[.slice Aq kq cq, .slice (pB b33) 1 1]) (fun x_ => .slice x_.1 (kq + 1) x_.2.2) (fun x_ => [.cells b33 [iq (XS.getD i 0), iq y, iq (XS.getD (i + 1 : Nat) 0), iq y'] 53 true, .gen (rowE (x_.1) x_.2.1 (kq + 1) x_.2.2 53 4 (rvals ((ownL (bandF kf AA BB) y y' XS i) ++ [(⟨XS.getD i 0, y, XS.getD (i + 1 : Nat) 0, y'⟩ : Rect)])) true), .gen (rowE (A16) g17 k18 cp19 3 1 (ivals .i64 XS) true), .gen (rowE (A7) g8 k9 cp10 53 4 (rvals BB) true), .gen (rowE (A1) g2 k3 cp4 53 4 (rvals AA) true), .gen (rdE (A) g o n 4 (rvals xs)), .gen (rdE (A') g' o' n' 4 (rvals xs'))]) (fun _ => True) (by kernel_rfl) (fun w hT => append_own (n' := (kq + 1)) (z := .agg #[iq 0, iq 0, iq 0, iq 0]) hT (i := 1) (bytes := 32) rfl (by kernel_rfl) (by kernel_rfl) rfl (by decide) (by decide) (Rd.ofCells (vals := rvals [(⟨XS.getD i 0, y, XS.getD (i + 1 : Nat) 0, y'⟩ : Rect)]) (hT.ok 0 _ rfl) rfl rfl) (rvals_one [(⟨XS.getD i 0, y, XS.getD (i + 1 : Nat) 0, y'⟩ : Rect)]) (by omega) (rvals_append (ownL (bandF kf AA BB) y y' XS i) [(⟨XS.getD i 0, y, XS.getD (i + 1 : Nat) 0, y'⟩ : Rect)]) rfl) ?_
  rintro ⟨A34, g34, cp34⟩ -
  refine cont_norm [(0, .slice A1 k3 cp4), (1, .slice A7 k9 cp10), (2, iq y), (3, iq y'), (4, .func (.func fk) #[] #[]), (11, .slice A16 k18 cp19), (12, .slice Aq kq cq), (28, iq ((XS.length - 1 : Nat) : Int)), (29, iq (i : Int)), (53, undef), (54, undef), (55, undef), (56, undef), (57, undef), (58, undef), (59, undef), (60, undef), (61, undef), (62, undef), (73, .slice Aq kq cq), (86, .slice (pB b33) 1 1), (87, .slice A34 (kq + 1) cp34)] [.cells b33 [iq (XS.getD i 0), iq y, iq (XS.getD (i + 1 : Nat) 0), iq y'] 53 true, .gen (rowE (A34) g34 (kq + 1) cp34 53 4 (rvals ((ownL (bandF kf AA BB) y y' XS i) ++ [(⟨XS.getD i 0, y, XS.getD (i + 1 : Nat) 0, y'⟩ : Rect)])) true), .gen (rowE (A16) g17 k18 cp19 3 1 (ivals .i64 XS) true), .gen (rowE (A7) g8 k9 cp10 53 4 (rvals BB) true), .gen (rowE (A1) g2 k3 cp4 53 4 (rvals AA) true), .gen (rdE (A) g o n 4 (rvals xs)), .gen (rdE (A') g' o' n' 4 (rvals xs'))] (by kernel_rfl) rfl ?_
  refine cont_fact (F := (0 < (kq + 1) → (A34 : Option Addr) = pB g34) ∧ ((ownL (bandF kf AA BB) y y' XS i) ++ [(⟨XS.getD i 0, y, XS.getD (i + 1 : Nat) 0, y'⟩ : Rect)]).length = (kq + 1) ∧ (kq + 1) ≤ cp34 ∧ cp34 ≤ maxLen) (fun w hT => Row.factsR (hT.ok 1 _ rfl)) (fun hr35_ => ?_)
  obtain ⟨hr35_a, hr35_l, hr35_c, hr35_m⟩ := hr35_
  unfold maxLen at hr35_m
  refine drawn_next 1 [0] (by kernel_rfl) ?_
  refine takes 1 [0] [(15, 0)] 0 [15, 14, 13, 12, 10, 9, 8, 4, 3, 11, 7, 6, 5, 2, 1, 0] [(0, .slice A1 k3 cp4), (1, .slice A7 k9 cp10), (2, iq y), (3, iq y'), (4, .func (.func fk) #[] #[]), (11, .slice A16 k18 cp19), (12, .slice A34 (kq + 1) cp34), (28, iq ((XS.length - 1 : Nat) : Int)), (29, iq (i : Int)), (53, undef), (54, undef), (55, undef), (56, undef), (57, undef), (58, undef), (59, undef), (60, undef), (61, undef), (62, undef)] (by kernel_rfl) (pok_blk (pok_then (pok_then (pok_blk (pok_then pok_body))))) (by kernel_rfl) rfl rfl (by kernel_rfl) (by kernel_rfl) ?_
  refine drawn_done (by kernel_rfl) ?_
  refine blk_normal ?_
  refine then_normal ?_
  refine cont_region 2 rfl ?_
  refine bS [0] 1 1 [(0, .slice A1 k3 cp4), (1, .slice A7 k9 cp10), (2, iq y), (3, iq y'), (4, .func (.func fk) #[] #[]), (11, .slice A16 k18 cp19), (12, .slice A34 (kq + 1) cp34), (28, iq ((XS.length - 1 : Nat) : Int)), (53, undef), (54, undef), (55, undef), (56, undef), (57, undef), (58, undef), (59, undef), (60, undef), (61, undef), (62, undef), (88, iq (IntKind.i64.wrap ((i : Int) + 1)))] ?_
  refine cont_recast 88 (iq (IntKind.i64.wrap ((i : Int) + 1))) (iq ((i : Int) + 1)) rfl (wrapI (by omega) (by omega)) ?_
  refine cont_forget 0 rfl ?_
  refine bS [0] 2 0 [(0, .slice A1 k3 cp4), (1, .slice A7 k9 cp10), (2, iq y), (3, iq y'), (4, .func (.func fk) #[] #[]), (11, .slice A16 k18 cp19), (12, .slice A34 (kq + 1) cp34), (28, iq ((XS.length - 1 : Nat) : Int)), (29, iq ((i : Int) + 1)), (53, undef), (54, undef), (55, undef), (56, undef), (57, undef), (58, undef), (59, undef), (60, undef), (61, undef), (62, undef)] ?_
  refine cont_done ?_
  refine then_normal ?_
  refine cont_rowEqR 0 ((ownL (bandF kf AA BB) y y' XS i) ++ [(⟨XS.getD i 0, y, XS.getD (i + 1 : Nat) 0, y'⟩ : Rect)]) (ownL (bandF kf AA BB) y y' XS (i + 1)) rfl (ownL_new (f := bandF kf AA BB) hkeep_ (fun J hJ he_ => by omega)) ?_
  refine cont_again (i + 1, (kq + 1), A34, g34, cp34) (show (i + 1) ≤ XS.length - 1 ∧ ((kq + 1)) ≤ (i + 1) from ⟨by omega, by omega⟩) (show XS.length - 1 - (i + 1) < XS.length - 1 - i from by omega) (by kernel_rfl) (by kernel_rfl)
 replace c25_ := of_decide_eq_false c25_
 refine cont_false rfl ?_
 refine cont_exit ?_
 refine then_exit ?_
 refine then_exit ?_
 refine blk_exit ?_
 refine then_normal ?_
 refine cont_seq ?_
 refine cont_region 2 rfl ?_
 refine bS [0, 0] 2 0 [(10, .slice Aq kq cq)] ?_
 refine cont_done ?_
 refine then_normal ?_
 refine cont_ret ?_
 refine ret_one (.inl rfl) rfl 0 (.slice Aq kq cq) (by kernel_rfl) (by kernel_rfl) (fun w hT => ?_)
 replace hT := hT.erase 5 (fun e h hw => by cases h; first | rfl | cases hw)
 replace hT := hT.erase 4 (fun e h hw => by cases h; first | rfl | cases hw)
 replace hT := hT.erase 3 (fun e h hw => by cases h; first | rfl | cases hw)
 replace hT := hT.erase 2 (fun e h hw => by cases h; first | rfl | cases hw)
 replace hT := hT.erase 1 (fun e h hw => by cases h; first | rfl | cases hw)
 have hi2 : i = XS.length - 1 := by omega
 subst hi2
 subst hXS
 subst hAA
 subst hBB
 exact ⟨_, _, _, _, rfl, hT⟩

theorem eqFuncR (A : Option Addr) (g o n cap : Nat) (xs : List Rect) (A' : Option Addr) (g' o' n' cap' : Nat) (xs' : List Rect) (fk : FuncId) (p : Rect → Rect → Bool) (w : World) (hT0 : Tab w w [.gen (rdE (A) g o n 4 (rvals xs)), .gen (rdE (A') g' o' n' 4 (rvals xs'))]) (hE : Enters Try.prog fk) (hf : ∀ (r q : Rect) (w : World), Calls Try.prog fk #[.agg #[.int .i64 r.x0, .int .i64 r.y0, .int .i64 r.x1, .int .i64 r.y1], .agg #[.int .i64 q.x0, .int .i64 q.y0, .int .i64 q.x1, .int .i64 q.y1]] w fun e w' => e = .returned (.bool (p r q)) ∧ Below w.heap.size w w') (hn : n ≤ 1000000000000) :
    Calls Try.prog 121 #[.slice A n cap, .slice A' n' cap', .func (.func fk) #[] #[]] w fun e w' => e = .returned (.bool (eqF p xs xs')) ∧ Below w.heap.size w w' := by
 obtain ⟨hra, hrl⟩ := Rd.factsR (hT0.ok 0 _ rfl)
 obtain ⟨hra', hrl'⟩ := Rd.factsR (hT0.ok 1 _ rfl)
 refine enter 32 [(0, .slice A n cap), (1, .slice A' n' cap'), (2, .func (.func fk) #[] #[])] [.gen (rdE (A) g o n 4 (rvals xs)), .gen (rdE (A') g' o' n' 4 (rvals xs'))] Try.func121 rfl Try.ntmps121 rfl (by kernel_rfl) hT0 ?_
 refine cont_seq ?_
 refine cont_region 1 rfl ?_
 refine bS [0] 1 0 [(0, .slice A n cap), (1, .slice A' n' cap'), (2, .func (.func fk) #[] #[])] ?_
 refine cont_done ?_
 refine then_normal ?_
 refine cont_seq ?_
 refine cont_seq ?_
 refine cont_region 5 rfl ?_
 refine bS [0, 0, 0, 0, 0] 5 0 [(0, .slice A n cap), (1, .slice A' n' cap'), (2, .func (.func fk) #[] #[]), (14, .bool ((n : Int) != ((n' : Nat) : Int)))] ?_
 refine cont_done ?_
 refine then_normal ?_
 refine cont_split 14 ((n : Int) != ((n' : Nat) : Int)) rfl (fun c1_ => ?_) (fun c1_ => ?_)
 ·
  replace c1_ := ne_of_bne c1_
  refine cont_true rfl ?_
  refine cont_seq ?_
  refine cont_region 1 rfl ?_
  refine bS [0] 1 0 [(6, .bool false)] ?_
  refine cont_done ?_
  refine then_normal ?_
  refine cont_ret ?_
  refine then_ret ?_
  refine ret_one (.inl rfl) rfl 0 (.bool false) (by kernel_rfl) (by kernel_rfl) (fun w hT => ?_)
  exact ⟨ret_bool (by first | exact (eqF_no (j := i) (by omega) (by omega) ‹_›).symm | exact (eqF_len (by omega)).symm), hT.post rfl⟩
 replace c1_ := eq_of_bne_false c1_
 refine cont_false rfl ?_
 refine cont_skip ?_
 refine then_normal ?_
 refine cont_seq ?_
 refine cont_seq ?_
 refine cont_region 3 rfl ?_
 refine bS [0, 0, 0] 3 0 [(1, .slice A' n' cap'), (2, .func (.func fk) #[] #[]), (15, .slice A n cap), (16, iq (n : Int)), (17, iq 0)] ?_
 refine cont_done ?_
 refine then_normal ?_
 refine cont_block ?_
 refine cont_loop (α := Nat) (fun x_ : Nat => x_ ≤ n ∧ ∀ j, j < x_ → p (rget xs j) (rget xs' j) = true) (fun x_ : Nat => [(1, .slice A' n' cap'), (2, .func (.func fk) #[] #[]), (15, .slice A n cap), (16, iq (n : Int)), (17, iq (x_ : Int))]) (fun x_ : Nat => [.gen (rdE (A) g o n 4 (rvals xs)), .gen (rdE (A') g' o' n' 4 (rvals xs'))]) (fun x_ : Nat => n - x_) 0 (⟨by omega, fun j hj => by omega⟩) (by kernel_rfl) (by kernel_rfl) ?_
 rintro i hinv2_
 replace hinv2_ : i ≤ n ∧ ∀ j, j < i → p (rget xs j) (rget xs' j) = true := hinv2_
 refine cont_norm [(1, .slice A' n' cap'), (2, .func (.func fk) #[] #[]), (15, .slice A n cap), (16, iq (n : Int)), (17, iq (i : Int))] _ (by kernel_rfl) rfl ?_
 obtain ⟨hi, hns⟩ := hinv2_
 refine cont_seq ?_
 refine cont_region 1 rfl ?_
 refine bS [0] 1 0 [(1, .slice A' n' cap'), (2, .func (.func fk) #[] #[]), (15, .slice A n cap), (16, iq (n : Int)), (17, iq (i : Int)), (18, .bool (decide ((i : Int) < (n : Int))))] ?_
 refine cont_done ?_
 refine then_normal ?_
 refine cont_seq ?_
 refine cont_split 18 (decide ((i : Int) < (n : Int))) rfl (fun c3_ => ?_) (fun c3_ => ?_)
 ·
  replace c3_ := of_decide_eq_true c3_
  refine cont_true rfl ?_
  refine cont_skip ?_
  refine then_normal ?_
  refine cont_seq ?_
  refine cont_block ?_
  refine cont_seq ?_
  refine cont_region 6 rfl ?_
  refine bS [0] 1 5 [(1, .slice A' n' cap'), (2, .func (.func fk) #[] #[]), (15, .slice A n cap), (16, iq (n : Int)), (17, iq (i : Int)), (19, iq (i : Int))] ?_
  refine pl_step 2 4 rfl rfl ?_
  refine cont_recast 15 (.slice A n cap) (.slice (some ⟨g, o, none⟩) n cap) rfl (by rw [hra (by omega)]) ?_
  refine sem_step 20 (Instr.indexAt 58 (.slice (some ⟨g, o, none⟩) n cap) (iq (i : Int))) (.pointer (some ⟨g, o + i * 4, none⟩)) (by kernel_rfl) (fun w hT => run_indexAt (e := 53) (sz := 4) _ (by kernel_rfl) (by kernel_rfl) (by omega) (by omega) (by omega) w) ?_
  refine pl_step 3 3 rfl rfl ?_
  refine sem_step 21 (Instr.loadAt 53 (.pointer (some ⟨g, o + i * 4, none⟩))) (.agg #[iq ((rget xs i).x0), iq ((rget xs i).y0), iq ((rget xs i).x1), iq ((rget xs i).y1)]) (by kernel_rfl) (fun w hT => run_loadN (m := 4) (cs := rcells (rget xs i)) (by kernel_rfl) (by kernel_rfl) rfl (Rd.rect (hT.ok 0 _ rfl) (by omega))) ?_
  refine batch1 [0, 0, 0] 6 0 (fun b4 => [(1, .slice A' n' cap'), (2, .func (.func fk) #[] #[]), (7, iq (i : Int)), (8, .pointer (pB b4)), (15, .slice (some ⟨g, o, none⟩) n cap), (16, iq (n : Int)), (17, iq (i : Int))]) (fun b4 => [.cells b4 [iq ((rget xs i).x0), iq ((rget xs i).y0), iq ((rget xs i).x1), iq ((rget xs i).y1)] 53 true, .gen (rdE (A) g o n 4 (rvals xs)), .gen (rdE (A') g' o' n' 4 (rvals xs'))]) rfl rfl [1, 2, 7, 8, 15, 16, 17] (fun _ => rfl) (fun b4 => by kernel_rfl) (fun b4 => by kernel_rfl) (fun b4 => ?_)
  refine cont_done ?_
  refine then_normal ?_
  refine cont_seq ?_
  refine cont_region 6 rfl ?_
  refine bS [0, 0] 2 4 [(1, .slice A' n' cap'), (2, .func (.func fk) #[] #[]), (8, .pointer (pB b4)), (15, .slice (some ⟨g, o, none⟩) n cap), (16, iq (n : Int)), (17, iq (i : Int)), (22, .slice A' n' cap'), (23, iq (i : Int))] ?_
  refine pl_step 3 3 rfl rfl ?_
  refine cont_recast 22 (.slice A' n' cap') (.slice (some ⟨g', o', none⟩) n' cap') rfl (by rw [hra' (by omega)]) ?_
  refine sem_step 24 (Instr.indexAt 58 (.slice (some ⟨g', o', none⟩) n' cap') (iq (i : Int))) (.pointer (some ⟨g', o' + i * 4, none⟩)) (by kernel_rfl) (fun w hT => run_indexAt (e := 53) (sz := 4) _ (by kernel_rfl) (by kernel_rfl) (by omega) (by omega) (by omega) w) ?_
  refine pl_step 4 2 rfl rfl ?_
  refine sem_step 25 (Instr.loadAt 53 (.pointer (some ⟨g', o' + i * 4, none⟩))) (.agg #[iq ((rget xs' i).x0), iq ((rget xs' i).y0), iq ((rget xs' i).x1), iq ((rget xs' i).y1)]) (by kernel_rfl) (fun w hT => run_loadN (m := 4) (cs := rcells (rget xs' i)) (by kernel_rfl) (by kernel_rfl) rfl (Rd.rect (hT.ok 2 _ rfl) (by omega))) ?_
  refine batch1 [0, 0] 6 0 (fun b5 => [(1, .slice A' n' cap'), (2, .func (.func fk) #[] #[]), (8, .pointer (pB b4)), (9, .pointer (pB b5)), (15, .slice (some ⟨g, o, none⟩) n cap), (16, iq (n : Int)), (17, iq (i : Int))]) (fun b5 => [.cells b5 [iq ((rget xs' i).x0), iq ((rget xs' i).y0), iq ((rget xs' i).x1), iq ((rget xs' i).y1)] 53 true, .cells b4 [iq ((rget xs i).x0), iq ((rget xs i).y0), iq ((rget xs i).x1), iq ((rget xs i).y1)] 53 true, .gen (rdE (A) g o n 4 (rvals xs)), .gen (rdE (A') g' o' n' 4 (rvals xs'))]) rfl rfl [1, 2, 8, 9, 15, 16, 17] (fun _ => rfl) (fun b5 => by kernel_rfl) (fun b5 => by kernel_rfl) (fun b5 => ?_)
  refine cont_done ?_
  refine then_normal ?_
  refine cont_seq ?_
  refine cont_region 5 rfl ?_
  refine bS [0, 1, 0] 3 2 [(1, .slice A' n' cap'), (2, .func (.func fk) #[] #[]), (15, .slice (some ⟨g, o, none⟩) n cap), (16, iq (n : Int)), (17, iq (i : Int)), (26, .func (.func fk) #[] #[]), (27, .agg #[iq ((rget xs i).x0), iq ((rget xs i).y0), iq ((rget xs i).x1), iq ((rget xs i).y1)]), (28, .agg #[iq ((rget xs' i).x0), iq ((rget xs' i).y0), iq ((rget xs' i).x1), iq ((rget xs' i).y1)])] ?_
  refine cont_forget 0 rfl ?_
  refine cont_forget 0 rfl ?_
  refine pl_step 4 1 rfl rfl ?_
  refine call_pureF (d := 29) (.bool (p (rget xs i) (rget xs' i))) (by kernel_rfl) hE (fun w hT => hf (rget xs i) (rget xs' i) w) ?_
  refine bS [0] 5 0 [(1, .slice A' n' cap'), (2, .func (.func fk) #[] #[]), (15, .slice (some ⟨g, o, none⟩) n cap), (16, iq (n : Int)), (17, iq (i : Int)), (30, .bool (!(p (rget xs i) (rget xs' i))))] ?_
  refine cont_done ?_
  refine then_normal ?_
  refine cont_split 30 (!(p (rget xs i) (rget xs' i))) rfl (fun c6_ => ?_) (fun c6_ => ?_)
  ·
   replace c6_ : (p (rget xs i) (rget xs' i)) = false := by simpa using c6_
   refine cont_true rfl ?_
   refine cont_seq ?_
   refine cont_region 1 rfl ?_
   refine bS [0] 1 0 [(6, .bool false)] ?_
   refine cont_done ?_
   refine then_normal ?_
   refine cont_ret ?_
   refine blk_ret ?_
   refine then_ret ?_
   refine then_ret ?_
   refine blk_ret ?_
   refine then_ret ?_
   refine ret_one (.inl rfl) rfl 0 (.bool false) (by kernel_rfl) (by kernel_rfl) (fun w hT => ?_)
   exact ⟨ret_bool (by first | exact (eqF_no (j := i) (by omega) (by omega) ‹_›).symm | exact (eqF_len (by omega)).symm), hT.post rfl⟩
  replace c6_ : (p (rget xs i) (rget xs' i)) = true := by simpa using c6_
  refine cont_false rfl ?_
  refine cont_skip ?_
  refine blk_normal ?_
  refine then_normal ?_
  refine cont_region 2 rfl ?_
  refine bS [0] 1 1 [(1, .slice A' n' cap'), (2, .func (.func fk) #[] #[]), (15, .slice (some ⟨g, o, none⟩) n cap), (16, iq (n : Int)), (31, iq (IntKind.i64.wrap ((i : Int) + 1)))] ?_
  refine cont_recast 31 (iq (IntKind.i64.wrap ((i : Int) + 1))) (iq ((i : Int) + 1)) rfl (wrapI (by omega) (by omega)) ?_
  refine bS [0] 2 0 [(1, .slice A' n' cap'), (2, .func (.func fk) #[] #[]), (15, .slice (some ⟨g, o, none⟩) n cap), (16, iq (n : Int)), (17, iq ((i : Int) + 1))] ?_
  refine cont_done ?_
  refine then_normal ?_
  refine cont_recast 15 (.slice (some ⟨g, o, none⟩) n cap) (.slice A n cap) rfl (by rw [hra (by omega)]) ?_
  refine cont_again (i + 1) (show (i + 1) ≤ n ∧ ∀ j, j < (i + 1) → p (rget xs j) (rget xs' j) = true from ⟨by omega, fun j hj => by rcases Nat.lt_succ_iff_lt_or_eq.1 hj with h_ | h_; exact hns j h_; subst h_; assumption⟩) (show n - (i + 1) < n - i from by omega) (by kernel_rfl) (by kernel_rfl)
 replace c3_ := of_decide_eq_false c3_
 refine cont_false rfl ?_
 refine cont_exit ?_
 refine then_exit ?_
 refine then_exit ?_
 refine blk_exit ?_
 refine then_normal ?_
 refine cont_seq ?_
 refine cont_region 1 rfl ?_
 refine bS [0] 1 0 [(6, .bool true)] ?_
 refine cont_done ?_
 refine then_normal ?_
 refine cont_ret ?_
 refine ret_one (.inl rfl) rfl 0 (.bool true) (by kernel_rfl) (by kernel_rfl) (fun w hT => ?_)
 exact ⟨ret_bool (eqF_all (by omega) (fun j hj => hns j (by omega))).symm, hT.post rfl⟩

theorem alike1W (r q : Rect) (w : World) :
    Calls Try.prog 122 #[.agg #[.int .i64 r.x0, .int .i64 r.y0, .int .i64 r.x1, .int .i64 r.y1], .agg #[.int .i64 q.x0, .int .i64 q.y0, .int .i64 q.x1, .int .i64 q.y1]] w fun e w' => e = .returned (.bool (alike1 r q)) ∧ Below w.heap.size w w' := by
 refine enter 24 [(0, .agg #[iq r.x0, iq r.y0, iq r.x1, iq r.y1]), (1, .agg #[iq q.x0, iq q.y0, iq q.x1, iq q.y1])] [] Try.func122 rfl Try.ntmps122 rfl (by kernel_rfl) (Tab.start w) ?_
 refine cont_seq ?_
 refine cont_region 3 rfl ?_
 refine batch2 [0, 0, 0] 3 0 (fun b1 b2 => [(2, .pointer (pB b1)), (3, .pointer (pB b2))]) (fun b1 b2 => [.cells b2 [iq q.x0, iq q.y0, iq q.x1, iq q.y1] 53 true, .cells b1 [iq r.x0, iq r.y0, iq r.x1, iq r.y1] 53 true]) rfl rfl [2, 3] (fun _ _ => rfl) (fun b1 b2 => by kernel_rfl) (fun b1 b2 => by kernel_rfl) (fun b1 b2 => ?_)
 refine cont_done ?_
 refine then_normal ?_
 refine cont_seq ?_
 refine cont_region 20 rfl ?_
 refine bS [0, 1, 0, 0, 0, 0] 6 14 [(2, .pointer (pB b1)), (3, .pointer (pB b2)), (10, .bool (r.x0 == q.x0))] ?_
 refine cont_split 10 (r.x0 == q.x0) rfl (fun c3_ => ?_) (fun c3_ => ?_)
 ·
  replace c3_ := eq_of_beqt c3_
  refine bS [0, 1, 0, 0, 0, 0, 0] 13 7 [(2, .pointer (pB b1)), (3, .pointer (pB b2)), (17, .bool (r.x1 == q.x1))] ?_
  refine cont_split 17 (r.x1 == q.x1) rfl (fun c4_ => ?_) (fun c4_ => ?_)
  ·
   replace c4_ := eq_of_beqt c4_
   refine bS [0, 1, 0, 0, 0, 0, 0] 20 0 [(4, .bool (r.y1 == q.y0))] ?_
   refine cont_forget 0 rfl ?_
   refine cont_forget 0 rfl ?_
   refine cont_done ?_
   refine then_normal ?_
   refine cont_ret ?_
   refine ret_one (.inl rfl) rfl 0 (.bool (r.y1 == q.y0)) (by kernel_rfl) (by kernel_rfl) (fun w hT => ?_)
   exact ⟨ret_bool (by unfold alike1; rw [Bool.eq_iff_iff]; simp_all), hT.post rfl⟩
  replace c4_ := ne_of_beqf c4_
  refine bS [0, 0, 0, 0, 0, 0, 0] 20 0 [(4, .bool false)] ?_
  refine cont_forget 0 rfl ?_
  refine cont_forget 0 rfl ?_
  refine cont_done ?_
  refine then_normal ?_
  refine cont_ret ?_
  refine ret_one (.inl rfl) rfl 0 (.bool false) (by kernel_rfl) (by kernel_rfl) (fun w hT => ?_)
  exact ⟨ret_bool (by unfold alike1; rw [Bool.eq_iff_iff]; simp_all), hT.post rfl⟩
 replace c3_ := ne_of_beqf c3_
 refine bS [0, 0, 0, 0, 0, 0, 0, 0, 0, 0, 0, 0, 0, 0] 20 0 [(4, .bool false)] ?_
 refine cont_forget 0 rfl ?_
 refine cont_forget 0 rfl ?_
 refine cont_done ?_
 refine then_normal ?_
 refine cont_ret ?_
 refine ret_one (.inl rfl) rfl 0 (.bool false) (by kernel_rfl) (by kernel_rfl) (fun w hT => ?_)
 exact ⟨ret_bool (by unfold alike1; rw [Bool.eq_iff_iff]; simp_all), hT.post rfl⟩

theorem regAlike (A : Option Addr) (g o n cap : Nat) (xs : List Rect) (A' : Option Addr) (g' o' n' cap' : Nat) (xs' : List Rect) (w : World) (hT0 : Tab w w [.gen (rdE (A) g o n 4 (rvals xs)), .gen (rdE (A') g' o' n' 4 (rvals xs'))]) (hn : n ≤ 1000000000000) :
    Calls Try.prog 108 #[.slice A n cap, .slice A' n' cap'] w fun e w' => e = .returned (.bool (alikeL xs xs')) ∧ Below w.heap.size w w' := by
 obtain ⟨hra, hrl⟩ := Rd.factsR (hT0.ok 0 _ rfl)
 obtain ⟨hra', hrl'⟩ := Rd.factsR (hT0.ok 1 _ rfl)
 refine enter 13 [(0, .slice A n cap), (1, .slice A' n' cap')] [.gen (rdE (A) g o n 4 (rvals xs)), .gen (rdE (A') g' o' n' 4 (rvals xs'))] Try.func108 rfl Try.ntmps108 rfl (by kernel_rfl) hT0 ?_
 refine cont_seq ?_
 refine cont_region 1 rfl ?_
 refine bS [0] 1 0 [(0, .slice A n cap), (1, .slice A' n' cap')] ?_
 refine cont_done ?_
 refine then_normal ?_
 refine cont_seq ?_
 refine cont_region 9 rfl ?_
 refine bS [0, 0, 0, 0] 4 5 [(0, .slice A n cap), (1, .slice A' n' cap'), (8, .bool (decide ((n : Int) > 0)))] ?_
 refine cont_split 8 (decide ((n : Int) > 0)) rfl (fun c1_ => ?_) (fun c1_ => ?_)
 ·
  replace c1_ := of_decide_eq_true c1_
  refine bS [0, 0] 6 3 [(8, .bool true), (9, .slice A n cap), (10, .slice A' n' cap')] ?_
  refine pl_step 7 2 rfl rfl ?_
  refine call_pure (d := 11) (.bool (eqF alike1 xs xs')) (by kernel_rfl) (fun w hT => eqFuncR A g o n cap xs A' g' o' n' cap' xs' 122 alike1 w (hT.viewRo (.cons (i := 0) rfl Vw.rd (.cons (i := 1) rfl Vw.rd .nil)) rfl) (fun _ => by kernel_rfl) (fun r q w => alike1W r q w) (by omega)) ?_
  refine bS [0, 0] 9 0 [(4, .bool (eqF alike1 xs xs'))] ?_
  refine cont_done ?_
  refine then_normal ?_
  refine cont_ret ?_
  refine ret_one (.inl rfl) rfl 0 (.bool (eqF alike1 xs xs')) (by kernel_rfl) (by kernel_rfl) (fun w hT => ?_)
  exact ⟨ret_bool (by unfold alikeL; rw [decide_eq_true (show 0 < xs.length by omega)]; rfl), hT.post rfl⟩
 replace c1_ := of_decide_eq_false c1_
 refine bS [0, 0, 0, 0, 0] 9 0 [(4, .bool false)] ?_
 refine cont_done ?_
 refine then_normal ?_
 refine cont_ret ?_
 refine ret_one (.inl rfl) rfl 0 (.bool false) (by kernel_rfl) (by kernel_rfl) (fun w hT => ?_)
 exact ⟨ret_bool (by unfold alikeL; rw [decide_eq_false (show ¬ 0 < xs.length by omega)]; rfl), hT.post rfl⟩

theorem regMerge (A : Option Addr) (g o n cap : Nat) (xs : List Rect) (A' : Option Addr) (g' o' n' cap' : Nat) (xs' : List Rect) (fk : FuncId) (kf : Bool → Bool → Bool) (w : World) (hT0 : Tab w w [.gen (rdE (A) g o n 4 (rvals xs)), .gen (rdE (A') g' o' n' 4 (rvals xs'))]) (hE : Enters Try.prog fk) (hf : ∀ (p q : Bool) (w : World), Calls Try.prog fk #[.bool p, .bool q] w fun e w' => e = .returned (.bool (kf p q)) ∧ Below w.heap.size w w') (hn : n + n' ≤ 262144) :
    Calls Try.prog 86 #[.slice A n cap, .slice A' n' cap', .func (.func fk) #[] #[]] w fun e w' => ∃ (A_ : Option Addr) (g_ k_ cp_ : Nat), e = .returned (.slice A_ k_ cp_) ∧ Tab w w' [.gen (rowE (A_) g_ k_ cp_ 53 4 (rvals (regM kf xs xs')) true)] := by
 obtain ⟨hra, hrl⟩ := Rd.factsR (hT0.ok 0 _ rfl)
 obtain ⟨hra', hrl'⟩ := Rd.factsR (hT0.ok 1 _ rfl)
 refine enter 63 [(0, .slice A n cap), (1, .slice A' n' cap'), (2, .func (.func fk) #[] #[])] [.gen (rdE (A) g o n 4 (rvals xs)), .gen (rdE (A') g' o' n' 4 (rvals xs'))] Try.func86 rfl Try.ntmps86 rfl (by kernel_rfl) hT0 ?_
 refine cont_seq ?_
 refine cont_region 1 rfl ?_
 refine bS [0] 1 0 [(0, .slice A n cap), (1, .slice A' n' cap'), (2, .func (.func fk) #[] #[])] ?_
 refine cont_done ?_
 refine then_normal ?_
 refine cont_seq ?_
 refine cont_region 5 rfl ?_
 refine batch1 [0, 0, 0] 3 2 (fun b1 => [(0, .slice A n cap), (1, .slice A' n' cap'), (2, .func (.func fk) #[] #[]), (15, .slice (pB b1) 2 2)]) (fun b1 => [.cells b1 [.slice A n cap, .slice A' n' cap'] 58 true, .gen (rdE (A) g o n 4 (rvals xs)), .gen (rdE (A') g' o' n' 4 (rvals xs'))]) rfl rfl [0, 1, 2, 15] (fun _ => rfl) (fun b1 => by kernel_rfl) (fun b1 => by kernel_rfl) (fun b1 => ?_)
 refine pl_step 4 1 rfl rfl ?_
 refine call_gen (d := 16) (α := Option Addr × Nat × Nat × Nat) (fun x_ => .slice x_.1 x_.2.2.1 x_.2.2.2) (fun x_ => [.gen (rowE (x_.1) x_.2.1 x_.2.2.1 x_.2.2.2 3 1 (ivals .i64 (gridL (evY xs ++ evY xs'))) true), .cells b1 [.slice A n cap, .slice A' n' cap'] 58 true, .gen (rdE (A) g o n 4 (rvals xs)), .gen (rdE (A') g' o' n' 4 (rvals xs'))]) (fun x_ => True) (by kernel_rfl) (fun w hT => (regEdges 106 (fun r : Rect => r.y0) (fun r : Rect => r.y1) b1 A g o n cap xs A' g' o' n' cap' xs' w (hT.viewRo (.cons (i := 0) rfl Vw.roc (.cons (i := 1) rfl Vw.rd (.cons (i := 2) rfl Vw.rd .nil))) rfl) (fun _ => by kernel_rfl) (fun r w => sideY r.x0 r.y0 r.x1 r.y1 w) (by omega)).mono fun e w' ⟨A2, g3, k4, cp5, he_, ht_⟩ => ⟨(A2, g3, k4, cp5), he_, trivial, hT.news ht_ rfl⟩) ?_
 rintro ⟨A2, g3, k4, cp5⟩ hf6_
 refine cont_norm [(0, .slice A n cap), (1, .slice A' n' cap'), (2, .func (.func fk) #[] #[]), (15, .slice (pB b1) 2 2), (16, .slice A2 k4 cp5)] [.gen (rowE (A2) g3 k4 cp5 3 1 (ivals .i64 (gridL (evY xs ++ evY xs'))) true), .cells b1 [.slice A n cap, .slice A' n' cap'] 58 true, .gen (rdE (A) g o n 4 (rvals xs)), .gen (rdE (A') g' o' n' 4 (rvals xs'))] (by kernel_rfl) rfl ?_
 refine cont_fact (F := (0 < k4 → (A2 : Option Addr) = pB g3) ∧ (gridL (evY xs ++ evY xs')).length = k4 ∧ k4 ≤ cp5 ∧ cp5 ≤ maxLen) (fun w hT => Row.facts (hT.ok 0 _ rfl)) (fun hr7_ => ?_)
 obtain ⟨hr7_a, hr7_l, hr7_c, hr7_m⟩ := hr7_
 unfold maxLen at hr7_m
 refine bS [0] 5 0 [(0, .slice A n cap), (1, .slice A' n' cap'), (2, .func (.func fk) #[] #[]), (7, .slice A2 k4 cp5)] ?_
 refine cont_forget 1 rfl ?_
 refine cont_done ?_
 refine then_normal ?_
 refine cont_seq ?_
 refine cont_region 2 rfl ?_
 refine bS [0, 0] 2 0 [(0, .slice A n cap), (1, .slice A' n' cap'), (2, .func (.func fk) #[] #[]), (7, .slice A2 k4 cp5), (8, .slice none 0 0), (9, .slice none 0 0)] ?_
 refine cont_done ?_
 refine then_normal ?_
 refine cont_seq ?_
 refine cont_seq ?_
 refine cont_region 5 rfl ?_
 obtain ⟨YS, hYS⟩ : ∃ y_ : List Int, y_ = (gridL (evY xs ++ evY xs')) := ⟨_, rfl⟩
 refine cont_rowEq (k := .i64) 0 (gridL (evY xs ++ evY xs')) (YS) rfl hYS.symm ?_
 refine cont_fact (F := (0 < k4 → (A2 : Option Addr) = pB g3) ∧ YS.length = k4 ∧ k4 ≤ cp5 ∧ cp5 ≤ maxLen) (fun w hT => Row.facts (hT.ok 0 _ rfl)) (fun hr8_ => ?_)
 obtain ⟨hr8_a, hr8_l, hr8_c, hr8_m⟩ := hr8_
 unfold maxLen at hr8_m
 have hbY : YS.length ≤ 2 * (n + n') := by have := ysP_length xs xs'; rw [hYS]; unfold ysP at this; omega
 refine bS [0, 0, 0] 3 2 [(0, .slice A n cap), (1, .slice A' n' cap'), (2, .func (.func fk) #[] #[]), (7, .slice A2 k4 cp5), (8, .slice none 0 0), (9, .slice none 0 0), (19, iq (IntKind.i64.wrap ((k4 : Int) - 1)))] ?_
 refine cont_recast 19 (iq (IntKind.i64.wrap ((k4 : Int) - 1))) (iq ((k4 : Int) - 1)) rfl (wrapI (by omega) (by omega)) ?_
 refine bS [0, 0] 5 0 [(0, .slice A n cap), (1, .slice A' n' cap'), (2, .func (.func fk) #[] #[]), (7, .slice A2 k4 cp5), (8, .slice none 0 0), (9, .slice none 0 0), (20, iq (mx ((k4 : Int) - 1) 0)), (21, iq 0)] ?_
 refine cont_done ?_
 refine then_normal ?_
 refine cont_block ?_
 refine cont_recast 20 (iq (mx ((k4 : Int) - 1) 0)) (iq ((YS.length - 1 : Nat) : Int)) rfl (congrArg (Value.int .i64) (by unfold mx; omega)) ?_
 refine cont_nilrow 53 4 ?_
 refine cont_norm [(0, .slice A n cap), (1, .slice A' n' cap'), (2, .func (.func fk) #[] #[]), (7, .slice A2 k4 cp5), (8, .slice none 0 0), (9, .slice none 0 0), (20, iq ((YS.length - 1 : Nat) : Int)), (21, iq 0)] [.gen (rowE (none) 0 0 0 53 4 (rvals []) true), .gen (rowE (A2) g3 k4 cp5 3 1 (ivals .i64 YS) true), .gen (rdE (A) g o n 4 (rvals xs)), .gen (rdE (A') g' o' n' 4 (rvals xs'))] (by kernel_rfl) rfl ?_
 refine cont_nilrow 53 4 ?_
 refine cont_norm [(0, .slice A n cap), (1, .slice A' n' cap'), (2, .func (.func fk) #[] #[]), (7, .slice A2 k4 cp5), (8, .slice none 0 0), (9, .slice none 0 0), (20, iq ((YS.length - 1 : Nat) : Int)), (21, iq 0)] [.gen (rowE (none) 0 0 0 53 4 (rvals []) true), .gen (rowE (none) 0 0 0 53 4 (rvals []) true), .gen (rowE (A2) g3 k4 cp5 3 1 (ivals .i64 YS) true), .gen (rdE (A) g o n 4 (rvals xs)), .gen (rdE (A') g' o' n' 4 (rvals xs'))] (by kernel_rfl) rfl ?_
 refine cont_rowEqR 0 ([]) ((mgG (fun a b _ => alikeL a b) (bandP kf xs xs') YS 0).1) rfl rfl ?_
 refine cont_rowEqR 1 ([]) ((mgG (fun a b _ => alikeL a b) (bandP kf xs xs') YS 0).2) rfl rfl ?_
 refine cont_loop (α := Nat × Nat × Option Addr × Nat × Nat × Nat × Option Addr × Nat × Nat) (fun x_ : Nat × Nat × Option Addr × Nat × Nat × Nat × Option Addr × Nat × Nat => x_.1 ≤ YS.length - 1) (fun x_ : Nat × Nat × Option Addr × Nat × Nat × Nat × Option Addr × Nat × Nat => [(0, .slice A n cap), (1, .slice A' n' cap'), (2, .func (.func fk) #[] #[]), (7, .slice A2 k4 cp5), (8, .slice x_.2.2.1 x_.2.1 x_.2.2.2.2.1), (9, .slice x_.2.2.2.2.2.2.1 x_.2.2.2.2.2.1 x_.2.2.2.2.2.2.2.2), (20, iq ((YS.length - 1 : Nat) : Int)), (21, iq (x_.1 : Int))]) (fun x_ : Nat × Nat × Option Addr × Nat × Nat × Nat × Option Addr × Nat × Nat => [.gen (rowE (x_.2.2.1) x_.2.2.2.1 x_.2.1 x_.2.2.2.2.1 53 4 (rvals ((mgG (fun a b _ => alikeL a b) (bandP kf xs xs') YS x_.1).1)) true), .gen (rowE (x_.2.2.2.2.2.2.1) x_.2.2.2.2.2.2.2.1 x_.2.2.2.2.2.1 x_.2.2.2.2.2.2.2.2 53 4 (rvals ((mgG (fun a b _ => alikeL a b) (bandP kf xs xs') YS x_.1).2)) true), .gen (rowE (A2) g3 k4 cp5 3 1 (ivals .i64 YS) true), .gen (rdE (A) g o n 4 (rvals xs)), .gen (rdE (A') g' o' n' 4 (rvals xs'))]) (fun x_ : Nat × Nat × Option Addr × Nat × Nat × Nat × Option Addr × Nat × Nat => YS.length - 1 - x_.1) (0, 0, none, 0, 0, 0, none, 0, 0) (show (0) ≤ YS.length - 1 from (by omega)) (by kernel_rfl) (by kernel_rfl) ?_
 rintro ⟨i, kq, Aq, gq, cq, kr, Ar, gr, cr⟩ hinv11_
 replace hinv11_ : i ≤ YS.length - 1 := hinv11_
 refine cont_norm [(0, .slice A n cap), (1, .slice A' n' cap'), (2, .func (.func fk) #[] #[]), (7, .slice A2 k4 cp5), (8, .slice Aq kq cq), (9, .slice Ar kr cr), (20, iq ((YS.length - 1 : Nat) : Int)), (21, iq (i : Int))] [.gen (rowE (Aq) gq kq cq 53 4 (rvals ((mgG (fun a b _ => alikeL a b) (bandP kf xs xs') YS i).1)) true), .gen (rowE (Ar) gr kr cr 53 4 (rvals ((mgG (fun a b _ => alikeL a b) (bandP kf xs xs') YS i).2)) true), .gen (rowE (A2) g3 k4 cp5 3 1 (ivals .i64 YS) true), .gen (rdE (A) g o n 4 (rvals xs)), .gen (rdE (A') g' o' n' 4 (rvals xs'))] (by kernel_rfl) rfl ?_
 have hi := hinv11_
 have hmb := mgG_bound (al := (fun a b _ => alikeL a b)) (own := (bandP kf xs xs')) (ys := YS) (m := 2 * (xs.length + xs'.length)) (i := i) (fun a b => bandP_length kf xs xs' a b) (by omega) (by omega)
 refine cont_seq ?_
 refine cont_region 1 rfl ?_
 refine bS [0] 1 0 [(0, .slice A n cap), (1, .slice A' n' cap'), (2, .func (.func fk) #[] #[]), (7, .slice A2 k4 cp5), (8, .slice Aq kq cq), (9, .slice Ar kr cr), (20, iq ((YS.length - 1 : Nat) : Int)), (21, iq (i : Int)), (22, .bool (decide ((i : Int) < ((YS.length - 1 : Nat) : Int))))] ?_
 refine cont_done ?_
 refine then_normal ?_
 refine cont_seq ?_
 refine cont_split 22 (decide ((i : Int) < ((YS.length - 1 : Nat) : Int))) rfl (fun c12_ => ?_) (fun c12_ => ?_)
 ·
  replace c12_ := of_decide_eq_true c12_
  refine cont_true rfl ?_
  refine cont_skip ?_
  refine then_normal ?_
  refine cont_seq ?_
  refine cont_block ?_
  refine cont_seq ?_
  refine cont_region 2 rfl ?_
  refine cont_fact (F := (0 < kq → (Aq : Option Addr) = pB gq) ∧ ((mgG (fun a b _ => alikeL a b) (bandP kf xs xs') YS i).1).length = kq ∧ kq ≤ cq ∧ cq ≤ maxLen) (fun w hT => Row.factsR (hT.ok 0 _ rfl)) (fun hr13_ => ?_)
  obtain ⟨hr13_a, hr13_l, hr13_c, hr13_m⟩ := hr13_
  unfold maxLen at hr13_m
  refine cont_fact (F := (0 < kr → (Ar : Option Addr) = pB gr) ∧ ((mgG (fun a b _ => alikeL a b) (bandP kf xs xs') YS i).2).length = kr ∧ kr ≤ cr ∧ cr ≤ maxLen) (fun w hT => Row.factsR (hT.ok 1 _ rfl)) (fun hr14_ => ?_)
  obtain ⟨hr14_a, hr14_l, hr14_c, hr14_m⟩ := hr14_
  unfold maxLen at hr14_m
  refine bS [0, 0] 2 0 [(0, .slice A n cap), (1, .slice A' n' cap'), (2, .func (.func fk) #[] #[]), (7, .slice A2 k4 cp5), (8, .slice Aq kq cq), (9, .slice Ar kr cr), (10, iq (i : Int)), (20, iq ((YS.length - 1 : Nat) : Int)), (21, iq (i : Int))] ?_
  refine cont_done ?_
  refine then_normal ?_
  refine cont_seq ?_
  refine drawn_enter 14 [] rfl (by kernel_rfl) ?_
  refine takes 0 [] [(0, 0), (1, 0), (2, 0), (3, 0), (6, 0), (7, 0), (11, 0)] 7 [11, 7, 6, 3, 2, 1, 0] [(0, .slice A n cap), (1, .slice A' n' cap'), (2, .func (.func fk) #[] #[]), (7, .slice A2 k4 cp5), (8, .slice Aq kq cq), (9, .slice Ar kr cr), (10, iq (i : Int)), (20, iq ((YS.length - 1 : Nat) : Int)), (21, iq (i : Int)), (24, .slice A n cap), (25, .slice A' n' cap'), (26, .slice A2 k4 cp5), (27, iq (i : Int)), (30, .slice A2 k4 cp5), (31, iq (i : Int)), (35, .func (.func fk) #[] #[])] (by kernel_rfl) (pok_then (pok_blk (pok_then (pok_then (pok_blk (pok_then pok_body)))))) (by kernel_rfl) rfl rfl (by kernel_rfl) (by kernel_rfl) ?_
  refine cont_recast 26 (.slice A2 k4 cp5) (.slice (pB g3) k4 cp5) rfl (by rw [hr8_a (by omega)]) ?_
  refine sem_take 0 [] 4 6 28 (Instr.indexAt 34 (.slice (pB g3) k4 cp5) (iq (i : Int))) (.pointer (some ⟨g3, i, none⟩)) (by kernel_rfl) (pok_then (pok_blk (pok_then (pok_then (pok_blk (pok_then pok_body)))))) (by kernel_rfl) rfl (by kernel_rfl) (by kernel_rfl) (fun w hT => run_indexAt (e := 3) (sz := 1) _ (by kernel_rfl) (by kernel_rfl) (by omega) (by omega) (by omega) w) ?_
  refine sem_take 0 [] 5 5 29 (Instr.loadAt 3 (.pointer (some ⟨g3, i, none⟩))) (iq (YS.getD i 0)) (by kernel_rfl) (pok_then (pok_blk (pok_then (pok_then (pok_blk (pok_then pok_body)))))) (by kernel_rfl) rfl (by kernel_rfl) (by kernel_rfl) (fun w hT => run_load1 (by kernel_rfl) (Row.cell (hT 2 _ rfl) (i) _ (ivals_get (by omega)))) ?_
  refine takes 0 [] [(8, 0)] 4 [8, 5, 4, 11, 7, 6, 3, 2, 1, 0] [(0, .slice A n cap), (1, .slice A' n' cap'), (2, .func (.func fk) #[] #[]), (7, .slice A2 k4 cp5), (8, .slice Aq kq cq), (9, .slice Ar kr cr), (10, iq (i : Int)), (20, iq ((YS.length - 1 : Nat) : Int)), (21, iq (i : Int)), (24, .slice A n cap), (25, .slice A' n' cap'), (29, iq (YS.getD i 0)), (30, .slice A2 k4 cp5), (32, iq (IntKind.i64.wrap ((i : Int) + 1))), (35, .func (.func fk) #[] #[])] (by kernel_rfl) (pok_then (pok_blk (pok_then (pok_then (pok_blk (pok_then pok_body)))))) (by kernel_rfl) rfl rfl (by kernel_rfl) (by kernel_rfl) ?_
  refine cont_recast 32 (iq (IntKind.i64.wrap ((i : Int) + 1))) (iq ((i + 1 : Nat) : Int)) rfl (by rw [show (((i + 1 : Nat) : Int)) = (i : Int) + 1 by omega]; exact wrapI (by omega) (by omega)) ?_
  refine cont_recast 30 (.slice A2 k4 cp5) (.slice (pB g3) k4 cp5) rfl (by rw [hr8_a (by omega)]) ?_
  refine sem_take 0 [] 9 3 33 (Instr.indexAt 34 (.slice (pB g3) k4 cp5) (iq ((i + 1 : Nat) : Int))) (.pointer (some ⟨g3, (i + 1 : Nat), none⟩)) (by kernel_rfl) (pok_then (pok_blk (pok_then (pok_then (pok_blk (pok_then pok_body)))))) (by kernel_rfl) rfl (by kernel_rfl) (by kernel_rfl) (fun w hT => run_indexAt (e := 3) (sz := 1) _ (by kernel_rfl) (by kernel_rfl) (by omega) (by omega) (by omega) w) ?_
  refine sem_take 0 [] 10 2 34 (Instr.loadAt 3 (.pointer (some ⟨g3, (i + 1 : Nat), none⟩))) (iq (YS.getD (i + 1 : Nat) 0)) (by kernel_rfl) (pok_then (pok_blk (pok_then (pok_then (pok_blk (pok_then pok_body)))))) (by kernel_rfl) rfl (by kernel_rfl) (by kernel_rfl) (fun w hT => run_load1 (by kernel_rfl) (Row.cell (hT 2 _ rfl) ((i + 1 : Nat)) _ (ivals_get (by omega)))) ?_
  refine drawn_one 12 1 rfl (by kernel_rfl) ?_
  refine call_gen (d := 36) (α := Option Addr × Nat × Nat × Nat) (fun x_ => .slice x_.1 x_.2.2.1 x_.2.2.2) (fun x_ => [.gen (rowE (x_.1) x_.2.1 x_.2.2.1 x_.2.2.2 53 4 (rvals (bandP kf xs xs' (YS.getD i 0) (YS.getD (i + 1 : Nat) 0))) true), .gen (rowE (Aq) gq kq cq 53 4 (rvals ((mgG (fun a b _ => alikeL a b) (bandP kf xs xs') YS i).1)) true), .gen (rowE (Ar) gr kr cr 53 4 (rvals ((mgG (fun a b _ => alikeL a b) (bandP kf xs xs') YS i).2)) true), .gen (rowE (A2) g3 k4 cp5 3 1 (ivals .i64 YS) true), .gen (rdE (A) g o n 4 (rvals xs)), .gen (rdE (A') g' o' n' 4 (rvals xs'))]) (fun x_ => True) (by kernel_rfl) (fun w hT => (regBand A g o n cap xs A' g' o' n' cap' xs' (YS.getD i 0) (YS.getD (i + 1 : Nat) 0) fk kf w (hT.viewRo (.cons (i := 3) rfl Vw.rd (.cons (i := 4) rfl Vw.rd .nil)) rfl) hE hf (by omega)).mono fun e w' ⟨A15, g16, k17, cp18, he_, ht_⟩ => ⟨(A15, g16, k17, cp18), he_, trivial, hT.news ht_ rfl⟩) ?_
  rintro ⟨A15, g16, k17, cp18⟩ hf19_
  refine cont_norm [(0, .slice A n cap), (1, .slice A' n' cap'), (2, .func (.func fk) #[] #[]), (7, .slice A2 k4 cp5), (8, .slice Aq kq cq), (9, .slice Ar kr cr), (10, iq (i : Int)), (20, iq ((YS.length - 1 : Nat) : Int)), (21, iq (i : Int)), (24, .slice A n cap), (25, .slice A' n' cap'), (29, iq (YS.getD i 0)), (30, .slice (pB g3) k4 cp5), (32, iq ((i + 1 : Nat) : Int)), (33, .pointer (some ⟨g3, (i + 1 : Nat), none⟩)), (34, iq (YS.getD (i + 1 : Nat) 0)), (35, .func (.func fk) #[] #[]), (36, .slice A15 k17 cp18)] [.gen (rowE (A15) g16 k17 cp18 53 4 (rvals (bandP kf xs xs' (YS.getD i 0) (YS.getD (i + 1 : Nat) 0))) true), .gen (rowE (Aq) gq kq cq 53 4 (rvals ((mgG (fun a b _ => alikeL a b) (bandP kf xs xs') YS i).1)) true), .gen (rowE (Ar) gr kr cr 53 4 (rvals ((mgG (fun a b _ => alikeL a b) (bandP kf xs xs') YS i).2)) true), .gen (rowE (A2) g3 k4 cp5 3 1 (ivals .i64 YS) true), .gen (rdE (A) g o n 4 (rvals xs)), .gen (rdE (A') g' o' n' 4 (rvals xs'))] (by kernel_rfl) rfl ?_
  refine cont_fact (F := (0 < k17 → (A15 : Option Addr) = pB g16) ∧ (bandP kf xs xs' (YS.getD i 0) (YS.getD (i + 1 : Nat) 0)).length = k17 ∧ k17 ≤ cp18 ∧ cp18 ≤ maxLen) (fun w hT => Row.factsR (hT.ok 0 _ rfl)) (fun hr20_ => ?_)
  obtain ⟨hr20_a, hr20_l, hr20_c, hr20_m⟩ := hr20_
  unfold maxLen at hr20_m
  refine drawn_next 1 [] (by kernel_rfl) ?_
  refine takes 1 [] [(13, 0)] 0 [13, 12, 10, 9, 8, 5, 4, 11, 7, 6, 3, 2, 1, 0] [(0, .slice A n cap), (1, .slice A' n' cap'), (2, .func (.func fk) #[] #[]), (7, .slice A2 k4 cp5), (8, .slice Aq kq cq), (9, .slice Ar kr cr), (10, iq (i : Int)), (11, .slice A15 k17 cp18), (20, iq ((YS.length - 1 : Nat) : Int)), (21, iq (i : Int))] (by kernel_rfl) (pok_then (pok_blk (pok_then (pok_then (pok_blk (pok_then pok_body)))))) (by kernel_rfl) rfl rfl (by kernel_rfl) (by kernel_rfl) ?_
  refine drawn_done (by kernel_rfl) ?_
  refine then_normal ?_
  refine cont_seq ?_
  refine cont_seq ?_
  refine cont_region 3 rfl ?_
  refine bS [0, 0] 2 1 [(0, .slice A n cap), (1, .slice A' n' cap'), (2, .func (.func fk) #[] #[]), (7, .slice A2 k4 cp5), (8, .slice Aq kq cq), (9, .slice Ar kr cr), (10, iq (i : Int)), (11, .slice A15 k17 cp18), (20, iq ((YS.length - 1 : Nat) : Int)), (21, iq (i : Int)), (37, .slice Ar kr cr), (38, .slice A15 k17 cp18)] ?_
  refine pl_step 3 0 rfl rfl ?_
  refine call_pure (d := 39) (.bool (alikeL ((mgG (fun a b _ => alikeL a b) (bandP kf xs xs') YS i).2) (bandP kf xs xs' (YS.getD i 0) (YS.getD (i + 1 : Nat) 0)))) (by kernel_rfl) (fun w hT => regAlike Ar gr 0 kr cr ((mgG (fun a b _ => alikeL a b) (bandP kf xs xs') YS i).2) A15 g16 0 k17 cp18 (bandP kf xs xs' (YS.getD i 0) (YS.getD (i + 1 : Nat) 0)) w (hT.viewRo (.cons (i := 2) rfl Vw.rowRd (.cons (i := 0) rfl Vw.rowRd .nil)) rfl) (by omega)) ?_
  refine cont_done ?_
  refine then_normal ?_
  refine cont_split 39 (alikeL ((mgG (fun a b _ => alikeL a b) (bandP kf xs xs') YS i).2) (bandP kf xs xs' (YS.getD i 0) (YS.getD (i + 1 : Nat) 0))) rfl (fun c21_ => ?_) (fun c21_ => ?_)
  ·
   have hal_ : alikeL (mgG (fun a b _ => alikeL a b) (bandP kf xs xs') YS i).2 (bandP kf xs xs' (YS.getD i 0) (YS.getD (i + 1) 0)) = true := c21_
   refine cont_true rfl ?_
   refine cont_seq ?_
   refine cont_seq ?_
   refine cont_region 3 rfl ?_
   refine bS [0, 0, 0] 3 0 [(0, .slice A n cap), (1, .slice A' n' cap'), (2, .func (.func fk) #[] #[]), (7, .slice A2 k4 cp5), (8, .slice Aq kq cq), (9, .slice Ar kr cr), (10, iq (i : Int)), (20, iq ((YS.length - 1 : Nat) : Int)), (21, iq (i : Int)), (41, iq (kr : Int)), (42, iq 0)] ?_
   refine cont_done ?_
   refine then_normal ?_
   refine cont_block ?_
   refine cont_rowEqR 2 ((mgG (fun a b _ => alikeL a b) (bandP kf xs xs') YS i).2) (setY1 (YS.getD (i + 1) 0) ((mgG (fun a b _ => alikeL a b) (bandP kf xs xs') YS i).2.take 0) ++ (mgG (fun a b _ => alikeL a b) (bandP kf xs xs') YS i).2.drop 0) rfl setY1_zero ?_
   refine cont_loop (α := Nat) (fun x_ : Nat => x_ ≤ kr) (fun x_ : Nat => [(0, .slice A n cap), (1, .slice A' n' cap'), (2, .func (.func fk) #[] #[]), (7, .slice A2 k4 cp5), (8, .slice Aq kq cq), (9, .slice Ar kr cr), (10, iq (i : Int)), (20, iq ((YS.length - 1 : Nat) : Int)), (21, iq (i : Int)), (41, iq (kr : Int)), (42, iq (x_ : Int))]) (fun x_ : Nat => [.gen (rowE (A15) g16 k17 cp18 53 4 (rvals (bandP kf xs xs' (YS.getD i 0) (YS.getD (i + 1 : Nat) 0))) true), .gen (rowE (Aq) gq kq cq 53 4 (rvals ((mgG (fun a b _ => alikeL a b) (bandP kf xs xs') YS i).1)) true), .gen (rowE (Ar) gr kr cr 53 4 (rvals (setY1 (YS.getD (i + 1) 0) ((mgG (fun a b _ => alikeL a b) (bandP kf xs xs') YS i).2.take x_) ++ (mgG (fun a b _ => alikeL a b) (bandP kf xs xs') YS i).2.drop x_)) true), .gen (rowE (A2) g3 k4 cp5 3 1 (ivals .i64 YS) true), .gen (rdE (A) g o n 4 (rvals xs)), .gen (rdE (A') g' o' n' 4 (rvals xs'))]) (fun x_ : Nat => kr - x_) 0 (by omega) (by kernel_rfl) (by kernel_rfl) ?_
   rintro j hinv22_
   replace hinv22_ : j ≤ kr := hinv22_
   refine cont_norm [(0, .slice A n cap), (1, .slice A' n' cap'), (2, .func (.func fk) #[] #[]), (7, .slice A2 k4 cp5), (8, .slice Aq kq cq), (9, .slice Ar kr cr), (10, iq (i : Int)), (20, iq ((YS.length - 1 : Nat) : Int)), (21, iq (i : Int)), (41, iq (kr : Int)), (42, iq (j : Int))] [.gen (rowE (A15) g16 k17 cp18 53 4 (rvals (bandP kf xs xs' (YS.getD i 0) (YS.getD (i + 1 : Nat) 0))) true), .gen (rowE (Aq) gq kq cq 53 4 (rvals ((mgG (fun a b _ => alikeL a b) (bandP kf xs xs') YS i).1)) true), .gen (rowE (Ar) gr kr cr 53 4 (rvals (setY1 (YS.getD (i + 1) 0) ((mgG (fun a b _ => alikeL a b) (bandP kf xs xs') YS i).2.take j) ++ (mgG (fun a b _ => alikeL a b) (bandP kf xs xs') YS i).2.drop j)) true), .gen (rowE (A2) g3 k4 cp5 3 1 (ivals .i64 YS) true), .gen (rdE (A) g o n 4 (rvals xs)), .gen (rdE (A') g' o' n' 4 (rvals xs'))] (by kernel_rfl) rfl ?_
   have hj := hinv22_
   refine cont_seq ?_
   refine cont_region 1 rfl ?_
   refine bS [0] 1 0 [(0, .slice A n cap), (1, .slice A' n' cap'), (2, .func (.func fk) #[] #[]), (7, .slice A2 k4 cp5), (8, .slice Aq kq cq), (9, .slice Ar kr cr), (10, iq (i : Int)), (20, iq ((YS.length - 1 : Nat) : Int)), (21, iq (i : Int)), (41, iq (kr : Int)), (42, iq (j : Int)), (43, .bool (decide ((j : Int) < (kr : Int))))] ?_
   refine cont_done ?_
   refine then_normal ?_
   refine cont_seq ?_
   refine cont_split 43 (decide ((j : Int) < (kr : Int))) rfl (fun c23_ => ?_) (fun c23_ => ?_)
   ·
    replace c23_ := of_decide_eq_true c23_
    refine cont_true rfl ?_
    refine cont_skip ?_
    refine then_normal ?_
    refine cont_seq ?_
    refine cont_block ?_
    refine cont_seq ?_
    refine cont_region 2 rfl ?_
    refine cont_fact (F := (0 < kr → (Ar : Option Addr) = pB gr) ∧ (setY1 (YS.getD (i + 1) 0) ((mgG (fun a b _ => alikeL a b) (bandP kf xs xs') YS i).2.take j) ++ (mgG (fun a b _ => alikeL a b) (bandP kf xs xs') YS i).2.drop j).length = kr ∧ kr ≤ cr ∧ cr ≤ maxLen) (fun w hT => Row.factsR (hT.ok 2 _ rfl)) (fun hr24_ => ?_)
    obtain ⟨hr24_a, hr24_l, hr24_c, hr24_m⟩ := hr24_
    unfold maxLen at hr24_m
    refine bS [0, 0] 2 0 [(0, .slice A n cap), (1, .slice A' n' cap'), (2, .func (.func fk) #[] #[]), (7, .slice A2 k4 cp5), (8, .slice Aq kq cq), (9, .slice Ar kr cr), (10, iq (i : Int)), (12, iq (j : Int)), (20, iq ((YS.length - 1 : Nat) : Int)), (21, iq (i : Int)), (41, iq (kr : Int)), (42, iq (j : Int))] ?_
    refine cont_done ?_
    refine then_normal ?_
    refine cont_region 10 rfl ?_
    refine bS [0, 0, 0, 0, 0] 5 5 [(0, .slice A n cap), (1, .slice A' n' cap'), (2, .func (.func fk) #[] #[]), (7, .slice A2 k4 cp5), (8, .slice Aq kq cq), (9, .slice Ar kr cr), (10, iq (i : Int)), (20, iq ((YS.length - 1 : Nat) : Int)), (21, iq (i : Int)), (41, iq (kr : Int)), (42, iq (j : Int)), (45, .slice Ar kr cr), (46, iq (j : Int)), (47, .slice A2 k4 cp5), (49, iq (IntKind.i64.wrap ((i : Int) + 1)))] ?_
    refine cont_recast 49 (iq (IntKind.i64.wrap ((i : Int) + 1))) (iq ((i + 1 : Nat) : Int)) rfl (by rw [show (((i + 1 : Nat) : Int)) = (i : Int) + 1 by omega]; exact wrapI (by omega) (by omega)) ?_
    refine pl_step 6 4 rfl rfl ?_
    refine cont_recast 47 (.slice A2 k4 cp5) (.slice (pB g3) k4 cp5) rfl (by rw [hr8_a (by omega)]) ?_
    refine sem_step 50 (Instr.indexAt 34 (.slice (pB g3) k4 cp5) (iq ((i + 1 : Nat) : Int))) (.pointer (some ⟨g3, (i + 1 : Nat), none⟩)) (by kernel_rfl) (fun w hT => run_indexAt (e := 3) (sz := 1) _ (by kernel_rfl) (by kernel_rfl) (by omega) (by omega) (by omega) w) ?_
    refine pl_step 7 3 rfl rfl ?_
    refine sem_step 51 (Instr.loadAt 3 (.pointer (some ⟨g3, (i + 1 : Nat), none⟩))) (iq (YS.getD (i + 1 : Nat) 0)) (by kernel_rfl) (fun w hT => run_load1 (by kernel_rfl) (Row.cell (hT.ok 3 _ rfl) ((i + 1 : Nat)) _ (ivals_get (by omega)))) ?_
    refine pl_step 8 2 rfl rfl ?_
    refine cont_recast 45 (.slice Ar kr cr) (.slice (pB gr) kr cr) rfl (by rw [hr24_a (by omega)]) ?_
    refine sem_step 52 (Instr.indexAt 58 (.slice (pB gr) kr cr) (iq (j : Int))) (.pointer (some ⟨gr, j * 4, none⟩)) (by kernel_rfl) (fun w hT => run_indexAt (e := 53) (sz := 4) _ (by kernel_rfl) (by kernel_rfl) (by omega) (by omega) (by omega) w) ?_
    refine bS [0] 9 1 [(0, .slice A n cap), (1, .slice A' n' cap'), (2, .func (.func fk) #[] #[]), (7, .slice A2 k4 cp5), (8, .slice Aq kq cq), (9, .slice Ar kr cr), (10, iq (i : Int)), (20, iq ((YS.length - 1 : Nat) : Int)), (21, iq (i : Int)), (41, iq (kr : Int)), (42, iq (j : Int)), (51, iq (YS.getD (i + 1 : Nat) 0)), (53, .pointer (some ⟨gr, j * 4 + 3, none⟩))] ?_
    refine pl_step 10 0 rfl rfl ?_
    refine sem_stepU (Instr.storeAt 3 (.pointer (some ⟨gr, j * 4 + 3, none⟩)) (iq (YS.getD (i + 1 : Nat) 0))) (fun _ => [.gen (rowE (A15) g16 k17 cp18 53 4 (rvals (bandP kf xs xs' (YS.getD i 0) (YS.getD (i + 1 : Nat) 0))) true), .gen (rowE (Aq) gq kq cq 53 4 (rvals ((mgG (fun a b _ => alikeL a b) (bandP kf xs xs') YS i).1)) true), .gen (rowE (Ar) gr kr cr 53 4 (rvals ((setY1 (YS.getD (i + 1) 0) ((mgG (fun a b _ => alikeL a b) (bandP kf xs xs') YS i).2.take j) ++ (mgG (fun a b _ => alikeL a b) (bandP kf xs xs') YS i).2.drop j).set j { rget (setY1 (YS.getD (i + 1) 0) ((mgG (fun a b _ => alikeL a b) (bandP kf xs xs') YS i).2.take j) ++ (mgG (fun a b _ => alikeL a b) (bandP kf xs xs') YS i).2.drop j) j with y1 := YS.getD (i + 1 : Nat) 0 })) true), .gen (rowE (A2) g3 k4 cp5 3 1 (ivals .i64 YS) true), .gen (rdE (A) g o n 4 (rvals xs)), .gen (rdE (A') g' o' n' 4 (rvals xs'))]) (fun _ => True) (by kernel_rfl) (fun w hT => store_fieldR hT (i := 2) (J := j) (k := 3) { rget (setY1 (YS.getD (i + 1) 0) ((mgG (fun a b _ => alikeL a b) (bandP kf xs xs') YS i).2.take j) ++ (mgG (fun a b _ => alikeL a b) (bandP kf xs xs') YS i).2.drop j) j with y1 := YS.getD (i + 1 : Nat) 0 } rfl (by kernel_rfl) (by omega) (by decide) (by omega) rfl) (fun _ _ => ?_)
    refine cont_done ?_
    refine blk_normal ?_
    refine then_normal ?_
    refine cont_region 2 rfl ?_
    refine bS [0] 1 1 [(0, .slice A n cap), (1, .slice A' n' cap'), (2, .func (.func fk) #[] #[]), (7, .slice A2 k4 cp5), (8, .slice Aq kq cq), (9, .slice Ar kr cr), (10, iq (i : Int)), (20, iq ((YS.length - 1 : Nat) : Int)), (21, iq (i : Int)), (41, iq (kr : Int)), (54, iq (IntKind.i64.wrap ((j : Int) + 1)))] ?_
    refine cont_recast 54 (iq (IntKind.i64.wrap ((j : Int) + 1))) (iq ((j : Int) + 1)) rfl (wrapI (by omega) (by omega)) ?_
    refine bS [0] 2 0 [(0, .slice A n cap), (1, .slice A' n' cap'), (2, .func (.func fk) #[] #[]), (7, .slice A2 k4 cp5), (8, .slice Aq kq cq), (9, .slice Ar kr cr), (10, iq (i : Int)), (20, iq ((YS.length - 1 : Nat) : Int)), (21, iq (i : Int)), (41, iq (kr : Int)), (42, iq ((j : Int) + 1))] ?_
    refine cont_done ?_
    refine then_normal ?_
    refine cont_rowEqR 2 ((setY1 (YS.getD (i + 1) 0) ((mgG (fun a b _ => alikeL a b) (bandP kf xs xs') YS i).2.take j) ++ (mgG (fun a b _ => alikeL a b) (bandP kf xs xs') YS i).2.drop j).set j { rget (setY1 (YS.getD (i + 1) 0) ((mgG (fun a b _ => alikeL a b) (bandP kf xs xs') YS i).2.take j) ++ (mgG (fun a b _ => alikeL a b) (bandP kf xs xs') YS i).2.drop j) j with y1 := YS.getD (i + 1 : Nat) 0 }) (setY1 (YS.getD (i + 1) 0) ((mgG (fun a b _ => alikeL a b) (bandP kf xs xs') YS i).2.take (j + 1)) ++ (mgG (fun a b _ => alikeL a b) (bandP kf xs xs') YS i).2.drop (j + 1)) rfl (setY1_step (by omega)) ?_
    refine cont_again (j + 1) (show (j + 1) ≤ kr from (by omega)) (show kr - (j + 1) < kr - j from by omega) (by kernel_rfl) (by kernel_rfl)
   replace c23_ := of_decide_eq_false c23_
   refine cont_false rfl ?_
   refine cont_exit ?_
   refine then_exit ?_
   refine then_exit ?_
   refine blk_exit ?_
   refine then_normal ?_
   refine cont_exit ?_
   refine then_exit ?_
   refine blk_exit ?_
   refine then_normal ?_
   refine cont_region 2 rfl ?_
   refine cont_rowEqR 2 (setY1 (YS.getD (i + 1) 0) ((mgG (fun a b _ => alikeL a b) (bandP kf xs xs') YS i).2.take j) ++ (mgG (fun a b _ => alikeL a b) (bandP kf xs xs') YS i).2.drop j) (setY1 (YS.getD (i + 1) 0) (mgG (fun a b _ => alikeL a b) (bandP kf xs xs') YS i).2) rfl (setY1_done (by omega)) ?_
   refine cont_pick [1, 2, 3, 4, 5] [.gen (rowE (Aq) gq kq cq 53 4 (rvals ((mgG (fun a b _ => alikeL a b) (bandP kf xs xs') YS i).1)) true), .gen (rowE (Ar) gr kr cr 53 4 (rvals (setY1 (YS.getD (i + 1) 0) (mgG (fun a b _ => alikeL a b) (bandP kf xs xs') YS i).2)) true), .gen (rowE (A2) g3 k4 cp5 3 1 (ivals .i64 YS) true), .gen (rdE (A) g o n 4 (rvals xs)), .gen (rdE (A') g' o' n' 4 (rvals xs'))] (by decide) rfl rfl ?_
   refine bS [0] 1 1 [(0, .slice A n cap), (1, .slice A' n' cap'), (2, .func (.func fk) #[] #[]), (7, .slice A2 k4 cp5), (8, .slice Aq kq cq), (9, .slice Ar kr cr), (20, iq ((YS.length - 1 : Nat) : Int)), (59, iq (IntKind.i64.wrap ((i : Int) + 1)))] ?_
   refine cont_recast 59 (iq (IntKind.i64.wrap ((i : Int) + 1))) (iq ((i : Int) + 1)) rfl (wrapI (by omega) (by omega)) ?_
   refine bS [0] 2 0 [(0, .slice A n cap), (1, .slice A' n' cap'), (2, .func (.func fk) #[] #[]), (7, .slice A2 k4 cp5), (8, .slice Aq kq cq), (9, .slice Ar kr cr), (20, iq ((YS.length - 1 : Nat) : Int)), (21, iq ((i : Int) + 1))] ?_
   refine cont_done ?_
   refine then_normal ?_
   have hst_ := mgG_on (al := (fun a b _ => alikeL a b)) (own := (bandP kf xs xs')) (ys := YS) (i := i) hal_
   refine cont_rowEqR 0 ((mgG (fun a b _ => alikeL a b) (bandP kf xs xs') YS i).1) ((mgG (fun a b _ => alikeL a b) (bandP kf xs xs') YS (i + 1)).1) rfl hst_.1 ?_
   refine cont_rowEqR 1 (setY1 (YS.getD (i + 1) 0) (mgG (fun a b _ => alikeL a b) (bandP kf xs xs') YS i).2) ((mgG (fun a b _ => alikeL a b) (bandP kf xs xs') YS (i + 1)).2) rfl hst_.2 ?_
   refine cont_again (i + 1, kq, Aq, gq, cq, kr, Ar, gr, cr) (show (i + 1) ≤ YS.length - 1 from (by omega)) (show YS.length - 1 - (i + 1) < YS.length - 1 - i from by omega) (by kernel_rfl) (by kernel_rfl)
  have hal_ : alikeL (mgG (fun a b _ => alikeL a b) (bandP kf xs xs') YS i).2 (bandP kf xs xs' (YS.getD i 0) (YS.getD (i + 1) 0)) = false := c21_
  refine cont_false rfl ?_
  refine cont_skip ?_
  refine then_normal ?_
  refine cont_seq ?_
  refine cont_region 4 rfl ?_
  refine bS [0, 0] 2 2 [(0, .slice A n cap), (1, .slice A' n' cap'), (2, .func (.func fk) #[] #[]), (7, .slice A2 k4 cp5), (11, .slice A15 k17 cp18), (20, iq ((YS.length - 1 : Nat) : Int)), (21, iq (i : Int)), (55, .slice Aq kq cq), (56, .slice Ar kr cr)] ?_
  refine pl_step 3 1 rfl rfl ?_
  refine sem_stepW (α := Option Addr × Nat × Nat) 57 (Builtin.append_ #[58, 58] 58 #[.slice Aq kq cq, .slice Ar kr cr]) (fun x_ => .slice x_.1 (kq + kr) x_.2.2) (fun x_ => [.gen (rowE (A15) g16 k17 cp18 53 4 (rvals (bandP kf xs xs' (YS.getD i 0) (YS.getD (i + 1 : Nat) 0))) true), .gen (rowE (x_.1) x_.2.1 (kq + kr) x_.2.2 53 4 (rvals (((mgG (fun a b _ => alikeL a b) (bandP kf xs xs') YS i).1) ++ ((mgG (fun a b _ => alikeL a b) (bandP kf xs xs') YS i).2))) true), .gen (rowE (Ar) gr kr cr 53 4 (rvals ((mgG (fun a b _ => alikeL a b) (bandP kf xs xs') YS i).2)) true), .gen (rowE (A2) g3 k4 cp5 3 1 (ivals .i64 YS) true), .gen (rdE (A) g o n 4 (rvals xs)), .gen (rdE (A') g' o' n' 4 (rvals xs'))]) (fun _ => True) (by kernel_rfl) (fun w hT => append_own (n' := (kq + kr)) (z := .agg #[iq 0, iq 0, iq 0, iq 0]) hT (i := 1) (bytes := 32) rfl (by kernel_rfl) (by kernel_rfl) rfl (by decide) (by decide) (Row.rd (hT.ok 2 _ rfl)) (rvals_one ((mgG (fun a b _ => alikeL a b) (bandP kf xs xs') YS i).2)) (by omega) (rvals_append ((mgG (fun a b _ => alikeL a b) (bandP kf xs xs') YS i).1) ((mgG (fun a b _ => alikeL a b) (bandP kf xs xs') YS i).2)) rfl) ?_
  rintro ⟨A25, g25, cp25⟩ -
  refine cont_norm [(0, .slice A n cap), (1, .slice A' n' cap'), (2, .func (.func fk) #[] #[]), (7, .slice A2 k4 cp5), (11, .slice A15 k17 cp18), (20, iq ((YS.length - 1 : Nat) : Int)), (21, iq (i : Int)), (55, .slice Aq kq cq), (56, .slice Ar kr cr), (57, .slice A25 (kq + kr) cp25)] [.gen (rowE (A15) g16 k17 cp18 53 4 (rvals (bandP kf xs xs' (YS.getD i 0) (YS.getD (i + 1 : Nat) 0))) true), .gen (rowE (A25) g25 (kq + kr) cp25 53 4 (rvals (((mgG (fun a b _ => alikeL a b) (bandP kf xs xs') YS i).1) ++ ((mgG (fun a b _ => alikeL a b) (bandP kf xs xs') YS i).2))) true), .gen (rowE (Ar) gr kr cr 53 4 (rvals ((mgG (fun a b _ => alikeL a b) (bandP kf xs xs') YS i).2)) true), .gen (rowE (A2) g3 k4 cp5 3 1 (ivals .i64 YS) true), .gen (rdE (A) g o n 4 (rvals xs)), .gen (rdE (A') g' o' n' 4 (rvals xs'))] (by kernel_rfl) rfl ?_
  refine cont_fact (F := (0 < (kq + kr) → (A25 : Option Addr) = pB g25) ∧ (((mgG (fun a b _ => alikeL a b) (bandP kf xs xs') YS i).1) ++ ((mgG (fun a b _ => alikeL a b) (bandP kf xs xs') YS i).2)).length = (kq + kr) ∧ (kq + kr) ≤ cp25 ∧ cp25 ≤ maxLen) (fun w hT => Row.factsR (hT.ok 1 _ rfl)) (fun hr26_ => ?_)
  obtain ⟨hr26_a, hr26_l, hr26_c, hr26_m⟩ := hr26_
  unfold maxLen at hr26_m
  refine bS [0] 4 0 [(0, .slice A n cap), (1, .slice A' n' cap'), (2, .func (.func fk) #[] #[]), (7, .slice A2 k4 cp5), (8, .slice A25 (kq + kr) cp25), (11, .slice A15 k17 cp18), (20, iq ((YS.length - 1 : Nat) : Int)), (21, iq (i : Int))] ?_
  refine cont_done ?_
  refine then_normal ?_
  refine cont_region 2 rfl ?_
  refine bS [0, 0] 2 0 [(0, .slice A n cap), (1, .slice A' n' cap'), (2, .func (.func fk) #[] #[]), (7, .slice A2 k4 cp5), (8, .slice A25 (kq + kr) cp25), (9, .slice A15 k17 cp18), (20, iq ((YS.length - 1 : Nat) : Int)), (21, iq (i : Int))] ?_
  refine cont_done ?_
  refine blk_normal ?_
  refine then_normal ?_
  refine cont_region 2 rfl ?_
  refine cont_pick [1, 0, 3, 4, 5] [.gen (rowE (A25) g25 (kq + kr) cp25 53 4 (rvals (((mgG (fun a b _ => alikeL a b) (bandP kf xs xs') YS i).1) ++ ((mgG (fun a b _ => alikeL a b) (bandP kf xs xs') YS i).2))) true), .gen (rowE (A15) g16 k17 cp18 53 4 (rvals (bandP kf xs xs' (YS.getD i 0) (YS.getD (i + 1 : Nat) 0))) true), .gen (rowE (A2) g3 k4 cp5 3 1 (ivals .i64 YS) true), .gen (rdE (A) g o n 4 (rvals xs)), .gen (rdE (A') g' o' n' 4 (rvals xs'))] (by decide) rfl rfl ?_
  refine bS [0] 1 1 [(0, .slice A n cap), (1, .slice A' n' cap'), (2, .func (.func fk) #[] #[]), (7, .slice A2 k4 cp5), (8, .slice A25 (kq + kr) cp25), (9, .slice A15 k17 cp18), (20, iq ((YS.length - 1 : Nat) : Int)), (59, iq (IntKind.i64.wrap ((i : Int) + 1)))] ?_
  refine cont_recast 59 (iq (IntKind.i64.wrap ((i : Int) + 1))) (iq ((i : Int) + 1)) rfl (wrapI (by omega) (by omega)) ?_
  refine bS [0] 2 0 [(0, .slice A n cap), (1, .slice A' n' cap'), (2, .func (.func fk) #[] #[]), (7, .slice A2 k4 cp5), (8, .slice A25 (kq + kr) cp25), (9, .slice A15 k17 cp18), (20, iq ((YS.length - 1 : Nat) : Int)), (21, iq ((i : Int) + 1))] ?_
  refine cont_done ?_
  refine then_normal ?_
  have hst_ := mgG_off (al := (fun a b _ => alikeL a b)) (own := (bandP kf xs xs')) (ys := YS) (i := i) hal_
  refine cont_rowEqR 0 (((mgG (fun a b _ => alikeL a b) (bandP kf xs xs') YS i).1) ++ ((mgG (fun a b _ => alikeL a b) (bandP kf xs xs') YS i).2)) ((mgG (fun a b _ => alikeL a b) (bandP kf xs xs') YS (i + 1)).1) rfl hst_.1 ?_
  refine cont_rowEqR 1 (bandP kf xs xs' (YS.getD i 0) (YS.getD (i + 1 : Nat) 0)) ((mgG (fun a b _ => alikeL a b) (bandP kf xs xs') YS (i + 1)).2) rfl hst_.2 ?_
  refine cont_again (i + 1, (kq + kr), A25, g25, cp25, k17, A15, g16, cp18) (show (i + 1) ≤ YS.length - 1 from (by omega)) (show YS.length - 1 - (i + 1) < YS.length - 1 - i from by omega) (by kernel_rfl) (by kernel_rfl)
 replace c12_ := of_decide_eq_false c12_
 refine cont_false rfl ?_
 refine cont_exit ?_
 refine then_exit ?_
 refine then_exit ?_
 refine blk_exit ?_
 refine then_normal ?_
 refine cont_seq ?_
 refine cont_region 4 rfl ?_
 refine cont_fact (F := (0 < kq → (Aq : Option Addr) = pB gq) ∧ ((mgG (fun a b _ => alikeL a b) (bandP kf xs xs') YS i).1).length = kq ∧ kq ≤ cq ∧ cq ≤ maxLen) (fun w hT => Row.factsR (hT.ok 0 _ rfl)) (fun hr27_ => ?_)
 obtain ⟨hr27_a, hr27_l, hr27_c, hr27_m⟩ := hr27_
 unfold maxLen at hr27_m
 refine cont_fact (F := (0 < kr → (Ar : Option Addr) = pB gr) ∧ ((mgG (fun a b _ => alikeL a b) (bandP kf xs xs') YS i).2).length = kr ∧ kr ≤ cr ∧ cr ≤ maxLen) (fun w hT => Row.factsR (hT.ok 1 _ rfl)) (fun hr28_ => ?_)
 obtain ⟨hr28_a, hr28_l, hr28_c, hr28_m⟩ := hr28_
 unfold maxLen at hr28_m
 refine bS [0, 0] 2 2 [(60, .slice Aq kq cq), (61, .slice Ar kr cr)] ?_
 refine pl_step 3 1 rfl rfl ?_
 refine sem_stepW (α := Option Addr × Nat × Nat) 62 (Builtin.append_ #[58, 58] 58 #[.slice Aq kq cq, .slice Ar kr cr]) (fun x_ => .slice x_.1 (kq + kr) x_.2.2) (fun x_ => [.gen (rowE (x_.1) x_.2.1 (kq + kr) x_.2.2 53 4 (rvals (((mgG (fun a b _ => alikeL a b) (bandP kf xs xs') YS i).1) ++ ((mgG (fun a b _ => alikeL a b) (bandP kf xs xs') YS i).2))) true), .gen (rowE (Ar) gr kr cr 53 4 (rvals ((mgG (fun a b _ => alikeL a b) (bandP kf xs xs') YS i).2)) true), .gen (rowE (A2) g3 k4 cp5 3 1 (ivals .i64 YS) true), .gen (rdE (A) g o n 4 (rvals xs)), .gen (rdE (A') g' o' n' 4 (rvals xs'))]) (fun _ => True) (by kernel_rfl) (fun w hT => append_own (n' := (kq + kr)) (z := .agg #[iq 0, iq 0, iq 0, iq 0]) hT (i := 0) (bytes := 32) rfl (by kernel_rfl) (by kernel_rfl) rfl (by decide) (by decide) (Row.rd (hT.ok 1 _ rfl)) (rvals_one ((mgG (fun a b _ => alikeL a b) (bandP kf xs xs') YS i).2)) (by omega) (rvals_append ((mgG (fun a b _ => alikeL a b) (bandP kf xs xs') YS i).1) ((mgG (fun a b _ => alikeL a b) (bandP kf xs xs') YS i).2)) rfl) ?_
 rintro ⟨A29, g29, cp29⟩ -
 refine cont_norm [(60, .slice Aq kq cq), (61, .slice Ar kr cr), (62, .slice A29 (kq + kr) cp29)] [.gen (rowE (A29) g29 (kq + kr) cp29 53 4 (rvals (((mgG (fun a b _ => alikeL a b) (bandP kf xs xs') YS i).1) ++ ((mgG (fun a b _ => alikeL a b) (bandP kf xs xs') YS i).2))) true), .gen (rowE (Ar) gr kr cr 53 4 (rvals ((mgG (fun a b _ => alikeL a b) (bandP kf xs xs') YS i).2)) true), .gen (rowE (A2) g3 k4 cp5 3 1 (ivals .i64 YS) true), .gen (rdE (A) g o n 4 (rvals xs)), .gen (rdE (A') g' o' n' 4 (rvals xs'))] (by kernel_rfl) rfl ?_
 refine cont_fact (F := (0 < (kq + kr) → (A29 : Option Addr) = pB g29) ∧ (((mgG (fun a b _ => alikeL a b) (bandP kf xs xs') YS i).1) ++ ((mgG (fun a b _ => alikeL a b) (bandP kf xs xs') YS i).2)).length = (kq + kr) ∧ (kq + kr) ≤ cp29 ∧ cp29 ≤ maxLen) (fun w hT => Row.factsR (hT.ok 0 _ rfl)) (fun hr30_ => ?_)
 obtain ⟨hr30_a, hr30_l, hr30_c, hr30_m⟩ := hr30_
 unfold maxLen at hr30_m
 refine bS [0] 4 0 [(6, .slice A29 (kq + kr) cp29)] ?_
 refine cont_done ?_
 refine then_normal ?_
 refine cont_ret ?_
 refine ret_one (.inl rfl) rfl 0 (.slice A29 (kq + kr) cp29) (by kernel_rfl) (by kernel_rfl) (fun w hT => ?_)
 replace hT := hT.erase 4 (fun e h hw => by cases h; first | rfl | cases hw)
 replace hT := hT.erase 3 (fun e h hw => by cases h; first | rfl | cases hw)
 replace hT := hT.erase 2 (fun e h hw => by cases h; first | rfl | cases hw)
 replace hT := hT.erase 1 (fun e h hw => by cases h; first | rfl | cases hw)
 have hi2 : i = YS.length - 1 := by omega
 subst hi2
 subst hYS
 exact ⟨_, _, _, _, rfl, hT⟩

end Go.Proofs.Ytlfahohbkgdabaa
