/- Contracts of functions of the given program, printed by a program of this project. -/
import Derived.Test.YtlfahohbkgdabaaL2b
import Derived.Test.YtlfahohbkgdabaaProg
set_option linter.unusedVariables false
set_option linter.unusedSimpArgs false
namespace Go.Proofs.Ytlfahohbkgdabaa
open Go Go.RowKit
set_option maxRecDepth 100000
set_option maxHeartbeats 8000000

theorem keepOf (p q : Bool) (w : World) :
    Calls Try.prog 95 #[.bool p, .bool q] w fun e w' => e = .returned (.bool (fstB p q)) ∧ Below w.heap.size w w' := by
 refine enter 6 [(0, .bool p)] [] Try.func95 rfl Try.ntmps95 rfl (by kernel_rfl) (Tab.start w) ?_
 refine cont_seq ?_
 refine cont_region 1 rfl ?_
 refine bS [0] 1 0 [(0, .bool p)] ?_
 refine cont_done ?_
 refine then_normal ?_
 refine cont_seq ?_
 refine cont_region 2 rfl ?_
 refine bS [0, 0] 2 0 [(4, .bool p)] ?_
 refine cont_done ?_
 refine then_normal ?_
 refine cont_ret ?_
 refine ret_one (.inl rfl) rfl 0 (.bool p) (by kernel_rfl) (by kernel_rfl) (fun w hT => ?_)
 exact ⟨ret_bool (by simp [fstB, *]), hT.post rfl⟩

theorem keepAnd (p q : Bool) (w : World) :
    Calls Try.prog 87 #[.bool p, .bool q] w fun e w' => e = .returned (.bool (andB p q)) ∧ Below w.heap.size w w' := by
 refine enter 9 [(0, .bool p), (1, .bool q)] [] Try.func87 rfl Try.ntmps87 rfl (by kernel_rfl) (Tab.start w) ?_
 refine cont_seq ?_
 refine cont_region 1 rfl ?_
 refine bS [0] 1 0 [(0, .bool p), (1, .bool q)] ?_
 refine cont_done ?_
 refine then_normal ?_
 refine cont_seq ?_
 refine cont_region 5 rfl ?_
 refine bS [0, 0] 2 3 [(1, .bool q), (6, .bool p)] ?_
 refine cont_split 6 p rfl (fun c1_ => ?_) (fun c1_ => ?_)
 ·
  refine bS [0, 0, 0] 5 0 [(4, .bool q)] ?_
  refine cont_done ?_
  refine then_normal ?_
  refine cont_ret ?_
  refine ret_one (.inl rfl) rfl 0 (.bool q) (by kernel_rfl) (by kernel_rfl) (fun w hT => ?_)
  exact ⟨ret_bool (by simp [andB, *]), hT.post rfl⟩
 refine bS [0, 0, 0] 5 0 [(4, .bool false)] ?_
 refine cont_done ?_
 refine then_normal ?_
 refine cont_ret ?_
 refine ret_one (.inl rfl) rfl 0 (.bool false) (by kernel_rfl) (by kernel_rfl) (fun w hT => ?_)
 exact ⟨ret_bool (by simp [andB, *]), hT.post rfl⟩

theorem keepLess (p q : Bool) (w : World) :
    Calls Try.prog 103 #[.bool p, .bool q] w fun e w' => e = .returned (.bool (lessB p q)) ∧ Below w.heap.size w w' := by
 refine enter 10 [(0, .bool p), (1, .bool q)] [] Try.func103 rfl Try.ntmps103 rfl (by kernel_rfl) (Tab.start w) ?_
 refine cont_seq ?_
 refine cont_region 1 rfl ?_
 refine bS [0] 1 0 [(0, .bool p), (1, .bool q)] ?_
 refine cont_done ?_
 refine then_normal ?_
 refine cont_seq ?_
 refine cont_region 6 rfl ?_
 refine bS [0, 0] 2 4 [(1, .bool q), (6, .bool p)] ?_
 refine cont_split 6 p rfl (fun c1_ => ?_) (fun c1_ => ?_)
 ·
  refine bS [0, 0, 0, 0] 6 0 [(4, .bool (!q))] ?_
  refine cont_done ?_
  refine then_normal ?_
  refine cont_ret ?_
  refine ret_one (.inl rfl) rfl 0 (.bool (!q)) (by kernel_rfl) (by kernel_rfl) (fun w hT => ?_)
  exact ⟨ret_bool (by simp [lessB, *]), hT.post rfl⟩
 refine bS [0, 0, 0, 0] 6 0 [(4, .bool false)] ?_
 refine cont_done ?_
 refine then_normal ?_
 refine cont_ret ?_
 refine ret_one (.inl rfl) rfl 0 (.bool false) (by kernel_rfl) (by kernel_rfl) (fun w hT => ?_)
 exact ⟨ret_bool (by simp [lessB, *]), hT.post rfl⟩

theorem cloneR (A : Option Addr) (g o n cap : Nat) (xs : List Rect) (w : World) (hT0 : Tab w w [.gen (rdE (A) g o n 4 (rvals xs))]) (hn : n ≤ 1000000000000) :
    Calls Try.prog 93 #[.slice A n cap] w fun e w' => ∃ (A_ : Option Addr) (g_ k_ cp_ : Nat), e = .returned (.slice A_ k_ cp_) ∧ Tab w w' [.gen (rowE (A_) g_ k_ cp_ 53 4 (rvals xs) true)] := by
 obtain ⟨hra, hrl⟩ := Rd.factsR (hT0.ok 0 _ rfl)
 refine enter 8 [(0, .slice A n cap)] [.gen (rdE (A) g o n 4 (rvals xs))] Try.func93 rfl Try.ntmps93 rfl (by kernel_rfl) hT0 ?_
 refine cont_seq ?_
 refine cont_region 1 rfl ?_
 refine bS [0] 1 0 [(0, .slice A n cap)] ?_
 refine cont_done ?_
 refine then_normal ?_
 refine cont_seq ?_
 refine cont_seq ?_
 refine cont_region 2 rfl ?_
 refine bS [0] 1 1 [(0, .slice A n cap), (3, .slice A n cap)] ?_
 refine pl_step 2 0 rfl rfl ?_
 refine sem_step 4 (bopS .eql 58 (.tmp 3) (.const (.slice none 0 0)) (.slice A n cap) (.slice none 0 0)) (.bool A.isNone) (by kernel_rfl) (fun w hT => run_eqNil (e := 53) (by kernel_rfl) w) ?_
 refine cont_done ?_
 refine then_normal ?_
 refine cont_split 4 A.isNone rfl (fun c1_ => ?_) (fun c1_ => ?_)
 ·
  have hn0 : n = 0 := by rcases Nat.eq_zero_or_pos n with h_ | h_; exact h_; rw [hra h_] at c1_; cases c1_
  refine cont_true rfl ?_
  refine cont_seq ?_
  refine cont_region 1 rfl ?_
  refine bS [0] 1 0 [(2, .slice none 0 0)] ?_
  refine cont_done ?_
  refine then_normal ?_
  refine cont_ret ?_
  refine then_ret ?_
  refine ret_one (.inl rfl) rfl 0 (.slice none 0 0) (by kernel_rfl) (by kernel_rfl) (fun w hT => ?_)
  replace hT := hT.erase 0 (fun e h hw => by cases h; first | rfl | cases hw)
  have hx0 : xs = [] := List.length_eq_zero_iff.1 (by omega)
  subst hx0
  exact ⟨none, 0, 0, 0, rfl, hT.nilR _ _⟩
 refine cont_false rfl ?_
 refine cont_skip ?_
 refine then_normal ?_
 refine cont_seq ?_
 refine cont_region 4 rfl ?_
 refine batch1 [0, 0] 2 2 (fun b2 => [(5, .slice (pB b2) 0 0), (6, .slice A n cap)]) (fun b2 => [.cells b2 [] 53 true, .gen (rdE (A) g o n 4 (rvals xs))]) rfl rfl [5, 6] (fun _ => rfl) (fun b2 => by kernel_rfl) (fun b2 => by kernel_rfl) (fun b2 => ?_)
 refine pl_step 3 1 rfl rfl ?_
 refine cont_asRow 0 0 4 rfl (vals := rvals []) rfl rfl (by decide) ?_
 refine sem_stepW (α := Option Addr × Nat × Nat) 7 (Builtin.append_ #[58, 58] 58 #[.slice (pB b2) 0 0, .slice A n cap]) (fun x_ => .slice x_.1 n x_.2.2) (fun x_ => [.gen (rowE (x_.1) x_.2.1 n x_.2.2 53 4 (rvals xs) true), .gen (rdE (A) g o n 4 (rvals xs))]) (fun _ => True) (by kernel_rfl) (fun w hT => append_own (n' := n) (z := .agg #[iq 0, iq 0, iq 0, iq 0]) hT (i := 0) (bytes := 32) rfl (by kernel_rfl) (by kernel_rfl) rfl (by decide) (by decide) (hT.ok 1 _ rfl) (rvals_one xs) (by omega) rfl (Nat.zero_add _).symm) ?_
 rintro ⟨A3, g3, cp3⟩ -
 refine cont_norm [(5, .slice (pB b2) 0 0), (6, .slice A n cap), (7, .slice A3 n cp3)] _ (by kernel_rfl) rfl ?_
 refine cont_fact (F := (0 < n → (A3 : Option Addr) = pB g3) ∧ xs.length = n ∧ n ≤ cp3 ∧ cp3 ≤ maxLen) (fun w hT => Row.factsR (hT.ok 0 _ rfl)) (fun hr4_ => ?_)
 obtain ⟨hr4_a, hr4_l, hr4_c, hr4_m⟩ := hr4_
 unfold maxLen at hr4_m
 refine bS [0] 4 0 [(2, .slice A3 n cp3)] ?_
 refine cont_done ?_
 refine then_normal ?_
 refine cont_ret ?_
 refine ret_one (.inl rfl) rfl 0 (.slice A3 n cp3) (by kernel_rfl) (by kernel_rfl) (fun w hT => ?_)
 replace hT := hT.erase 1 (fun e h hw => by cases h; first | rfl | cases hw)
 exact ⟨_, _, _, _, rfl, hT⟩

theorem deleteR (A : Option Addr) (g n cap : Nat) (xs : List Rect) (fk : FuncId) (p : Rect → Bool) (w : World) (hT0 : Tab w w [.gen (rowE (A) g n cap 53 4 (rvals xs) false)]) (hE : Enters Try.prog fk) (hf : ∀ (r : Rect) (w : World), Calls Try.prog fk #[.agg #[.int .i64 r.x0, .int .i64 r.y0, .int .i64 r.x1, .int .i64 r.y1]] w fun e w' => e = .returned (.bool (p r)) ∧ Below w.heap.size w w') (hn : n ≤ 1000000000000) :
    Calls Try.prog 92 #[.slice A n cap, .func (.func fk) #[] #[]] w fun e w' => ∃ k_ : Nat, (keptL p xs).length = k_ ∧ e = .returned (.slice A k_ cap) ∧ Tab w w' [.gen (rowE (A) g k_ cap 53 4 (rvals (keptL p xs)) false)] := by
 obtain ⟨hra, hrl, hrc, hrm⟩ := Row.factsR (hT0.ok 0 _ rfl)
 unfold maxLen at hrm
 refine enter 42 [(0, .slice A n cap), (1, .func (.func fk) #[] #[])] [.gen (rowE (A) g n cap 53 4 (rvals xs) false)] Try.func92 rfl Try.ntmps92 rfl (by kernel_rfl) hT0 ?_
 refine cont_seq ?_
 refine cont_region 1 rfl ?_
 refine bS [0] 1 0 [(0, .slice A n cap), (1, .func (.func fk) #[] #[])] ?_
 refine cont_done ?_
 refine then_normal ?_
 refine cont_seq ?_
 refine cont_region 4 rfl ?_
 refine bS [0, 0] 2 2 [(0, .slice A n cap), (1, .func (.func fk) #[] #[]), (8, .slice A n cap), (9, .func (.func fk) #[] #[])] ?_
 refine pl_step 3 1 rfl rfl ?_
 refine call_pure (d := 10) (iq (idxR p xs)) (by kernel_rfl) (fun w hT => idxFuncR0 A g 0 n cap xs fk p w (hT.viewRo (.cons (i := 0) rfl Vw.rowRd .nil) rfl) hE hf (by omega)) ?_
 refine bS [0] 4 0 [(0, .slice A n cap), (1, .func (.func fk) #[] #[]), (5, iq (idxR p xs))] ?_
 refine cont_done ?_
 refine then_normal ?_
 refine cont_seq ?_
 refine cont_seq ?_
 refine cont_region 2 rfl ?_
 refine bS [0, 0] 2 0 [(0, .slice A n cap), (1, .func (.func fk) #[] #[]), (5, iq (idxR p xs)), (12, .bool ((idxR p xs) == (-1)))] ?_
 refine cont_done ?_
 refine then_normal ?_
 refine cont_split 12 ((idxR p xs) == (-1)) rfl (fun c1_ => ?_) (fun c1_ => ?_)
 ·
  replace c1_ := eq_of_beqt c1_
  refine cont_true rfl ?_
  refine cont_seq ?_
  refine cont_region 2 rfl ?_
  refine bS [0, 0] 2 0 [(4, .slice A n cap)] ?_
  refine cont_done ?_
  refine then_normal ?_
  refine cont_ret ?_
  refine then_ret ?_
  refine ret_one (.inl rfl) rfl 0 (.slice A n cap) (by kernel_rfl) (by kernel_rfl) (fun w hT => ?_)
  refine ⟨n, ?_, rfl, ?_⟩
  · rw [← keptL_none ‹_›]; exact hrl
  · have e_ := keptL_none (p := p) (l := xs) ‹_›
    rw [← e_]; exact hT
 replace c1_ := ne_of_beqf c1_
 refine cont_false rfl ?_
 refine cont_skip ?_
 refine then_normal ?_
 refine cont_seq ?_
 refine cont_seq ?_
 refine cont_region 3 rfl ?_
 have hge : idxR p xs ≠ -1 := ‹_›
 obtain ⟨i0, hi0⟩ : ∃ i_ : Nat, idxR p xs = (i_ : Int) := by
   unfold idxR at hge ⊢
   split
   · exact ⟨_, rfl⟩
   · rename_i h_; rw [if_neg h_] at hge; exact absurd rfl hge
 obtain ⟨hs1, hs2, hs3⟩ := keptL_start hi0
 refine cont_recast 5 (iq (idxR p xs)) (iq (i0 : Int)) rfl (congrArg (Value.int .i64) hi0) ?_
 refine bS [0, 0] 2 1 [(0, .slice A n cap), (1, .func (.func fk) #[] #[]), (5, iq (i0 : Int)), (15, iq (IntKind.i64.wrap ((i0 : Int) + 1)))] ?_
 refine cont_recast 15 (iq (IntKind.i64.wrap ((i0 : Int) + 1))) (iq ((i0 : Int) + 1)) rfl (wrapI (by omega) (by omega)) ?_
 refine bS [0] 3 0 [(0, .slice A n cap), (1, .func (.func fk) #[] #[]), (5, iq (i0 : Int)), (6, iq ((i0 : Int) + 1))] ?_
 refine cont_done ?_
 refine then_normal ?_
 refine cont_block ?_
 refine cont_recast 6 (iq ((i0 : Int) + 1)) (iq ((i0 + 1 : Nat) : Int)) rfl (congrArg (Value.int .i64) (by omega)) ?_
 refine cont_rowEqR 0 (xs) (keptL p (xs.take (i0 + 1)) ++ xs.drop (keptL p (xs.take (i0 + 1))).length) rfl hs2 ?_
 refine cont_loop (α := Nat × Nat) (fun x_ : Nat × Nat => x_.1 ≤ n ∧ x_.2 < x_.1 ∧ (keptL p (xs.take x_.1)).length = x_.2) (fun x_ : Nat × Nat => [(0, .slice A n cap), (1, .func (.func fk) #[] #[]), (5, iq (x_.2 : Int)), (6, iq (x_.1 : Int))]) (fun x_ : Nat × Nat => [.gen (rowE (A) g n cap 53 4 (rvals (keptL p (xs.take x_.1) ++ xs.drop (keptL p (xs.take x_.1)).length)) false)]) (fun x_ : Nat × Nat => n - x_.1) (i0 + 1, i0) (show (i0 + 1) ≤ n ∧ (i0) < (i0 + 1) ∧ (keptL p (xs.take (i0 + 1))).length = (i0) from ⟨by omega, by omega, hs3⟩) (by kernel_rfl) (by kernel_rfl) ?_
 rintro ⟨j, i⟩ hinv2_
 replace hinv2_ : j ≤ n ∧ i < j ∧ (keptL p (xs.take j)).length = i := hinv2_
 refine cont_norm [(0, .slice A n cap), (1, .func (.func fk) #[] #[]), (5, iq (i : Int)), (6, iq (j : Int))] _ (by kernel_rfl) rfl ?_
 obtain ⟨hj, hij, hk⟩ := hinv2_
 refine cont_seq ?_
 refine cont_seq ?_
 refine cont_region 4 rfl ?_
 refine bS [0, 0, 0, 0] 4 0 [(0, .slice A n cap), (1, .func (.func fk) #[] #[]), (5, iq (i : Int)), (6, iq (j : Int)), (19, .bool (decide ((j : Int) < (n : Int))))] ?_
 refine cont_done ?_
 refine then_normal ?_
 refine cont_split 19 (decide ((j : Int) < (n : Int))) rfl (fun c3_ => ?_) (fun c3_ => ?_)
 ·
  replace c3_ := of_decide_eq_true c3_
  refine cont_true rfl ?_
  refine cont_skip ?_
  refine then_normal ?_
  refine cont_seq ?_
  refine cont_block ?_
  refine cont_seq ?_
  refine cont_region 6 rfl ?_
  refine bS [0, 0] 2 4 [(0, .slice A n cap), (1, .func (.func fk) #[] #[]), (5, iq (i : Int)), (6, iq (j : Int)), (22, .slice A n cap), (23, iq (j : Int))] ?_
  refine pl_step 3 3 rfl rfl ?_
  refine cont_recast 22 (.slice A n cap) (.slice (pB g) n cap) rfl (by rw [hra (by omega)]) ?_
  refine sem_step 24 (Instr.indexAt 58 (.slice (pB g) n cap) (iq (j : Int))) (.pointer (some ⟨g, j * 4, none⟩)) (by kernel_rfl) (fun w hT => run_indexAt (e := 53) (sz := 4) _ (by kernel_rfl) (by kernel_rfl) (by omega) (by omega) (by omega) w) ?_
  refine pl_step 4 2 rfl rfl ?_
  refine sem_step 25 (Instr.loadAt 53 (.pointer (some ⟨g, j * 4, none⟩))) (.agg #[iq ((rget (keptL p (xs.take j) ++ xs.drop (keptL p (xs.take j)).length) j).x0), iq ((rget (keptL p (xs.take j) ++ xs.drop (keptL p (xs.take j)).length) j).y0), iq ((rget (keptL p (xs.take j) ++ xs.drop (keptL p (xs.take j)).length) j).x1), iq ((rget (keptL p (xs.take j) ++ xs.drop (keptL p (xs.take j)).length) j).y1)]) (by kernel_rfl) (fun w hT => run_loadN (m := 4) (cs := rcells (rget (keptL p (xs.take j) ++ xs.drop (keptL p (xs.take j)).length) j)) (by kernel_rfl) (by kernel_rfl) rfl (Rd.rect0 (Row.rd (hT.ok 0 _ rfl)) (by first | omega | (rw [List.length_append, List.length_drop]; omega)))) ?_
  refine batch1 [0, 0] 6 0 (fun b4 => [(0, .slice A n cap), (1, .func (.func fk) #[] #[]), (5, iq (i : Int)), (6, iq (j : Int)), (7, .pointer (pB b4))]) (fun b4 => [.cells b4 [iq ((rget (keptL p (xs.take j) ++ xs.drop (keptL p (xs.take j)).length) j).x0), iq ((rget (keptL p (xs.take j) ++ xs.drop (keptL p (xs.take j)).length) j).y0), iq ((rget (keptL p (xs.take j) ++ xs.drop (keptL p (xs.take j)).length) j).x1), iq ((rget (keptL p (xs.take j) ++ xs.drop (keptL p (xs.take j)).length) j).y1)] 53 true, .gen (rowE (A) g n cap 53 4 (rvals (keptL p (xs.take j) ++ xs.drop (keptL p (xs.take j)).length)) false)]) rfl rfl [0, 1, 5, 6, 7] (fun _ => rfl) (fun b4 => by kernel_rfl) (fun b4 => by kernel_rfl) (fun b4 => ?_)
  refine cont_done ?_
  refine then_normal ?_
  refine cont_seq ?_
  refine cont_region 4 rfl ?_
  refine bS [0, 0] 2 2 [(0, .slice A n cap), (1, .func (.func fk) #[] #[]), (5, iq (i : Int)), (6, iq (j : Int)), (7, .pointer (pB b4)), (26, .func (.func fk) #[] #[]), (27, .agg #[iq ((rget (keptL p (xs.take j) ++ xs.drop (keptL p (xs.take j)).length) j).x0), iq ((rget (keptL p (xs.take j) ++ xs.drop (keptL p (xs.take j)).length) j).y0), iq ((rget (keptL p (xs.take j) ++ xs.drop (keptL p (xs.take j)).length) j).x1), iq ((rget (keptL p (xs.take j) ++ xs.drop (keptL p (xs.take j)).length) j).y1)])] ?_
  refine pl_step 3 1 rfl rfl ?_
  refine call_pureF (d := 28) (.bool (p (rget (keptL p (xs.take j) ++ xs.drop (keptL p (xs.take j)).length) j))) (by kernel_rfl) hE (fun w hT => hf (rget (keptL p (xs.take j) ++ xs.drop (keptL p (xs.take j)).length) j) w) ?_
  refine bS [0] 4 0 [(0, .slice A n cap), (1, .func (.func fk) #[] #[]), (5, iq (i : Int)), (6, iq (j : Int)), (7, .pointer (pB b4)), (29, .bool (!(p (rget (keptL p (xs.take j) ++ xs.drop (keptL p (xs.take j)).length) j))))] ?_
  refine cont_done ?_
  refine then_normal ?_
  refine cont_split 29 (!(p (rget (keptL p (xs.take j) ++ xs.drop (keptL p (xs.take j)).length) j))) rfl (fun c5_ => ?_) (fun c5_ => ?_)
  ·
   replace c5_ : (p (rget (keptL p (xs.take j) ++ xs.drop (keptL p (xs.take j)).length) j)) = false := by simpa using c5_
   have hpj : p (rget xs j) = false := by rw [← kept_get (K := keptL p (xs.take j)) (l := xs) (by omega)]; exact c5_
   refine cont_true rfl ?_
   refine cont_seq ?_
   refine cont_region 5 rfl ?_
   refine bS [0, 0, 0] 3 2 [(0, .slice A n cap), (1, .func (.func fk) #[] #[]), (5, iq (i : Int)), (6, iq (j : Int)), (30, .slice A n cap), (31, iq (i : Int)), (32, .agg #[iq ((rget (keptL p (xs.take j) ++ xs.drop (keptL p (xs.take j)).length) j).x0), iq ((rget (keptL p (xs.take j) ++ xs.drop (keptL p (xs.take j)).length) j).y0), iq ((rget (keptL p (xs.take j) ++ xs.drop (keptL p (xs.take j)).length) j).x1), iq ((rget (keptL p (xs.take j) ++ xs.drop (keptL p (xs.take j)).length) j).y1)])] ?_
   refine cont_forget 0 rfl ?_
   refine pl_step 4 1 rfl rfl ?_
   refine cont_recast 30 (.slice A n cap) (.slice (pB g) n cap) rfl (by rw [hra (by omega)]) ?_
   refine sem_step 33 (Instr.indexAt 58 (.slice (pB g) n cap) (iq (i : Int))) (.pointer (some ⟨g, i * 4, none⟩)) (by kernel_rfl) (fun w hT => run_indexAt (e := 53) (sz := 4) _ (by kernel_rfl) (by kernel_rfl) (by omega) (by omega) (by omega) w) ?_
   refine pl_step 5 0 rfl rfl ?_
   refine sem_stepU (Instr.storeAt 53 (.pointer (some ⟨g, i * 4, none⟩)) (.agg #[iq ((rget (keptL p (xs.take j) ++ xs.drop (keptL p (xs.take j)).length) j).x0), iq ((rget (keptL p (xs.take j) ++ xs.drop (keptL p (xs.take j)).length) j).y0), iq ((rget (keptL p (xs.take j) ++ xs.drop (keptL p (xs.take j)).length) j).x1), iq ((rget (keptL p (xs.take j) ++ xs.drop (keptL p (xs.take j)).length) j).y1)])) (fun _ => [.gen (rowE (A) g n cap 53 4 (rvals ((keptL p (xs.take j) ++ xs.drop (keptL p (xs.take j)).length).set i (⟨(rget (keptL p (xs.take j) ++ xs.drop (keptL p (xs.take j)).length) j).x0, (rget (keptL p (xs.take j) ++ xs.drop (keptL p (xs.take j)).length) j).y0, (rget (keptL p (xs.take j) ++ xs.drop (keptL p (xs.take j)).length) j).x1, (rget (keptL p (xs.take j) ++ xs.drop (keptL p (xs.take j)).length) j).y1⟩ : Rect))) false)]) (fun _ => True) (by kernel_rfl) (fun w hT => store_rectR hT (i := 0) (J := i) (⟨(rget (keptL p (xs.take j) ++ xs.drop (keptL p (xs.take j)).length) j).x0, (rget (keptL p (xs.take j) ++ xs.drop (keptL p (xs.take j)).length) j).y0, (rget (keptL p (xs.take j) ++ xs.drop (keptL p (xs.take j)).length) j).x1, (rget (keptL p (xs.take j) ++ xs.drop (keptL p (xs.take j)).length) j).y1⟩ : Rect) rfl (by kernel_rfl) (by (rw [List.length_append, List.length_drop]; omega))) (fun _ _ => ?_)
   refine cont_done ?_
   refine then_normal ?_
   refine cont_region 3 rfl ?_
   refine bS [0, 0] 2 1 [(0, .slice A n cap), (1, .func (.func fk) #[] #[]), (6, iq (j : Int)), (35, iq (IntKind.i64.wrap ((i : Int) + 1)))] ?_
   refine cont_recast 35 (iq (IntKind.i64.wrap ((i : Int) + 1))) (iq ((i + 1 : Nat) : Int)) rfl (by rw [show (((i + 1 : Nat) : Int)) = (i : Int) + 1 by omega]; exact wrapI (by omega) (by omega)) ?_
   refine bS [0] 3 0 [(0, .slice A n cap), (1, .func (.func fk) #[] #[]), (5, iq ((i + 1 : Nat) : Int)), (6, iq (j : Int))] ?_
   refine cont_done ?_
   refine blk_normal ?_
   refine then_normal ?_
   refine cont_region 3 rfl ?_
   refine bS [0, 0] 2 1 [(0, .slice A n cap), (1, .func (.func fk) #[] #[]), (5, iq ((i + 1 : Nat) : Int)), (21, iq (IntKind.i64.wrap ((j : Int) + 1)))] ?_
   refine cont_recast 21 (iq (IntKind.i64.wrap ((j : Int) + 1))) (iq ((j + 1 : Nat) : Int)) rfl (by rw [show (((j + 1 : Nat) : Int)) = (j : Int) + 1 by omega]; exact wrapI (by omega) (by omega)) ?_
   refine bS [0] 3 0 [(0, .slice A n cap), (1, .func (.func fk) #[] #[]), (5, iq ((i + 1 : Nat) : Int)), (6, iq ((j + 1 : Nat) : Int))] ?_
   refine cont_done ?_
   refine then_normal ?_
   refine cont_rowEqR 0 ((keptL p (xs.take j) ++ xs.drop (keptL p (xs.take j)).length).set i (⟨(rget (keptL p (xs.take j) ++ xs.drop (keptL p (xs.take j)).length) j).x0, (rget (keptL p (xs.take j) ++ xs.drop (keptL p (xs.take j)).length) j).y0, (rget (keptL p (xs.take j) ++ xs.drop (keptL p (xs.take j)).length) j).x1, (rget (keptL p (xs.take j) ++ xs.drop (keptL p (xs.take j)).length) j).y1⟩ : Rect)) (keptL p (xs.take (j + 1)) ++ xs.drop (keptL p (xs.take (j + 1))).length) rfl (by rw [kept_get (show (keptL p (xs.take j)).length ≤ j by omega)]; exact (kept_set (rget xs j) hk (by omega)).trans (by rw [keptL_put (by omega) hpj])) ?_
   have hk2 : (keptL p (xs.take (j + 1))).length = i + 1 := by rw [← keptL_put (by omega) hpj, List.length_append, hk]; rfl
   refine cont_again (j + 1, i + 1) (show (j + 1) ≤ n ∧ (i + 1) < (j + 1) ∧ (keptL p (xs.take (j + 1))).length = (i + 1) from ⟨by omega, by omega, hk2⟩) (show n - (j + 1) < n - j from by omega) (by kernel_rfl) (by kernel_rfl)
  replace c5_ : (p (rget (keptL p (xs.take j) ++ xs.drop (keptL p (xs.take j)).length) j)) = true := by simpa using c5_
  have hpj : p (rget xs j) = true := by rw [← kept_get (K := keptL p (xs.take j)) (l := xs) (by omega)]; exact c5_
  refine cont_false rfl ?_
  refine cont_skip ?_
  refine blk_normal ?_
  refine then_normal ?_
  refine cont_region 3 rfl ?_
  refine bS [0, 0] 2 1 [(0, .slice A n cap), (1, .func (.func fk) #[] #[]), (5, iq (i : Int)), (21, iq (IntKind.i64.wrap ((j : Int) + 1)))] ?_
  refine cont_recast 21 (iq (IntKind.i64.wrap ((j : Int) + 1))) (iq ((j + 1 : Nat) : Int)) rfl (by rw [show (((j + 1 : Nat) : Int)) = (j : Int) + 1 by omega]; exact wrapI (by omega) (by omega)) ?_
  refine cont_forget 0 rfl ?_
  refine bS [0] 3 0 [(0, .slice A n cap), (1, .func (.func fk) #[] #[]), (5, iq (i : Int)), (6, iq ((j + 1 : Nat) : Int))] ?_
  refine cont_done ?_
  refine then_normal ?_
  refine cont_rowEqR 0 (keptL p (xs.take j) ++ xs.drop (keptL p (xs.take j)).length) (keptL p (xs.take (j + 1)) ++ xs.drop (keptL p (xs.take (j + 1))).length) rfl (by rw [keptL_skip (by omega) hpj]) ?_
  have hk2 : (keptL p (xs.take (j + 1))).length = i := by rw [← keptL_skip (by omega) hpj]; exact hk
  refine cont_again (j + 1, i) (show (j + 1) ≤ n ∧ (i) < (j + 1) ∧ (keptL p (xs.take (j + 1))).length = (i) from ⟨by omega, by omega, hk2⟩) (show n - (j + 1) < n - j from by omega) (by kernel_rfl) (by kernel_rfl)
 replace c3_ := of_decide_eq_false c3_
 refine cont_false rfl ?_
 refine cont_exit ?_
 refine then_exit ?_
 refine then_exit ?_
 refine blk_exit ?_
 refine then_normal ?_
 refine cont_seq ?_
 refine cont_region 4 rfl ?_
 refine bS [0, 0] 2 2 [(0, .slice A n cap), (5, iq (i : Int)), (36, .slice A n cap), (37, iq (i : Int))] ?_
 refine pl_step 3 1 rfl rfl ?_
 refine cont_recast 36 (.slice A n cap) (.slice (pB g) n cap) rfl (by rw [hra (by omega)]) ?_
 refine sem_step 38 (Instr.sliceAt 58 (.slice (pB g) n cap) (some (iq (i : Int))) none none) (.slice (sliceA g 0 i cap 4) (n - i) (cap - i)) (by kernel_rfl) (fun w hT => run_sliceLo (e := 53) (sz := 4) _ (by kernel_rfl) (by kernel_rfl) (by omega) (by omega) (by omega) (by omega) w) ?_
 refine pl_step 4 0 rfl rfl ?_
 obtain ⟨ca_, hca_⟩ : ∃ a_ : Addr, (sliceA g 0 i cap 4) = some a_ := by unfold sliceA; split <;> exact ⟨_, rfl⟩
 refine cont_recast 38 (.slice (sliceA g 0 i cap 4) (n - i) (cap - i)) (.slice (some ca_) (n - i) (cap - i)) rfl (by rw [hca_]) ?_
 refine sem_stepN (Builtin.clear_ #[58] 0 #[.slice (some ca_) (n - i) (cap - i)]) (fun _ => [.gen (rowE (A) g n cap 53 4 (rvals ((keptL p (xs.take j) ++ xs.drop (keptL p (xs.take j)).length).take i ++ List.replicate (n - i) ⟨0, 0, 0, 0⟩ ++ (keptL p (xs.take j) ++ xs.drop (keptL p (xs.take j)).length).drop (i + (n - i)))) false)]) (fun _ => True) (by kernel_rfl) (fun w hT => clear_rowR (J := i) hT (i := 0) rfl (by kernel_rfl) (by kernel_rfl) (fun h_ => Option.some.inj (hca_.symm.trans (by rw [sliceA_pos (by omega)]; simp))) (by omega) rfl) (fun _ _ => ?_)
 refine cont_done ?_
 refine then_normal ?_
 refine cont_seq ?_
 refine cont_region 4 rfl ?_
 refine bS [0, 0] 2 2 [(39, .slice A n cap), (40, iq (i : Int))] ?_
 refine pl_step 3 1 rfl rfl ?_
 refine cont_recast 39 (.slice A n cap) (.slice (pB g) n cap) rfl (by rw [hra (by omega)]) ?_
 refine sem_step 41 (Instr.sliceAt 58 (.slice (pB g) n cap) none (some (iq (i : Int))) none) (.slice (pB g) i cap) (by kernel_rfl) (fun w hT => run_sliceHi (e := 53) (sz := 4) _ (by kernel_rfl) (by kernel_rfl) (by omega) (by omega) (by omega) w) ?_
 refine bS [0] 4 0 [(4, .slice (pB g) i cap)] ?_
 refine cont_done ?_
 refine then_normal ?_
 refine cont_ret ?_
 refine ret_one (.inl rfl) rfl 0 (.slice (pB g) i cap) (by kernel_rfl) (by kernel_rfl) (fun w hT => ?_)
 refine ⟨i, ?_, by rw [hra (by omega)], ?_⟩
 · rw [← hk, show j = n by omega, List.take_of_length_le (by omega)]
 · exact hT.shrink (i := 0) rfl (k := i) (by omega) (by rw [rvals_take, take_clear hk, show j = n by omega, List.take_of_length_le (by omega)])

theorem regOf (A : Option Addr) (g o n cap : Nat) (xs : List Rect) (w : World) (hT0 : Tab w w [.gen (rdE (A) g o n 4 (rvals xs))]) (hn : n ≤ 262144) :
    Calls Try.prog 68 #[.slice A n cap] w fun e w' => ∃ (A_ : Option Addr) (g_ k_ cp_ : Nat), e = .returned (.slice A_ k_ cp_) ∧ Tab w w' [.gen (rowE (A_) g_ k_ cp_ 53 4 (rvals (canR xs)) true)] := by
 obtain ⟨hra, hrl⟩ := Rd.factsR (hT0.ok 0 _ rfl)
 refine enter 8 [(0, .slice A n cap)] [.gen (rdE (A) g o n 4 (rvals xs))] Try.func68 rfl Try.ntmps68 rfl (by kernel_rfl) hT0 ?_
 refine cont_seq ?_
 refine cont_region 1 rfl ?_
 refine bS [0] 1 0 [(0, .slice A n cap)] ?_
 refine cont_done ?_
 refine then_normal ?_
 refine cont_seq ?_
 refine cont_region 4 rfl ?_
 refine bS [0] 1 3 [(3, .slice A n cap)] ?_
 refine pl_step 2 2 rfl rfl ?_
 refine call_gen (d := 4) (α := Option Addr × Nat × Nat × Nat) (fun x_ => .slice x_.1 x_.2.2.1 x_.2.2.2) (fun x_ => [.gen (rowE (x_.1) x_.2.1 x_.2.2.1 x_.2.2.2 53 4 (rvals xs) true), .gen (rdE (A) g o n 4 (rvals xs))]) (fun x_ => True) (by kernel_rfl) (fun w hT => (cloneR A g o n cap xs w (hT.viewRo (.cons (i := 0) rfl Vw.rd .nil) rfl) (by omega)).mono fun e w' ⟨A1, g2, k3, cp4, he_, ht_⟩ => ⟨(A1, g2, k3, cp4), he_, trivial, hT.news ht_ rfl⟩) ?_
 rintro ⟨A1, g2, k3, cp4⟩ hf5_
 refine cont_norm [(3, .slice A n cap), (4, .slice A1 k3 cp4)] _ (by kernel_rfl) rfl ?_
 refine cont_fact (F := (0 < k3 → (A1 : Option Addr) = pB g2) ∧ xs.length = k3 ∧ k3 ≤ cp4 ∧ cp4 ≤ maxLen) (fun w hT => Row.factsR (hT.ok 0 _ rfl)) (fun hr6_ => ?_)
 obtain ⟨hr6_a, hr6_l, hr6_c, hr6_m⟩ := hr6_
 unfold maxLen at hr6_m
 refine pl_step 3 1 rfl rfl ?_
 refine call_gen (d := 5) (α := Nat) (fun x_ => .slice A1 x_ cp4) (fun x_ => [.gen (rowE (A1) g2 x_ cp4 53 4 (rvals (keptL emptyR xs)) true), .gen (rdE (A) g o n 4 (rvals xs))]) (fun x_ => (keptL emptyR xs).length = x_) (by kernel_rfl) (fun w hT => (deleteR A1 g2 k3 cp4 xs 94 emptyR w (hT.view (.cons (i := 0) rfl Vw.row .nil) (by decide)) (fun _ => by kernel_rfl) (fun r w => rectEmpty r.x0 r.y0 r.x1 r.y1 w) (by omega)).mono fun e w' ⟨x_, hl_, he_, ht_⟩ => ⟨x_, he_, hl_, hT.merge (N := []) (s := [0]) ht_ (.cons (i := 0) rfl Mg.row .nil) (by decide) (fun i e h => by simp at h)⟩) ?_
 rintro kd7 hkd8_
 replace hkd8_ : (keptL emptyR xs).length = kd7 := hkd8_
 refine cont_norm [(3, .slice A n cap), (4, .slice A1 k3 cp4), (5, .slice A1 kd7 cp4)] _ (by kernel_rfl) rfl ?_
 refine cont_fact (F := (0 < kd7 → (A1 : Option Addr) = pB g2) ∧ (keptL emptyR xs).length = kd7 ∧ kd7 ≤ cp4 ∧ cp4 ≤ maxLen) (fun w hT => Row.factsR (hT.ok 0 _ rfl)) (fun hr9_ => ?_)
 obtain ⟨hr9_a, hr9_l, hr9_c, hr9_m⟩ := hr9_
 unfold maxLen at hr9_m
 refine bS [0] 4 0 [(0, .slice A1 kd7 cp4)] ?_
 refine cont_done ?_
 refine then_normal ?_
 refine cont_seq ?_
 refine cont_region 3 rfl ?_
 have hkl := keptL_length emptyR xs
 refine bS [0] 1 2 [(6, .slice A1 kd7 cp4)] ?_
 refine pl_step 2 1 rfl rfl ?_
 refine cont_nilrow 53 4 ?_
 refine cont_norm [(6, .slice A1 kd7 cp4)] _ (by kernel_rfl) rfl ?_
 refine call_gen (d := 7) (α := Option Addr × Nat × Nat × Nat) (fun x_ => .slice x_.1 x_.2.2.1 x_.2.2.2) (fun x_ => [.gen (rowE (x_.1) x_.2.1 x_.2.2.1 x_.2.2.2 53 4 (rvals (regM fstB (keptL emptyR xs) [])) true), .gen (rowE (none) 0 0 0 53 4 (rvals []) true), .gen (rowE (A1) g2 kd7 cp4 53 4 (rvals (keptL emptyR xs)) true), .gen (rdE (A) g o n 4 (rvals xs))]) (fun x_ => True) (by kernel_rfl) (fun w hT => (regMerge A1 g2 0 kd7 cp4 (keptL emptyR xs) none 0 0 0 0 [] 95 fstB w (hT.viewRo (.cons (i := 1) rfl Vw.rowRd (.cons (i := 0) rfl Vw.rowRd .nil)) rfl) (fun _ => by kernel_rfl) (fun p q w => keepOf p q w) (by omega)).mono fun e w' ⟨A11, g12, k13, cp14, he_, ht_⟩ => ⟨(A11, g12, k13, cp14), he_, trivial, hT.news ht_ rfl⟩) ?_
 rintro ⟨A11, g12, k13, cp14⟩ hf15_
 refine cont_norm [(6, .slice A1 kd7 cp4), (7, .slice A11 k13 cp14)] _ (by kernel_rfl) rfl ?_
 refine cont_fact (F := (0 < k13 → (A11 : Option Addr) = pB g12) ∧ (regM fstB (keptL emptyR xs) []).length = k13 ∧ k13 ≤ cp14 ∧ cp14 ≤ maxLen) (fun w hT => Row.factsR (hT.ok 0 _ rfl)) (fun hr16_ => ?_)
 obtain ⟨hr16_a, hr16_l, hr16_c, hr16_m⟩ := hr16_
 unfold maxLen at hr16_m
 refine bS [0] 3 0 [(2, .slice A11 k13 cp14)] ?_
 refine cont_done ?_
 refine then_normal ?_
 refine cont_ret ?_
 refine ret_one (.inl rfl) rfl 0 (.slice A11 k13 cp14) (by kernel_rfl) (by kernel_rfl) (fun w hT => ?_)
 replace hT := hT.erase 3 (fun e h hw => by cases h; first | rfl | cases hw)
 replace hT := hT.erase 2 (fun e h hw => by cases h; first | rfl | cases hw)
 replace hT := hT.erase 1 (fun e h hw => by cases h; first | rfl | cases hw)
 rw [of_eq] at hT
 exact ⟨_, _, _, _, rfl, hT⟩

theorem regCut (A : Option Addr) (g o n cap : Nat) (xs : List Rect) (A' : Option Addr) (g' o' n' cap' : Nat) (xs' : List Rect) (w : World) (hT0 : Tab w w [.gen (rdE (A) g o n 4 (rvals xs)), .gen (rdE (A') g' o' n' 4 (rvals xs'))]) (hn : n + n' ≤ 262144) :
    Calls Try.prog 63 #[.slice A n cap, .slice A' n' cap'] w fun e w' => ∃ (A_ : Option Addr) (g_ k_ cp_ : Nat), e = .returned (.slice A_ k_ cp_) ∧ Tab w w' [.gen (rowE (A_) g_ k_ cp_ 53 4 (rvals (regM andB xs xs')) true)] := by
 obtain ⟨hra, hrl⟩ := Rd.factsR (hT0.ok 0 _ rfl)
 obtain ⟨hra', hrl'⟩ := Rd.factsR (hT0.ok 1 _ rfl)
 refine enter 8 [(0, .slice A n cap), (1, .slice A' n' cap')] [.gen (rdE (A) g o n 4 (rvals xs)), .gen (rdE (A') g' o' n' 4 (rvals xs'))] Try.func63 rfl Try.ntmps63 rfl (by kernel_rfl) hT0 ?_
 refine cont_seq ?_
 refine cont_region 1 rfl ?_
 refine bS [0] 1 0 [(0, .slice A n cap), (1, .slice A' n' cap')] ?_
 refine cont_done ?_
 refine then_normal ?_
 refine cont_seq ?_
 refine cont_region 4 rfl ?_
 refine bS [0, 0] 2 2 [(5, .slice A n cap), (6, .slice A' n' cap')] ?_
 refine pl_step 3 1 rfl rfl ?_
 refine call_gen (d := 7) (α := Option Addr × Nat × Nat × Nat) (fun x_ => .slice x_.1 x_.2.2.1 x_.2.2.2) (fun x_ => [.gen (rowE (x_.1) x_.2.1 x_.2.2.1 x_.2.2.2 53 4 (rvals (regM andB xs xs')) true), .gen (rdE (A) g o n 4 (rvals xs)), .gen (rdE (A') g' o' n' 4 (rvals xs'))]) (fun x_ => True) (by kernel_rfl) (fun w hT => (regMerge A g o n cap xs A' g' o' n' cap' xs' 87 andB w (hT.viewRo (.cons (i := 0) rfl Vw.rd (.cons (i := 1) rfl Vw.rd .nil)) rfl) (fun _ => by kernel_rfl) (fun p q w => keepAnd p q w) (by omega)).mono fun e w' ⟨A1, g2, k3, cp4, he_, ht_⟩ => ⟨(A1, g2, k3, cp4), he_, trivial, hT.news ht_ rfl⟩) ?_
 rintro ⟨A1, g2, k3, cp4⟩ hf5_
 refine cont_norm [(5, .slice A n cap), (6, .slice A' n' cap'), (7, .slice A1 k3 cp4)] _ (by kernel_rfl) rfl ?_
 refine cont_fact (F := (0 < k3 → (A1 : Option Addr) = pB g2) ∧ (regM andB xs xs').length = k3 ∧ k3 ≤ cp4 ∧ cp4 ≤ maxLen) (fun w hT => Row.factsR (hT.ok 0 _ rfl)) (fun hr6_ => ?_)
 obtain ⟨hr6_a, hr6_l, hr6_c, hr6_m⟩ := hr6_
 unfold maxLen at hr6_m
 refine bS [0] 4 0 [(4, .slice A1 k3 cp4)] ?_
 refine cont_done ?_
 refine then_normal ?_
 refine cont_ret ?_
 refine ret_one (.inl rfl) rfl 0 (.slice A1 k3 cp4) (by kernel_rfl) (by kernel_rfl) (fun w hT => ?_)
 replace hT := hT.erase 2 (fun e h hw => by cases h; first | rfl | cases hw)
 replace hT := hT.erase 1 (fun e h hw => by cases h; first | rfl | cases hw)
 exact ⟨_, _, _, _, rfl, hT⟩

theorem regLess (A : Option Addr) (g o n cap : Nat) (xs : List Rect) (A' : Option Addr) (g' o' n' cap' : Nat) (xs' : List Rect) (w : World) (hT0 : Tab w w [.gen (rdE (A) g o n 4 (rvals xs)), .gen (rdE (A') g' o' n' 4 (rvals xs'))]) (hn : n + n' ≤ 262144) :
    Calls Try.prog 84 #[.slice A n cap, .slice A' n' cap'] w fun e w' => ∃ (A_ : Option Addr) (g_ k_ cp_ : Nat), e = .returned (.slice A_ k_ cp_) ∧ Tab w w' [.gen (rowE (A_) g_ k_ cp_ 53 4 (rvals (regM lessB xs xs')) true)] := by
 obtain ⟨hra, hrl⟩ := Rd.factsR (hT0.ok 0 _ rfl)
 obtain ⟨hra', hrl'⟩ := Rd.factsR (hT0.ok 1 _ rfl)
 refine enter 8 [(0, .slice A n cap), (1, .slice A' n' cap')] [.gen (rdE (A) g o n 4 (rvals xs)), .gen (rdE (A') g' o' n' 4 (rvals xs'))] Try.func84 rfl Try.ntmps84 rfl (by kernel_rfl) hT0 ?_
 refine cont_seq ?_
 refine cont_region 1 rfl ?_
 refine bS [0] 1 0 [(0, .slice A n cap), (1, .slice A' n' cap')] ?_
 refine cont_done ?_
 refine then_normal ?_
 refine cont_seq ?_
 refine cont_region 4 rfl ?_
 refine bS [0, 0] 2 2 [(5, .slice A n cap), (6, .slice A' n' cap')] ?_
 refine pl_step 3 1 rfl rfl ?_
 refine call_gen (d := 7) (α := Option Addr × Nat × Nat × Nat) (fun x_ => .slice x_.1 x_.2.2.1 x_.2.2.2) (fun x_ => [.gen (rowE (x_.1) x_.2.1 x_.2.2.1 x_.2.2.2 53 4 (rvals (regM lessB xs xs')) true), .gen (rdE (A) g o n 4 (rvals xs)), .gen (rdE (A') g' o' n' 4 (rvals xs'))]) (fun x_ => True) (by kernel_rfl) (fun w hT => (regMerge A g o n cap xs A' g' o' n' cap' xs' 103 lessB w (hT.viewRo (.cons (i := 0) rfl Vw.rd (.cons (i := 1) rfl Vw.rd .nil)) rfl) (fun _ => by kernel_rfl) (fun p q w => keepLess p q w) (by omega)).mono fun e w' ⟨A1, g2, k3, cp4, he_, ht_⟩ => ⟨(A1, g2, k3, cp4), he_, trivial, hT.news ht_ rfl⟩) ?_
 rintro ⟨A1, g2, k3, cp4⟩ hf5_
 refine cont_norm [(5, .slice A n cap), (6, .slice A' n' cap'), (7, .slice A1 k3 cp4)] _ (by kernel_rfl) rfl ?_
 refine cont_fact (F := (0 < k3 → (A1 : Option Addr) = pB g2) ∧ (regM lessB xs xs').length = k3 ∧ k3 ≤ cp4 ∧ cp4 ≤ maxLen) (fun w hT => Row.factsR (hT.ok 0 _ rfl)) (fun hr6_ => ?_)
 obtain ⟨hr6_a, hr6_l, hr6_c, hr6_m⟩ := hr6_
 unfold maxLen at hr6_m
 refine bS [0] 4 0 [(4, .slice A1 k3 cp4)] ?_
 refine cont_done ?_
 refine then_normal ?_
 refine cont_ret ?_
 refine ret_one (.inl rfl) rfl 0 (.slice A1 k3 cp4) (by kernel_rfl) (by kernel_rfl) (fun w hT => ?_)
 replace hT := hT.erase 2 (fun e h hw => by cases h; first | rfl | cases hw)
 replace hT := hT.erase 1 (fun e h hw => by cases h; first | rfl | cases hw)
 exact ⟨_, _, _, _, rfl, hT⟩

theorem refSame (A : Option Addr) (g o n cap : Nat) (xs : List Rect) (A' : Option Addr) (g' o' n' cap' : Nat) (xs' : List Rect) (w : World) (hT0 : Tab w w [.gen (rdE (A) g o n 4 (rvals xs)), .gen (rdE (A') g' o' n' 4 (rvals xs'))]) (hn : n ≤ 1000000000000) :
    Calls Try.prog 43 #[.slice A n cap, .slice A' n' cap'] w fun e w' => e = .returned (.bool (decide (xs = xs'))) ∧ Below w.heap.size w w' := by
 obtain ⟨hra, hrl⟩ := Rd.factsR (hT0.ok 0 _ rfl)
 obtain ⟨hra', hrl'⟩ := Rd.factsR (hT0.ok 1 _ rfl)
 refine enter 26 [(0, .slice A n cap), (1, .slice A' n' cap')] [.gen (rdE (A) g o n 4 (rvals xs)), .gen (rdE (A') g' o' n' 4 (rvals xs'))] Try.func43 rfl Try.ntmps43 rfl (by kernel_rfl) hT0 ?_
 refine cont_seq ?_
 refine cont_region 1 rfl ?_
 refine bS [0] 1 0 [(0, .slice A n cap), (1, .slice A' n' cap')] ?_
 refine cont_done ?_
 refine then_normal ?_
 refine cont_seq ?_
 refine cont_seq ?_
 refine cont_region 5 rfl ?_
 refine bS [0, 0, 0, 0, 0] 5 0 [(0, .slice A n cap), (1, .slice A' n' cap'), (10, .bool ((n : Int) != ((n' : Nat) : Int)))] ?_
 refine cont_done ?_
 refine then_normal ?_
 refine cont_split 10 ((n : Int) != ((n' : Nat) : Int)) rfl (fun c1_ => ?_) (fun c1_ => ?_)
 ·
  replace c1_ := ne_of_bne c1_
  refine cont_true rfl ?_
  refine cont_seq ?_
  refine cont_region 1 rfl ?_
  refine bS [0] 1 0 [(4, .bool false)] ?_
  refine cont_done ?_
  refine then_normal ?_
  refine cont_ret ?_
  refine then_ret ?_
  refine ret_one (.inl rfl) rfl 0 (.bool false) (by kernel_rfl) (by kernel_rfl) (fun w hT => ?_)
  exact ⟨ret_bool (decide_eq_false (by first | (intro he_; exact hne_ (by rw [he_])) | (intro he_; have := congrArg List.length he_; omega))).symm, hT.post rfl⟩
 replace c1_ := eq_of_bne_false c1_
 refine cont_false rfl ?_
 refine cont_skip ?_
 refine then_normal ?_
 refine cont_seq ?_
 refine cont_seq ?_
 refine cont_region 1 rfl ?_
 refine bS [0] 1 0 [(0, .slice A n cap), (1, .slice A' n' cap'), (5, iq 0)] ?_
 refine cont_done ?_
 refine then_normal ?_
 refine cont_block ?_
 refine cont_loop (α := Nat) (fun x_ : Nat => x_ ≤ n ∧ ∀ j, j < x_ → rget xs j = rget xs' j) (fun x_ : Nat => [(0, .slice A n cap), (1, .slice A' n' cap'), (5, iq (x_ : Int))]) (fun x_ : Nat => [.gen (rdE (A) g o n 4 (rvals xs)), .gen (rdE (A') g' o' n' 4 (rvals xs'))]) (fun x_ : Nat => n - x_) 0 (⟨by omega, fun j hj => by omega⟩) (by kernel_rfl) (by kernel_rfl) ?_
 rintro i hinv2_
 replace hinv2_ : i ≤ n ∧ ∀ j, j < i → rget xs j = rget xs' j := hinv2_
 refine cont_norm [(0, .slice A n cap), (1, .slice A' n' cap'), (5, iq (i : Int))] _ (by kernel_rfl) rfl ?_
 obtain ⟨hi, hns⟩ := hinv2_
 refine cont_seq ?_
 refine cont_seq ?_
 refine cont_region 4 rfl ?_
 refine bS [0, 0, 0, 0] 4 0 [(0, .slice A n cap), (1, .slice A' n' cap'), (5, iq (i : Int)), (14, .bool (decide ((i : Int) < (n : Int))))] ?_
 refine cont_done ?_
 refine then_normal ?_
 refine cont_split 14 (decide ((i : Int) < (n : Int))) rfl (fun c3_ => ?_) (fun c3_ => ?_)
 ·
  replace c3_ := of_decide_eq_true c3_
  refine cont_true rfl ?_
  refine cont_skip ?_
  refine then_normal ?_
  refine cont_seq ?_
  refine cont_block ?_
  refine cont_seq ?_
  refine drawn_enter 9 [] rfl (by kernel_rfl) ?_
  refine takes 0 [] [(0, 0), (1, 0), (4, 0), (5, 0)] 5 [5, 4, 1, 0] [(0, .slice A n cap), (1, .slice A' n' cap'), (5, iq (i : Int)), (17, .slice A n cap), (18, iq (i : Int)), (21, .slice A' n' cap'), (22, iq (i : Int))] (by kernel_rfl) (pok_then (pok_blk (pok_then (pok_then (pok_blk (pok_then pok_body)))))) (by kernel_rfl) rfl rfl (by kernel_rfl) (by kernel_rfl) ?_
  refine cont_recast 17 (.slice A n cap) (.slice (some ⟨g, o, none⟩) n cap) rfl (by rw [hra (by omega)]) ?_
  refine sem_take 0 [] 2 4 19 (Instr.indexAt 58 (.slice (some ⟨g, o, none⟩) n cap) (iq (i : Int))) (.pointer (some ⟨g, o + i * 4, none⟩)) (by kernel_rfl) (pok_then (pok_blk (pok_then (pok_then (pok_blk (pok_then pok_body)))))) (by kernel_rfl) rfl (by kernel_rfl) (by kernel_rfl) (fun w hT => run_indexAt (e := 53) (sz := 4) _ (by kernel_rfl) (by kernel_rfl) (by omega) (by omega) (by omega) w) ?_
  refine sem_take 0 [] 3 3 20 (Instr.loadAt 53 (.pointer (some ⟨g, o + i * 4, none⟩))) (.agg #[iq ((rget xs i).x0), iq ((rget xs i).y0), iq ((rget xs i).x1), iq ((rget xs i).y1)]) (by kernel_rfl) (pok_then (pok_blk (pok_then (pok_then (pok_blk (pok_then pok_body)))))) (by kernel_rfl) rfl (by kernel_rfl) (by kernel_rfl) (fun w hT => run_loadN (m := 4) (cs := rcells (rget xs i)) (by kernel_rfl) (by kernel_rfl) rfl (Rd.rect (hT 0 _ rfl) (by omega))) ?_
  refine cont_recast 21 (.slice A' n' cap') (.slice (some ⟨g', o', none⟩) n' cap') rfl (by rw [hra' (by omega)]) ?_
  refine sem_take 0 [] 6 2 23 (Instr.indexAt 58 (.slice (some ⟨g', o', none⟩) n' cap') (iq (i : Int))) (.pointer (some ⟨g', o' + i * 4, none⟩)) (by kernel_rfl) (pok_then (pok_blk (pok_then (pok_then (pok_blk (pok_then pok_body)))))) (by kernel_rfl) rfl (by kernel_rfl) (by kernel_rfl) (fun w hT => run_indexAt (e := 53) (sz := 4) _ (by kernel_rfl) (by kernel_rfl) (by omega) (by omega) (by omega) w) ?_
  refine sem_take 0 [] 7 1 24 (Instr.loadAt 53 (.pointer (some ⟨g', o' + i * 4, none⟩))) (.agg #[iq ((rget xs' i).x0), iq ((rget xs' i).y0), iq ((rget xs' i).x1), iq ((rget xs' i).y1)]) (by kernel_rfl) (pok_then (pok_blk (pok_then (pok_then (pok_blk (pok_then pok_body)))))) (by kernel_rfl) rfl (by kernel_rfl) (by kernel_rfl) (fun w hT => run_loadN (m := 4) (cs := rcells (rget xs' i)) (by kernel_rfl) (by kernel_rfl) rfl (Rd.rect (hT 1 _ rfl) (by omega))) ?_
  refine sem_take 0 [] 8 0 25 (bopS .neq 53 (.tmp 20) (.tmp 24) (.agg #[iq ((rget xs i).x0), iq ((rget xs i).y0), iq ((rget xs i).x1), iq ((rget xs i).y1)]) (.agg #[iq ((rget xs' i).x0), iq ((rget xs' i).y0), iq ((rget xs' i).x1), iq ((rget xs' i).y1)])) (.bool (!(eqInts [(rget xs i).x0, (rget xs i).y0, (rget xs i).x1, (rget xs i).y1] [(rget xs' i).x0, (rget xs' i).y0, (rget xs' i).x1, (rget xs' i).y1]))) (by kernel_rfl) (pok_then (pok_blk (pok_then (pok_then (pok_blk (pok_then pok_body)))))) (by kernel_rfl) rfl (by kernel_rfl) (by kernel_rfl) (fun w hT => run_neS [(rget xs i).x0, (rget xs i).y0, (rget xs i).x1, (rget xs i).y1] [(rget xs' i).x0, (rget xs' i).y0, (rget xs' i).x1, (rget xs' i).y1] (by kernel_rfl) (by kernel_rfl) (by kernel_rfl) (by kernel_rfl) rfl rfl w) ?_
  refine drawn_done (by kernel_rfl) ?_
  refine then_normal ?_
  refine cont_split 25 (!(eqInts [(rget xs i).x0, (rget xs i).y0, (rget xs i).x1, (rget xs i).y1] [(rget xs' i).x0, (rget xs' i).y0, (rget xs' i).x1, (rget xs' i).y1])) rfl (fun c4_ => ?_) (fun c4_ => ?_)
  ·
   have hne_ : rget xs i ≠ rget xs' i := by intro he_; rw [eqInts_rect, decide_eq_true he_] at c4_; cases c4_
   refine cont_true rfl ?_
   refine cont_seq ?_
   refine cont_region 1 rfl ?_
   refine bS [0] 1 0 [(4, .bool false)] ?_
   refine cont_done ?_
   refine then_normal ?_
   refine cont_ret ?_
   refine blk_ret ?_
   refine then_ret ?_
   refine then_ret ?_
   refine blk_ret ?_
   refine then_ret ?_
   refine ret_one (.inl rfl) rfl 0 (.bool false) (by kernel_rfl) (by kernel_rfl) (fun w hT => ?_)
   exact ⟨ret_bool (decide_eq_false (by first | (intro he_; exact hne_ (by rw [he_])) | (intro he_; have := congrArg List.length he_; omega))).symm, hT.post rfl⟩
  have heq_ : rget xs i = rget xs' i := by rw [eqInts_rect] at c4_; simpa using c4_
  refine cont_false rfl ?_
  refine cont_skip ?_
  refine blk_normal ?_
  refine then_normal ?_
  refine cont_region 3 rfl ?_
  refine bS [0, 0] 2 1 [(0, .slice A n cap), (1, .slice A' n' cap'), (16, iq (IntKind.i64.wrap ((i : Int) + 1)))] ?_
  refine cont_recast 16 (iq (IntKind.i64.wrap ((i : Int) + 1))) (iq ((i : Int) + 1)) rfl (wrapI (by omega) (by omega)) ?_
  refine bS [0] 3 0 [(0, .slice A n cap), (1, .slice A' n' cap'), (5, iq ((i : Int) + 1))] ?_
  refine cont_done ?_
  refine then_normal ?_
  refine cont_again (i + 1) (show (i + 1) ≤ n ∧ ∀ j, j < (i + 1) → rget xs j = rget xs' j from ⟨by omega, fun j hj => by rcases Nat.lt_succ_iff_lt_or_eq.1 hj with h_ | h_; exact hns j h_; subst h_; exact heq_⟩) (show n - (i + 1) < n - i from by omega) (by kernel_rfl) (by kernel_rfl)
 replace c3_ := of_decide_eq_false c3_
 refine cont_false rfl ?_
 refine cont_exit ?_
 refine then_exit ?_
 refine then_exit ?_
 refine blk_exit ?_
 refine then_normal ?_
 refine cont_seq ?_
 refine cont_region 1 rfl ?_
 refine bS [0] 1 0 [(4, .bool true)] ?_
 refine cont_done ?_
 refine then_normal ?_
 refine cont_ret ?_
 refine ret_one (.inl rfl) rfl 0 (.bool true) (by kernel_rfl) (by kernel_rfl) (fun w hT => ?_)
 exact ⟨ret_bool (decide_eq_true (list_eq_rget (by omega) (fun j hj => hns j (by omega)))).symm, hT.post rfl⟩

end Go.Proofs.Ytlfahohbkgdabaa
