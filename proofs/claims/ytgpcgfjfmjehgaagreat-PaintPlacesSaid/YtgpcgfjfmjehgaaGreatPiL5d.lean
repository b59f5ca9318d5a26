/- Contracts of functions of the given program, printed by a program of this project. -/
import Derived.Test.YtgpcgfjfmjehgaaGreatPiL2d
import Derived.Test.YtgpcgfjfmjehgaaGreatPiRf
import Derived.Test.YtgpcgfjfmjehgaaGreatPiDw
import Derived.Test.YtgpcgfjfmjehgaaGreatPiRowR
import Derived.Test.YtgpcgfjfmjehgaaGreatProg
set_option linter.unusedVariables false
set_option linter.unusedSimpArgs false
namespace Go.Proofs.YtgpcgfjfmjehgaaGreat
open Go Go.RowKit
set_option maxRecDepth 100000
set_option maxHeartbeats 8000000

theorem ptsIter0 (kb : Nat) (A : Option Addr) (g o n cap : Nat) (xs : List Rect) (hm : n ≤ 9223372036854775807) (hx : ∀ r ∈ xs, R64 r) (w0 : World) {β : Type} (Inv : List (Int × Int) → β → Prop) (Tr : β → List Ent) (Jx : World → Prop) (l_ : Nat) (e1 e2 : Ent) (w : World) (b0 : β) (hJx : ∀ w w', Jx w → Below w.heap.size w w' → Jx w') (hY : ∀ pre x b W1 z, Inv pre b → pre ++ [x] <+: regP xs → Tab w0 W1 (z :: e1 :: e2 :: (.ro kb [.slice A n cap] 33) :: (.gen (rdE (A) g o n 4 (rvals xs))) :: (Tr b)) → YieldAt Fence.wide 0 Tryz.prog l_ #[.int .i64 x.1, .int .i64 x.2] W1 fun e W' => (e = .returned (.bool true) ∧ ∃ b', Inv (pre ++ [x]) b' ∧ Tab w0 W' (z :: e1 :: e2 :: (.ro kb [.slice A n cap] 33) :: (.gen (rdE (A) g o n 4 (rvals xs))) :: (Tr b'))) ∨ (e = .returned (.bool false) ∧ Jx W')) (h0 : Inv [] b0) (hT0 : Tab w0 w (e1 :: e2 :: (.ro kb [.slice A n cap] 33) :: (.gen (rdE (A) g o n 4 (rvals xs))) :: (Tr b0))) :
    Calls Tryz.prog 55 #[.func (.yield l_) #[] #[], .pointer (some ⟨kb, 0, none⟩)] w fun e W' => (∃ v, e = .returned v) ∧ ((∃ xs_ b', xs_ = regP xs ∧ Inv xs_ b' ∧ Tab w0 W' (e1 :: e2 :: (.ro kb [.slice A n cap] 33) :: (.gen (rdE (A) g o n 4 (rvals xs))) :: (Tr b'))) ∨ Jx W') := by
 obtain ⟨hra, hrl⟩ := Rd.factsR (hT0.ok 3 _ rfl)
 refine enterI 35 [(0, .func (.yield l_) #[] #[]), (1, .pointer (pB kb))] (e1 :: e2 :: (.ro kb [.slice A n cap] 33) :: (.gen (rdE (A) g o n 4 (rvals xs))) :: (Tr b0)) Tryz.func55 rfl Tryz.ntmps55 rfl (by kernel_rfl) hT0 (fun _ h_ => by simp at h_) ?_
 refine mcont_seq ?_
 refine mcont_region 3 rfl (by kernel_rfl) ?_
 refine bS [2, 0, 0] 3 0 [(0, .func (.yield l_) #[] #[]), (7, .slice A n cap), (8, iq (n : Int)), (9, iq 0)] ?_
 refine cont_done ?_
 refine then_normal ?_
 refine mcont_block ?_
 refine mcont_loop (α := Nat × β) (fun x_ : Nat × β => x_.1 ≤ n ∧ Inv (regP (xs.take x_.1)) x_.2) (fun x_ : Nat × β => [(0, .func (.yield l_) #[] #[]), (7, .slice A n cap), (8, iq (n : Int)), (9, iq (x_.1 : Int))]) (fun x_ : Nat × β => (e1 :: e2 :: (.ro kb [.slice A n cap] 33) :: (.gen (rdE (A) g o n 4 (rvals xs))) :: (Tr x_.2))) (fun x_ : Nat × β => n - x_.1) (0, b0) (show (0) ≤ n ∧ Inv (regP (xs.take (0))) (b0) from ⟨by omega, by simpa [regP] using h0⟩) (by kernel_rfl) (by kernel_rfl) ?_
 rintro ⟨i, b⟩ hinv1_
 replace hinv1_ : i ≤ n ∧ Inv (regP (xs.take i)) b := hinv1_
 refine cont_norm [(0, .func (.yield l_) #[] #[]), (7, .slice A n cap), (8, iq (n : Int)), (9, iq (i : Int))] _ (by kernel_rfl) rfl ?_
 obtain ⟨hi, hI⟩ := hinv1_
 refine mcont_seq ?_
 refine mcont_region 1 rfl (by kernel_rfl) ?_
 refine bS [0] 1 0 [(0, .func (.yield l_) #[] #[]), (7, .slice A n cap), (8, iq (n : Int)), (9, iq (i : Int)), (10, .bool (decide ((i : Int) < (n : Int))))] ?_
 refine cont_done ?_
 refine then_normal ?_
 refine mcont_seq ?_
 refine cont_split 10 (decide ((i : Int) < (n : Int))) rfl (fun c2_ => ?_) (fun c2_ => ?_)
 ·
  replace c2_ := of_decide_eq_true c2_
  refine mcont_true rfl ?_
  refine mcont_skip ?_
  refine then_normal ?_
  refine mcont_seq ?_
  refine mcont_block ?_
  refine mcont_seq ?_
  refine mcont_region 4 rfl (by kernel_rfl) ?_
  refine pl_step 1 3 rfl rfl ?_
  refine cont_recast 7 (.slice A n cap) (.slice (some ⟨g, o, none⟩) n cap) rfl (by rw [hra (by omega)]) ?_
  refine sem_step 11 (Instr.indexAt 33 (.slice (some ⟨g, o, none⟩) n cap) (iq (i : Int))) (.pointer (some ⟨g, o + i * 4, none⟩)) (by kernel_rfl) (fun w hT => run_indexAt (e := 28) (sz := 4) _ (by kernel_rfl) (by kernel_rfl) (by omega) (by omega) (by omega) w) ?_
  refine pl_step 2 2 rfl rfl ?_
  refine sem_step 12 (Instr.loadAt 28 (.pointer (some ⟨g, o + i * 4, none⟩))) (.agg #[iq ((rget xs i).x0), iq ((rget xs i).y0), iq ((rget xs i).x1), iq ((rget xs i).y1)]) (by kernel_rfl) (fun w hT => run_loadN (m := 4) (cs := rcells (rget xs i)) (by kernel_rfl) (by kernel_rfl) rfl (Rd.rect (hT.ok 3 _ rfl) (by omega))) ?_
  refine batch1 [0, 0] 4 0 (fun b3 => [(0, .func (.yield l_) #[] #[]), (4, .pointer (pB b3)), (7, .slice (some ⟨g, o, none⟩) n cap), (8, iq (n : Int)), (9, iq (i : Int))]) (fun b3 => ((.cells b3 [iq ((rget xs i).x0), iq ((rget xs i).y0), iq ((rget xs i).x1), iq ((rget xs i).y1)] 28 true) :: e1 :: e2 :: (.ro kb [.slice A n cap] 33) :: (.gen (rdE (A) g o n 4 (rvals xs))) :: (Tr b))) rfl rfl [0, 4, 7, 8, 9] (fun _ => rfl) (fun b3 => by kernel_rfl) (fun b3 => by kernel_rfl) (fun b3 => ?_)
  refine cont_done ?_
  refine then_normal ?_
  refine mcont_seq ?_
  refine mcont_region 3 rfl (by kernel_rfl) ?_
  generalize hq : rget xs i = q
  have hq64 := hx (rget xs i) (rget_mem (by omega))
  rw [hq] at hq64
  obtain ⟨⟨hq0, hq1⟩, ⟨hq2, hq3⟩, ⟨hq4, hq5⟩, ⟨hq6, hq7⟩⟩ := hq64
  refine bS [0, 0, 0] 3 0 [(0, .func (.yield l_) #[] #[]), (4, .pointer (pB b3)), (5, iq q.y0), (7, .slice (some ⟨g, o, none⟩) n cap), (8, iq (n : Int)), (9, iq (i : Int))] ?_
  refine cont_done ?_
  refine then_normal ?_
  refine mcont_block ?_
  refine cont_recast 5 (iq q.y0) (iq (q.y0 + ((0 : Nat) : Int))) rfl (congrArg (Value.int .i64) (by omega)) ?_
  refine mcont_loop (α := Nat × β) (fun x_ : Nat × β => x_.1 ≤ Int.toNat (q.y1 - q.y0) ∧ Inv (regP (xs.take i) ++ rectP q x_.1) x_.2) (fun x_ : Nat × β => [(0, .func (.yield l_) #[] #[]), (4, .pointer (pB b3)), (5, iq (q.y0 + ((x_.1 : Nat) : Int))), (7, .slice (some ⟨g, o, none⟩) n cap), (8, iq (n : Int)), (9, iq (i : Int))]) (fun x_ : Nat × β => ((.cells b3 [iq q.x0, iq q.y0, iq q.x1, iq q.y1] 28 true) :: e1 :: e2 :: (.ro kb [.slice A n cap] 33) :: (.gen (rdE (A) g o n 4 (rvals xs))) :: (Tr x_.2))) (fun x_ : Nat × β => Int.toNat (q.y1 - q.y0) - x_.1) (0, b) (show (0) ≤ Int.toNat (q.y1 - q.y0) ∧ Inv (regP (xs.take i) ++ rectP q (0)) (b) from ⟨by omega, by simpa [rectP] using hI⟩) (by kernel_rfl) (by kernel_rfl) ?_
  rintro ⟨j, b⟩ hinv4_
  replace hinv4_ : j ≤ Int.toNat (q.y1 - q.y0) ∧ Inv (regP (xs.take i) ++ rectP q j) b := hinv4_
  refine cont_norm [(0, .func (.yield l_) #[] #[]), (4, .pointer (pB b3)), (5, iq (q.y0 + ((j : Nat) : Int))), (7, .slice (some ⟨g, o, none⟩) n cap), (8, iq (n : Int)), (9, iq (i : Int))] _ (by kernel_rfl) rfl ?_
  obtain ⟨hj, hI⟩ := hinv4_
  refine mcont_seq ?_
  refine mcont_seq ?_
  refine mcont_region 4 rfl (by kernel_rfl) ?_
  refine bS [0, 0, 0, 0] 4 0 [(0, .func (.yield l_) #[] #[]), (4, .pointer (pB b3)), (5, iq (q.y0 + ((j : Nat) : Int))), (7, .slice (some ⟨g, o, none⟩) n cap), (8, iq (n : Int)), (9, iq (i : Int)), (18, .bool (decide ((q.y0 + ((j : Nat) : Int)) < q.y1)))] ?_
  refine cont_done ?_
  refine then_normal ?_
  refine cont_split 18 (decide ((q.y0 + ((j : Nat) : Int)) < q.y1)) rfl (fun c5_ => ?_) (fun c5_ => ?_)
  ·
   replace c5_ := of_decide_eq_true c5_
   refine mcont_true rfl ?_
   refine mcont_skip ?_
   refine then_normal ?_
   refine mcont_seq ?_
   refine mcont_block ?_
   refine mcont_seq ?_
   refine mcont_region 3 rfl (by kernel_rfl) ?_
   refine bS [0, 0, 0] 3 0 [(0, .func (.yield l_) #[] #[]), (4, .pointer (pB b3)), (5, iq (q.y0 + ((j : Nat) : Int))), (6, iq q.x0), (7, .slice (some ⟨g, o, none⟩) n cap), (8, iq (n : Int)), (9, iq (i : Int))] ?_
   refine cont_done ?_
   refine then_normal ?_
   refine mcont_block ?_
   refine cont_recast 6 (iq q.x0) (iq (q.x0 + ((0 : Nat) : Int))) rfl (congrArg (Value.int .i64) (by omega)) ?_
   refine mcont_loop (α := Nat × β) (fun x_ : Nat × β => x_.1 ≤ Int.toNat (q.x1 - q.x0) ∧ Inv (regP (xs.take i) ++ rectP q j ++ rowP (q.y0 + ((j : Nat) : Int)) q.x0 x_.1) x_.2) (fun x_ : Nat × β => [(0, .func (.yield l_) #[] #[]), (4, .pointer (pB b3)), (5, iq (q.y0 + ((j : Nat) : Int))), (6, iq (q.x0 + ((x_.1 : Nat) : Int))), (7, .slice (some ⟨g, o, none⟩) n cap), (8, iq (n : Int)), (9, iq (i : Int))]) (fun x_ : Nat × β => ((.cells b3 [iq q.x0, iq q.y0, iq q.x1, iq q.y1] 28 true) :: e1 :: e2 :: (.ro kb [.slice A n cap] 33) :: (.gen (rdE (A) g o n 4 (rvals xs))) :: (Tr x_.2))) (fun x_ : Nat × β => Int.toNat (q.x1 - q.x0) - x_.1) (0, b) (show (0) ≤ Int.toNat (q.x1 - q.x0) ∧ Inv (regP (xs.take i) ++ rectP q j ++ rowP (q.y0 + ((j : Nat) : Int)) q.x0 (0)) (b) from ⟨by omega, by simpa [rowP] using hI⟩) (by kernel_rfl) (by kernel_rfl) ?_
   rintro ⟨k, b⟩ hinv6_
   replace hinv6_ : k ≤ Int.toNat (q.x1 - q.x0) ∧ Inv (regP (xs.take i) ++ rectP q j ++ rowP (q.y0 + ((j : Nat) : Int)) q.x0 k) b := hinv6_
   refine cont_norm [(0, .func (.yield l_) #[] #[]), (4, .pointer (pB b3)), (5, iq (q.y0 + ((j : Nat) : Int))), (6, iq (q.x0 + ((k : Nat) : Int))), (7, .slice (some ⟨g, o, none⟩) n cap), (8, iq (n : Int)), (9, iq (i : Int))] _ (by kernel_rfl) rfl ?_
   obtain ⟨hk, hI⟩ := hinv6_
   refine mcont_seq ?_
   refine mcont_seq ?_
   refine mcont_region 4 rfl (by kernel_rfl) ?_
   refine bS [0, 0, 0, 0] 4 0 [(0, .func (.yield l_) #[] #[]), (4, .pointer (pB b3)), (5, iq (q.y0 + ((j : Nat) : Int))), (6, iq (q.x0 + ((k : Nat) : Int))), (7, .slice (some ⟨g, o, none⟩) n cap), (8, iq (n : Int)), (9, iq (i : Int)), (26, .bool (decide ((q.x0 + ((k : Nat) : Int)) < q.x1)))] ?_
   refine cont_done ?_
   refine then_normal ?_
   refine cont_split 26 (decide ((q.x0 + ((k : Nat) : Int)) < q.x1)) rfl (fun c7_ => ?_) (fun c7_ => ?_)
   ·
    replace c7_ := of_decide_eq_true c7_
    refine mcont_true rfl ?_
    refine mcont_skip ?_
    refine then_normal ?_
    refine mcont_seq ?_
    refine mcont_block ?_
    refine mcont_seq ?_
    refine icont_region 5 rfl ?_
    refine pli_ops 3 2 3 rfl rfl (by kernel_rfl) ?_
    refine bS [0, 0, 0] 3 0 [(0, .func (.yield l_) #[] #[]), (4, .pointer (pB b3)), (5, iq (q.y0 + ((j : Nat) : Int))), (6, iq (q.x0 + ((k : Nat) : Int))), (7, .slice (some ⟨g, o, none⟩) n cap), (8, iq (n : Int)), (9, iq (i : Int)), (29, .func (.yield l_) #[] #[]), (30, iq (q.x0 + ((k : Nat) : Int))), (31, iq (q.y0 + ((j : Nat) : Int)))] ?_
    refine cont_done ?_
    refine then_normal ?_
    refine pli_yield 32 4 1 rfl rfl (by kernel_rfl) (by kernel_rfl) (R := fun v_ w_ => (v_ = .bool true ∧ ∃ b_, Inv (regP (xs.take i) ++ rectP q j ++ rowP (q.y0 + ((j : Nat) : Int)) q.x0 k ++ [(q.x0 + ((k : Nat) : Int), q.y0 + ((j : Nat) : Int))]) b_ ∧ Tab w0 w_ ((.cells b3 [iq q.x0, iq q.y0, iq q.x1, iq q.y1] 28 true) :: e1 :: e2 :: (.ro kb [.slice A n cap] 33) :: (.gen (rdE (A) g o n 4 (rvals xs))) :: (Tr b_))) ∨ (v_ = .bool false ∧ Jx w_)) (fun w_ hT_ => YieldAt.weaken (hY (regP (xs.take i) ++ rectP q j ++ rowP (q.y0 + ((j : Nat) : Int)) q.x0 k) (q.x0 + ((k : Nat) : Int), q.y0 + ((j : Nat) : Int)) b w_ _ hI (pts_pre (by omega) hq (by omega) (by omega)) hT_) (fun e_ w_ h_ => by rcases h_ with ⟨rfl, hh_⟩ | ⟨rfl, hh_⟩; exact ⟨_, rfl, .inl ⟨rfl, hh_⟩⟩; exact ⟨_, rfl, .inr ⟨rfl, hh_⟩⟩)) ?_
    rintro a_ w_ v_ ha_ hf_ (⟨rfl, b, hI, hT_⟩ | ⟨rfl, hJ⟩)
    ·
     refine Cont.go ?_ ha_ hf_ hT_
     refine cont_norm [(0, .func (.yield l_) #[] #[]), (4, .pointer (pB b3)), (5, iq (q.y0 + ((j : Nat) : Int))), (6, iq (q.x0 + ((k : Nat) : Int))), (7, .slice (some ⟨g, o, none⟩) n cap), (8, iq (n : Int)), (9, iq (i : Int)), (32, .bool true)] _ (by kernel_rfl) rfl ?_
     refine pli_ops 1 0 5 rfl rfl (by kernel_rfl) ?_
     refine bS [0] 5 0 [(0, .func (.yield l_) #[] #[]), (4, .pointer (pB b3)), (5, iq (q.y0 + ((j : Nat) : Int))), (6, iq (q.x0 + ((k : Nat) : Int))), (7, .slice (some ⟨g, o, none⟩) n cap), (8, iq (n : Int)), (9, iq (i : Int)), (33, .bool false)] ?_
     refine cont_done ?_
     refine then_normal ?_
     refine pli_done ?_
     refine then_normal ?_
     refine mcont_false rfl ?_
     refine mcont_skip ?_
     refine blk_normal ?_
     refine then_normal ?_
     refine mcont_region 3 rfl (by kernel_rfl) ?_
     refine bS [0, 0] 2 1 [(0, .func (.yield l_) #[] #[]), (4, .pointer (pB b3)), (5, iq (q.y0 + ((j : Nat) : Int))), (7, .slice (some ⟨g, o, none⟩) n cap), (8, iq (n : Int)), (9, iq (i : Int)), (28, iq (IntKind.i64.wrap ((q.x0 + ((k : Nat) : Int)) + 1)))] ?_
     refine cont_recast 28 (iq (IntKind.i64.wrap ((q.x0 + ((k : Nat) : Int)) + 1))) (iq ((q.x0 + ((k : Nat) : Int)) + 1)) rfl (wrapI (by omega) (by omega)) ?_
     refine bS [0] 3 0 [(0, .func (.yield l_) #[] #[]), (4, .pointer (pB b3)), (5, iq (q.y0 + ((j : Nat) : Int))), (6, iq ((q.x0 + ((k : Nat) : Int)) + 1)), (7, .slice (some ⟨g, o, none⟩) n cap), (8, iq (n : Int)), (9, iq (i : Int))] ?_
     refine cont_done ?_
     refine then_normal ?_
     refine cont_recast 6 (iq ((q.x0 + ((k : Nat) : Int)) + 1)) (iq (q.x0 + ((k + 1 : Nat) : Int))) rfl (congrArg (Value.int .i64) (by omega)) ?_
     refine cont_again (k + 1, b) (show (k + 1) ≤ Int.toNat (q.x1 - q.x0) ∧ Inv (regP (xs.take i) ++ rectP q j ++ rowP (q.y0 + ((j : Nat) : Int)) q.x0 (k + 1)) (b) from ⟨by omega, by rw [rowP_succ, ← List.append_assoc]; exact hI⟩) (show Int.toNat (q.x1 - q.x0) - (k + 1) < Int.toNat (q.x1 - q.x0) - k from by omega) (by kernel_rfl) (by kernel_rfl)
    ·
     refine Cont.go ?_ ha_ hf_ (Tab.start w_)
     refine cont_norm [(0, .func (.yield l_) #[] #[]), (4, .pointer (pB b3)), (5, iq (q.y0 + ((j : Nat) : Int))), (6, iq (q.x0 + ((k : Nat) : Int))), (7, .slice (some ⟨g, o, none⟩) n cap), (8, iq (n : Int)), (9, iq (i : Int)), (32, .bool false)] _ (by kernel_rfl) rfl ?_
     refine pli_ops 1 0 5 rfl rfl (by kernel_rfl) ?_
     refine bS [0] 5 0 [(0, .func (.yield l_) #[] #[]), (4, .pointer (pB b3)), (5, iq (q.y0 + ((j : Nat) : Int))), (6, iq (q.x0 + ((k : Nat) : Int))), (7, .slice (some ⟨g, o, none⟩) n cap), (8, iq (n : Int)), (9, iq (i : Int)), (33, .bool true)] ?_
     refine cont_done ?_
     refine then_normal ?_
     refine pli_done ?_
     refine then_normal ?_
     refine mcont_true rfl ?_
     refine mcont_ret ?_
     refine blk_ret ?_
     refine then_ret ?_
     refine then_ret ?_
     refine blk_ret ?_
     refine blk_ret ?_
     refine then_ret ?_
     refine then_ret ?_
     refine blk_ret ?_
     refine blk_ret ?_
     refine then_ret ?_
     refine then_ret ?_
     refine blk_ret ?_
     refine ret_none (.inl rfl) rfl (fun w hT => ?_)
     exact ⟨⟨_, rfl⟩, .inr (hJx _ _ hJ (hT.toBelow (fun i e h => by simp at h)))⟩
   replace c7_ := of_decide_eq_false c7_
   refine mcont_false rfl ?_
   refine mcont_exit ?_
   refine then_exit ?_
   refine then_exit ?_
   refine blk_exit ?_
   refine blk_normal ?_
   refine then_normal ?_
   refine mcont_region 3 rfl (by kernel_rfl) ?_
   refine bS [0, 0] 2 1 [(0, .func (.yield l_) #[] #[]), (4, .pointer (pB b3)), (7, .slice (some ⟨g, o, none⟩) n cap), (8, iq (n : Int)), (9, iq (i : Int)), (20, iq (IntKind.i64.wrap ((q.y0 + ((j : Nat) : Int)) + 1)))] ?_
   refine cont_recast 20 (iq (IntKind.i64.wrap ((q.y0 + ((j : Nat) : Int)) + 1))) (iq ((q.y0 + ((j : Nat) : Int)) + 1)) rfl (wrapI (by omega) (by omega)) ?_
   refine bS [0] 3 0 [(0, .func (.yield l_) #[] #[]), (4, .pointer (pB b3)), (5, iq ((q.y0 + ((j : Nat) : Int)) + 1)), (7, .slice (some ⟨g, o, none⟩) n cap), (8, iq (n : Int)), (9, iq (i : Int))] ?_
   refine cont_done ?_
   refine then_normal ?_
   refine cont_recast 5 (iq ((q.y0 + ((j : Nat) : Int)) + 1)) (iq (q.y0 + ((j + 1 : Nat) : Int))) rfl (congrArg (Value.int .i64) (by omega)) ?_
   refine cont_again (j + 1, b) (show (j + 1) ≤ Int.toNat (q.y1 - q.y0) ∧ Inv (regP (xs.take i) ++ rectP q (j + 1)) (b) from ⟨by omega, by rw [← pts_row (k := k) (by omega)]; exact hI⟩) (show Int.toNat (q.y1 - q.y0) - (j + 1) < Int.toNat (q.y1 - q.y0) - j from by omega) (by kernel_rfl) (by kernel_rfl)
  replace c5_ := of_decide_eq_false c5_
  refine mcont_false rfl ?_
  refine mcont_exit ?_
  refine then_exit ?_
  refine then_exit ?_
  refine blk_exit ?_
  refine blk_normal ?_
  refine then_normal ?_
  refine mcont_region 2 rfl (by kernel_rfl) ?_
  refine bS [0] 1 1 [(0, .func (.yield l_) #[] #[]), (7, .slice (some ⟨g, o, none⟩) n cap), (8, iq (n : Int)), (34, iq (IntKind.i64.wrap ((i : Int) + 1)))] ?_
  refine cont_recast 34 (iq (IntKind.i64.wrap ((i : Int) + 1))) (iq ((i : Int) + 1)) rfl (wrapI (by omega) (by omega)) ?_
  refine cont_forget 0 rfl ?_
  refine bS [0] 2 0 [(0, .func (.yield l_) #[] #[]), (7, .slice (some ⟨g, o, none⟩) n cap), (8, iq (n : Int)), (9, iq ((i : Int) + 1))] ?_
  refine cont_done ?_
  refine then_normal ?_
  refine cont_recast 7 (.slice (some ⟨g, o, none⟩) n cap) (.slice A n cap) rfl (by rw [hra (by omega)]) ?_
  refine cont_again (i + 1, b) (show (i + 1) ≤ n ∧ Inv (regP (xs.take (i + 1))) (b) from ⟨by omega, by rw [← pts_rect (by omega) hq (j := j) (by omega)]; exact hI⟩) (show n - (i + 1) < n - i from by omega) (by kernel_rfl) (by kernel_rfl)
 replace c2_ := of_decide_eq_false c2_
 refine mcont_false rfl ?_
 refine mcont_exit ?_
 refine then_exit ?_
 refine then_exit ?_
 refine blk_exit ?_
 refine ret_none (.inr rfl) rfl (fun w hT => ?_)
 exact ⟨⟨_, rfl⟩, .inl ⟨_, b, rfl, (by have h9 := hI; rw [show i = n by omega, List.take_of_length_le (by omega)] at h9; exact h9), hT⟩⟩

theorem ptsIter (kb : Nat) (A : Option Addr) (g o n cap : Nat) (xs : List Rect) (hm : n ≤ 9223372036854775807) (hx : ∀ r ∈ xs, R64 r) (w0 : World) : IterC Tryz.prog 55 #[.pointer (some ⟨kb, 0, none⟩)] (fun z_ : Int × Int => #[.int .i64 z_.1, .int .i64 z_.2]) w0 [.ro kb [.slice A n cap] 33, .gen (rdE (A) g o n 4 (rvals xs))] (fun _ => []) (fun xs_ => xs_ = regP xs) (fun p_ => p_ <+: regP xs) :=
  fun Inv Tr Jx l e1 e2 W b0 hJx hY h0 hT => ptsIter0 kb A g o n cap xs hm hx w0 Inv Tr Jx l e1 e2 W b0 hJx hY h0 hT

theorem payPoints (A : Option Addr) (n cap : Nat) (w : World) :
    Calls Tryz.prog 32 #[.slice A n cap] w fun e w' => ∃ kb : Nat, e = .returned (.func (.func 55) #[] #[.pointer (some ⟨kb, 0, none⟩)]) ∧ Tab w w' [.cells kb [.slice A n cap] 33 true] := by
 refine enter 4 [(0, .slice A n cap)] [] Tryz.func32 rfl Tryz.ntmps32 rfl (by kernel_rfl) (Tab.start w) ?_
 refine cont_seq ?_
 refine cont_region 2 rfl ?_
 refine batch1 [0, 0] 2 0 (fun b1 => [(1, .pointer (pB b1))]) (fun b1 => [.cells b1 [.slice A n cap] 33 true]) rfl rfl [1] (fun _ => rfl) (fun b1 => by kernel_rfl) (fun b1 => by kernel_rfl) (fun b1 => ?_)
 refine cont_done ?_
 refine then_normal ?_
 refine cont_seq ?_
 refine cont_region 2 rfl ?_
 refine bS [0, 0] 2 0 [(2, .func (.func 55) #[] #[.pointer (pB b1)])] ?_
 refine cont_done ?_
 refine then_normal ?_
 refine cont_ret ?_
 refine ret_one (.inl rfl) rfl 0 (.func (.func 55) #[] #[.pointer (pB b1)]) (by kernel_rfl) (by kernel_rfl) (fun w hT => ?_)
 exact ⟨_, rfl, hT⟩

theorem payWithin (Az : Option Addr) (gz oz nz capz : Nat) (xsz : List Rect) (a b c d : Int) (w : World) (hT0 : Tab w w [.gen (rdE (Az) gz oz nz 4 (rvals xsz))]) (hnz : nz ≤ 200000) (hcz : (canR xsz).length ≤ 200000) :
    Calls Tryz.prog 33 #[.slice Az nz capz, .agg #[.int .i64 a, .int .i64 b, .int .i64 c, .int .i64 d]] w fun e w' => ∃ (A_ : Option Addr) (g_ k_ cp_ : Nat), e = .returned (.slice A_ k_ cp_) ∧ Tab w w' [.gen (rowE (A_) g_ k_ cp_ 28 4 (rvals (regM andB (canR xsz) (canR [(⟨a, b, c, d⟩ : Rect)]))) true)] := by
 obtain ⟨hraz, hrlz⟩ := Rd.factsR (hT0.ok 0 _ rfl)
 have hcb_ := canR_small (l := [(⟨a, b, c, d⟩ : Rect)]) (by simp)
 refine enter 11 [(0, .slice Az nz capz), (1, .agg #[iq a, iq b, iq c, iq d])] [.gen (rdE (Az) gz oz nz 4 (rvals xsz))] Tryz.func33 rfl Tryz.ntmps33 rfl (by kernel_rfl) hT0 ?_
 refine cont_seq ?_
 refine cont_region 2 rfl ?_
 refine batch1 [0, 0] 2 0 (fun b1 => [(0, .slice Az nz capz), (3, .pointer (pB b1))]) (fun b1 => [.cells b1 [iq a, iq b, iq c, iq d] 28 true, .gen (rdE (Az) gz oz nz 4 (rvals xsz))]) rfl rfl [0, 3] (fun _ => rfl) (fun b1 => by kernel_rfl) (fun b1 => by kernel_rfl) (fun b1 => ?_)
 refine cont_done ?_
 refine then_normal ?_
 refine cont_seq ?_
 refine drawn_enter 7 [] rfl (by kernel_rfl) ?_
 refine takes 0 [] [(0, 0), (2, 0)] 5 [2, 0] [(5, .slice Az nz capz), (7, .agg #[iq a, iq b, iq c, iq d])] (by kernel_rfl) (pok_then pok_body) (by kernel_rfl) rfl rfl (by kernel_rfl) (by kernel_rfl) ?_
 refine drawn_two 1 3 4 rfl (by kernel_rfl) ?_ ?_
 ·
  refine call_gen (d := 6) (α := Option Addr × Nat × Nat × Nat) (fun x_ => .slice x_.1 x_.2.2.1 x_.2.2.2) (fun x_ => [.gen (rowE (x_.1) x_.2.1 x_.2.2.1 x_.2.2.2 28 4 (rvals (canR xsz)) true), .cells b1 [iq a, iq b, iq c, iq d] 28 true, .gen (rdE (Az) gz oz nz 4 (rvals xsz))]) (fun x_ => True) (by kernel_rfl) (fun w hT => (regOf Az gz oz nz capz xsz w (hT.viewRo (.cons (i := 1) rfl Vw.rd .nil) rfl) (by omega)).mono fun e w' ⟨A2, g3, k4, cp5, he_, ht_⟩ => ⟨(A2, g3, k4, cp5), he_, trivial, hT.news ht_ rfl⟩) ?_
  rintro ⟨A2, g3, k4, cp5⟩ hf6_
  refine cont_norm [(5, .slice Az nz capz), (6, .slice A2 k4 cp5), (7, .agg #[iq a, iq b, iq c, iq d])] _ (by kernel_rfl) rfl ?_
  refine cont_fact (F := (0 < k4 → (A2 : Option Addr) = pB g3) ∧ (canR xsz).length = k4 ∧ k4 ≤ cp5 ∧ cp5 ≤ maxLen) (fun w hT => Row.factsR (hT.ok 0 _ rfl)) (fun hr7_ => ?_)
  obtain ⟨hr7_a, hr7_l, hr7_c, hr7_m⟩ := hr7_
  unfold maxLen at hr7_m
  refine drawn_next 1 [] (by kernel_rfl) ?_
  refine drawn_one 3 3 rfl (by kernel_rfl) ?_
  refine one_step1 0 (fun b8 => [(6, .slice A2 k4 cp5), (8, .slice (pB b8) 1 1)]) (fun b8 => [.cells b8 [iq a, iq b, iq c, iq d] 28 true, .gen (rowE (A2) g3 k4 cp5 28 4 (rvals (canR xsz)) true), .cells b1 [iq a, iq b, iq c, iq d] 28 true, .gen (rdE (Az) gz oz nz 4 (rvals xsz))]) (fun b8 => by kernel_rfl) (fun b8 => by kernel_rfl) (fun b8 => ?_)
  refine drawn_next 2 [] (by kernel_rfl) ?_
  refine drawn_one 4 2 rfl (by kernel_rfl) ?_
  refine cont_asRow 0 1 4 rfl (vals := rvals [(⟨a, b, c, d⟩ : Rect)]) rfl rfl (by decide) ?_
  refine call_gen (d := 9) (α := Option Addr × Nat × Nat × Nat) (fun x_ => .slice x_.1 x_.2.2.1 x_.2.2.2) (fun x_ => [.gen (rowE (x_.1) x_.2.1 x_.2.2.1 x_.2.2.2 28 4 (rvals (canR [(⟨a, b, c, d⟩ : Rect)])) true), .gen (rowE (pB b8) b8 1 1 28 4 (rvals [(⟨a, b, c, d⟩ : Rect)]) true), .gen (rowE (A2) g3 k4 cp5 28 4 (rvals (canR xsz)) true), .cells b1 [iq a, iq b, iq c, iq d] 28 true, .gen (rdE (Az) gz oz nz 4 (rvals xsz))]) (fun x_ => True) (by kernel_rfl) (fun w hT => (regOf (pB b8) b8 0 1 1 [(⟨a, b, c, d⟩ : Rect)] w (hT.viewRo (.cons (i := 0) rfl Vw.rowRd .nil) rfl) (by omega)).mono fun e w' ⟨A9, g10, k11, cp12, he_, ht_⟩ => ⟨(A9, g10, k11, cp12), he_, trivial, hT.news ht_ rfl⟩) ?_
  rintro ⟨A9, g10, k11, cp12⟩ hf13_
  refine cont_norm [(6, .slice A2 k4 cp5), (8, .slice (pB b8) 1 1), (9, .slice A9 k11 cp12)] _ (by kernel_rfl) rfl ?_
  refine cont_fact (F := (0 < k11 → (A9 : Option Addr) = pB g10) ∧ (canR [(⟨a, b, c, d⟩ : Rect)]).length = k11 ∧ k11 ≤ cp12 ∧ cp12 ≤ maxLen) (fun w hT => Row.factsR (hT.ok 0 _ rfl)) (fun hr14_ => ?_)
  obtain ⟨hr14_a, hr14_l, hr14_c, hr14_m⟩ := hr14_
  unfold maxLen at hr14_m
  refine drawn_next 3 [] (by kernel_rfl) ?_
  refine drawn_one 5 1 rfl (by kernel_rfl) ?_
  refine call_gen (d := 10) (α := Option Addr × Nat × Nat × Nat) (fun x_ => .slice x_.1 x_.2.2.1 x_.2.2.2) (fun x_ => [.gen (rowE (x_.1) x_.2.1 x_.2.2.1 x_.2.2.2 28 4 (rvals (regM andB (canR xsz) (canR [(⟨a, b, c, d⟩ : Rect)]))) true), .gen (rowE (A9) g10 k11 cp12 28 4 (rvals (canR [(⟨a, b, c, d⟩ : Rect)])) true), .gen (rowE (pB b8) b8 1 1 28 4 (rvals [(⟨a, b, c, d⟩ : Rect)]) true), .gen (rowE (A2) g3 k4 cp5 28 4 (rvals (canR xsz)) true), .cells b1 [iq a, iq b, iq c, iq d] 28 true, .gen (rdE (Az) gz oz nz 4 (rvals xsz))]) (fun x_ => True) (by kernel_rfl) (fun w hT => (regCut A2 g3 0 k4 cp5 (canR xsz) A9 g10 0 k11 cp12 (canR [(⟨a, b, c, d⟩ : Rect)]) w (hT.viewRo (.cons (i := 2) rfl Vw.rowRd (.cons (i := 0) rfl Vw.rowRd .nil)) rfl) (by omega)).mono fun e w' ⟨A15, g16, k17, cp18, he_, ht_⟩ => ⟨(A15, g16, k17, cp18), he_, trivial, hT.news ht_ rfl⟩) ?_
  rintro ⟨A15, g16, k17, cp18⟩ hf19_
  refine cont_norm [(6, .slice A2 k4 cp5), (8, .slice (pB b8) 1 1), (9, .slice A9 k11 cp12), (10, .slice A15 k17 cp18)] _ (by kernel_rfl) rfl ?_
  refine cont_fact (F := (0 < k17 → (A15 : Option Addr) = pB g16) ∧ (regM andB (canR xsz) (canR [(⟨a, b, c, d⟩ : Rect)])).length = k17 ∧ k17 ≤ cp18 ∧ cp18 ≤ maxLen) (fun w hT => Row.factsR (hT.ok 0 _ rfl)) (fun hr20_ => ?_)
  obtain ⟨hr20_a, hr20_l, hr20_c, hr20_m⟩ := hr20_
  unfold maxLen at hr20_m
  refine drawn_next 4 [] (by kernel_rfl) ?_
  refine takes 4 [] [(6, 0)] 0 [6, 5, 4, 3, 1, 2, 0] [(4, .slice A15 k17 cp18)] (by kernel_rfl) (pok_then pok_body) (by kernel_rfl) rfl rfl (by kernel_rfl) (by kernel_rfl) ?_
  refine drawn_done (by kernel_rfl) ?_
  refine then_normal ?_
  refine cont_ret ?_
  refine ret_one (.inl rfl) rfl 0 (.slice A15 k17 cp18) (by kernel_rfl) (by kernel_rfl) (fun w hT => ?_)
  replace hT := hT.erase 5 (fun e h hw => by cases h; first | rfl | cases hw)
  replace hT := hT.erase 4 (fun e h hw => by cases h; first | rfl | cases hw)
  replace hT := hT.erase 3 (fun e h hw => by cases h; first | rfl | cases hw)
  replace hT := hT.erase 2 (fun e h hw => by cases h; first | rfl | cases hw)
  replace hT := hT.erase 1 (fun e h hw => by cases h; first | rfl | cases hw)
  exact ⟨_, _, _, _, rfl, hT⟩
 refine one_step1 0 (fun b21 => [(5, .slice Az nz capz), (8, .slice (pB b21) 1 1)]) (fun b21 => [.cells b21 [iq a, iq b, iq c, iq d] 28 true, .cells b1 [iq a, iq b, iq c, iq d] 28 true, .gen (rdE (Az) gz oz nz 4 (rvals xsz))]) (fun b21 => by kernel_rfl) (fun b21 => by kernel_rfl) (fun b21 => ?_)
 refine drawn_next 1 [] (by kernel_rfl) ?_
 refine drawn_one 1 3 rfl (by kernel_rfl) ?_
 refine call_gen (d := 6) (α := Option Addr × Nat × Nat × Nat) (fun x_ => .slice x_.1 x_.2.2.1 x_.2.2.2) (fun x_ => [.gen (rowE (x_.1) x_.2.1 x_.2.2.1 x_.2.2.2 28 4 (rvals (canR xsz)) true), .cells b21 [iq a, iq b, iq c, iq d] 28 true, .cells b1 [iq a, iq b, iq c, iq d] 28 true, .gen (rdE (Az) gz oz nz 4 (rvals xsz))]) (fun x_ => True) (by kernel_rfl) (fun w hT => (regOf Az gz oz nz capz xsz w (hT.viewRo (.cons (i := 2) rfl Vw.rd .nil) rfl) (by omega)).mono fun e w' ⟨A22, g23, k24, cp25, he_, ht_⟩ => ⟨(A22, g23, k24, cp25), he_, trivial, hT.news ht_ rfl⟩) ?_
 rintro ⟨A22, g23, k24, cp25⟩ hf26_
 refine cont_norm [(5, .slice Az nz capz), (6, .slice A22 k24 cp25), (8, .slice (pB b21) 1 1)] _ (by kernel_rfl) rfl ?_
 refine cont_fact (F := (0 < k24 → (A22 : Option Addr) = pB g23) ∧ (canR xsz).length = k24 ∧ k24 ≤ cp25 ∧ cp25 ≤ maxLen) (fun w hT => Row.factsR (hT.ok 0 _ rfl)) (fun hr27_ => ?_)
 obtain ⟨hr27_a, hr27_l, hr27_c, hr27_m⟩ := hr27_
 unfold maxLen at hr27_m
 refine drawn_next 2 [] (by kernel_rfl) ?_
 refine drawn_one 4 2 rfl (by kernel_rfl) ?_
 refine cont_asRow 1 1 4 rfl (vals := rvals [(⟨a, b, c, d⟩ : Rect)]) rfl rfl (by decide) ?_
 refine call_gen (d := 9) (α := Option Addr × Nat × Nat × Nat) (fun x_ => .slice x_.1 x_.2.2.1 x_.2.2.2) (fun x_ => [.gen (rowE (x_.1) x_.2.1 x_.2.2.1 x_.2.2.2 28 4 (rvals (canR [(⟨a, b, c, d⟩ : Rect)])) true), .gen (rowE (A22) g23 k24 cp25 28 4 (rvals (canR xsz)) true), .gen (rowE (pB b21) b21 1 1 28 4 (rvals [(⟨a, b, c, d⟩ : Rect)]) true), .cells b1 [iq a, iq b, iq c, iq d] 28 true, .gen (rdE (Az) gz oz nz 4 (rvals xsz))]) (fun x_ => True) (by kernel_rfl) (fun w hT => (regOf (pB b21) b21 0 1 1 [(⟨a, b, c, d⟩ : Rect)] w (hT.viewRo (.cons (i := 1) rfl Vw.rowRd .nil) rfl) (by omega)).mono fun e w' ⟨A28, g29, k30, cp31, he_, ht_⟩ => ⟨(A28, g29, k30, cp31), he_, trivial, hT.news ht_ rfl⟩) ?_
 rintro ⟨A28, g29, k30, cp31⟩ hf32_
 refine cont_norm [(5, .slice Az nz capz), (6, .slice A22 k24 cp25), (8, .slice (pB b21) 1 1), (9, .slice A28 k30 cp31)] _ (by kernel_rfl) rfl ?_
 refine cont_fact (F := (0 < k30 → (A28 : Option Addr) = pB g29) ∧ (canR [(⟨a, b, c, d⟩ : Rect)]).length = k30 ∧ k30 ≤ cp31 ∧ cp31 ≤ maxLen) (fun w hT => Row.factsR (hT.ok 0 _ rfl)) (fun hr33_ => ?_)
 obtain ⟨hr33_a, hr33_l, hr33_c, hr33_m⟩ := hr33_
 unfold maxLen at hr33_m
 refine drawn_next 3 [] (by kernel_rfl) ?_
 refine drawn_one 5 1 rfl (by kernel_rfl) ?_
 refine call_gen (d := 10) (α := Option Addr × Nat × Nat × Nat) (fun x_ => .slice x_.1 x_.2.2.1 x_.2.2.2) (fun x_ => [.gen (rowE (x_.1) x_.2.1 x_.2.2.1 x_.2.2.2 28 4 (rvals (regM andB (canR xsz) (canR [(⟨a, b, c, d⟩ : Rect)]))) true), .gen (rowE (A28) g29 k30 cp31 28 4 (rvals (canR [(⟨a, b, c, d⟩ : Rect)])) true), .gen (rowE (A22) g23 k24 cp25 28 4 (rvals (canR xsz)) true), .gen (rowE (pB b21) b21 1 1 28 4 (rvals [(⟨a, b, c, d⟩ : Rect)]) true), .cells b1 [iq a, iq b, iq c, iq d] 28 true, .gen (rdE (Az) gz oz nz 4 (rvals xsz))]) (fun x_ => True) (by kernel_rfl) (fun w hT => (regCut A22 g23 0 k24 cp25 (canR xsz) A28 g29 0 k30 cp31 (canR [(⟨a, b, c, d⟩ : Rect)]) w (hT.viewRo (.cons (i := 1) rfl Vw.rowRd (.cons (i := 0) rfl Vw.rowRd .nil)) rfl) (by omega)).mono fun e w' ⟨A34, g35, k36, cp37, he_, ht_⟩ => ⟨(A34, g35, k36, cp37), he_, trivial, hT.news ht_ rfl⟩) ?_
 rintro ⟨A34, g35, k36, cp37⟩ hf38_
 refine cont_norm [(5, .slice Az nz capz), (6, .slice A22 k24 cp25), (8, .slice (pB b21) 1 1), (9, .slice A28 k30 cp31), (10, .slice A34 k36 cp37)] _ (by kernel_rfl) rfl ?_
 refine cont_fact (F := (0 < k36 → (A34 : Option Addr) = pB g35) ∧ (regM andB (canR xsz) (canR [(⟨a, b, c, d⟩ : Rect)])).length = k36 ∧ k36 ≤ cp37 ∧ cp37 ≤ maxLen) (fun w hT => Row.factsR (hT.ok 0 _ rfl)) (fun hr39_ => ?_)
 obtain ⟨hr39_a, hr39_l, hr39_c, hr39_m⟩ := hr39_
 unfold maxLen at hr39_m
 refine drawn_next 4 [] (by kernel_rfl) ?_
 refine takes 4 [] [(6, 0)] 0 [6, 5, 4, 1, 3, 2, 0] [(4, .slice A34 k36 cp37)] (by kernel_rfl) (pok_then pok_body) (by kernel_rfl) rfl rfl (by kernel_rfl) (by kernel_rfl) ?_
 refine drawn_done (by kernel_rfl) ?_
 refine then_normal ?_
 refine cont_ret ?_
 refine ret_one (.inl rfl) rfl 0 (.slice A34 k36 cp37) (by kernel_rfl) (by kernel_rfl) (fun w hT => ?_)
 replace hT := hT.erase 5 (fun e h hw => by cases h; first | rfl | cases hw)
 replace hT := hT.erase 4 (fun e h hw => by cases h; first | rfl | cases hw)
 replace hT := hT.erase 3 (fun e h hw => by cases h; first | rfl | cases hw)
 replace hT := hT.erase 2 (fun e h hw => by cases h; first | rfl | cases hw)
 replace hT := hT.erase 1 (fun e h hw => by cases h; first | rfl | cases hw)
 exact ⟨_, _, _, _, rfl, hT⟩

theorem payDraw (m : Nat) (W H : Int) (r n cap : Nat) (px : List Int) (m' : Nat) (W' H' : Int) (r' n' cap' : Nat) (px' : List Int) (X Y s al ca cb cc cd : Int) (Az : Option Addr) (gz oz nz capz : Nat) (xsz : List Rect) (w : World) (hT0 : Tab w w [.ro m [.int .i64 W, .int .i64 H, .slice (some ⟨r, 0, none⟩) n cap] 91, .gen (rowE (some ⟨r, 0, none⟩) r n cap 35 1 (ivals .u32 px) false), .ro m' [.int .i64 W', .int .i64 H', .slice (some ⟨r', 0, none⟩) n' cap'] 91, .gen (rdE (some ⟨r', 0, none⟩) r' 0 n' 1 (ivals .u32 px')), .gen (rdE (Az) gz oz nz 4 (rvals xsz))]) (R : List Rect) (hR : R = regM andB (canR xsz) (canR [cutR (shwR W' H' X Y s ca cb cc cd).x0 (shwR W' H' X Y s ca cb cc cd).y0 (shwR W' H' X Y s ca cb cc cd).x1 (shwR W' H' X Y s ca cb cc cd).y1 0 0 W H])) (hne : m' ≠ m) (hcap : n ≤ cap) (hok : ImgOk W H n px) (hmay : AllMay px) (hcap' : n' ≤ cap') (hok' : ImgOk W' H' n' px') (hmay' : AllMay px') (hs : 1 ≤ s ∧ s ≤ 8) (hX : -1000000 ≤ X ∧ X ≤ 1000000) (hY : -1000000 ≤ Y ∧ Y ≤ 1000000) (hnz : nz ≤ 200000) (hcz : (canR xsz).length ≤ 200000) :
    Calls Tryz.prog 11 #[.pointer (some ⟨m, 0, none⟩), .agg #[.pointer (some ⟨m', 0, none⟩), .int .i64 X, .int .i64 Y, .int .i64 s, .int .i64 al, .int .i64 ca, .int .i64 cb, .int .i64 cc, .int .i64 cd], .slice Az nz capz] w fun e w' => e = .returned (.int .i64 ((cntL W n R : Nat) : Int)) ∧ Tab w w' [.ro m [.int .i64 W, .int .i64 H, .slice (some ⟨r, 0, none⟩) n cap] 91, .gen (rowE (some ⟨r, 0, none⟩) r n cap 35 1 (ivals .u32 (drawL W R (pcolC W' H' X Y s al ca cb cc cd px') px)) false), .ro m' [.int .i64 W', .int .i64 H', .slice (some ⟨r', 0, none⟩) n' cap'] 91, .gen (rdE (some ⟨r', 0, none⟩) r' 0 n' 1 (ivals .u32 px')), .gen (rdE (Az) gz oz nz 4 (rvals xsz))] := by
 obtain ⟨hraz, hrlz⟩ := Rd.factsR (hT0.ok 4 _ rfl)
 have hOn : OnImg W H R := by rw [hR]; exact onImg_cut _ hok.w1 hok.h1
 have hReg : IsReg R (hasL R) := by rw [hR]; exact (regM_isReg rfl _ _).self
 have hR64 := fun r hr => r64_of (reg_in hReg hOn r hr) hok.w2 hok.h2
 have hRl := regP_len hReg hOn hok.w1 hok.num
 have hcl := cntL_le W n R
 have hle := hok.le
 have hf := pcolC_may hmay' W' H' X Y s al ca cb cc cd
 have hw1 := hok.w1
 have hw2 := hok.w2
 have hh1 := hok.h1
 have hh2 := hok.h2
 refine enterM 57 [(0, .pointer (pB m)), (1, .agg #[.pointer (some ⟨m', 0, none⟩), iq X, iq Y, iq s, iq al, iq ca, iq cb, iq cc, iq cd]), (2, .slice Az nz capz)] [.ro m [iq W, iq H, .slice (pB r) n cap] 91, .gen (rowE (pB r) r n cap 35 1 (ivals .u32 px) false), .ro m' [iq W', iq H', .slice (some ⟨r', 0, none⟩) n' cap'] 91, .gen (rdE (some ⟨r', 0, none⟩) r' 0 n' 1 (ivals .u32 px')), .gen (rdE (Az) gz oz nz 4 (rvals xsz))] Tryz.func11 rfl Tryz.ntmps11 rfl (by kernel_rfl) hT0 ?_
 refine cont_seq ?_
 refine cont_region 3 rfl ?_
 refine batch2 [0, 0, 0] 3 0 (fun b1 b2 => [(2, .slice Az nz capz), (3, .pointer (pB b1)), (4, .pointer (pB b2))]) (fun b1 b2 => [.cells b2 [.pointer (some ⟨m', 0, none⟩), iq X, iq Y, iq s, iq al, iq ca, iq cb, iq cc, iq cd] 47 true, .cells b1 [.pointer (pB m)] 40 true, .ro m [iq W, iq H, .slice (pB r) n cap] 91, .gen (rowE (pB r) r n cap 35 1 (ivals .u32 px) false), .ro m' [iq W', iq H', .slice (some ⟨r', 0, none⟩) n' cap'] 91, .gen (rdE (some ⟨r', 0, none⟩) r' 0 n' 1 (ivals .u32 px')), .gen (rdE (Az) gz oz nz 4 (rvals xsz))]) rfl rfl [2, 3, 4] (fun _ _ => rfl) (fun b1 b2 => by kernel_rfl) (fun b1 b2 => by kernel_rfl) (fun b1 b2 => ?_)
 refine cont_done ?_
 refine then_normal ?_
 refine cont_seq ?_
 refine cont_region 3 rfl ?_
 refine batch1 [0, 0, 0] 3 0 (fun b3 => [(2, .slice Az nz capz), (3, .pointer (pB b1)), (4, .pointer (pB b2)), (7, .pointer (pB b3))]) (fun b3 => [.cells b3 [.pointer (some ⟨m', 0, none⟩), iq X, iq Y, iq s, iq al, iq ca, iq cb, iq cc, iq cd] 47 true, .cells b2 [.pointer (some ⟨m', 0, none⟩), iq X, iq Y, iq s, iq al, iq ca, iq cb, iq cc, iq cd] 47 true, .cells b1 [.pointer (pB m)] 40 true, .ro m [iq W, iq H, .slice (pB r) n cap] 91, .gen (rowE (pB r) r n cap 35 1 (ivals .u32 px) false), .ro m' [iq W', iq H', .slice (some ⟨r', 0, none⟩) n' cap'] 91, .gen (rdE (some ⟨r', 0, none⟩) r' 0 n' 1 (ivals .u32 px')), .gen (rdE (Az) gz oz nz 4 (rvals xsz))]) rfl rfl [2, 3, 4, 7] (fun _ => rfl) (fun b3 => by kernel_rfl) (fun b3 => by kernel_rfl) (fun b3 => ?_)
 refine cont_done ?_
 refine then_normal ?_
 refine cont_seq ?_
 refine cont_seq ?_
 refine cont_region 4 rfl ?_
 refine bS [0, 1, 2] 3 1 [(2, .slice Az nz capz), (3, .pointer (pB b1)), (4, .pointer (pB b2)), (7, .pointer (pB b3)), (17, .pointer (some ⟨m', 0, none⟩)), (18, .pointer (pB m))] ?_
 refine pl_step 4 0 rfl rfl ?_
 refine sem_step 19 (bopS .eql 40 (.tmp 17) (.tmp 18) (.pointer (some ⟨m', 0, none⟩)) (.pointer (pB m))) (.bool false) (by kernel_rfl) (fun w hT => run_eqPtrNe (te := 91) (sz := 3) (by kernel_rfl) (by kernel_rfl) (by decide) hne (hT.ok 5 _ rfl) (hT.ok 3 _ rfl)) ?_
 refine cont_done ?_
 refine then_normal ?_
 refine cont_false rfl ?_
 refine cont_skip ?_
 refine then_normal ?_
 refine cont_seq ?_
 refine cont_region 2 rfl ?_
 refine batch1 [0, 0] 2 0 (fun b4 => [(2, .slice Az nz capz), (3, .pointer (pB b1)), (4, .pointer (pB b2)), (7, .pointer (pB b3)), (8, .pointer (pB b4))]) (fun b4 => [.cells b4 [iq 0] 3 true, .cells b3 [.pointer (some ⟨m', 0, none⟩), iq X, iq Y, iq s, iq al, iq ca, iq cb, iq cc, iq cd] 47 true, .cells b2 [.pointer (some ⟨m', 0, none⟩), iq X, iq Y, iq s, iq al, iq ca, iq cb, iq cc, iq cd] 47 true, .cells b1 [.pointer (pB m)] 40 true, .ro m [iq W, iq H, .slice (pB r) n cap] 91, .gen (rowE (pB r) r n cap 35 1 (ivals .u32 px) false), .ro m' [iq W', iq H', .slice (some ⟨r', 0, none⟩) n' cap'] 91, .gen (rdE (some ⟨r', 0, none⟩) r' 0 n' 1 (ivals .u32 px')), .gen (rdE (Az) gz oz nz 4 (rvals xsz))]) rfl rfl [2, 3, 4, 7, 8] (fun _ => rfl) (fun b4 => by kernel_rfl) (fun b4 => by kernel_rfl) (fun b4 => ?_)
 refine cont_done ?_
 refine then_normal ?_
 refine cont_seq ?_
 refine cont_seq ?_
 refine drawn_enter 8 [] rfl (by kernel_rfl) ?_
 refine takes 0 [] [(0, 0), (1, 2), (3, 3)] 5 [3, 1, 0] [(3, .pointer (pB b1)), (7, .pointer (pB b3)), (8, .pointer (pB b4)), (23, .slice Az nz capz), (24, .agg #[.pointer (some ⟨m', 0, none⟩), iq X, iq Y, iq s, iq al, iq ca, iq cb, iq cc, iq cd]), (26, .pointer (pB m))] (by kernel_rfl) (pok_then (pok_then pok_np)) (by kernel_rfl) rfl rfl (by kernel_rfl) (by kernel_rfl) ?_
 refine drawn_one 2 4 rfl (by kernel_rfl) ?_
 refine call_pure (d := 25) (.agg #[iq ((shwR W' H' X Y s ca cb cc cd).x0), iq ((shwR W' H' X Y s ca cb cc cd).y0), iq ((shwR W' H' X Y s ca cb cc cd).x1), iq ((shwR W' H' X Y s ca cb cc cd).y1)]) (by kernel_rfl) (fun w hT => layBox m' W' H' r' n' cap' px' X Y s al ca cb cc cd w ⟨hT.ok 6 _ rfl, hT.ok 7 _ rfl, by omega⟩ hok') ?_
 refine drawn_next 0 [] (by kernel_rfl) ?_
 refine drawn_one 4 3 rfl (by kernel_rfl) ?_
 refine call_pure (d := 27) (.agg #[iq 0, iq 0, iq W, iq H]) (by kernel_rfl) (fun w hT => imgBox m W H r n cap px  w ⟨hT.ok 4 _ rfl, Row.rd (hT.ok 5 _ rfl), Row.capLe (hT.ok 5 _ rfl)⟩ hok) ?_
 refine drawn_next 0 [] (by kernel_rfl) ?_
 refine drawn_one 5 2 rfl (by kernel_rfl) ?_
 refine call_pure (d := 28) (.agg #[iq ((cutR ((shwR W' H' X Y s ca cb cc cd).x0) ((shwR W' H' X Y s ca cb cc cd).y0) ((shwR W' H' X Y s ca cb cc cd).x1) ((shwR W' H' X Y s ca cb cc cd).y1) 0 0 W H).x0), iq ((cutR ((shwR W' H' X Y s ca cb cc cd).x0) ((shwR W' H' X Y s ca cb cc cd).y0) ((shwR W' H' X Y s ca cb cc cd).x1) ((shwR W' H' X Y s ca cb cc cd).y1) 0 0 W H).y0), iq ((cutR ((shwR W' H' X Y s ca cb cc cd).x0) ((shwR W' H' X Y s ca cb cc cd).y0) ((shwR W' H' X Y s ca cb cc cd).x1) ((shwR W' H' X Y s ca cb cc cd).y1) 0 0 W H).x1), iq ((cutR ((shwR W' H' X Y s ca cb cc cd).x0) ((shwR W' H' X Y s ca cb cc cd).y0) ((shwR W' H' X Y s ca cb cc cd).x1) ((shwR W' H' X Y s ca cb cc cd).y1) 0 0 W H).y1)]) (by kernel_rfl) (fun w hT => rectCut ((shwR W' H' X Y s ca cb cc cd).x0) ((shwR W' H' X Y s ca cb cc cd).y0) ((shwR W' H' X Y s ca cb cc cd).x1) ((shwR W' H' X Y s ca cb cc cd).y1) 0 0 W H w) ?_
 refine drawn_next 0 [] (by kernel_rfl) ?_
 refine drawn_one 6 1 rfl (by kernel_rfl) ?_
 refine call_gen (d := 29) (α := Option Addr × Nat × Nat × Nat) (fun x_ => .slice x_.1 x_.2.2.1 x_.2.2.2) (fun x_ => [.gen (rowE (x_.1) x_.2.1 x_.2.2.1 x_.2.2.2 28 4 (rvals (regM andB (canR xsz) (canR [(⟨(cutR ((shwR W' H' X Y s ca cb cc cd).x0) ((shwR W' H' X Y s ca cb cc cd).y0) ((shwR W' H' X Y s ca cb cc cd).x1) ((shwR W' H' X Y s ca cb cc cd).y1) 0 0 W H).x0, (cutR ((shwR W' H' X Y s ca cb cc cd).x0) ((shwR W' H' X Y s ca cb cc cd).y0) ((shwR W' H' X Y s ca cb cc cd).x1) ((shwR W' H' X Y s ca cb cc cd).y1) 0 0 W H).y0, (cutR ((shwR W' H' X Y s ca cb cc cd).x0) ((shwR W' H' X Y s ca cb cc cd).y0) ((shwR W' H' X Y s ca cb cc cd).x1) ((shwR W' H' X Y s ca cb cc cd).y1) 0 0 W H).x1, (cutR ((shwR W' H' X Y s ca cb cc cd).x0) ((shwR W' H' X Y s ca cb cc cd).y0) ((shwR W' H' X Y s ca cb cc cd).x1) ((shwR W' H' X Y s ca cb cc cd).y1) 0 0 W H).y1⟩ : Rect)]))) true), .cells b4 [iq 0] 3 true, .cells b3 [.pointer (some ⟨m', 0, none⟩), iq X, iq Y, iq s, iq al, iq ca, iq cb, iq cc, iq cd] 47 true, .cells b2 [.pointer (some ⟨m', 0, none⟩), iq X, iq Y, iq s, iq al, iq ca, iq cb, iq cc, iq cd] 47 true, .cells b1 [.pointer (pB m)] 40 true, .ro m [iq W, iq H, .slice (pB r) n cap] 91, .gen (rowE (pB r) r n cap 35 1 (ivals .u32 px) false), .ro m' [iq W', iq H', .slice (some ⟨r', 0, none⟩) n' cap'] 91, .gen (rdE (some ⟨r', 0, none⟩) r' 0 n' 1 (ivals .u32 px')), .gen (rdE (Az) gz oz nz 4 (rvals xsz))]) (fun x_ => True) (by kernel_rfl) (fun w hT => (payWithin Az gz oz nz capz xsz ((cutR ((shwR W' H' X Y s ca cb cc cd).x0) ((shwR W' H' X Y s ca cb cc cd).y0) ((shwR W' H' X Y s ca cb cc cd).x1) ((shwR W' H' X Y s ca cb cc cd).y1) 0 0 W H).x0) ((cutR ((shwR W' H' X Y s ca cb cc cd).x0) ((shwR W' H' X Y s ca cb cc cd).y0) ((shwR W' H' X Y s ca cb cc cd).x1) ((shwR W' H' X Y s ca cb cc cd).y1) 0 0 W H).y0) ((cutR ((shwR W' H' X Y s ca cb cc cd).x0) ((shwR W' H' X Y s ca cb cc cd).y0) ((shwR W' H' X Y s ca cb cc cd).x1) ((shwR W' H' X Y s ca cb cc cd).y1) 0 0 W H).x1) ((cutR ((shwR W' H' X Y s ca cb cc cd).x0) ((shwR W' H' X Y s ca cb cc cd).y0) ((shwR W' H' X Y s ca cb cc cd).x1) ((shwR W' H' X Y s ca cb cc cd).y1) 0 0 W H).y1) w (hT.viewRo (.cons (i := 8) rfl Vw.rd .nil) rfl) hnz hcz).mono fun e w' ⟨A5, g6, k7, cp8, he_, ht_⟩ => ⟨(A5, g6, k7, cp8), he_, trivial, hT.news ht_ rfl⟩) ?_
 rintro ⟨A5, g6, k7, cp8⟩ hf9_
 refine cont_norm [(3, .pointer (pB b1)), (7, .pointer (pB b3)), (8, .pointer (pB b4)), (23, .slice Az nz capz), (24, .agg #[.pointer (some ⟨m', 0, none⟩), iq X, iq Y, iq s, iq al, iq ca, iq cb, iq cc, iq cd]), (25, .agg #[iq ((shwR W' H' X Y s ca cb cc cd).x0), iq ((shwR W' H' X Y s ca cb cc cd).y0), iq ((shwR W' H' X Y s ca cb cc cd).x1), iq ((shwR W' H' X Y s ca cb cc cd).y1)]), (26, .pointer (pB m)), (27, .agg #[iq 0, iq 0, iq W, iq H]), (28, .agg #[iq ((cutR ((shwR W' H' X Y s ca cb cc cd).x0) ((shwR W' H' X Y s ca cb cc cd).y0) ((shwR W' H' X Y s ca cb cc cd).x1) ((shwR W' H' X Y s ca cb cc cd).y1) 0 0 W H).x0), iq ((cutR ((shwR W' H' X Y s ca cb cc cd).x0) ((shwR W' H' X Y s ca cb cc cd).y0) ((shwR W' H' X Y s ca cb cc cd).x1) ((shwR W' H' X Y s ca cb cc cd).y1) 0 0 W H).y0), iq ((cutR ((shwR W' H' X Y s ca cb cc cd).x0) ((shwR W' H' X Y s ca cb cc cd).y0) ((shwR W' H' X Y s ca cb cc cd).x1) ((shwR W' H' X Y s ca cb cc cd).y1) 0 0 W H).x1), iq ((cutR ((shwR W' H' X Y s ca cb cc cd).x0) ((shwR W' H' X Y s ca cb cc cd).y0) ((shwR W' H' X Y s ca cb cc cd).x1) ((shwR W' H' X Y s ca cb cc cd).y1) 0 0 W H).y1)]), (29, .slice A5 k7 cp8)] _ (by kernel_rfl) rfl ?_
 refine cont_fact (F := (0 < k7 → (A5 : Option Addr) = pB g6) ∧ (regM andB (canR xsz) (canR [(⟨(cutR ((shwR W' H' X Y s ca cb cc cd).x0) ((shwR W' H' X Y s ca cb cc cd).y0) ((shwR W' H' X Y s ca cb cc cd).x1) ((shwR W' H' X Y s ca cb cc cd).y1) 0 0 W H).x0, (cutR ((shwR W' H' X Y s ca cb cc cd).x0) ((shwR W' H' X Y s ca cb cc cd).y0) ((shwR W' H' X Y s ca cb cc cd).x1) ((shwR W' H' X Y s ca cb cc cd).y1) 0 0 W H).y0, (cutR ((shwR W' H' X Y s ca cb cc cd).x0) ((shwR W' H' X Y s ca cb cc cd).y0) ((shwR W' H' X Y s ca cb cc cd).x1) ((shwR W' H' X Y s ca cb cc cd).y1) 0 0 W H).x1, (cutR ((shwR W' H' X Y s ca cb cc cd).x0) ((shwR W' H' X Y s ca cb cc cd).y0) ((shwR W' H' X Y s ca cb cc cd).x1) ((shwR W' H' X Y s ca cb cc cd).y1) 0 0 W H).y1⟩ : Rect)])).length = k7 ∧ k7 ≤ cp8 ∧ cp8 ≤ maxLen) (fun w hT => Row.factsR (hT.ok 0 _ rfl)) (fun hr10_ => ?_)
 obtain ⟨hr10_a, hr10_l, hr10_c, hr10_m⟩ := hr10_
 unfold maxLen at hr10_m
 refine drawn_next 1 [] (by kernel_rfl) ?_
 refine drawn_one 7 0 rfl (by kernel_rfl) ?_
 refine call_gen (d := 30) (α := Nat) (fun x_ => .func (.func 55) #[] #[.pointer (pB x_)]) (fun x_ => [.cells x_ [.slice A5 k7 cp8] 33 true, .gen (rowE (A5) g6 k7 cp8 28 4 (rvals (regM andB (canR xsz) (canR [(⟨(cutR ((shwR W' H' X Y s ca cb cc cd).x0) ((shwR W' H' X Y s ca cb cc cd).y0) ((shwR W' H' X Y s ca cb cc cd).x1) ((shwR W' H' X Y s ca cb cc cd).y1) 0 0 W H).x0, (cutR ((shwR W' H' X Y s ca cb cc cd).x0) ((shwR W' H' X Y s ca cb cc cd).y0) ((shwR W' H' X Y s ca cb cc cd).x1) ((shwR W' H' X Y s ca cb cc cd).y1) 0 0 W H).y0, (cutR ((shwR W' H' X Y s ca cb cc cd).x0) ((shwR W' H' X Y s ca cb cc cd).y0) ((shwR W' H' X Y s ca cb cc cd).x1) ((shwR W' H' X Y s ca cb cc cd).y1) 0 0 W H).x1, (cutR ((shwR W' H' X Y s ca cb cc cd).x0) ((shwR W' H' X Y s ca cb cc cd).y0) ((shwR W' H' X Y s ca cb cc cd).x1) ((shwR W' H' X Y s ca cb cc cd).y1) 0 0 W H).y1⟩ : Rect)]))) true), .cells b4 [iq 0] 3 true, .cells b3 [.pointer (some ⟨m', 0, none⟩), iq X, iq Y, iq s, iq al, iq ca, iq cb, iq cc, iq cd] 47 true, .cells b2 [.pointer (some ⟨m', 0, none⟩), iq X, iq Y, iq s, iq al, iq ca, iq cb, iq cc, iq cd] 47 true, .cells b1 [.pointer (pB m)] 40 true, .ro m [iq W, iq H, .slice (pB r) n cap] 91, .gen (rowE (pB r) r n cap 35 1 (ivals .u32 px) false), .ro m' [iq W', iq H', .slice (some ⟨r', 0, none⟩) n' cap'] 91, .gen (rdE (some ⟨r', 0, none⟩) r' 0 n' 1 (ivals .u32 px')), .gen (rdE (Az) gz oz nz 4 (rvals xsz))]) (fun x_ => True) (by kernel_rfl) (fun w hT => (payPoints A5 k7 cp8 w).mono fun e w' ⟨kb11, he_, ht_⟩ => ⟨kb11, he_, trivial, hT.news ht_ rfl⟩) ?_
 rintro kb11 hf12_
 refine cont_norm [(3, .pointer (pB b1)), (7, .pointer (pB b3)), (8, .pointer (pB b4)), (23, .slice Az nz capz), (24, .agg #[.pointer (some ⟨m', 0, none⟩), iq X, iq Y, iq s, iq al, iq ca, iq cb, iq cc, iq cd]), (25, .agg #[iq ((shwR W' H' X Y s ca cb cc cd).x0), iq ((shwR W' H' X Y s ca cb cc cd).y0), iq ((shwR W' H' X Y s ca cb cc cd).x1), iq ((shwR W' H' X Y s ca cb cc cd).y1)]), (26, .pointer (pB m)), (27, .agg #[iq 0, iq 0, iq W, iq H]), (28, .agg #[iq ((cutR ((shwR W' H' X Y s ca cb cc cd).x0) ((shwR W' H' X Y s ca cb cc cd).y0) ((shwR W' H' X Y s ca cb cc cd).x1) ((shwR W' H' X Y s ca cb cc cd).y1) 0 0 W H).x0), iq ((cutR ((shwR W' H' X Y s ca cb cc cd).x0) ((shwR W' H' X Y s ca cb cc cd).y0) ((shwR W' H' X Y s ca cb cc cd).x1) ((shwR W' H' X Y s ca cb cc cd).y1) 0 0 W H).y0), iq ((cutR ((shwR W' H' X Y s ca cb cc cd).x0) ((shwR W' H' X Y s ca cb cc cd).y0) ((shwR W' H' X Y s ca cb cc cd).x1) ((shwR W' H' X Y s ca cb cc cd).y1) 0 0 W H).x1), iq ((cutR ((shwR W' H' X Y s ca cb cc cd).x0) ((shwR W' H' X Y s ca cb cc cd).y0) ((shwR W' H' X Y s ca cb cc cd).x1) ((shwR W' H' X Y s ca cb cc cd).y1) 0 0 W H).y1)]), (29, .slice A5 k7 cp8), (30, .func (.func 55) #[] #[.pointer (pB kb11)])] _ (by kernel_rfl) rfl ?_
 refine drawn_next 2 [] (by kernel_rfl) ?_
 refine drawn_done (by kernel_rfl) ?_
 refine then_normal ?_
 refine cont_block ?_
 refine cont_fact (F := (0 < k7 → (A5 : Option Addr) = pB g6) ∧ (regM andB (canR xsz) (canR [(⟨(cutR ((shwR W' H' X Y s ca cb cc cd).x0) ((shwR W' H' X Y s ca cb cc cd).y0) ((shwR W' H' X Y s ca cb cc cd).x1) ((shwR W' H' X Y s ca cb cc cd).y1) 0 0 W H).x0, (cutR ((shwR W' H' X Y s ca cb cc cd).x0) ((shwR W' H' X Y s ca cb cc cd).y0) ((shwR W' H' X Y s ca cb cc cd).x1) ((shwR W' H' X Y s ca cb cc cd).y1) 0 0 W H).y0, (cutR ((shwR W' H' X Y s ca cb cc cd).x0) ((shwR W' H' X Y s ca cb cc cd).y0) ((shwR W' H' X Y s ca cb cc cd).x1) ((shwR W' H' X Y s ca cb cc cd).y1) 0 0 W H).x1, (cutR ((shwR W' H' X Y s ca cb cc cd).x0) ((shwR W' H' X Y s ca cb cc cd).y0) ((shwR W' H' X Y s ca cb cc cd).x1) ((shwR W' H' X Y s ca cb cc cd).y1) 0 0 W H).y1⟩ : Rect)])).length = k7 ∧ k7 ≤ cp8 ∧ cp8 ≤ maxLen) (fun w hT => Row.factsR (hT.ok 1 _ rfl)) (fun hr13_ => ?_)
 obtain ⟨hr13_a, hr13_l, hr13_c, hr13_m⟩ := hr13_
 unfold maxLen at hr13_m
 refine cont_rowEqR 1 (regM andB (canR xsz) (canR [(⟨(cutR ((shwR W' H' X Y s ca cb cc cd).x0) ((shwR W' H' X Y s ca cb cc cd).y0) ((shwR W' H' X Y s ca cb cc cd).x1) ((shwR W' H' X Y s ca cb cc cd).y1) 0 0 W H).x0, (cutR ((shwR W' H' X Y s ca cb cc cd).x0) ((shwR W' H' X Y s ca cb cc cd).y0) ((shwR W' H' X Y s ca cb cc cd).x1) ((shwR W' H' X Y s ca cb cc cd).y1) 0 0 W H).y0, (cutR ((shwR W' H' X Y s ca cb cc cd).x0) ((shwR W' H' X Y s ca cb cc cd).y0) ((shwR W' H' X Y s ca cb cc cd).x1) ((shwR W' H' X Y s ca cb cc cd).y1) 0 0 W H).x1, (cutR ((shwR W' H' X Y s ca cb cc cd).x0) ((shwR W' H' X Y s ca cb cc cd).y0) ((shwR W' H' X Y s ca cb cc cd).x1) ((shwR W' H' X Y s ca cb cc cd).y1) 0 0 W H).y1⟩ : Rect)])) (R) rfl hR.symm ?_
 refine cont_weaken 0 (.ro kb11 [.slice A5 k7 cp8] 33) rfl rfl Vw.roc rfl ?_
 refine cont_norm [(3, .pointer (pB b1)), (7, .pointer (pB b3)), (8, .pointer (pB b4)), (23, .slice Az nz capz), (24, .agg #[.pointer (some ⟨m', 0, none⟩), iq X, iq Y, iq s, iq al, iq ca, iq cb, iq cc, iq cd]), (25, .agg #[iq ((shwR W' H' X Y s ca cb cc cd).x0), iq ((shwR W' H' X Y s ca cb cc cd).y0), iq ((shwR W' H' X Y s ca cb cc cd).x1), iq ((shwR W' H' X Y s ca cb cc cd).y1)]), (26, .pointer (pB m)), (27, .agg #[iq 0, iq 0, iq W, iq H]), (28, .agg #[iq ((cutR ((shwR W' H' X Y s ca cb cc cd).x0) ((shwR W' H' X Y s ca cb cc cd).y0) ((shwR W' H' X Y s ca cb cc cd).x1) ((shwR W' H' X Y s ca cb cc cd).y1) 0 0 W H).x0), iq ((cutR ((shwR W' H' X Y s ca cb cc cd).x0) ((shwR W' H' X Y s ca cb cc cd).y0) ((shwR W' H' X Y s ca cb cc cd).x1) ((shwR W' H' X Y s ca cb cc cd).y1) 0 0 W H).y0), iq ((cutR ((shwR W' H' X Y s ca cb cc cd).x0) ((shwR W' H' X Y s ca cb cc cd).y0) ((shwR W' H' X Y s ca cb cc cd).x1) ((shwR W' H' X Y s ca cb cc cd).y1) 0 0 W H).x1), iq ((cutR ((shwR W' H' X Y s ca cb cc cd).x0) ((shwR W' H' X Y s ca cb cc cd).y0) ((shwR W' H' X Y s ca cb cc cd).x1) ((shwR W' H' X Y s ca cb cc cd).y1) 0 0 W H).y1)]), (29, .slice A5 k7 cp8), (30, .func (.func 55) #[] #[.pointer (pB kb11)])] _ (by kernel_rfl) rfl ?_
 refine cont_weaken 1 (.gen (rdE (A5) g6 0 k7 4 (rvals R))) rfl rfl Vw.rowRd rfl ?_
 refine cont_norm [(3, .pointer (pB b1)), (7, .pointer (pB b3)), (8, .pointer (pB b4)), (23, .slice Az nz capz), (24, .agg #[.pointer (some ⟨m', 0, none⟩), iq X, iq Y, iq s, iq al, iq ca, iq cb, iq cc, iq cd]), (25, .agg #[iq ((shwR W' H' X Y s ca cb cc cd).x0), iq ((shwR W' H' X Y s ca cb cc cd).y0), iq ((shwR W' H' X Y s ca cb cc cd).x1), iq ((shwR W' H' X Y s ca cb cc cd).y1)]), (26, .pointer (pB m)), (27, .agg #[iq 0, iq 0, iq W, iq H]), (28, .agg #[iq ((cutR ((shwR W' H' X Y s ca cb cc cd).x0) ((shwR W' H' X Y s ca cb cc cd).y0) ((shwR W' H' X Y s ca cb cc cd).x1) ((shwR W' H' X Y s ca cb cc cd).y1) 0 0 W H).x0), iq ((cutR ((shwR W' H' X Y s ca cb cc cd).x0) ((shwR W' H' X Y s ca cb cc cd).y0) ((shwR W' H' X Y s ca cb cc cd).x1) ((shwR W' H' X Y s ca cb cc cd).y1) 0 0 W H).y0), iq ((cutR ((shwR W' H' X Y s ca cb cc cd).x0) ((shwR W' H' X Y s ca cb cc cd).y0) ((shwR W' H' X Y s ca cb cc cd).x1) ((shwR W' H' X Y s ca cb cc cd).y1) 0 0 W H).x1), iq ((cutR ((shwR W' H' X Y s ca cb cc cd).x0) ((shwR W' H' X Y s ca cb cc cd).y0) ((shwR W' H' X Y s ca cb cc cd).x1) ((shwR W' H' X Y s ca cb cc cd).y1) 0 0 W H).y1)]), (29, .slice A5 k7 cp8), (30, .func (.func 55) #[] #[.pointer (pB kb11)])] _ (by kernel_rfl) rfl ?_
 refine cont_norm [(3, .pointer (pB b1)), (7, .pointer (pB b3)), (8, .pointer (pB b4)), (23, .slice Az nz capz), (24, .agg #[.pointer (some ⟨m', 0, none⟩), iq X, iq Y, iq s, iq al, iq ca, iq cb, iq cc, iq cd]), (25, .agg #[iq ((shwR W' H' X Y s ca cb cc cd).x0), iq ((shwR W' H' X Y s ca cb cc cd).y0), iq ((shwR W' H' X Y s ca cb cc cd).x1), iq ((shwR W' H' X Y s ca cb cc cd).y1)]), (26, .pointer (pB m)), (27, .agg #[iq 0, iq 0, iq W, iq H]), (28, .agg #[iq ((cutR ((shwR W' H' X Y s ca cb cc cd).x0) ((shwR W' H' X Y s ca cb cc cd).y0) ((shwR W' H' X Y s ca cb cc cd).x1) ((shwR W' H' X Y s ca cb cc cd).y1) 0 0 W H).x0), iq ((cutR ((shwR W' H' X Y s ca cb cc cd).x0) ((shwR W' H' X Y s ca cb cc cd).y0) ((shwR W' H' X Y s ca cb cc cd).x1) ((shwR W' H' X Y s ca cb cc cd).y1) 0 0 W H).y0), iq ((cutR ((shwR W' H' X Y s ca cb cc cd).x0) ((shwR W' H' X Y s ca cb cc cd).y0) ((shwR W' H' X Y s ca cb cc cd).x1) ((shwR W' H' X Y s ca cb cc cd).y1) 0 0 W H).x1), iq ((cutR ((shwR W' H' X Y s ca cb cc cd).x0) ((shwR W' H' X Y s ca cb cc cd).y0) ((shwR W' H' X Y s ca cb cc cd).x1) ((shwR W' H' X Y s ca cb cc cd).y1) 0 0 W H).y1)]), (29, .slice A5 k7 cp8), (30, .func (.func 55) #[] #[.pointer (pB kb11)])] [.ro kb11 [.slice A5 k7 cp8] 33, .gen (rdE (A5) g6 0 k7 4 (rvals R)), .cells b4 [iq ((([] : List (Int × Int)).length : Nat) : Int)] 3 true, .cells b3 [.pointer (some ⟨m', 0, none⟩), iq X, iq Y, iq s, iq al, iq ca, iq cb, iq cc, iq cd] 47 true, .cells b2 [.pointer (some ⟨m', 0, none⟩), iq X, iq Y, iq s, iq al, iq ca, iq cb, iq cc, iq cd] 47 true, .cells b1 [.pointer (pB m)] 40 true, .ro m [iq W, iq H, .slice (pB r) n cap] 91, .gen (rowE (pB r) r n cap 35 1 (ivals .u32 px) false), .ro m' [iq W', iq H', .slice (some ⟨r', 0, none⟩) n' cap'] 91, .gen (rdE (some ⟨r', 0, none⟩) r' 0 n' 1 (ivals .u32 px')), .gen (rdE (Az) gz oz nz 4 (rvals xsz))] (by kernel_rfl) (congrArg (fun c_ : List Value => ([.ro kb11 [.slice A5 k7 cp8] 33, .gen (rdE (A5) g6 0 k7 4 (rvals R)), .cells b4 c_ 3 true, .cells b3 [.pointer (some ⟨m', 0, none⟩), iq X, iq Y, iq s, iq al, iq ca, iq cb, iq cc, iq cd] 47 true, .cells b2 [.pointer (some ⟨m', 0, none⟩), iq X, iq Y, iq s, iq al, iq ca, iq cb, iq cc, iq cd] 47 true, .cells b1 [.pointer (pB m)] 40 true, .ro m [iq W, iq H, .slice (pB r) n cap] 91, .gen (rowE (pB r) r n cap 35 1 (ivals .u32 px) false), .ro m' [iq W', iq H', .slice (some ⟨r', 0, none⟩) n' cap'] 91, .gen (rdE (some ⟨r', 0, none⟩) r' 0 n' 1 (ivals .u32 px')), .gen (rdE (Az) gz oz nz 4 (rvals xsz))] : List Ent)) (by simp)) ?_
 refine cont_rowEq (k := .u32) 7 (px) (drawF W H (pcolC W' H' X Y s al ca cb cc cd px') px ([] : List (Int × Int))) rfl rfl ?_
 refine cont_rangeFunc (X := Int × Int) (β := List (Int × Int)) (γ := Unit) (gf := 55) (lb := #[.pointer (pB kb11)]) (fun z_ : Int × Int => #[iq z_.1, iq z_.2]) [.ro kb11 [.slice A5 k7 cp8] 33, .gen (rdE (A5) g6 0 k7 4 (rvals R))] (fun z_ : Int × Int => []) (fun xs_ => xs_ = regP R) (fun xs_ => xs_ <+: regP R) (fun (pre : List (Int × Int)) (x_ : List (Int × Int)) => x_ = pre) (fun x_ : List (Int × Int) => [.cells b4 [iq ((x_.length : Nat) : Int)] 3 true, .cells b3 [.pointer (some ⟨m', 0, none⟩), iq X, iq Y, iq s, iq al, iq ca, iq cb, iq cc, iq cd] 47 true, .cells b2 [.pointer (some ⟨m', 0, none⟩), iq X, iq Y, iq s, iq al, iq ca, iq cb, iq cc, iq cd] 47 true, .cells b1 [.pointer (pB m)] 40 true, .ro m [iq W, iq H, .slice (pB r) n cap] 91, .gen (rowE (pB r) r n cap 35 1 (ivals .u32 (drawF W H (pcolC W' H' X Y s al ca cb cc cd px') px x_)) false), .ro m' [iq W', iq H', .slice (some ⟨r', 0, none⟩) n' cap'] 91, .gen (rdE (some ⟨r', 0, none⟩) r' 0 n' 1 (ivals .u32 px')), .gen (rdE (Az) gz oz nz 4 (rvals xsz))]) (fun (_ : Code) (_ : Unit) => False) (fun x_ : Unit => []) [] rfl (fun _ _ => rfl) (fun _ => rfl) (by kernel_rfl) (ptsIter kb11 A5 g6 0 k7 cp8 R (by omega) hR64 _) rfl rfl ?_ ?_ ?_ ?_
 ·
  rintro l_ z14_ e14_ e14b_ e14q_ pre ⟨x, y⟩ ps B_ hinv15_ hsp_ hB_
  replace hinv15_ : ps = pre := hinv15_
  replace hsp_ : (pre ++ [(x, y)]) <+: regP R := hsp_
  refine cont_norm [(3, .pointer (pB b1)), (7, .pointer (pB b3)), (8, .pointer (pB b4)), (31, iq x), (32, iq y)] _ (by kernel_rfl) rfl ?_
  refine mcont_seq ?_
  refine mcont_region 1 rfl (by kernel_rfl) ?_
  refine bS [0] 1 0 [(3, .pointer (pB b1)), (7, .pointer (pB b3)), (8, .pointer (pB b4)), (9, iq x), (32, iq y)] ?_
  refine cont_done ?_
  refine then_normal ?_
  refine mcont_region 1 rfl (by kernel_rfl) ?_
  refine bS [0] 1 0 [(3, .pointer (pB b1)), (7, .pointer (pB b3)), (8, .pointer (pB b4)), (9, iq x), (10, iq y)] ?_
  refine cont_done ?_
  refine then_normal ?_
  refine hB_ [(3, .pointer (pB b1)), (7, .pointer (pB b3)), (8, .pointer (pB b4)), (9, iq x), (10, iq y)] [z14_] [e14q_, .ro kb11 [.slice A5 k7 cp8] 33, .gen (rdE (A5) g6 0 k7 4 (rvals R)), .cells b4 [iq ((ps.length : Nat) : Int)] 3 true, .cells b3 [.pointer (some ⟨m', 0, none⟩), iq X, iq Y, iq s, iq al, iq ca, iq cb, iq cc, iq cd] 47 true, .cells b2 [.pointer (some ⟨m', 0, none⟩), iq X, iq Y, iq s, iq al, iq ca, iq cb, iq cc, iq cd] 47 true, .cells b1 [.pointer (pB m)] 40 true, .ro m [iq W, iq H, .slice (pB r) n cap] 91, .gen (rowE (pB r) r n cap 35 1 (ivals .u32 (drawF W H (pcolC W' H' X Y s al ca cb cc cd px') px ps)) false), .ro m' [iq W', iq H', .slice (some ⟨r', 0, none⟩) n' cap'] 91, .gen (rdE (some ⟨r', 0, none⟩) r' 0 n' 1 (ivals .u32 px')), .gen (rdE (Az) gz oz nz 4 (rvals xsz))] ?_
  refine cont_norm [(3, .pointer (pB b1)), (7, .pointer (pB b3)), (8, .pointer (pB b4)), (9, iq x), (10, iq y)] _ (by kernel_rfl) rfl ?_
  have hps := hinv15_
  have hmem := hasL_of_pre hsp_
  obtain ⟨hx0, hx1, hy0, hy1⟩ := hOn _ _ hmem
  have hlen := pre_len hsp_ hRl
  have hat := (hok.drawF (pcolC W' H' X Y s al ca cb cc cd px') ps).atC_range x y
  have hpc := pcolC_in px' W' H' X Y s al ca cb cc cd x y
  obtain ⟨hpc0, hpc1⟩ := hpc
  have hpsl : ps.length < n := by rw [hps]; omega
  refine mcont_block ?_
  refine mcont_seq ?_
  refine mcont_region 9 rfl (by kernel_rfl) ?_
  refine bS [6, 0, 0] 3 6 [(3, .pointer (pB b1)), (8, .pointer (pB b4)), (9, iq x), (10, iq y), (34, .agg #[.pointer (some ⟨m', 0, none⟩), iq X, iq Y, iq s, iq al, iq ca, iq cb, iq cc, iq cd]), (35, iq x), (36, iq y)] ?_
  refine pl_step 4 5 rfl rfl ?_
  refine call_pure (d := 37) (.tuple #[.int .u32 (pcolC W' H' X Y s al ca cb cc cd px' x y), .bool (pcolB W' H' X Y s ca cb cc cd x y)]) (by kernel_rfl) (fun w hT => layColor m' W' H' r' n' cap' px' X Y s al ca cb cc cd x y w ⟨hT.ok 11 _ rfl, hT.ok 12 _ rfl, by omega⟩ hok' (by omega) (by omega) (by omega) (by omega) (by omega)) ?_
  refine bS [0, 0, 0, 0, 0] 9 0 [(3, .pointer (pB b1)), (8, .pointer (pB b4)), (9, iq x), (10, iq y), (11, .int .u32 (pcolC W' H' X Y s al ca cb cc cd px' x y))] ?_
  refine cont_done ?_
  refine then_normal ?_
  refine mcont_seq ?_
  refine mcont_region 9 rfl (by kernel_rfl) ?_
  refine bS [8, 0, 0] 3 6 [(3, .pointer (pB b1)), (8, .pointer (pB b4)), (9, iq x), (10, iq y), (11, .int .u32 (pcolC W' H' X Y s al ca cb cc cd px' x y)), (41, .pointer (pB m)), (42, iq x), (43, iq y)] ?_
  refine pl_step 4 5 rfl rfl ?_
  refine call_pure (d := 44) (.tuple #[.int .u32 (atC W H (drawF W H (pcolC W' H' X Y s al ca cb cc cd px') px ps) x y), .bool (hasB 0 0 W H x y)]) (by kernel_rfl) (fun w hT => imgAt m W H r n cap (drawF W H (pcolC W' H' X Y s al ca cb cc cd px') px ps) x y w ⟨hT.ok 9 _ rfl, Row.rd (hT.ok 10 _ rfl), Row.capLe (hT.ok 10 _ rfl)⟩ (hok.drawF _ _)) ?_
  refine bS [0, 0, 0, 0, 0] 9 0 [(3, .pointer (pB b1)), (8, .pointer (pB b4)), (9, iq x), (10, iq y), (11, .int .u32 (pcolC W' H' X Y s al ca cb cc cd px' x y)), (13, .int .u32 (atC W H (drawF W H (pcolC W' H' X Y s al ca cb cc cd px') px ps) x y))] ?_
  refine cont_done ?_
  refine then_normal ?_
  refine mcont_seq ?_
  refine mdrawn_enter 7 [10] rfl (by kernel_rfl) (by kernel_rfl) ?_
  refine takes 0 [10] [(0, 8), (1, 0), (2, 0), (3, 0), (4, 0)] 2 [4, 3, 2, 1, 0] [(8, .pointer (pB b4)), (47, .pointer (pB m)), (48, iq x), (49, iq y), (50, .int .u32 (pcolC W' H' X Y s al ca cb cc cd px' x y)), (51, .int .u32 (atC W H (drawF W H (pcolC W' H' X Y s al ca cb cc cd px') px ps) x y))] (by kernel_rfl) (pok_then (pok_blk pok_rq)) (by kernel_rfl) rfl rfl (by kernel_rfl) (by kernel_rfl) ?_
  refine drawn_one 5 1 rfl (by kernel_rfl) ?_
  refine call_pure (d := 52) (.int .u32 (overC (pcolC W' H' X Y s al ca cb cc cd px' x y) (atC W H (drawF W H (pcolC W' H' X Y s al ca cb cc cd px') px ps) x y))) (by kernel_rfl) (fun w hT => colOver (pcolC W' H' X Y s al ca cb cc cd px' x y) (atC W H (drawF W H (pcolC W' H' X Y s al ca cb cc cd px') px ps) x y) w (by omega) (by omega) (by omega) (by omega)) ?_
  refine drawn_next 0 [10] (by kernel_rfl) ?_
  refine drawn_one 6 0 rfl (by kernel_rfl) ?_
  refine call_gen (d := 53) (α := Unit) (fun _ => iq (setE W H x y (overC (pcolC W' H' X Y s al ca cb cc cd px' x y) (atC W H (drawF W H (pcolC W' H' X Y s al ca cb cc cd px') px ps) x y)))) (fun _ => [z14_, e14b_, e14q_, .ro kb11 [.slice A5 k7 cp8] 33, .gen (rdE (A5) g6 0 k7 4 (rvals R)), .cells b4 [iq ((ps.length : Nat) : Int)] 3 true, .cells b3 [.pointer (some ⟨m', 0, none⟩), iq X, iq Y, iq s, iq al, iq ca, iq cb, iq cc, iq cd] 47 true, .cells b2 [.pointer (some ⟨m', 0, none⟩), iq X, iq Y, iq s, iq al, iq ca, iq cb, iq cc, iq cd] 47 true, .cells b1 [.pointer (pB m)] 40 true, .ro m [iq W, iq H, .slice (pB r) n cap] 91, .gen (rowE (pB r) r n cap 35 1 (ivals .u32 (setL W H (drawF W H (pcolC W' H' X Y s al ca cb cc cd px') px ps) x y (overC (pcolC W' H' X Y s al ca cb cc cd px' x y) (atC W H (drawF W H (pcolC W' H' X Y s al ca cb cc cd px') px ps) x y)))) false), .ro m' [iq W', iq H', .slice (some ⟨r', 0, none⟩) n' cap'] 91, .gen (rdE (some ⟨r', 0, none⟩) r' 0 n' 1 (ivals .u32 px')), .gen (rdE (Az) gz oz nz 4 (rvals xsz))]) (fun _ => True) (by kernel_rfl) (fun w hT => (imgSet m W H r n cap (drawF W H (pcolC W' H' X Y s al ca cb cc cd px') px ps) x y (overC (pcolC W' H' X Y s al ca cb cc cd px' x y) (atC W H (drawF W H (pcolC W' H' X Y s al ca cb cc cd px') px ps) x y)) w ⟨hT.ok 9 _ rfl, hT.ok 10 _ rfl, fun hne => hT.disj 9 10 _ _ (by omega) rfl rfl (.inr rfl) _ rfl ⟨hne, by simp⟩⟩ (hok.drawF _ _) (overC_in _ _)).mono fun e w' ⟨he_, hk_, hr_⟩ => ⟨(), he_, trivial, hT.keepBut hk_ (i := 10) rfl hr_⟩) (fun _ _ => ?_)
  refine drawn_next 0 [10] (by kernel_rfl) ?_
  refine drawn_done (by kernel_rfl) ?_
  refine then_normal ?_
  refine mcont_region 3 rfl (by kernel_rfl) ?_
  refine bS [5, 0] 2 1 [(8, .pointer (pB b4)), (55, iq (IntKind.i64.wrap (((ps.length : Nat) : Int) + 1)))] ?_
  refine cont_recast 55 (iq (IntKind.i64.wrap (((ps.length : Nat) : Int) + 1))) (iq (((ps.length : Nat) : Int) + 1)) rfl (wrapI (by omega) (by omega)) ?_
  refine batch0 [5] 3 0 [] [z14_, e14b_, e14q_, .ro kb11 [.slice A5 k7 cp8] 33, .gen (rdE (A5) g6 0 k7 4 (rvals R)), .cells b4 [iq (((ps.length : Nat) : Int) + 1)] 3 true, .cells b3 [.pointer (some ⟨m', 0, none⟩), iq X, iq Y, iq s, iq al, iq ca, iq cb, iq cc, iq cd] 47 true, .cells b2 [.pointer (some ⟨m', 0, none⟩), iq X, iq Y, iq s, iq al, iq ca, iq cb, iq cc, iq cd] 47 true, .cells b1 [.pointer (pB m)] 40 true, .ro m [iq W, iq H, .slice (pB r) n cap] 91, .gen (rowE (pB r) r n cap 35 1 (ivals .u32 (setL W H (drawF W H (pcolC W' H' X Y s al ca cb cc cd px') px ps) x y (overC (pcolC W' H' X Y s al ca cb cc cd px' x y) (atC W H (drawF W H (pcolC W' H' X Y s al ca cb cc cd px') px ps) x y)))) false), .ro m' [iq W', iq H', .slice (some ⟨r', 0, none⟩) n' cap'] 91, .gen (rdE (some ⟨r', 0, none⟩) r' 0 n' 1 (ivals .u32 px')), .gen (rdE (Az) gz oz nz 4 (rvals xsz))] rfl rfl (by kernel_rfl) (by kernel_rfl) ?_
  refine cont_done ?_
  refine blk_normal ?_
  refine cont_rowEq (k := .u32) 10 (setL W H (drawF W H (pcolC W' H' X Y s al ca cb cc cd px') px ps) x y (overC (pcolC W' H' X Y s al ca cb cc cd px' x y) (atC W H (drawF W H (pcolC W' H' X Y s al ca cb cc cd px') px ps) x y))) (drawF W H (pcolC W' H' X Y s al ca cb cc cd px') px (ps ++ [(x, y)])) rfl ((drawF_snoc W H (pcolC W' H' X Y s al ca cb cc cd px') px ps (x, y)).symm) ?_
  refine cont_norm [] [z14_, e14b_, e14q_, .ro kb11 [.slice A5 k7 cp8] 33, .gen (rdE (A5) g6 0 k7 4 (rvals R)), .cells b4 [iq (((ps ++ [(x, y)]).length : Nat) : Int)] 3 true, .cells b3 [.pointer (some ⟨m', 0, none⟩), iq X, iq Y, iq s, iq al, iq ca, iq cb, iq cc, iq cd] 47 true, .cells b2 [.pointer (some ⟨m', 0, none⟩), iq X, iq Y, iq s, iq al, iq ca, iq cb, iq cc, iq cd] 47 true, .cells b1 [.pointer (pB m)] 40 true, .ro m [iq W, iq H, .slice (pB r) n cap] 91, .gen (rowE (pB r) r n cap 35 1 (ivals .u32 (drawF W H (pcolC W' H' X Y s al ca cb cc cd px') px (ps ++ [(x, y)]))) false), .ro m' [iq W', iq H', .slice (some ⟨r', 0, none⟩) n' cap'] 91, .gen (rdE (some ⟨r', 0, none⟩) r' 0 n' 1 (ivals .u32 px')), .gen (rdE (Az) gz oz nz 4 (rvals xsz))] (by kernel_rfl) (congrArg (fun c_ : List Value => ([z14_, e14b_, e14q_, .ro kb11 [.slice A5 k7 cp8] 33, .gen (rdE (A5) g6 0 k7 4 (rvals R)), .cells b4 c_ 3 true, .cells b3 [.pointer (some ⟨m', 0, none⟩), iq X, iq Y, iq s, iq al, iq ca, iq cb, iq cc, iq cd] 47 true, .cells b2 [.pointer (some ⟨m', 0, none⟩), iq X, iq Y, iq s, iq al, iq ca, iq cb, iq cc, iq cd] 47 true, .cells b1 [.pointer (pB m)] 40 true, .ro m [iq W, iq H, .slice (pB r) n cap] 91, .gen (rowE (pB r) r n cap 35 1 (ivals .u32 (drawF W H (pcolC W' H' X Y s al ca cb cc cd px') px (ps ++ [(x, y)]))) false), .ro m' [iq W', iq H', .slice (some ⟨r', 0, none⟩) n' cap'] 91, .gen (rdE (some ⟨r', 0, none⟩) r' 0 n' 1 (ivals .u32 px')), .gen (rdE (Az) gz oz nz 4 (rvals xsz))] : List Ent)) (by simp)) ?_
  refine rq_next (ps ++ [(x, y)]) (show ((ps ++ [(x, y)])) = (pre ++ [(x, y)]) from (by rw [hps])) rfl
 ·
  rintro D17_ xs_ ps hS_ hinv16_
  replace hinv16_ : ps = xs_ := hinv16_
  replace hS_ : xs_ = regP R := hS_
  refine cont_norm [(8, .pointer (pB b4))] _ (by kernel_rfl) rfl ?_
  have hps := hinv16_
  refine cont_rowEq (k := .u32) 8 (drawF W H (pcolC W' H' X Y s al ca cb cc cd px') px ps) (drawL W R (pcolC W' H' X Y s al ca cb cc cd px') px) rfl (by rw [hps, hS_]; exact drawF_eq hReg hOn hok hmay hf) ?_
  refine cont_norm [(8, .pointer (pB b4))] [markE D17_, .ro kb11 [.slice A5 k7 cp8] 33, .gen (rdE (A5) g6 0 k7 4 (rvals R)), .cells b4 [iq ((cntL W n R : Nat) : Int)] 3 true, .cells b3 [.pointer (some ⟨m', 0, none⟩), iq X, iq Y, iq s, iq al, iq ca, iq cb, iq cc, iq cd] 47 true, .cells b2 [.pointer (some ⟨m', 0, none⟩), iq X, iq Y, iq s, iq al, iq ca, iq cb, iq cc, iq cd] 47 true, .cells b1 [.pointer (pB m)] 40 true, .ro m [iq W, iq H, .slice (pB r) n cap] 91, .gen (rowE (pB r) r n cap 35 1 (ivals .u32 (drawL W R (pcolC W' H' X Y s al ca cb cc cd px') px)) false), .ro m' [iq W', iq H', .slice (some ⟨r', 0, none⟩) n' cap'] 91, .gen (rdE (some ⟨r', 0, none⟩) r' 0 n' 1 (ivals .u32 px')), .gen (rdE (Az) gz oz nz 4 (rvals xsz))] (by kernel_rfl) (congrArg (fun c_ : List Value => ([markE D17_, .ro kb11 [.slice A5 k7 cp8] 33, .gen (rdE (A5) g6 0 k7 4 (rvals R)), .cells b4 c_ 3 true, .cells b3 [.pointer (some ⟨m', 0, none⟩), iq X, iq Y, iq s, iq al, iq ca, iq cb, iq cc, iq cd] 47 true, .cells b2 [.pointer (some ⟨m', 0, none⟩), iq X, iq Y, iq s, iq al, iq ca, iq cb, iq cc, iq cd] 47 true, .cells b1 [.pointer (pB m)] 40 true, .ro m [iq W, iq H, .slice (pB r) n cap] 91, .gen (rowE (pB r) r n cap 35 1 (ivals .u32 (drawL W R (pcolC W' H' X Y s al ca cb cc cd px') px)) false), .ro m' [iq W', iq H', .slice (some ⟨r', 0, none⟩) n' cap'] 91, .gen (rdE (some ⟨r', 0, none⟩) r' 0 n' 1 (ivals .u32 px')), .gen (rdE (Az) gz oz nz 4 (rvals xsz))] : List Ent)) (by rw [hps, hS_, regP_len hReg hOn hok.w1 hok.num])) ?_
  refine blk_normal ?_
  refine then_normal ?_
  refine cont_seq ?_
  refine cont_region 2 rfl ?_
  refine bS [3, 0] 2 0 [(6, iq ((cntL W n R : Nat) : Int))] ?_
  refine cont_forget 3 rfl ?_
  refine cont_forget 3 rfl ?_
  refine cont_forget 3 rfl ?_
  refine cont_forget 3 rfl ?_
  refine cont_done ?_
  refine then_normal ?_
  refine cont_ret ?_
  refine mark_end 0 rfl (.inl rfl) ?_
  refine cont_norm [(6, iq ((cntL W n R : Nat) : Int))] _ (by kernel_rfl) rfl ?_
  refine ret_one (.inl rfl) rfl 0 (iq ((cntL W n R : Nat) : Int)) (by kernel_rfl) (by kernel_rfl) (fun w hT => ?_)
  replace hT := hT.erase 2 (fun e h hw => by cases h; first | rfl | cases hw)
  replace hT := hT.erase 1 (fun e h hw => by cases h; first | rfl | cases hw)
  replace hT := hT.erase 0 (fun e h hw => by cases h; first | rfl | cases hw)
  exact ⟨rfl, hT⟩
 ·
  intro D_  c_ h_; exact h_.elim
 ·
  intro D_ id_ c_ h_; exact h_.elim

end Go.Proofs.YtgpcgfjfmjehgaaGreat

