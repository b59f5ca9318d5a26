/- Contracts of functions of the given program, printed by a program of this project. -/
import Derived.Test.YtlfahohbkgdabaaL4b
import Derived.Test.YtlfahohbkgdabaaL2d
import Derived.Test.YtlfahohbkgdabaaRw
import Derived.Test.YtlfahohbkgdabaaProg
set_option linter.unusedVariables false
set_option linter.unusedSimpArgs false
namespace Go.Proofs.Ytlfahohbkgdabaa
open Go Go.RowKit
set_option maxRecDepth 100000
set_option maxHeartbeats 8000000

theorem sliceCloneQ (g o n cap : Nat) (xs : List Int) (w : World) (hT0 : Tab w w [.gen (rdE (some ⟨g, o, none⟩) g o n 1 (ivals .u32 xs))]) (hn : 1 ≤ n ∧ n ≤ 65536) :
    Calls Try.prog 78 #[.slice (some ⟨g, o, none⟩) n cap] w fun e w' => ∃ g2 cp : Nat, e = .returned (.slice (some ⟨g2, 0, none⟩) n cp) ∧ Tab w w' [.gen (rowE (some ⟨g2, 0, none⟩) g2 n cp 24 1 (ivals .u32 xs) true)] := by
 refine enter 8 [(0, .slice (some ⟨g, o, none⟩) n cap)] [.gen (rdE (some ⟨g, o, none⟩) g o n 1 (ivals .u32 xs))] Try.func78 rfl Try.ntmps78 rfl (by kernel_rfl) hT0 ?_
 refine cont_seq ?_
 refine cont_region 1 rfl ?_
 refine bS [0] 1 0 [(0, .slice (some ⟨g, o, none⟩) n cap)] ?_
 refine cont_done ?_
 refine then_normal ?_
 refine cont_seq ?_
 refine cont_seq ?_
 refine cont_region 2 rfl ?_
 refine bS [0, 0] 2 0 [(0, .slice (some ⟨g, o, none⟩) n cap), (4, .bool false)] ?_
 refine cont_done ?_
 refine then_normal ?_
 refine cont_false rfl ?_
 refine cont_skip ?_
 refine then_normal ?_
 refine cont_seq ?_
 refine cont_region 4 rfl ?_
 refine batch1 [0, 0] 2 2 (fun b1 => [(5, .slice (pB b1) 0 0), (6, .slice (some ⟨g, o, none⟩) n cap)]) (fun b1 => [.cells b1 [] 24 true, .gen (rdE (some ⟨g, o, none⟩) g o n 1 (ivals .u32 xs))]) rfl rfl [5, 6] (fun _ => rfl) (fun b1 => by kernel_rfl) (fun b1 => by kernel_rfl) (fun b1 => ?_)
 refine pl_step 3 1 rfl rfl ?_
 refine cont_asRow 0 0 1 rfl (vals := ivals .u32 []) rfl rfl (by decide) ?_
 refine sem_stepW (α := Option Addr × Nat × Nat) 7 (Builtin.append_ #[39, 39] 39 #[.slice (pB b1) 0 0, .slice (some ⟨g, o, none⟩) n cap]) (fun x_ => .slice x_.1 n x_.2.2) (fun x_ => [.gen (rowE (x_.1) x_.2.1 n x_.2.2 24 1 (ivals .u32 xs) true), .gen (rdE (some ⟨g, o, none⟩) g o n 1 (ivals .u32 xs))]) (fun _ => True) (by kernel_rfl) (fun w hT => append_own (n' := n) (z := .int .u32 0) hT (i := 0) (bytes := 4) rfl (by kernel_rfl) (by kernel_rfl) rfl (by decide) (by decide) (hT.ok 1 _ rfl) (ivals_one .u32 xs) (by omega) rfl (Nat.zero_add _).symm) ?_
 rintro ⟨A2, g2, cp2⟩ -
 refine cont_norm [(5, .slice (pB b1) 0 0), (6, .slice (some ⟨g, o, none⟩) n cap), (7, .slice A2 n cp2)] [.gen (rowE (A2) g2 n cp2 24 1 (ivals .u32 xs) true), .gen (rdE (some ⟨g, o, none⟩) g o n 1 (ivals .u32 xs))] (by kernel_rfl) rfl ?_
 refine cont_fact (F := (0 < n → (A2 : Option Addr) = pB g2) ∧ xs.length = n ∧ n ≤ cp2 ∧ cp2 ≤ maxLen) (fun w hT => Row.facts (hT.ok 0 _ rfl)) (fun hr3_ => ?_)
 obtain ⟨hr3_a, hr3_l, hr3_c, hr3_m⟩ := hr3_
 unfold maxLen at hr3_m
 refine bS [0] 4 0 [(2, .slice A2 n cp2)] ?_
 refine cont_done ?_
 refine then_normal ?_
 refine cont_ret ?_
 refine ret_one (.inl rfl) rfl 0 (.slice A2 n cp2) (by kernel_rfl) (by kernel_rfl) (fun w hT => ?_)
 replace hT := hT.erase 1 (fun e h hw => by cases h; first | rfl | cases hw)
 have hA := (Row.facts (hT.ok 0 _ rfl)).1 (by omega)
 subst hA
 exact ⟨_, _, rfl, hT⟩

theorem sliceCloneP (A : Option Addr) (g o n cap : Nat) (xs : List Int) (w : World) (hT0 : Tab w w [.gen (rdE A g o n 1 (ivals .u32 xs))]) (hA : A = some ⟨g, o, none⟩) (hn : 1 ≤ n ∧ n ≤ 65536) :
    Calls Try.prog 78 #[.slice A n cap] w fun e w' => ∃ g2 cp : Nat, e = .returned (.slice (some ⟨g2, 0, none⟩) n cp) ∧ Tab w w' [.gen (rowE (some ⟨g2, 0, none⟩) g2 n cp 24 1 (ivals .u32 xs) true)] := by
  subst hA
  exact sliceCloneQ g o n cap xs w hT0 hn

theorem rowsIter0 (kb m : Nat) (W H : Int) (r n cap : Nat) (px : List Int) (Wn Hn : Nat) (hWn : (Wn : Int) = W) (hHn : (Hn : Int) = H) (hcap : n ≤ cap) (hok : ImgOk W H n px) (w0 : World) {β : Type} (Inv : List (Int × Nat × Nat) → β → Prop) (Tr : β → List Ent) (Jx : World → Prop) (l_ : Nat) (e1 e2 : Ent) (w : World) (b0 : β) (hJx : ∀ w w', Jx w → Below w.heap.size w w' → Jx w') (hY : ∀ pre x b W1 z, Inv pre b → RowsP Hn (pre ++ [x]) → Tab w0 W1 ([.gen (rowE (some ⟨x.2.1, 0, none⟩) x.2.1 Wn x.2.2 24 1 (ivals .u32 (rowL Wn px x.1)) true)] ++ (z :: e1 :: e2 :: (.ro kb [.pointer (some ⟨m, 0, none⟩)] 43) :: (.ro m [.int .i64 W, .int .i64 H, .slice (some ⟨r, 0, none⟩) n cap] 118) :: (.gen (rdE (some ⟨r, 0, none⟩) r 0 n 1 (ivals .u32 px))) :: (Tr b))) → YieldAt Fence.wide 0 Try.prog l_ #[.int .i64 x.1, .slice (some ⟨x.2.1, 0, none⟩) Wn x.2.2] W1 fun e W' => (e = .returned (.bool true) ∧ ∃ b', Inv (pre ++ [x]) b' ∧ Tab w0 W' (z :: e1 :: e2 :: (.ro kb [.pointer (some ⟨m, 0, none⟩)] 43) :: (.ro m [.int .i64 W, .int .i64 H, .slice (some ⟨r, 0, none⟩) n cap] 118) :: (.gen (rdE (some ⟨r, 0, none⟩) r 0 n 1 (ivals .u32 px))) :: (Tr b'))) ∨ (e = .returned (.bool false) ∧ Jx W')) (h0 : Inv [] b0) (hT0 : Tab w0 w (e1 :: e2 :: (.ro kb [.pointer (some ⟨m, 0, none⟩)] 43) :: (.ro m [.int .i64 W, .int .i64 H, .slice (some ⟨r, 0, none⟩) n cap] 118) :: (.gen (rdE (some ⟨r, 0, none⟩) r 0 n 1 (ivals .u32 px))) :: (Tr b0))) :
    Calls Try.prog 77 #[.func (.yield l_) #[] #[], .pointer (some ⟨kb, 0, none⟩)] w fun e W' => (∃ v, e = .returned v) ∧ ((∃ xs_ b', (RowsP Hn xs_ ∧ xs_.length = Hn) ∧ Inv xs_ b' ∧ Tab w0 W' (e1 :: e2 :: (.ro kb [.pointer (some ⟨m, 0, none⟩)] 43) :: (.ro m [.int .i64 W, .int .i64 H, .slice (some ⟨r, 0, none⟩) n cap] 118) :: (.gen (rdE (some ⟨r, 0, none⟩) r 0 n 1 (ivals .u32 px))) :: (Tr b'))) ∨ Jx W') := by
 have hw1 := hok.w1
 have hw2 := hok.w2
 have hh1 := hok.h1
 have hh2 := hok.h2
 have hnum := hok.num
 have hlen := hok.len
 have hle := hok.le
 refine enterI 24 [(0, .func (.yield l_) #[] #[]), (1, .pointer (pB kb))] (e1 :: e2 :: (.ro kb [.pointer (pB m)] 43) :: (.ro m [iq W, iq H, .slice (pB r) n cap] 118) :: (.gen (rdE (pB r) r 0 n 1 (ivals .u32 px))) :: (Tr b0)) Try.func77 rfl Try.ntmps77 rfl (by kernel_rfl) hT0 (fun _ h_ => by simp at h_) ?_
 refine mcont_seq ?_
 refine mcont_region 5 rfl (by kernel_rfl) ?_
 refine bS [2, 0, 0, 3, 0] 5 0 [(0, .func (.yield l_) #[] #[]), (1, .pointer (pB kb)), (7, iq H), (8, iq 0)] ?_
 refine cont_done ?_
 refine then_normal ?_
 refine mcont_block ?_
 refine cont_nilrow 24 1 ?_
 refine cont_norm [(0, .func (.yield l_) #[] #[]), (1, .pointer (pB kb)), (7, iq H), (8, iq 0)] _ (by kernel_rfl) rfl ?_
 refine cont_recast 8 (iq 0) (iq (([] : List (Int × Nat × Nat)).length : Int)) rfl (congrArg (Value.int .i64) (by simp)) ?_
 refine mcont_loop (α := List (Int × Nat × Nat) × β) (fun x_ : List (Int × Nat × Nat) × β => RowsP Hn x_.1 ∧ Inv x_.1 x_.2) (fun x_ : List (Int × Nat × Nat) × β => [(0, .func (.yield l_) #[] #[]), (1, .pointer (pB kb)), (7, iq H), (8, iq ((x_.1.length : Nat) : Int))]) (fun x_ : List (Int × Nat × Nat) × β => ((.gen (rowE (none) 0 0 0 24 1 (ivals .u32 []) true)) :: e1 :: e2 :: (.ro kb [.pointer (pB m)] 43) :: (.ro m [iq W, iq H, .slice (pB r) n cap] 118) :: (.gen (rdE (pB r) r 0 n 1 (ivals .u32 px))) :: (Tr x_.2))) (fun x_ : List (Int × Nat × Nat) × β => Hn - x_.1.length) ([], b0) (show RowsP Hn ([]) ∧ Inv ([]) (b0) from ⟨RowsP.nil _, h0⟩) (by kernel_rfl) (by kernel_rfl) ?_
 rintro ⟨pre, b⟩ hinv2_
 replace hinv2_ : RowsP Hn pre ∧ Inv pre b := hinv2_
 refine cont_norm [(0, .func (.yield l_) #[] #[]), (1, .pointer (pB kb)), (7, iq H), (8, iq ((pre.length : Nat) : Int))] _ (by kernel_rfl) rfl ?_
 obtain ⟨hP, hI⟩ := hinv2_
 have hpl := hP.2
 have hbd := fun h_ : pre.length < Hn => row_bd (k := pre.length) hnum hw1 (by omega)
 refine mcont_seq ?_
 refine mcont_region 1 rfl (by kernel_rfl) ?_
 refine bS [0] 1 0 [(0, .func (.yield l_) #[] #[]), (1, .pointer (pB kb)), (7, iq H), (8, iq ((pre.length : Nat) : Int)), (9, .bool (decide (((pre.length : Nat) : Int) < H)))] ?_
 refine cont_done ?_
 refine then_normal ?_
 refine mcont_seq ?_
 refine cont_split 9 (decide (((pre.length : Nat) : Int) < H)) rfl (fun c3_ => ?_) (fun c3_ => ?_)
 ·
  replace c3_ := of_decide_eq_true c3_
  refine mcont_true rfl ?_
  refine mcont_skip ?_
  refine then_normal ?_
  refine mcont_seq ?_
  refine mcont_block ?_
  refine mcont_seq ?_
  refine mcont_region 2 rfl (by kernel_rfl) ?_
  obtain ⟨hbd1, hbd2⟩ := hbd (by omega)
  refine bS [0, 0] 2 0 [(0, .func (.yield l_) #[] #[]), (1, .pointer (pB kb)), (3, iq ((pre.length : Nat) : Int)), (7, iq H), (8, iq ((pre.length : Nat) : Int))] ?_
  refine cont_done ?_
  refine then_normal ?_
  refine mcont_seq ?_
  refine idrawn_enter 12 10 [0, 1, 9, 8, 2, 3, 7, 6, 5, 4] [] rfl (by kernel_rfl) (by kernel_rfl) (by kernel_rfl) ?_
  refine takes 0 [] [(0, 0), (1, 0), (2, 3), (3, 0), (4, 3), (5, 0), (6, 0), (7, 4)] 4 [7, 6, 5, 4, 3, 2, 1, 0] [(0, .func (.yield l_) #[] #[]), (1, .pointer (pB kb)), (7, iq H), (8, iq ((pre.length : Nat) : Int)), (11, .func (.yield l_) #[] #[]), (12, iq ((pre.length : Nat) : Int)), (13, .pointer (pB m)), (14, iq ((pre.length : Nat) : Int)), (18, iq W)] (by kernel_rfl) (pok_then (pok_then (pok_blk (pok_then (pok_then (pok_blk pok_body)))))) (by kernel_rfl) rfl rfl (by kernel_rfl) (by kernel_rfl) ?_
  refine drawn_one 8 3 rfl (by kernel_rfl) ?_
  refine call_pure (d := 19) (.slice (sliceA r 0 (Int.toNat (((pre.length : Nat) : Int) * W + 0)) cap 1) (Int.toNat (((pre.length : Nat) : Int) * W + W) - Int.toNat (((pre.length : Nat) : Int) * W + 0)) (cap - Int.toNat (((pre.length : Nat) : Int) * W + 0))) (by kernel_rfl) (fun w hT => imgRow m W H r n cap px ((pre.length : Nat) : Int) 0 W w ⟨hT.ok 4 _ rfl, hT.ok 5 _ rfl, by omega⟩ hok (by omega)) ?_
  refine drawn_next 0 [] (by kernel_rfl) ?_
  refine drawn_one 9 2 rfl (by kernel_rfl) ?_
  refine call_gen (d := 20) (α := Nat × Nat) (fun x_ => .slice (pB x_.1) (Int.toNat (((pre.length : Nat) : Int) * W + W) - Int.toNat (((pre.length : Nat) : Int) * W + 0)) x_.2) (fun x_ => ((.gen (rowE (pB x_.1) x_.1 (Int.toNat (((pre.length : Nat) : Int) * W + W) - Int.toNat (((pre.length : Nat) : Int) * W + 0)) x_.2 24 1 (ivals .u32 ((px.drop (Int.toNat (((pre.length : Nat) : Int) * W + 0))).take (Int.toNat (((pre.length : Nat) : Int) * W + W) - Int.toNat (((pre.length : Nat) : Int) * W + 0)))) true)) :: (.gen (rowE (none) 0 0 0 24 1 (ivals .u32 []) true)) :: e1 :: e2 :: (.ro kb [.pointer (pB m)] 43) :: (.ro m [iq W, iq H, .slice (pB r) n cap] 118) :: (.gen (rdE (pB r) r 0 n 1 (ivals .u32 px))) :: (Tr b))) (fun x_ => True) (by kernel_rfl) (fun w hT => (sliceCloneP (sliceA r 0 (Int.toNat (((pre.length : Nat) : Int) * W + 0)) cap 1) r (0 + (Int.toNat (((pre.length : Nat) : Int) * W + 0)) * 1) (Int.toNat (((pre.length : Nat) : Int) * W + W) - Int.toNat (((pre.length : Nat) : Int) * W + 0)) (cap - Int.toNat (((pre.length : Nat) : Int) * W + 0)) ((px.drop (Int.toNat (((pre.length : Nat) : Int) * W + 0))).take (Int.toNat (((pre.length : Nat) : Int) * W + W) - Int.toNat (((pre.length : Nat) : Int) * W + 0))) w (hT.viewRo (.cons (i := 5) rfl (Vw.rdSub (by omega) (by omega)) .nil) rfl) (sliceA_pos (by omega)) (by omega)).mono fun e w' ⟨g24, cp5, he_, ht_⟩ => ⟨(g24, cp5), he_, trivial, hT.news ht_ rfl⟩) ?_
  rintro ⟨g24, cp5⟩ hf6_
  refine cont_norm [(0, .func (.yield l_) #[] #[]), (1, .pointer (pB kb)), (7, iq H), (8, iq ((pre.length : Nat) : Int)), (11, .func (.yield l_) #[] #[]), (12, iq ((pre.length : Nat) : Int)), (13, .pointer (pB m)), (14, iq ((pre.length : Nat) : Int)), (18, iq W), (19, .slice (sliceA r 0 (Int.toNat (((pre.length : Nat) : Int) * W + 0)) cap 1) (Int.toNat (((pre.length : Nat) : Int) * W + W) - Int.toNat (((pre.length : Nat) : Int) * W + 0)) (cap - Int.toNat (((pre.length : Nat) : Int) * W + 0))), (20, .slice (pB g24) (Int.toNat (((pre.length : Nat) : Int) * W + W) - Int.toNat (((pre.length : Nat) : Int) * W + 0)) cp5)] _ (by kernel_rfl) rfl ?_
  refine drawn_next 1 [] (by kernel_rfl) ?_
  refine drawn_done (by kernel_rfl) ?_
  refine then_normal ?_
  refine cont_rowEq (k := .u32) 0 (((px.drop (Int.toNat (((pre.length : Nat) : Int) * W + 0))).take (Int.toNat (((pre.length : Nat) : Int) * W + W) - Int.toNat (((pre.length : Nat) : Int) * W + 0)))) (rowL Wn px ((pre.length : Nat) : Int)) rfl (rowL_part hWn _) ?_
  rw [show (Int.toNat (((pre.length : Nat) : Int) * W + W) - Int.toNat (((pre.length : Nat) : Int) * W + 0)) = Wn from row_n hWn _]
  have hP2 : RowsP Hn (pre ++ [(((pre.length : Nat) : Int), g24, cp5)]) := hP.step (by omega)
  refine cont_norm [(0, .func (.yield l_) #[] #[]), (1, .pointer (pB kb)), (7, iq H), (8, iq ((pre.length : Nat) : Int)), (11, .func (.yield l_) #[] #[]), (12, iq ((pre.length : Nat) : Int)), (13, .pointer (pB m)), (14, iq ((pre.length : Nat) : Int)), (18, iq W), (19, .slice (sliceA r 0 (Int.toNat (((pre.length : Nat) : Int) * W + 0)) cap 1) Wn (cap - Int.toNat (((pre.length : Nat) : Int) * W + 0))), (20, .slice (pB g24) Wn cp5)] _ (by kernel_rfl) rfl ?_
  refine pli_yield 21 11 1 rfl rfl (by kernel_rfl) (by kernel_rfl) (R := fun v_ w_ => (v_ = .bool true ∧ ∃ b_, Inv (pre ++ [(((pre.length : Nat) : Int), g24, cp5)]) b_ ∧ Tab w0 w_ ((.gen (rowE (none) 0 0 0 24 1 (ivals .u32 []) true)) :: e1 :: e2 :: (.ro kb [.pointer (pB m)] 43) :: (.ro m [iq W, iq H, .slice (pB r) n cap] 118) :: (.gen (rdE (pB r) r 0 n 1 (ivals .u32 px))) :: (Tr b_))) ∨ (v_ = .bool false ∧ Jx w_)) (fun w_ hT_ => YieldAt.weaken (hY pre (((pre.length : Nat) : Int), g24, cp5) b w_ _ hI hP2 hT_) (fun e_ w_ h_ => by rcases h_ with ⟨rfl, hh_⟩ | ⟨rfl, hh_⟩; exact ⟨_, rfl, .inl ⟨rfl, hh_⟩⟩; exact ⟨_, rfl, .inr ⟨rfl, hh_⟩⟩)) ?_
  rintro a_ w_ v_ ha_ hf_ (⟨rfl, b, hI, hT_⟩ | ⟨rfl, hJ⟩)
  ·
   refine Cont.go ?_ ha_ hf_ hT_
   refine cont_norm [(0, .func (.yield l_) #[] #[]), (1, .pointer (pB kb)), (7, iq H), (8, iq ((pre.length : Nat) : Int)), (21, .bool true)] _ (by kernel_rfl) rfl ?_
   refine pli_ops 1 0 12 rfl rfl (by kernel_rfl) ?_
   refine bS [0] 12 0 [(0, .func (.yield l_) #[] #[]), (1, .pointer (pB kb)), (7, iq H), (8, iq ((pre.length : Nat) : Int)), (22, .bool false)] ?_
   refine cont_done ?_
   refine then_normal ?_
   refine pli_done ?_
   refine then_normal ?_
   refine mcont_false rfl ?_
   refine mcont_skip ?_
   refine blk_normal ?_
   refine then_normal ?_
   refine mcont_region 2 rfl (by kernel_rfl) ?_
   refine bS [0] 1 1 [(0, .func (.yield l_) #[] #[]), (1, .pointer (pB kb)), (7, iq H), (23, iq (IntKind.i64.wrap (((pre.length : Nat) : Int) + 1)))] ?_
   refine cont_recast 23 (iq (IntKind.i64.wrap (((pre.length : Nat) : Int) + 1))) (iq (((pre.length : Nat) : Int) + 1)) rfl (wrapI (by omega) (by omega)) ?_
   refine bS [0] 2 0 [(0, .func (.yield l_) #[] #[]), (1, .pointer (pB kb)), (7, iq H), (8, iq (((pre.length : Nat) : Int) + 1))] ?_
   refine cont_done ?_
   refine then_normal ?_
   refine cont_recast 8 (iq (((pre.length : Nat) : Int) + 1)) (iq (((pre ++ [(((pre.length : Nat) : Int), g24, cp5)]).length : Nat) : Int)) rfl (congrArg (Value.int .i64) (by simp)) ?_
   refine cont_again (pre ++ [(((pre.length : Nat) : Int), g24, cp5)], b) (show RowsP Hn (pre ++ [(((pre.length : Nat) : Int), g24, cp5)]) ∧ Inv (pre ++ [(((pre.length : Nat) : Int), g24, cp5)]) (b) from ⟨hP2, hI⟩) (show Hn - (pre ++ [(((pre.length : Nat) : Int), g24, cp5)]).length < Hn - pre.length from by have h_ := hP2.2; rw [List.length_append, List.length_singleton] at h_ ⊢; omega) (by kernel_rfl) (by kernel_rfl)
  ·
   refine Cont.go ?_ ha_ hf_ (Tab.start w_)
   refine cont_norm [(0, .func (.yield l_) #[] #[]), (1, .pointer (pB kb)), (7, iq H), (8, iq ((pre.length : Nat) : Int)), (21, .bool false)] _ (by kernel_rfl) rfl ?_
   refine pli_ops 1 0 12 rfl rfl (by kernel_rfl) ?_
   refine bS [0] 12 0 [(0, .func (.yield l_) #[] #[]), (1, .pointer (pB kb)), (7, iq H), (8, iq ((pre.length : Nat) : Int)), (22, .bool true)] ?_
   refine cont_done ?_
   refine then_normal ?_
   refine pli_done ?_
   refine then_normal ?_
   refine mcont_true rfl ?_
   refine mcont_ret ?_
   refine blk_ret ?_
   refine then_ret ?_
   refine then_ret ?_
   refine blk_ret ?_
   refine ret_none (.inl rfl) rfl (fun w hT => ?_)
   exact ⟨⟨_, rfl⟩, .inr (hJx _ _ hJ (hT.toBelow (fun i e h => by simp at h)))⟩
 replace c3_ := of_decide_eq_false c3_
 refine mcont_false rfl ?_
 refine mcont_exit ?_
 refine then_exit ?_
 refine then_exit ?_
 refine blk_exit ?_
 refine ret_none (.inr rfl) rfl (fun w hT => ?_)
 exact ⟨⟨_, rfl⟩, .inl ⟨pre, b, ⟨hP, by omega⟩, hI, hT.drop (fun _ => rfl)⟩⟩

theorem rowsIter (kb m : Nat) (W H : Int) (r n cap : Nat) (px : List Int) (Wn Hn : Nat) (hWn : (Wn : Int) = W) (hHn : (Hn : Int) = H) (hcap : n ≤ cap) (hok : ImgOk W H n px) (w0 : World) : IterC Try.prog 77 #[.pointer (some ⟨kb, 0, none⟩)] (fun z_ : Int × Nat × Nat => #[.int .i64 z_.1, .slice (some ⟨z_.2.1, 0, none⟩) Wn z_.2.2]) w0 [.ro kb [.pointer (some ⟨m, 0, none⟩)] 43, .ro m [.int .i64 W, .int .i64 H, .slice (some ⟨r, 0, none⟩) n cap] 118, .gen (rdE (some ⟨r, 0, none⟩) r 0 n 1 (ivals .u32 px))] (fun z_ => [.gen (rowE (some ⟨z_.2.1, 0, none⟩) z_.2.1 Wn z_.2.2 24 1 (ivals .u32 (rowL Wn px z_.1)) true)]) (fun xs_ => RowsP Hn xs_ ∧ xs_.length = Hn) (fun p_ => RowsP Hn p_) :=
  fun Inv Tr Jx l e1 e2 W1 b0 hJx hY h0 hT => rowsIter0 kb m W H r n cap px Wn Hn hWn hHn hcap hok w0 Inv Tr Jx l e1 e2 W1 b0 hJx hY h0 hT

theorem imgRows (m : Nat) (w : World) :
    Calls Try.prog 56 #[.pointer (some ⟨m, 0, none⟩)] w fun e w' => ∃ kb : Nat, e = .returned (.func (.func 77) #[] #[.pointer (some ⟨kb, 0, none⟩)]) ∧ Tab w w' [.cells kb [.pointer (some ⟨m, 0, none⟩)] 43 true] := by
 refine enter 4 [(0, .pointer (pB m))] [] Try.func56 rfl Try.ntmps56 rfl (by kernel_rfl) (Tab.start w) ?_
 refine cont_seq ?_
 refine cont_region 2 rfl ?_
 refine batch1 [0, 0] 2 0 (fun b1 => [(1, .pointer (pB b1))]) (fun b1 => [.cells b1 [.pointer (pB m)] 43 true]) rfl rfl [1] (fun _ => rfl) (fun b1 => by kernel_rfl) (fun b1 => by kernel_rfl) (fun b1 => ?_)
 refine cont_done ?_
 refine then_normal ?_
 refine cont_seq ?_
 refine cont_region 2 rfl ?_
 refine bS [0, 0] 2 0 [(2, .func (.func 77) #[] #[.pointer (pB b1)])] ?_
 refine cont_done ?_
 refine then_normal ?_
 refine cont_ret ?_
 refine ret_one (.inl rfl) rfl 0 (.func (.func 77) #[] #[.pointer (pB b1)]) (by kernel_rfl) (by kernel_rfl) (fun w hT => ?_)
 exact ⟨_, rfl, hT⟩

end Go.Proofs.Ytlfahohbkgdabaa
