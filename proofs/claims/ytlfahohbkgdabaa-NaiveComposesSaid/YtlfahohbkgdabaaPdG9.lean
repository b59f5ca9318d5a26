/- Texts of this proof's own, put together: what each holds is told ahead of it. -/
import Derived.Test.YtlfahohbkgdabaaPdG8
import Derived.Test.YtlfahohbkgdabaaProg
/- Contracts of functions of the given program, printed by a program of this project. -/
set_option linter.unusedVariables false
set_option linter.unusedSimpArgs false
namespace Go.Proofs.Ytlfahohbkgdabaa
open Go Go.RowKit
set_option maxRecDepth 100000
set_option maxHeartbeats 8000000

theorem sliceCloneQ (g o n cap : Nat) (xs : List Int) (w : World) (hT0 : Tab w w [.gen (rdE (some ⟨g, o, none⟩) g o n 1 (ivals .u32 xs))]) (hn : 1 ≤ n ∧ n ≤ 65536) :
    Calls Try.prog 78 #[.slice (some ⟨g, o, none⟩) n cap] w fun e w' => ∃ g2 cp : Nat, e = .returned (.slice (some ⟨g2, 0, none⟩) n cp) ∧ Tab w w' [.gen (rowE (some ⟨g2, 0, none⟩) g2 n cp 24 1 (ivals .u32 xs) true)] := by
 refine enter 8 [(0, .slice (some ⟨g, o, none⟩) n cap)] [.gen (rdE (some ⟨g, o, none⟩) g o n 1 (ivals .u32 xs))] Try.func78 rfl Try.ntmps78 rfl (by kernel_rfl) hT0 ?_
 refine cont_seq ?_
 refine cont_region 1 rfl ?_
 refine bS [0] 1 0 [(0, .slice (some ⟨g, o, none⟩) n cap)] ?_
 refine cont_done ?_
 refine then_normal ?_
 refine cont_seq ?_
 refine cont_seq ?_
 refine cont_region 2 rfl ?_
 refine bS [0, 0] 2 0 [(0, .slice (some ⟨g, o, none⟩) n cap), (4, .bool false)] ?_
 refine cont_done ?_
 refine then_normal ?_
 refine cont_false rfl ?_
 refine cont_skip ?_
 refine then_normal ?_
 refine cont_seq ?_
 refine cont_region 4 rfl ?_
 refine batch1 [0, 0] 2 2 (fun b1 => [(5, .slice (pB b1) 0 0), (6, .slice (some ⟨g, o, none⟩) n cap)]) (fun b1 => [.cells b1 [] 24 true, .gen (rdE (some ⟨g, o, none⟩) g o n 1 (ivals .u32 xs))]) rfl rfl [5, 6] (fun _ => rfl) (fun b1 => by kernel_rfl) (fun b1 => by kernel_rfl) (fun b1 => ?_)
 refine pl_step 3 1 rfl rfl ?_
 refine cont_asRow 0 0 1 rfl (vals := ivals .u32 []) rfl rfl (by decide) ?_
 refine sem_stepW (α := Option Addr × Nat × Nat) 7 (Builtin.append_ #[39, 39] 39 #[.slice (pB b1) 0 0, .slice (some ⟨g, o, none⟩) n cap]) (fun x_ => .slice x_.1 n x_.2.2) (fun x_ => [.gen (rowE (x_.1) x_.2.1 n x_.2.2 24 1 (ivals .u32 xs) true), .gen (rdE (some ⟨g, o, none⟩) g o n 1 (ivals .u32 xs))]) (fun _ => True) (by kernel_rfl) (fun w hT => append_own (n' := n) (z := .int .u32 0) hT (i := 0) (bytes := 4) rfl (by kernel_rfl) (by kernel_rfl) rfl (by decide) (by decide) (hT.ok 1 _ rfl) (ivals_one .u32 xs) (by omega) rfl (Nat.zero_add _).symm) ?_
 rintro ⟨A2, g2, cp2⟩ -
 refine cont_norm [(5, .slice (pB b1) 0 0), (6, .slice (some ⟨g, o, none⟩) n cap), (7, .slice A2 n cp2)] [.gen (rowE (A2) g2 n cp2 24 1 (ivals .u32 xs) true), .gen (rdE (some ⟨g, o, none⟩) g o n 1 (ivals .u32 xs))] (by kernel_rfl) rfl ?_
 refine cont_fact (F := (0 < n → (A2 : Option Addr) = pB g2) ∧ xs.length = n ∧ n ≤ cp2 ∧ cp2 ≤ maxLen) (fun w hT => Row.facts (hT.ok 0 _ rfl)) (fun hr3_ => ?_)
 obtain ⟨hr3_a, hr3_l, hr3_c, hr3_m⟩ := hr3_
 unfold maxLen at hr3_m
 refine bS [0] 4 0 [(2, .slice A2 n cp2)] ?_
 refine cont_done ?_
 refine then_normal ?_
 refine cont_ret ?_
 refine ret_one (.inl rfl) rfl 0 (.slice A2 n cp2) (by kernel_rfl) (by kernel_rfl) (fun w hT => ?_)
 replace hT := hT.erase 1 (fun e h hw => by cases h; first | rfl | cases hw)
 have hA := (Row.facts (hT.ok 0 _ rfl)).1 (by omega)
 subst hA
 exact ⟨_, _, rfl, hT⟩

theorem sliceCloneP (A : Option Addr) (g o n cap : Nat) (xs : List Int) (w : World) (hT0 : Tab w w [.gen (rdE A g o n 1 (ivals .u32 xs))]) (hA : A = some ⟨g, o, none⟩) (hn : 1 ≤ n ∧ n ≤ 65536) :
    Calls Try.prog 78 #[.slice A n cap] w fun e w' => ∃ g2 cp : Nat, e = .returned (.slice (some ⟨g2, 0, none⟩) n cp) ∧ Tab w w' [.gen (rowE (some ⟨g2, 0, none⟩) g2 n cp 24 1 (ivals .u32 xs) true)] := by
  subst hA
  exact sliceCloneQ g o n cap xs w hT0 hn

theorem rowsIterW0 (kb m : Nat) (W H : Int) (r n cap : Nat) (Wn Hn : Nat) (hWn : (Wn : Int) = W) (hHn : (Hn : Int) = H) (hcap : n ≤ cap) (w0 : World) {β : Type} (Inv : List (Int × Nat × Nat × List Int) → β → Prop) (Tr : β → List Ent) (pxf : β → List Int) (hokf : ∀ pre b, Inv pre b → ImgOk W H n (pxf b)) (Jx : World → Prop) (l_ : Nat) (e1 e2 : Ent) (w : World) (b0 : β) (hJx : ∀ w w', Jx w → Below w.heap.size w w' → Jx w') (hY : ∀ pre x b W1 z, (z.wr = true → z.own = true) → Inv pre b → RowsW Hn (pre ++ [x]) → Tab w0 W1 ([.gen (rowE (some ⟨x.2.1, 0, none⟩) x.2.1 Wn x.2.2.1 24 1 (ivals .u32 x.2.2.2) true)] ++ (z :: e1 :: e2 :: (.ro kb [.pointer (some ⟨m, 0, none⟩)] 43) :: (.cells m [.int .i64 W, .int .i64 H, .slice (some ⟨r, 0, none⟩) n cap] 118 true) :: (.gen (rowE (some ⟨r, 0, none⟩) r n cap 24 1 (ivals .u32 (pxf b)) true)) :: (Tr b))) → YieldAt Fence.wide 0 Try.prog l_ #[.int .i64 x.1, .slice (some ⟨x.2.1, 0, none⟩) Wn x.2.2.1] W1 fun e W' => (e = .returned (.bool true) ∧ ∃ b', Inv (pre ++ [x]) b' ∧ Tab w0 W' (z :: e1 :: e2 :: (.ro kb [.pointer (some ⟨m, 0, none⟩)] 43) :: (.cells m [.int .i64 W, .int .i64 H, .slice (some ⟨r, 0, none⟩) n cap] 118 true) :: (.gen (rowE (some ⟨r, 0, none⟩) r n cap 24 1 (ivals .u32 (pxf b')) true)) :: (Tr b'))) ∨ (e = .returned (.bool false) ∧ Jx W')) (h0 : Inv [] b0) (hT0 : Tab w0 w (e1 :: e2 :: (.ro kb [.pointer (some ⟨m, 0, none⟩)] 43) :: (.cells m [.int .i64 W, .int .i64 H, .slice (some ⟨r, 0, none⟩) n cap] 118 true) :: (.gen (rowE (some ⟨r, 0, none⟩) r n cap 24 1 (ivals .u32 (pxf b0)) true)) :: (Tr b0))) :
    Calls Try.prog 77 #[.func (.yield l_) #[] #[], .pointer (some ⟨kb, 0, none⟩)] w fun e W' => (∃ v, e = .returned v) ∧ ((∃ xs_ b', (RowsW Hn xs_ ∧ xs_.length = Hn) ∧ Inv xs_ b' ∧ Tab w0 W' (e1 :: e2 :: (.ro kb [.pointer (some ⟨m, 0, none⟩)] 43) :: (.cells m [.int .i64 W, .int .i64 H, .slice (some ⟨r, 0, none⟩) n cap] 118 true) :: (.gen (rowE (some ⟨r, 0, none⟩) r n cap 24 1 (ivals .u32 (pxf b')) true)) :: (Tr b'))) ∨ Jx W') := by
 have hok := hokf _ _ h0
 have hw1 := hok.w1
 have hw2 := hok.w2
 have hh1 := hok.h1
 have hh2 := hok.h2
 have hnum := hok.num
 have hle := hok.le
 refine enterI 24 [(0, .func (.yield l_) #[] #[]), (1, .pointer (pB kb))] (e1 :: e2 :: (.ro kb [.pointer (pB m)] 43) :: (.cells m [iq W, iq H, .slice (pB r) n cap] 118 true) :: (.gen (rowE (pB r) r n cap 24 1 (ivals .u32 (pxf b0)) true)) :: (Tr b0)) Try.func77 rfl Try.ntmps77 rfl (by kernel_rfl) hT0 (fun _ h_ => by simp at h_) ?_
 refine mcont_seq ?_
 refine mcont_region 5 rfl (by kernel_rfl) ?_
 refine bS [2, 0, 0, 3, 0] 5 0 [(0, .func (.yield l_) #[] #[]), (1, .pointer (pB kb)), (7, iq H), (8, iq 0)] ?_
 refine cont_done ?_
 refine then_normal ?_
 refine mcont_block ?_
 refine cont_nilrow 24 1 ?_
 refine cont_norm [(0, .func (.yield l_) #[] #[]), (1, .pointer (pB kb)), (7, iq H), (8, iq 0)] _ (by kernel_rfl) rfl ?_
 refine cont_recast 8 (iq 0) (iq (([] : List (Int × Nat × Nat × List Int)).length : Int)) rfl (congrArg (Value.int .i64) (by simp)) ?_
 refine mcont_loop (α := List (Int × Nat × Nat × List Int) × β) (fun x_ : List (Int × Nat × Nat × List Int) × β => RowsW Hn x_.1 ∧ Inv x_.1 x_.2) (fun x_ : List (Int × Nat × Nat × List Int) × β => [(0, .func (.yield l_) #[] #[]), (1, .pointer (pB kb)), (7, iq H), (8, iq ((x_.1.length : Nat) : Int))]) (fun x_ : List (Int × Nat × Nat × List Int) × β => ((.gen (rowE (none) 0 0 0 24 1 (ivals .u32 []) true)) :: e1 :: e2 :: (.ro kb [.pointer (pB m)] 43) :: (.cells m [iq W, iq H, .slice (pB r) n cap] 118 true) :: (.gen (rowE (pB r) r n cap 24 1 (ivals .u32 (pxf x_.2)) true)) :: (Tr x_.2))) (fun x_ : List (Int × Nat × Nat × List Int) × β => Hn - x_.1.length) ([], b0) (show RowsW Hn ([]) ∧ Inv ([]) (b0) from ⟨RowsW.nil _, h0⟩) (by kernel_rfl) (by kernel_rfl) ?_
 rintro ⟨pre, b⟩ hinv2_
 replace hinv2_ : RowsW Hn pre ∧ Inv pre b := hinv2_
 refine cont_norm [(0, .func (.yield l_) #[] #[]), (1, .pointer (pB kb)), (7, iq H), (8, iq ((pre.length : Nat) : Int))] _ (by kernel_rfl) rfl ?_
 obtain ⟨hP, hI⟩ := hinv2_
 have hokb := hokf _ _ hI
 have hpl := hP.2
 have hbd := fun h_ : pre.length < Hn => row_bd (k := pre.length) hnum hw1 (by omega)
 refine mcont_seq ?_
 refine mcont_region 1 rfl (by kernel_rfl) ?_
 refine bS [0] 1 0 [(0, .func (.yield l_) #[] #[]), (1, .pointer (pB kb)), (7, iq H), (8, iq ((pre.length : Nat) : Int)), (9, .bool (decide (((pre.length : Nat) : Int) < H)))] ?_
 refine cont_done ?_
 refine then_normal ?_
 refine mcont_seq ?_
 refine cont_split 9 (decide (((pre.length : Nat) : Int) < H)) rfl (fun c3_ => ?_) (fun c3_ => ?_)
 ·
  replace c3_ := of_decide_eq_true c3_
  refine mcont_true rfl ?_
  refine mcont_skip ?_
  refine then_normal ?_
  refine mcont_seq ?_
  refine mcont_block ?_
  refine mcont_seq ?_
  refine mcont_region 2 rfl (by kernel_rfl) ?_
  obtain ⟨hbd1, hbd2⟩ := hbd (by omega)
  refine bS [0, 0] 2 0 [(0, .func (.yield l_) #[] #[]), (1, .pointer (pB kb)), (3, iq ((pre.length : Nat) : Int)), (7, iq H), (8, iq ((pre.length : Nat) : Int))] ?_
  refine cont_done ?_
  refine then_normal ?_
  refine mcont_seq ?_
  refine idrawn_enter 12 10 [0, 1, 9, 8, 2, 3, 7, 6, 5, 4] [] rfl (by kernel_rfl) (by kernel_rfl) (by kernel_rfl) ?_
  refine takes 0 [] [(0, 0), (1, 0), (2, 3), (3, 0), (4, 3), (5, 0), (6, 0), (7, 4)] 4 [7, 6, 5, 4, 3, 2, 1, 0] [(0, .func (.yield l_) #[] #[]), (1, .pointer (pB kb)), (7, iq H), (8, iq ((pre.length : Nat) : Int)), (11, .func (.yield l_) #[] #[]), (12, iq ((pre.length : Nat) : Int)), (13, .pointer (pB m)), (14, iq ((pre.length : Nat) : Int)), (18, iq W)] (by kernel_rfl) (pok_then (pok_then (pok_blk (pok_then (pok_then (pok_blk pok_body)))))) (by kernel_rfl) rfl rfl (by kernel_rfl) (by kernel_rfl) ?_
  refine drawn_one 8 3 rfl (by kernel_rfl) ?_
  refine call_pure (d := 19) (.slice (sliceA r 0 (Int.toNat (((pre.length : Nat) : Int) * W + 0)) cap 1) (Int.toNat (((pre.length : Nat) : Int) * W + W) - Int.toNat (((pre.length : Nat) : Int) * W + 0)) (cap - Int.toNat (((pre.length : Nat) : Int) * W + 0))) (by kernel_rfl) (fun w hT => imgRow m W H r n cap (pxf b) ((pre.length : Nat) : Int) 0 W w ⟨hT.ok 4 _ rfl, Row.rd (hT.ok 5 _ rfl), Row.capLe (hT.ok 5 _ rfl)⟩ hokb (by omega)) ?_
  refine drawn_next 0 [] (by kernel_rfl) ?_
  refine drawn_one 9 2 rfl (by kernel_rfl) ?_
  refine call_gen (d := 20) (α := Nat × Nat) (fun x_ => .slice (pB x_.1) (Int.toNat (((pre.length : Nat) : Int) * W + W) - Int.toNat (((pre.length : Nat) : Int) * W + 0)) x_.2) (fun x_ => ((.gen (rowE (pB x_.1) x_.1 (Int.toNat (((pre.length : Nat) : Int) * W + W) - Int.toNat (((pre.length : Nat) : Int) * W + 0)) x_.2 24 1 (ivals .u32 (((pxf b).drop (Int.toNat (((pre.length : Nat) : Int) * W + 0))).take (Int.toNat (((pre.length : Nat) : Int) * W + W) - Int.toNat (((pre.length : Nat) : Int) * W + 0)))) true)) :: (.gen (rowE (none) 0 0 0 24 1 (ivals .u32 []) true)) :: e1 :: e2 :: (.ro kb [.pointer (pB m)] 43) :: (.cells m [iq W, iq H, .slice (pB r) n cap] 118 true) :: (.gen (rowE (pB r) r n cap 24 1 (ivals .u32 (pxf b)) true)) :: (Tr b))) (fun x_ => True) (by kernel_rfl) (fun w hT => (sliceCloneP (sliceA r 0 (Int.toNat (((pre.length : Nat) : Int) * W + 0)) cap 1) r (0 + (Int.toNat (((pre.length : Nat) : Int) * W + 0)) * 1) (Int.toNat (((pre.length : Nat) : Int) * W + W) - Int.toNat (((pre.length : Nat) : Int) * W + 0)) (cap - Int.toNat (((pre.length : Nat) : Int) * W + 0)) (((pxf b).drop (Int.toNat (((pre.length : Nat) : Int) * W + 0))).take (Int.toNat (((pre.length : Nat) : Int) * W + W) - Int.toNat (((pre.length : Nat) : Int) * W + 0))) w (hT.viewRo (.cons (i := 5) rfl (Vw.rowSub (by omega)) .nil) rfl) (sliceA_pos (by omega)) (by omega)).mono fun e w' ⟨g24, cp5, he_, ht_⟩ => ⟨(g24, cp5), he_, trivial, hT.news ht_ rfl⟩) ?_
  rintro ⟨g24, cp5⟩ hf6_
  refine cont_norm [(0, .func (.yield l_) #[] #[]), (1, .pointer (pB kb)), (7, iq H), (8, iq ((pre.length : Nat) : Int)), (11, .func (.yield l_) #[] #[]), (12, iq ((pre.length : Nat) : Int)), (13, .pointer (pB m)), (14, iq ((pre.length : Nat) : Int)), (18, iq W), (19, .slice (sliceA r 0 (Int.toNat (((pre.length : Nat) : Int) * W + 0)) cap 1) (Int.toNat (((pre.length : Nat) : Int) * W + W) - Int.toNat (((pre.length : Nat) : Int) * W + 0)) (cap - Int.toNat (((pre.length : Nat) : Int) * W + 0))), (20, .slice (pB g24) (Int.toNat (((pre.length : Nat) : Int) * W + W) - Int.toNat (((pre.length : Nat) : Int) * W + 0)) cp5)] _ (by kernel_rfl) rfl ?_
  refine drawn_next 1 [] (by kernel_rfl) ?_
  refine drawn_done (by kernel_rfl) ?_
  refine then_normal ?_
  obtain ⟨ll, hll⟩ : ∃ y_ : List Int, y_ = (((pxf b).drop (Int.toNat (((pre.length : Nat) : Int) * W + 0))).take (Int.toNat (((pre.length : Nat) : Int) * W + W) - Int.toNat (((pre.length : Nat) : Int) * W + 0))) := ⟨_, rfl⟩
  refine cont_rowEq (k := .u32) 0 ((((pxf b).drop (Int.toNat (((pre.length : Nat) : Int) * W + 0))).take (Int.toNat (((pre.length : Nat) : Int) * W + W) - Int.toNat (((pre.length : Nat) : Int) * W + 0)))) (ll) rfl hll.symm ?_
  rw [show (Int.toNat (((pre.length : Nat) : Int) * W + W) - Int.toNat (((pre.length : Nat) : Int) * W + 0)) = Wn from row_n hWn _]
  have hP2 : RowsW Hn (pre ++ [(((pre.length : Nat) : Int), g24, cp5, ll)]) := hP.step (by omega)
  refine cont_norm [(0, .func (.yield l_) #[] #[]), (1, .pointer (pB kb)), (7, iq H), (8, iq ((pre.length : Nat) : Int)), (11, .func (.yield l_) #[] #[]), (12, iq ((pre.length : Nat) : Int)), (13, .pointer (pB m)), (14, iq ((pre.length : Nat) : Int)), (18, iq W), (19, .slice (sliceA r 0 (Int.toNat (((pre.length : Nat) : Int) * W + 0)) cap 1) Wn (cap - Int.toNat (((pre.length : Nat) : Int) * W + 0))), (20, .slice (pB g24) Wn cp5)] _ (by kernel_rfl) rfl ?_
  refine pli_yield 21 11 1 rfl rfl (by kernel_rfl) (by kernel_rfl) (R := fun v_ w_ => (v_ = .bool true ∧ ∃ b_, Inv (pre ++ [(((pre.length : Nat) : Int), g24, cp5, ll)]) b_ ∧ Tab w0 w_ ((.gen (rowE (none) 0 0 0 24 1 (ivals .u32 []) true)) :: e1 :: e2 :: (.ro kb [.pointer (pB m)] 43) :: (.cells m [iq W, iq H, .slice (pB r) n cap] 118 true) :: (.gen (rowE (pB r) r n cap 24 1 (ivals .u32 (pxf b_)) true)) :: (Tr b_))) ∨ (v_ = .bool false ∧ Jx w_)) (fun w_ hT_ => YieldAt.weaken (hY pre (((pre.length : Nat) : Int), g24, cp5, ll) b w_ _ (fun _ => rfl) hI hP2 hT_) (fun e_ w_ h_ => by rcases h_ with ⟨rfl, hh_⟩ | ⟨rfl, hh_⟩; exact ⟨_, rfl, .inl ⟨rfl, hh_⟩⟩; exact ⟨_, rfl, .inr ⟨rfl, hh_⟩⟩)) ?_
  rintro a_ w_ v_ ha_ hf_ (⟨rfl, b, hI, hT_⟩ | ⟨rfl, hJ⟩)
  ·
   refine Cont.go ?_ ha_ hf_ hT_
   refine cont_norm [(0, .func (.yield l_) #[] #[]), (1, .pointer (pB kb)), (7, iq H), (8, iq ((pre.length : Nat) : Int)), (21, .bool true)] _ (by kernel_rfl) rfl ?_
   refine pli_ops 1 0 12 rfl rfl (by kernel_rfl) ?_
   refine bS [0] 12 0 [(0, .func (.yield l_) #[] #[]), (1, .pointer (pB kb)), (7, iq H), (8, iq ((pre.length : Nat) : Int)), (22, .bool false)] ?_
   refine cont_done ?_
   refine then_normal ?_
   refine pli_done ?_
   refine then_normal ?_
   refine mcont_false rfl ?_
   refine mcont_skip ?_
   refine blk_normal ?_
   refine then_normal ?_
   refine mcont_region 2 rfl (by kernel_rfl) ?_
   refine bS [0] 1 1 [(0, .func (.yield l_) #[] #[]), (1, .pointer (pB kb)), (7, iq H), (23, iq (IntKind.i64.wrap (((pre.length : Nat) : Int) + 1)))] ?_
   refine cont_recast 23 (iq (IntKind.i64.wrap (((pre.length : Nat) : Int) + 1))) (iq (((pre.length : Nat) : Int) + 1)) rfl (wrapI (by omega) (by omega)) ?_
   refine bS [0] 2 0 [(0, .func (.yield l_) #[] #[]), (1, .pointer (pB kb)), (7, iq H), (8, iq (((pre.length : Nat) : Int) + 1))] ?_
   refine cont_done ?_
   refine then_normal ?_
   refine cont_recast 8 (iq (((pre.length : Nat) : Int) + 1)) (iq (((pre ++ [(((pre.length : Nat) : Int), g24, cp5, ll)]).length : Nat) : Int)) rfl (congrArg (Value.int .i64) (by simp)) ?_
   refine cont_again (pre ++ [(((pre.length : Nat) : Int), g24, cp5, ll)], b) (show RowsW Hn (pre ++ [(((pre.length : Nat) : Int), g24, cp5, ll)]) ∧ Inv (pre ++ [(((pre.length : Nat) : Int), g24, cp5, ll)]) (b) from ⟨hP2, hI⟩) (show Hn - (pre ++ [(((pre.length : Nat) : Int), g24, cp5, ll)]).length < Hn - pre.length from by have h_ := hP2.2; rw [List.length_append, List.length_singleton] at h_ ⊢; omega) (by kernel_rfl) (by kernel_rfl)
  ·
   refine Cont.go ?_ ha_ hf_ (Tab.start w_)
   refine cont_norm [(0, .func (.yield l_) #[] #[]), (1, .pointer (pB kb)), (7, iq H), (8, iq ((pre.length : Nat) : Int)), (21, .bool false)] _ (by kernel_rfl) rfl ?_
   refine pli_ops 1 0 12 rfl rfl (by kernel_rfl) ?_
   refine bS [0] 12 0 [(0, .func (.yield l_) #[] #[]), (1, .pointer (pB kb)), (7, iq H), (8, iq ((pre.length : Nat) : Int)), (22, .bool true)] ?_
   refine cont_done ?_
   refine then_normal ?_
   refine pli_done ?_
   refine then_normal ?_
   refine mcont_true rfl ?_
   refine mcont_ret ?_
   refine blk_ret ?_
   refine then_ret ?_
   refine then_ret ?_
   refine blk_ret ?_
   refine ret_none (.inl rfl) rfl (fun w hT => ?_)
   exact ⟨⟨_, rfl⟩, .inr (hJx _ _ hJ (hT.toBelow (fun i e h => by simp at h)))⟩
 replace c3_ := of_decide_eq_false c3_
 refine mcont_false rfl ?_
 refine mcont_exit ?_
 refine then_exit ?_
 refine then_exit ?_
 refine blk_exit ?_
 refine ret_none (.inr rfl) rfl (fun w hT => ?_)
 exact ⟨⟨_, rfl⟩, .inl ⟨pre, b, ⟨hP, by omega⟩, hI, hT.drop (fun _ => rfl)⟩⟩

theorem rowsIterW (kb m : Nat) (W H : Int) (r n cap : Nat) (Wn Hn : Nat) (hWn : (Wn : Int) = W) (hHn : (Hn : Int) = H) (hcap : n ≤ cap) (w0 : World) {β : Type} (Inv : List (Int × Nat × Nat × List Int) → β → Prop) (Tr : β → List Ent) (pxf : β → List Int) (hokf : ∀ pre b, Inv pre b → ImgOk W H n (pxf b)) : IterAt Try.prog 77 #[.pointer (some ⟨kb, 0, none⟩)] (fun z_ : Int × Nat × Nat × List Int => #[.int .i64 z_.1, .slice (some ⟨z_.2.1, 0, none⟩) Wn z_.2.2.1]) w0 [.ro kb [.pointer (some ⟨m, 0, none⟩)] 43, .cells m [.int .i64 W, .int .i64 H, .slice (some ⟨r, 0, none⟩) n cap] 118 true] (fun z_ => [.gen (rowE (some ⟨z_.2.1, 0, none⟩) z_.2.1 Wn z_.2.2.1 24 1 (ivals .u32 z_.2.2.2) true)]) (fun xs_ => RowsW Hn xs_ ∧ xs_.length = Hn) (fun p_ => RowsW Hn p_) Inv (fun b_ => .gen (rowE (some ⟨r, 0, none⟩) r n cap 24 1 (ivals .u32 (pxf b_)) true) :: Tr b_) :=
  fun Jx l e1 e2 W1 b0 hJx hY h0 hT => rowsIterW0 kb m W H r n cap Wn Hn hWn hHn hcap w0 Inv Tr pxf hokf Jx l e1 e2 W1 b0 hJx hY h0 hT

theorem imgRows (m : Nat) (w : World) :
    Calls Try.prog 56 #[.pointer (some ⟨m, 0, none⟩)] w fun e w' => ∃ kb : Nat, e = .returned (.func (.func 77) #[] #[.pointer (some ⟨kb, 0, none⟩)]) ∧ Tab w w' [.cells kb [.pointer (some ⟨m, 0, none⟩)] 43 true] := by
 refine enter 4 [(0, .pointer (pB m))] [] Try.func56 rfl Try.ntmps56 rfl (by kernel_rfl) (Tab.start w) ?_
 refine cont_seq ?_
 refine cont_region 2 rfl ?_
 refine batch1 [0, 0] 2 0 (fun b1 => [(1, .pointer (pB b1))]) (fun b1 => [.cells b1 [.pointer (pB m)] 43 true]) rfl rfl [1] (fun _ => rfl) (fun b1 => by kernel_rfl) (fun b1 => by kernel_rfl) (fun b1 => ?_)
 refine cont_done ?_
 refine then_normal ?_
 refine cont_seq ?_
 refine cont_region 2 rfl ?_
 refine bS [0, 0] 2 0 [(2, .func (.func 77) #[] #[.pointer (pB b1)])] ?_
 refine cont_done ?_
 refine then_normal ?_
 refine cont_ret ?_
 refine ret_one (.inl rfl) rfl 0 (.func (.func 77) #[] #[.pointer (pB b1)]) (by kernel_rfl) (by kernel_rfl) (fun w hT => ?_)
 exact ⟨_, rfl, hT⟩

end Go.Proofs.Ytlfahohbkgdabaa

/- Contracts of functions of the given program, printed by a program of this project. -/
set_option linter.unusedVariables false
set_option linter.unusedSimpArgs false
namespace Go.Proofs.Ytlfahohbkgdabaa
open Go Go.RowKit
set_option maxRecDepth 100000
set_option maxHeartbeats 8000000

theorem naiveCompose (K : Int) (A : Option Addr) (g o n cap : Nat) (its : List IT) (ts : List TS) (W H gc : Int) (w : World) (hT0 : Tab w w [.gen (rdE (A) g o n 14 (dvals IT.cells its)), .gen (subE n (IT.hds 118 its)), .gen (subE n (IT.pxs its))]) (hmap : its.map (·.t) = ts) (hts : ∀ t ∈ ts, TS.Ok t) (hn : n ≤ 100) (hWH : 1 ≤ W ∧ W ≤ 256 ∧ 1 ≤ H ∧ H ≤ 256) (hgm : mayB gc = true) (hg0 : 0 ≤ gc) (hg1 : gc < 4294967296) :
    Calls Try.prog 25 #[.agg #[.int .i64 K, .slice A n cap], .int .i64 W, .int .i64 H, .int .u32 gc] w fun e w' => ∃ b q n : Nat, e = .returned (.tuple #[.pointer (some ⟨b, 0, none⟩), .int .i64 0]) ∧ (n : Int) = W * H ∧ NewImg 118 24 w w' b W H q n n (compS ts W n gc) := by
  have hgt := hts
  have hmapS := hmap
  refine enterM 44 [(0, .agg #[.int .i64 K, .slice A n cap]), (1, .int .i64 W), (2, .int .i64 H), (3, .int .u32 gc)] [.gen (rdE (A) g o n 14 (dvals IT.cells its)), .gen (subE n (IT.hds 118 its)), .gen (subE n (IT.pxs its))] Try.func25 rfl Try.ntmps25 rfl (by kernel_rfl) hT0 ?_
  refine cont_seq ?_
  refine cont_region 4 rfl ?_
  refine batch2 [0, 0, 0, 0] 4 0 (fun b1 b2 => [(1, .int .i64 W), (2, .int .i64 H), (4, .pointer (some ⟨b1, 0, none⟩)), (7, .pointer (some ⟨b2, 0, none⟩))]) (fun b1 b2 => [.cells b2 [.int .u32 gc] 24 true, .cells b1 [.int .i64 K, .slice A n cap] 29 true, .gen (rdE (A) g o n 14 (dvals IT.cells its)), .gen (subE n (IT.hds 118 its)), .gen (subE n (IT.pxs its))]) rfl rfl [1, 2, 4, 7] (fun _ _ => rfl) (fun b1 b2 => by kernel_rfl) (fun b1 b2 => by kernel_rfl) (fun b1 b2 => ?_)
  refine cont_done ?_
  refine then_normal ?_
  refine cont_seq ?_
  refine cont_region 9 rfl ?_
  refine bS [0, 0] 2 7 [(4, .pointer (some ⟨b1, 0, none⟩)), (7, .pointer (some ⟨b2, 0, none⟩)), (16, .int .i64 W), (17, .int .i64 H)] ?_
  refine pl_step 3 6 rfl rfl ?_
  refine call_gen (d := 18) (α := Nat × Nat × Nat) (fun x_ => .tuple #[.pointer (some ⟨x_.1, 0, none⟩), .int .i64 0]) (fun x_ => [.cells x_.1 [.int .i64 W, .int .i64 H, .slice (some ⟨x_.2.1, 0, none⟩) x_.2.2 x_.2.2] 118 true, .gen (rowE (some ⟨x_.2.1, 0, none⟩) x_.2.1 x_.2.2 x_.2.2 24 1 (ivals .u32 (List.replicate x_.2.2 0)) true), .cells b2 [.int .u32 gc] 24 true, .cells b1 [.int .i64 K, .slice A n cap] 29 true, .gen (rdE (A) g o n 14 (dvals IT.cells its)), .gen (subE n (IT.hds 118 its)), .gen (subE n (IT.pxs its))]) (fun x_ => (x_.2.2 : Int) = W * H) (by kernel_rfl) (fun w hT => (imgNew W H w hWH).mono fun e w' ⟨b_, r_, n_, he_, hn_, hi_⟩ => ⟨(b_, r_, n_), he_, hn_, hT.addImg hi_⟩) ?_
  rintro ⟨b3, r3, n3⟩ hn3
  replace hn3 : (n3 : Int) = W * H := hn3
  refine cont_norm [(4, .pointer (some ⟨b1, 0, none⟩)), (7, .pointer (some ⟨b2, 0, none⟩)), (16, .int .i64 W), (17, .int .i64 H), (18, .tuple #[.pointer (some ⟨b3, 0, none⟩), .int .i64 0])] [.cells b3 [.int .i64 W, .int .i64 H, .slice (some ⟨r3, 0, none⟩) n3 n3] 118 true, .gen (rowE (some ⟨r3, 0, none⟩) r3 n3 n3 24 1 (ivals .u32 (List.replicate n3 0)) true), .cells b2 [.int .u32 gc] 24 true, .cells b1 [.int .i64 K, .slice A n cap] 29 true, .gen (rdE (A) g o n 14 (dvals IT.cells its)), .gen (subE n (IT.hds 118 its)), .gen (subE n (IT.pxs its))] (by kernel_rfl) rfl ?_
  refine batch1 [0, 0, 0, 0, 0, 0] 9 0 (fun b4 => [(4, .pointer (some ⟨b1, 0, none⟩)), (7, .pointer (some ⟨b2, 0, none⟩)), (10, .pointer (some ⟨b4, 0, none⟩)), (11, .int .i64 0)]) (fun b4 => [.cells b4 [.pointer (some ⟨b3, 0, none⟩)] 43 true, .cells b3 [.int .i64 W, .int .i64 H, .slice (some ⟨r3, 0, none⟩) n3 n3] 118 true, .gen (rowE (some ⟨r3, 0, none⟩) r3 n3 n3 24 1 (ivals .u32 (List.replicate n3 0)) true), .cells b2 [.int .u32 gc] 24 true, .cells b1 [.int .i64 K, .slice A n cap] 29 true, .gen (rdE (A) g o n 14 (dvals IT.cells its)), .gen (subE n (IT.hds 118 its)), .gen (subE n (IT.pxs its))]) rfl rfl [4, 7, 10, 11] (fun _ => rfl) (fun b4 => by kernel_rfl) (fun b4 => by kernel_rfl) (fun b4 => ?_)
  refine cont_done ?_
  refine then_normal ?_
  refine cont_seq ?_
  refine cont_seq ?_
  refine cont_region 2 rfl ?_
  refine bS [0, 0] 2 0 [(4, .pointer (some ⟨b1, 0, none⟩)), (7, .pointer (some ⟨b2, 0, none⟩)), (10, .pointer (some ⟨b4, 0, none⟩)), (11, .int .i64 0), (22, .bool false)] ?_
  refine cont_done ?_
  refine then_normal ?_
  refine cont_false rfl ?_
  refine cont_skip ?_
  refine then_normal ?_
  refine cont_seq ?_
  refine cont_seq ?_
  refine cont_region 2 rfl ?_
  refine bS [0] 1 1 [(4, .pointer (some ⟨b1, 0, none⟩)), (7, .pointer (some ⟨b2, 0, none⟩)), (10, .pointer (some ⟨b4, 0, none⟩)), (24, .pointer (some ⟨b3, 0, none⟩))] ?_
  refine pl_step 2 0 rfl rfl ?_
  refine call_gen (d := 25) (α := Nat) (fun x_ => .func (.func 77) #[] #[.pointer (some ⟨x_, 0, none⟩)]) (fun x_ => [.cells x_ [.pointer (some ⟨b3, 0, none⟩)] 43 true, .cells b4 [.pointer (some ⟨b3, 0, none⟩)] 43 true, .cells b3 [.int .i64 W, .int .i64 H, .slice (some ⟨r3, 0, none⟩) n3 n3] 118 true, .gen (rowE (some ⟨r3, 0, none⟩) r3 n3 n3 24 1 (ivals .u32 (List.replicate n3 0)) true), .cells b2 [.int .u32 gc] 24 true, .cells b1 [.int .i64 K, .slice A n cap] 29 true, .gen (rdE (A) g o n 14 (dvals IT.cells its)), .gen (subE n (IT.hds 118 its)), .gen (subE n (IT.pxs its))]) (fun x_ => True) (by kernel_rfl) (fun w hT => (imgRows b3 w).mono fun e w' ⟨kb5, he_, ht_⟩ => ⟨kb5, he_, trivial, hT.news ht_ rfl⟩) ?_
  rintro kb5 hf6_
  refine cont_norm [(4, .pointer (some ⟨b1, 0, none⟩)), (7, .pointer (some ⟨b2, 0, none⟩)), (10, .pointer (some ⟨b4, 0, none⟩)), (24, .pointer (some ⟨b3, 0, none⟩)), (25, .func (.func 77) #[] #[.pointer (some ⟨kb5, 0, none⟩)])] [.cells kb5 [.pointer (some ⟨b3, 0, none⟩)] 43 true, .cells b4 [.pointer (some ⟨b3, 0, none⟩)] 43 true, .cells b3 [.int .i64 W, .int .i64 H, .slice (some ⟨r3, 0, none⟩) n3 n3] 118 true, .gen (rowE (some ⟨r3, 0, none⟩) r3 n3 n3 24 1 (ivals .u32 (List.replicate n3 0)) true), .cells b2 [.int .u32 gc] 24 true, .cells b1 [.int .i64 K, .slice A n cap] 29 true, .gen (rdE (A) g o n 14 (dvals IT.cells its)), .gen (subE n (IT.hds 118 its)), .gen (subE n (IT.pxs its))] (by kernel_rfl) rfl ?_
  refine cont_done ?_
  refine then_normal ?_
  refine cont_block ?_
  refine cont_fact (F := (0 < n3 → (some ⟨r3, 0, none⟩ : Option Addr) = some ⟨r3, 0, none⟩) ∧ ((List.replicate n3 0) : List Int).length = n3 ∧ n3 ≤ n3 ∧ n3 ≤ maxLen) (fun w hT => Row.facts (hT.ok 3 _ rfl)) (fun hr7_ => ?_)
  obtain ⟨hr7_a, hr7_l, hr7_c, hr7_m⟩ := hr7_
  unfold maxLen at hr7_m
  obtain ⟨Wn, hWn⟩ : ∃ k_ : Nat, (k_ : Int) = W := ⟨Int.toNat W, by omega⟩
  obtain ⟨Hn, hHn⟩ : ∃ k_ : Nat, (k_ : Int) = H := ⟨Int.toNat H, by omega⟩
  have hnum := hn3
  have hw1 : 1 ≤ W := hWH.1
  refine cont_weaken 0 (.ro kb5 [.pointer (some ⟨b3, 0, none⟩)] 43) rfl rfl Vw.roc rfl ?_
  refine cont_norm [(4, .pointer (some ⟨b1, 0, none⟩)), (7, .pointer (some ⟨b2, 0, none⟩)), (10, .pointer (some ⟨b4, 0, none⟩)), (24, .pointer (some ⟨b3, 0, none⟩)), (25, .func (.func 77) #[] #[.pointer (some ⟨kb5, 0, none⟩)])] [.ro kb5 [.pointer (some ⟨b3, 0, none⟩)] 43, .cells b4 [.pointer (some ⟨b3, 0, none⟩)] 43 true, .cells b3 [.int .i64 W, .int .i64 H, .slice (some ⟨r3, 0, none⟩) n3 n3] 118 true, .gen (rowE (some ⟨r3, 0, none⟩) r3 n3 n3 24 1 (ivals .u32 (List.replicate n3 0)) true), .cells b2 [.int .u32 gc] 24 true, .cells b1 [.int .i64 K, .slice A n cap] 29 true, .gen (rdE (A) g o n 14 (dvals IT.cells its)), .gen (subE n (IT.hds 118 its)), .gen (subE n (IT.pxs its))] (by kernel_rfl) rfl ?_
  refine cont_rowEq (k := .u32) 3 (List.replicate n3 0) (compK ts W n3 gc (0 * Wn)) rfl (by rw [Nat.zero_mul]; exact (compK_zero _ _ _ _).symm) ?_
  refine cont_pick [0, 2, 3, 1, 4, 5, 6, 7, 8] [.ro kb5 [.pointer (some ⟨b3, 0, none⟩)] 43, .cells b3 [.int .i64 W, .int .i64 H, .slice (some ⟨r3, 0, none⟩) n3 n3] 118 true, .gen (rowE (some ⟨r3, 0, none⟩) r3 n3 n3 24 1 (ivals .u32 (compK ts W n3 gc (0 * Wn))) true), .cells b4 [.pointer (some ⟨b3, 0, none⟩)] 43 true, .cells b2 [.int .u32 gc] 24 true, .cells b1 [.int .i64 K, .slice A n cap] 29 true, .gen (rdE (A) g o n 14 (dvals IT.cells its)), .gen (subE n (IT.hds 118 its)), .gen (subE n (IT.pxs its))] (by decide) rfl rfl ?_
  refine cont_rangeFuncW (X := Int × Nat × Nat × List Int) (β := Nat) (γ := Unit) (gf := 77) (lb := #[.pointer (some ⟨kb5, 0, none⟩)]) (fun z_ : Int × Nat × Nat × List Int => #[.int .i64 z_.1, .slice (some ⟨z_.2.1, 0, none⟩) Wn z_.2.2.1]) [.ro kb5 [.pointer (some ⟨b3, 0, none⟩)] 43, .cells b3 [.int .i64 W, .int .i64 H, .slice (some ⟨r3, 0, none⟩) n3 n3] 118 true] (fun z_ : Int × Nat × Nat × List Int => [.gen (rowE (some ⟨z_.2.1, 0, none⟩) z_.2.1 Wn z_.2.2.1 24 1 (ivals .u32 z_.2.2.2) true)]) (fun xs_ => RowsW Hn xs_ ∧ xs_.length = Hn) (fun xs_ => RowsW Hn xs_) (fun (pre : List (Int × Nat × Nat × List Int)) (x_ : Nat) => x_ = pre.length) (fun x_ : Nat => [.gen (rowE (some ⟨r3, 0, none⟩) r3 n3 n3 24 1 (ivals .u32 (compK ts W n3 gc (x_ * Wn))) true), .cells b4 [.pointer (some ⟨b3, 0, none⟩)] 43 true, .cells b2 [.int .u32 gc] 24 true, .cells b1 [.int .i64 K, .slice A n cap] 29 true, .gen (rdE (A) g o n 14 (dvals IT.cells its)), .gen (subE n (IT.hds 118 its)), .gen (subE n (IT.pxs its))]) (fun (_ : Code) (_ : Unit) => False) (fun x_ : Unit => []) 0 rfl (fun _ _ => rfl) (fun _ => rfl) (by kernel_rfl) (rowsIterW kb5 b3 W H r3 n3 n3 Wn Hn hWn hHn (Nat.le_refl _) _ _ _ (fun k_ : Nat => compK ts W n3 gc (k_ * Wn)) (fun _ k_ _ => (imgOk_of hWH hn3 (compK_len _ _ _ _ _) (compK_may hts ⟨hgm, hg0, hg1⟩ _)))) rfl rfl ?_ ?_ ?_ ?_
  ·
    rintro l_ z8_ e8_ e8b_ e8q_ pre ⟨y, gx, cx, ll⟩ k B_ hz_ hinv9_ hsp_ hB_
    replace hinv9_ : k = pre.length := hinv9_
    replace hsp_ : RowsW Hn (pre ++ [(y, gx, cx, ll)]) := hsp_
    refine cont_norm [(4, .pointer (some ⟨b1, 0, none⟩)), (7, .pointer (some ⟨b2, 0, none⟩)), (10, .pointer (some ⟨b4, 0, none⟩)), (26, .int .i64 y), (27, .slice (some ⟨gx, 0, none⟩) Wn cx)] [.gen (rowE (some ⟨gx, 0, none⟩) gx Wn cx 24 1 (ivals .u32 ll) true), z8_, e8_, e8q_, .ro kb5 [.pointer (some ⟨b3, 0, none⟩)] 43, .cells b3 [.int .i64 W, .int .i64 H, .slice (some ⟨r3, 0, none⟩) n3 n3] 118 true, .gen (rowE (some ⟨r3, 0, none⟩) r3 n3 n3 24 1 (ivals .u32 (compK ts W n3 gc (k * Wn))) true), .cells b4 [.pointer (some ⟨b3, 0, none⟩)] 43 true, .cells b2 [.int .u32 gc] 24 true, .cells b1 [.int .i64 K, .slice A n cap] 29 true, .gen (rdE (A) g o n 14 (dvals IT.cells its)), .gen (subE n (IT.hds 118 its)), .gen (subE n (IT.pxs its))] (by kernel_rfl) rfl ?_
    refine mcont_seq ?_
    refine mcont_region 1 rfl (by kernel_rfl) ?_
    refine bS [0] 1 0 [(4, .pointer (some ⟨b1, 0, none⟩)), (7, .pointer (some ⟨b2, 0, none⟩)), (10, .pointer (some ⟨b4, 0, none⟩)), (12, .int .i64 y), (27, .slice (some ⟨gx, 0, none⟩) Wn cx)] ?_
    refine cont_done ?_
    refine then_normal ?_
    refine mcont_region 1 rfl (by kernel_rfl) ?_
    refine bS [0] 1 0 [(4, .pointer (some ⟨b1, 0, none⟩)), (7, .pointer (some ⟨b2, 0, none⟩)), (10, .pointer (some ⟨b4, 0, none⟩)), (12, .int .i64 y), (13, .slice (some ⟨gx, 0, none⟩) Wn cx)] ?_
    refine cont_done ?_
    refine then_normal ?_
    refine hB_ [(4, .pointer (some ⟨b1, 0, none⟩)), (7, .pointer (some ⟨b2, 0, none⟩)), (10, .pointer (some ⟨b4, 0, none⟩)), (12, .int .i64 y), (13, .slice (some ⟨gx, 0, none⟩) Wn cx)] [.gen (rowE (some ⟨gx, 0, none⟩) gx Wn cx 24 1 (ivals .u32 ll) true), z8_] [e8q_, .ro kb5 [.pointer (some ⟨b3, 0, none⟩)] 43, .cells b3 [.int .i64 W, .int .i64 H, .slice (some ⟨r3, 0, none⟩) n3 n3] 118 true, .gen (rowE (some ⟨r3, 0, none⟩) r3 n3 n3 24 1 (ivals .u32 (compK ts W n3 gc (k * Wn))) true), .cells b4 [.pointer (some ⟨b3, 0, none⟩)] 43 true, .cells b2 [.int .u32 gc] 24 true, .cells b1 [.int .i64 K, .slice A n cap] 29 true, .gen (rdE (A) g o n 14 (dvals IT.cells its)), .gen (subE n (IT.hds 118 its)), .gen (subE n (IT.pxs its))] ?_
    refine cont_norm [(4, .pointer (some ⟨b1, 0, none⟩)), (7, .pointer (some ⟨b2, 0, none⟩)), (10, .pointer (some ⟨b4, 0, none⟩)), (12, .int .i64 y), (13, .slice (some ⟨gx, 0, none⟩) Wn cx)] [.gen (rowE (some ⟨gx, 0, none⟩) gx Wn cx 24 1 (ivals .u32 ll) true), z8_, e8b_, e8q_, .ro kb5 [.pointer (some ⟨b3, 0, none⟩)] 43, .cells b3 [.int .i64 W, .int .i64 H, .slice (some ⟨r3, 0, none⟩) n3 n3] 118 true, .gen (rowE (some ⟨r3, 0, none⟩) r3 n3 n3 24 1 (ivals .u32 (compK ts W n3 gc (k * Wn))) true), .cells b4 [.pointer (some ⟨b3, 0, none⟩)] 43 true, .cells b2 [.int .u32 gc] 24 true, .cells b1 [.int .i64 K, .slice A n cap] 29 true, .gen (rdE (A) g o n 14 (dvals IT.cells its)), .gen (subE n (IT.hds 118 its)), .gen (subE n (IT.pxs its))] (by kernel_rfl) rfl ?_
    have hkp := hinv9_
    obtain ⟨hyp, hlt_⟩ := hsp_.last
    simp only at hyp
    rw [← hkp] at hyp hlt_
    have hmx := row_max (k := k) hWn hnum hw1 (by omega)
    have hmx2 : (k + 1) * Wn = k * Wn + Wn := by rw [Nat.add_mul, Nat.one_mul]
    refine mcont_block ?_
    refine mcont_seq ?_
    refine mcont_region 3 rfl (by kernel_rfl) ?_
    refine bS [0, 0, 0] 3 0 [(4, .pointer (some ⟨b1, 0, none⟩)), (7, .pointer (some ⟨b2, 0, none⟩)), (10, .pointer (some ⟨b4, 0, none⟩)), (12, .int .i64 y), (29, .int .i64 (Wn : Int)), (30, .int .i64 0)] ?_
    refine cont_done ?_
    refine then_normal ?_
    refine mcont_block ?_
    refine mcont_loop (α := Nat) (fun x_ : Nat => x_ ≤ Wn) (fun x_ : Nat => [(4, .pointer (some ⟨b1, 0, none⟩)), (7, .pointer (some ⟨b2, 0, none⟩)), (10, .pointer (some ⟨b4, 0, none⟩)), (12, .int .i64 y), (29, .int .i64 (Wn : Int)), (30, .int .i64 (x_ : Int))]) (fun x_ : Nat => [.gen (rowE (some ⟨gx, 0, none⟩) gx Wn cx 24 1 (ivals .u32 ll) true), z8_, e8b_, e8q_, .ro kb5 [.pointer (some ⟨b3, 0, none⟩)] 43, .cells b3 [.int .i64 W, .int .i64 H, .slice (some ⟨r3, 0, none⟩) n3 n3] 118 true, .gen (rowE (some ⟨r3, 0, none⟩) r3 n3 n3 24 1 (ivals .u32 (compK ts W n3 gc (k * Wn + x_))) true), .cells b4 [.pointer (some ⟨b3, 0, none⟩)] 43 true, .cells b2 [.int .u32 gc] 24 true, .cells b1 [.int .i64 K, .slice A n cap] 29 true, .gen (rdE (A) g o n 14 (dvals IT.cells its)), .gen (subE n (IT.hds 118 its)), .gen (subE n (IT.pxs its))]) (fun x_ : Nat => Wn - x_) 0 (by omega) (by kernel_rfl) (by kernel_rfl) ?_
    rintro j hinv10_
    replace hinv10_ : j ≤ Wn := hinv10_
    refine cont_norm [(4, .pointer (some ⟨b1, 0, none⟩)), (7, .pointer (some ⟨b2, 0, none⟩)), (10, .pointer (some ⟨b4, 0, none⟩)), (12, .int .i64 y), (29, .int .i64 (Wn : Int)), (30, .int .i64 (j : Int))] [.gen (rowE (some ⟨gx, 0, none⟩) gx Wn cx 24 1 (ivals .u32 ll) true), z8_, e8b_, e8q_, .ro kb5 [.pointer (some ⟨b3, 0, none⟩)] 43, .cells b3 [.int .i64 W, .int .i64 H, .slice (some ⟨r3, 0, none⟩) n3 n3] 118 true, .gen (rowE (some ⟨r3, 0, none⟩) r3 n3 n3 24 1 (ivals .u32 (compK ts W n3 gc (k * Wn + j))) true), .cells b4 [.pointer (some ⟨b3, 0, none⟩)] 43 true, .cells b2 [.int .u32 gc] 24 true, .cells b1 [.int .i64 K, .slice A n cap] 29 true, .gen (rdE (A) g o n 14 (dvals IT.cells its)), .gen (subE n (IT.hds 118 its)), .gen (subE n (IT.pxs its))] (by kernel_rfl) rfl ?_
    have hj := hinv10_
    refine mcont_seq ?_
    refine mcont_region 1 rfl (by kernel_rfl) ?_
    refine bS [0] 1 0 [(4, .pointer (some ⟨b1, 0, none⟩)), (7, .pointer (some ⟨b2, 0, none⟩)), (10, .pointer (some ⟨b4, 0, none⟩)), (12, .int .i64 y), (29, .int .i64 (Wn : Int)), (30, .int .i64 (j : Int)), (31, .bool (decide ((j : Int) < (Wn : Int))))] ?_
    refine cont_done ?_
    refine then_normal ?_
    refine mcont_seq ?_
    refine cont_split 31 (decide ((j : Int) < (Wn : Int))) rfl (fun c11_ => ?_) (fun c11_ => ?_)
    ·
      replace c11_ := of_decide_eq_true c11_
      refine mcont_true rfl ?_
      refine mcont_skip ?_
      refine then_normal ?_
      refine mcont_seq ?_
      refine mcont_block ?_
      refine mcont_seq ?_
      refine mcont_region 2 rfl (by kernel_rfl) ?_
      refine bS [0, 0] 2 0 [(4, .pointer (some ⟨b1, 0, none⟩)), (7, .pointer (some ⟨b2, 0, none⟩)), (10, .pointer (some ⟨b4, 0, none⟩)), (12, .int .i64 y), (14, .int .i64 (j : Int)), (29, .int .i64 (Wn : Int)), (30, .int .i64 (j : Int))] ?_
      refine cont_done ?_
      refine then_normal ?_
      obtain ⟨hpx0, hpx1⟩ := pixS_in ts (j : Int) y (g := gc) ⟨hg0, hg1⟩
      refine mdrawn_enter 9 [6] rfl (by kernel_rfl) (by kernel_rfl) ?_
      refine takes 0 [6] [(0, 7), (1, 0), (2, 0), (3, 9), (4, 0), (5, 0), (6, 8)] 2 [6, 5, 4, 3, 2, 1, 0] [(4, .pointer (some ⟨b1, 0, none⟩)), (7, .pointer (some ⟨b2, 0, none⟩)), (10, .pointer (some ⟨b4, 0, none⟩)), (12, .int .i64 y), (29, .int .i64 (Wn : Int)), (30, .int .i64 (j : Int)), (33, .pointer (some ⟨b3, 0, none⟩)), (34, .int .i64 (j : Int)), (35, .int .i64 y), (36, .agg #[.int .i64 K, .slice A n cap]), (37, .int .i64 (j : Int)), (38, .int .i64 y), (39, .int .u32 gc)] (by kernel_rfl) (pok_blk (pok_then (pok_then (pok_blk (pok_blk pok_rq))))) (by kernel_rfl) rfl rfl (by kernel_rfl) (by kernel_rfl) ?_
      refine drawn_one 7 1 rfl (by kernel_rfl) ?_
      refine call_pure (d := 40) (.int .u32 (pixS ts (j : Int) y gc)) (by kernel_rfl) (fun w hT => naivePixel K A g o n cap its ts (j : Int) y gc w (hT.viewRo (.cons (i := 10) rfl Vw.rd (.cons (i := 11) rfl Vw.subSub (.cons (i := 12) rfl Vw.subSub .nil))) rfl) hmapS hgt (by omega) (by omega) (by omega) (by omega) (by omega)) ?_
      refine drawn_next 0 [6] (by kernel_rfl) ?_
      refine drawn_one 8 0 rfl (by kernel_rfl) ?_
      refine call_gen (d := 41) (α := Unit) (fun _ => .int .i64 (setE W H (j : Int) y (pixS ts (j : Int) y gc))) (fun _ => [.gen (rowE (some ⟨gx, 0, none⟩) gx Wn cx 24 1 (ivals .u32 ll) true), z8_, e8b_, e8q_, .ro kb5 [.pointer (some ⟨b3, 0, none⟩)] 43, .cells b3 [.int .i64 W, .int .i64 H, .slice (some ⟨r3, 0, none⟩) n3 n3] 118 true, .gen (rowE (some ⟨r3, 0, none⟩) r3 n3 n3 24 1 (ivals .u32 (setL W H (compK ts W n3 gc (k * Wn + j)) (j : Int) y (pixS ts (j : Int) y gc))) true), .cells b4 [.pointer (some ⟨b3, 0, none⟩)] 43 true, .cells b2 [.int .u32 gc] 24 true, .cells b1 [.int .i64 K, .slice A n cap] 29 true, .gen (rdE (A) g o n 14 (dvals IT.cells its)), .gen (subE n (IT.hds 118 its)), .gen (subE n (IT.pxs its))]) (fun _ => True) (by kernel_rfl) (fun w hT => (imgSet b3 W H r3 n3 n3 (compK ts W n3 gc (k * Wn + j)) (j : Int) y (pixS ts (j : Int) y gc) w ⟨hT.ok 5 _ rfl, hT.ok 6 _ rfl, fun hne => hT.disj 5 6 _ _ (by omega) rfl rfl (.inr rfl) _ rfl ⟨hne, by simp⟩⟩ (imgOk_of hWH hn3 (compK_len _ _ _ _ _) (compK_may hts ⟨hgm, hg0, hg1⟩ _)) ⟨hpx0, hpx1⟩).mono fun e w' ⟨he_, hk_, hr_⟩ => ⟨(), he_, trivial, hT.keepBut hk_ (i := 6) rfl hr_⟩) (fun _ _ => ?_)
      refine drawn_next 0 [6] (by kernel_rfl) ?_
      refine drawn_done (by kernel_rfl) ?_
      refine blk_normal ?_
      refine then_normal ?_
      refine mcont_region 2 rfl (by kernel_rfl) ?_
      refine bS [0] 1 1 [(4, .pointer (some ⟨b1, 0, none⟩)), (7, .pointer (some ⟨b2, 0, none⟩)), (10, .pointer (some ⟨b4, 0, none⟩)), (12, .int .i64 y), (29, .int .i64 (Wn : Int)), (42, .int .i64 (IntKind.i64.wrap ((j : Int) + 1)))] ?_
      refine cont_recast 42 (.int .i64 (IntKind.i64.wrap ((j : Int) + 1))) (.int .i64 ((j : Int) + 1)) rfl (wrapI (by omega) (by omega)) ?_
      refine bS [0] 2 0 [(4, .pointer (some ⟨b1, 0, none⟩)), (7, .pointer (some ⟨b2, 0, none⟩)), (10, .pointer (some ⟨b4, 0, none⟩)), (12, .int .i64 y), (29, .int .i64 (Wn : Int)), (30, .int .i64 ((j : Int) + 1))] ?_
      refine cont_done ?_
      refine then_normal ?_
      refine cont_rowEq (k := .u32) 6 (setL W H (compK ts W n3 gc (k * Wn + j)) (j : Int) y (pixS ts (j : Int) y gc)) (compK ts W n3 gc (k * Wn + (j + 1))) rfl (by rw [hyp]; exact compK_put hWn hw1 hnum (by omega) (by omega) (pixS_may hts hgm _ _)) ?_
      refine cont_again (j + 1) (show (j + 1) ≤ Wn from (by omega)) (show Wn - (j + 1) < Wn - j from by omega) (by kernel_rfl) (by kernel_rfl)
    replace c11_ := of_decide_eq_false c11_
    refine mcont_false rfl ?_
    refine mcont_exit ?_
    refine then_exit ?_
    refine then_exit ?_
    refine blk_exit ?_
    refine blk_normal ?_
    refine cont_rowEq (k := .u32) 6 (compK ts W n3 gc (k * Wn + j)) (compK ts W n3 gc ((k + 1) * Wn)) rfl (by rw [Nat.add_mul, Nat.one_mul, show j = Wn by omega]) ?_
    refine cont_pick [1, 2, 3, 4, 5, 6, 7, 8, 9, 10, 11, 12] [z8_, e8b_, e8q_, .ro kb5 [.pointer (some ⟨b3, 0, none⟩)] 43, .cells b3 [.int .i64 W, .int .i64 H, .slice (some ⟨r3, 0, none⟩) n3 n3] 118 true, .gen (rowE (some ⟨r3, 0, none⟩) r3 n3 n3 24 1 (ivals .u32 (compK ts W n3 gc ((k + 1) * Wn))) true), .cells b4 [.pointer (some ⟨b3, 0, none⟩)] 43 true, .cells b2 [.int .u32 gc] 24 true, .cells b1 [.int .i64 K, .slice A n cap] 29 true, .gen (rdE (A) g o n 14 (dvals IT.cells its)), .gen (subE n (IT.hds 118 its)), .gen (subE n (IT.pxs its))] (by decide) rfl rfl ?_
    refine rq_next (k + 1) (show (k + 1) = (pre ++ [(y, gx, cx, ll)]).length from (by rw [List.length_append, List.length_singleton]; omega)) rfl
  ·
    rintro D13_ xs_ k hS_ hinv12_
    replace hinv12_ : k = xs_.length := hinv12_
    replace hS_ : RowsW Hn xs_ ∧ xs_.length = Hn := hS_
    refine cont_norm [(10, .pointer (some ⟨b4, 0, none⟩))] [markE D13_, .ro kb5 [.pointer (some ⟨b3, 0, none⟩)] 43, .cells b3 [.int .i64 W, .int .i64 H, .slice (some ⟨r3, 0, none⟩) n3 n3] 118 true, .gen (rowE (some ⟨r3, 0, none⟩) r3 n3 n3 24 1 (ivals .u32 (compK ts W n3 gc (k * Wn))) true), .cells b4 [.pointer (some ⟨b3, 0, none⟩)] 43 true, .cells b2 [.int .u32 gc] 24 true, .cells b1 [.int .i64 K, .slice A n cap] 29 true, .gen (rdE (A) g o n 14 (dvals IT.cells its)), .gen (subE n (IT.hds 118 its)), .gen (subE n (IT.pxs its))] (by kernel_rfl) rfl ?_
    have hkp := hinv12_
    have h1k_ : k = Hn := by rw [hkp]; exact hS_.2
    have h2k_ : ((Hn * Wn : Nat) : Int) = (n3 : Int) := by rw [Int.natCast_mul, hWn, hHn, hnum, Int.mul_comm]
    refine cont_rowEq (k := .u32) 3 (compK ts W n3 gc (k * Wn)) (compS ts W n3 gc) rfl (compK_all _ _ _ (by rw [h1k_]; omega)) ?_
    refine blk_normal ?_
    refine then_normal ?_
    refine cont_seq ?_
    refine cont_region 3 rfl ?_
    refine bS [4, 0, 0] 3 0 [(8, .pointer (some ⟨b3, 0, none⟩)), (9, .int .i64 0)] ?_
    refine cont_forget 4 rfl ?_
    refine cont_forget 4 rfl ?_
    refine cont_forget 4 rfl ?_
    refine cont_done ?_
    refine then_normal ?_
    refine cont_ret ?_
    refine mark_end 0 rfl (.inl rfl) ?_
    refine cont_norm [(8, .pointer (some ⟨b3, 0, none⟩)), (9, .int .i64 0)] [objE D13_ (.deferred none), .ro kb5 [.pointer (some ⟨b3, 0, none⟩)] 43, .cells b3 [.int .i64 W, .int .i64 H, .slice (some ⟨r3, 0, none⟩) n3 n3] 118 true, .gen (rowE (some ⟨r3, 0, none⟩) r3 n3 n3 24 1 (ivals .u32 (compS ts W n3 gc)) true), .gen (rdE (A) g o n 14 (dvals IT.cells its)), .gen (subE n (IT.hds 118 its)), .gen (subE n (IT.pxs its))] (by kernel_rfl) rfl ?_
    refine ret_two (.inl rfl) rfl 0 0 (.pointer (some ⟨b3, 0, none⟩)) (.int .i64 0) (by kernel_rfl) (by kernel_rfl) (by kernel_rfl) (by kernel_rfl) (fun w hT => ?_)
    replace hT := hT.erase 6 (fun e h hw => by cases h; first | rfl | cases hw)
    replace hT := hT.erase 5 (fun e h hw => by cases h; first | rfl | cases hw)
    replace hT := hT.erase 4 (fun e h hw => by cases h; first | rfl | cases hw)
    replace hT := hT.erase 1 (fun e h hw => by cases h; first | rfl | cases hw)
    replace hT := hT.erase 0 (fun e h hw => by cases h; first | rfl | cases hw)
    exact ⟨_, _, n3, rfl, hnum, newImg_of_tab hT⟩
  ·
    intro D_  c_ h_; exact h_.elim
  ·
    intro D_ id_ c_ h_; exact h_.elim

theorem refCompose (A : Option Addr) (g o n cap : Nat) (ts : List TS) (W H gc : Int) (w : World) (hT0 : Tab w w [.gen (rdE (A) g o n 14 (dvals TS.cells ts)), .gen (subE n (TS.pxs ts))]) (hts : ∀ t ∈ ts, TS.Ok t) (hn : n ≤ 100) (hWH : 1 ≤ W ∧ W ≤ 256 ∧ 1 ≤ H ∧ H ≤ 256) (hgm : mayB gc = true) (hg0 : 0 ≤ gc) (hg1 : gc < 4294967296) :
    Calls Try.prog 26 #[.slice A n cap, .int .i64 W, .int .i64 H, .int .u32 gc] w fun e w' => ∃ r n9 : Nat, e = .returned (.agg #[.int .i64 W, .int .i64 H, .slice (some ⟨r, 0, none⟩) n9 n9]) ∧ (n9 : Int) = W * H ∧ Tab w w' [.gen (rowE (some ⟨r, 0, none⟩) r n9 n9 24 1 (ivals .u32 (compS ts W n9 gc)) true)] := by
  have hgt := hts
  refine enter 35 [(0, .slice A n cap), (1, .int .i64 W), (2, .int .i64 H), (3, .int .u32 gc)] [.gen (rdE (A) g o n 14 (dvals TS.cells ts)), .gen (subE n (TS.pxs ts))] Try.func26 rfl Try.ntmps26 rfl (by kernel_rfl) hT0 ?_
  refine cont_seq ?_
  refine cont_region 1 rfl ?_
  refine batch1 [0] 1 0 (fun b1 => [(0, .slice A n cap), (1, .int .i64 W), (2, .int .i64 H), (3, .int .u32 gc), (8, .pointer (some ⟨b1, 0, none⟩))]) (fun b1 => [.cells b1 [.int .i64 0, .int .i64 0, .slice none 0 0] 41 true, .gen (rdE (A) g o n 14 (dvals TS.cells ts)), .gen (subE n (TS.pxs ts))]) rfl rfl [0, 1, 2, 3, 8] (fun _ => rfl) (fun b1 => by kernel_rfl) (fun b1 => by kernel_rfl) (fun b1 => ?_)
  refine cont_done ?_
  refine then_normal ?_
  refine cont_seq ?_
  refine cont_region 5 rfl ?_
  refine bS [0, 0] 2 3 [(0, .slice A n cap), (1, .int .i64 W), (3, .int .u32 gc), (8, .pointer (some ⟨b1, 0, none⟩)), (11, .int .i64 W), (12, .int .i64 H)] ?_
  refine pl_step 3 2 rfl rfl ?_
  refine call_gen (d := 13) (α := Nat × Nat) (fun x_ => .agg #[.int .i64 W, .int .i64 H, .slice (some ⟨x_.1, 0, none⟩) x_.2 x_.2]) (fun x_ => [.gen (rowE (some ⟨x_.1, 0, none⟩) x_.1 x_.2 x_.2 24 1 (ivals .u32 (List.replicate x_.2 0)) true), .cells b1 [.int .i64 0, .int .i64 0, .slice none 0 0] 41 true, .gen (rdE (A) g o n 14 (dvals TS.cells ts)), .gen (subE n (TS.pxs ts))]) (fun x_ => (x_.2 : Int) = W * H) (by kernel_rfl) (fun w hT => (refNew4 W H w hWH).mono fun e w' ⟨r2, n3, he_, hf_, ht_⟩ => ⟨(r2, n3), he_, hf_, hT.news ht_ rfl⟩) ?_
  rintro ⟨r2, n3⟩ hf4_
  replace hf4_ : (n3 : Int) = W * H := hf4_
  refine cont_norm [(0, .slice A n cap), (1, .int .i64 W), (3, .int .u32 gc), (8, .pointer (some ⟨b1, 0, none⟩)), (11, .int .i64 W), (12, .int .i64 H), (13, .agg #[.int .i64 W, .int .i64 H, .slice (some ⟨r2, 0, none⟩) n3 n3])] [.gen (rowE (some ⟨r2, 0, none⟩) r2 n3 n3 24 1 (ivals .u32 (List.replicate n3 0)) true), .cells b1 [.int .i64 0, .int .i64 0, .slice none 0 0] 41 true, .gen (rdE (A) g o n 14 (dvals TS.cells ts)), .gen (subE n (TS.pxs ts))] (by kernel_rfl) rfl ?_
  have hnum := hf4_
  refine batch1 [0, 0] 5 0 (fun b5 => [(0, .slice A n cap), (1, .int .i64 W), (3, .int .u32 gc), (8, .pointer (some ⟨b1, 0, none⟩)), (9, .pointer (some ⟨b5, 0, none⟩))]) (fun b5 => [.cells b5 [.int .i64 W, .int .i64 H, .slice (some ⟨r2, 0, none⟩) n3 n3] 41 true, .gen (rowE (some ⟨r2, 0, none⟩) r2 n3 n3 24 1 (ivals .u32 (List.replicate n3 0)) true), .cells b1 [.int .i64 0, .int .i64 0, .slice none 0 0] 41 true, .gen (rdE (A) g o n 14 (dvals TS.cells ts)), .gen (subE n (TS.pxs ts))]) rfl rfl [0, 1, 3, 8, 9] (fun _ => rfl) (fun b5 => by kernel_rfl) (fun b5 => by kernel_rfl) (fun b5 => ?_)
  refine cont_done ?_
  refine then_normal ?_
  refine cont_seq ?_
  refine cont_seq ?_
  refine cont_region 1 rfl ?_
  refine bS [0] 1 0 [(0, .slice A n cap), (1, .int .i64 W), (3, .int .u32 gc), (8, .pointer (some ⟨b1, 0, none⟩)), (9, .pointer (some ⟨b5, 0, none⟩)), (10, .int .i64 0)] ?_
  refine cont_done ?_
  refine then_normal ?_
  refine cont_block ?_
  refine cont_rowEq (k := .u32) 1 (List.replicate n3 0) (compK ts W n3 gc 0) rfl ((compK_zero _ _ _ _).symm) ?_
  refine cont_loop (α := Nat) (fun x_ : Nat => x_ ≤ n3) (fun x_ : Nat => [(0, .slice A n cap), (1, .int .i64 W), (3, .int .u32 gc), (8, .pointer (some ⟨b1, 0, none⟩)), (9, .pointer (some ⟨b5, 0, none⟩)), (10, .int .i64 (x_ : Int))]) (fun x_ : Nat => [.cells b5 [.int .i64 W, .int .i64 H, .slice (some ⟨r2, 0, none⟩) n3 n3] 41 true, .gen (rowE (some ⟨r2, 0, none⟩) r2 n3 n3 24 1 (ivals .u32 (compK ts W n3 gc x_)) true), .cells b1 [.int .i64 0, .int .i64 0, .slice none 0 0] 41 true, .gen (rdE (A) g o n 14 (dvals TS.cells ts)), .gen (subE n (TS.pxs ts))]) (fun x_ : Nat => n3 - x_) 0 (by omega) (by kernel_rfl) (by kernel_rfl) ?_
  rintro i hinv6_
  replace hinv6_ : i ≤ n3 := hinv6_
  refine cont_norm [(0, .slice A n cap), (1, .int .i64 W), (3, .int .u32 gc), (8, .pointer (some ⟨b1, 0, none⟩)), (9, .pointer (some ⟨b5, 0, none⟩)), (10, .int .i64 (i : Int))] [.cells b5 [.int .i64 W, .int .i64 H, .slice (some ⟨r2, 0, none⟩) n3 n3] 41 true, .gen (rowE (some ⟨r2, 0, none⟩) r2 n3 n3 24 1 (ivals .u32 (compK ts W n3 gc i)) true), .cells b1 [.int .i64 0, .int .i64 0, .slice none 0 0] 41 true, .gen (rdE (A) g o n 14 (dvals TS.cells ts)), .gen (subE n (TS.pxs ts))] (by kernel_rfl) rfl ?_
  have hi := hinv6_
  have hem := emod_range i (W := W) hWH.1
  have hnb : W * H ≤ 256 * 256 := mul_le_of (by omega) (by omega) (by omega) (by omega)
  refine cont_seq ?_
  refine cont_seq ?_
  refine cont_region 5 rfl ?_
  refine bS [0, 0, 0, 0, 0] 5 0 [(0, .slice A n cap), (1, .int .i64 W), (3, .int .u32 gc), (8, .pointer (some ⟨b1, 0, none⟩)), (9, .pointer (some ⟨b5, 0, none⟩)), (10, .int .i64 (i : Int)), (18, .bool (decide ((i : Int) < (n3 : Int))))] ?_
  refine cont_done ?_
  refine then_normal ?_
  refine cont_split 18 (decide ((i : Int) < (n3 : Int))) rfl (fun c7_ => ?_) (fun c7_ => ?_)
  ·
    replace c7_ := of_decide_eq_true c7_
    refine cont_true rfl ?_
    refine cont_skip ?_
    refine then_normal ?_
    refine cont_seq ?_
    refine cont_block ?_
    refine drawn_enter 14 [1] rfl (by kernel_rfl) ?_
    refine takes 0 [1] [(0, 0), (2, 0), (3, 0), (4, 0), (5, 0), (7, 0), (8, 0), (10, 0), (1, 0)] 5 [1, 10, 8, 7, 5, 4, 3, 2, 0] [(0, .slice A n cap), (1, .int .i64 W), (3, .int .u32 gc), (8, .pointer (some ⟨b1, 0, none⟩)), (9, .pointer (some ⟨b5, 0, none⟩)), (10, .int .i64 (i : Int)), (22, .slice (some ⟨r2, 0, none⟩) n3 n3), (23, .int .i64 (i : Int)), (24, .slice A n cap), (25, .int .i64 (i : Int)), (26, .int .i64 W), (28, .int .i64 (i : Int)), (29, .int .i64 W), (31, .int .u32 gc)] (by kernel_rfl) (pok_blk (pok_then (pok_then (pok_blk (pok_then pok_body))))) (by kernel_rfl) rfl rfl (by kernel_rfl) (by kernel_rfl) ?_
    refine sem_take 0 [1] 6 4 27 (bopS .rem 3 (.tmp 25) (.tmp 26) (.int .i64 (i : Int)) (.int .i64 W)) (.int .i64 ((i : Int).tmod W)) (by kernel_rfl) (pok_blk (pok_then (pok_then (pok_blk (pok_then pok_body))))) (by kernel_rfl) rfl (by kernel_rfl) (by kernel_rfl) (fun w hT => run_rem (by omega) w) ?_
    refine cont_recast 27 (.int .i64 ((i : Int).tmod W)) (.int .i64 ((i : Int) % W)) rfl (tmodI (by omega)) ?_
    refine sem_take 0 [1] 9 3 30 (bopS .quo 3 (.tmp 28) (.tmp 29) (.int .i64 (i : Int)) (.int .i64 W)) (.int .i64 (IntKind.i64.wrap ((i : Int).tdiv W))) (by kernel_rfl) (pok_blk (pok_then (pok_then (pok_blk (pok_then pok_body))))) (by kernel_rfl) rfl (by kernel_rfl) (by kernel_rfl) (fun w hT => run_quo (by omega) w) ?_
    refine cont_recast 30 (.int .i64 (IntKind.i64.wrap ((i : Int).tdiv W))) (.int .i64 ((i : Int) / W)) rfl (tdivI (by omega) (by omega) (by omega)) ?_
    refine drawn_one 11 2 rfl (by kernel_rfl) ?_
    refine call_pure (d := 32) (.int .u32 (pixS ts ((i : Int) % W) ((i : Int) / W) gc)) (by kernel_rfl) (fun w hT => refPixel17 A g o n cap ts ((i : Int) % W) ((i : Int) / W) gc w (hT.viewRo (.cons (i := 3) rfl Vw.rd (.cons (i := 4) rfl Vw.subSub .nil)) rfl) hgt (by omega) (by omega) (by omega) (by omega) (by omega)) ?_
    refine drawn_next 0 [1] (by kernel_rfl) ?_
    refine sem_take 0 [1] 12 1 33 (Instr.indexAt 39 (.slice (some ⟨r2, 0, none⟩) n3 n3) (.int .i64 (i : Int))) (.pointer (some ⟨r2, i, none⟩)) (by kernel_rfl) (pok_blk (pok_then (pok_then (pok_blk (pok_then pok_body))))) (by kernel_rfl) rfl (by kernel_rfl) (by kernel_rfl) (fun w hT => run_indexAt (e := 24) (sz := 1) _ (by kernel_rfl) (by kernel_rfl) (by omega) (by omega) (by omega) w) ?_
    refine drawn_one 13 0 rfl (by kernel_rfl) ?_
    refine sem_stepU (Instr.storeAt 24 (.pointer (some ⟨r2, i, none⟩)) (.int .u32 (pixS ts ((i : Int) % W) ((i : Int) / W) gc))) (fun _ => [.cells b5 [.int .i64 W, .int .i64 H, .slice (some ⟨r2, 0, none⟩) n3 n3] 41 true, .gen (rowE (some ⟨r2, 0, none⟩) r2 n3 n3 24 1 (ivals .u32 ((compK ts W n3 gc i).set i (pixS ts ((i : Int) % W) ((i : Int) / W) gc))) true), .cells b1 [.int .i64 0, .int .i64 0, .slice none 0 0] 41 true, .gen (rdE (A) g o n 14 (dvals TS.cells ts)), .gen (subE n (TS.pxs ts))]) (fun _ => True) (by kernel_rfl) (fun w hT => store_row hT (i := 1) rfl (by kernel_rfl) (by simp only [compK_len]; omega)) (fun _ _ => ?_)
    refine drawn_next 0 [1] (by kernel_rfl) ?_
    refine drawn_done (by kernel_rfl) ?_
    refine blk_normal ?_
    refine then_normal ?_
    refine cont_region 3 rfl ?_
    refine bS [0, 0] 2 1 [(0, .slice A n cap), (1, .int .i64 W), (3, .int .u32 gc), (8, .pointer (some ⟨b1, 0, none⟩)), (9, .pointer (some ⟨b5, 0, none⟩)), (20, .int .i64 (IntKind.i64.wrap ((i : Int) + 1)))] ?_
    refine cont_recast 20 (.int .i64 (IntKind.i64.wrap ((i : Int) + 1))) (.int .i64 ((i : Int) + 1)) rfl (wrapI (by omega) (by omega)) ?_
    refine bS [0] 3 0 [(0, .slice A n cap), (1, .int .i64 W), (3, .int .u32 gc), (8, .pointer (some ⟨b1, 0, none⟩)), (9, .pointer (some ⟨b5, 0, none⟩)), (10, .int .i64 ((i : Int) + 1))] ?_
    refine cont_done ?_
    refine then_normal ?_
    refine cont_rowEq (k := .u32) 1 ((compK ts W n3 gc i).set i (pixS ts ((i : Int) % W) ((i : Int) / W) gc)) (compK ts W n3 gc (i + 1)) rfl (compK_set (by omega)) ?_
    refine cont_again (i + 1) (show (i + 1) ≤ n3 from (by omega)) (show n3 - (i + 1) < n3 - i from by omega) (by kernel_rfl) (by kernel_rfl)
  replace c7_ := of_decide_eq_false c7_
  refine cont_false rfl ?_
  refine cont_exit ?_
  refine then_exit ?_
  refine then_exit ?_
  refine blk_exit ?_
  refine then_normal ?_
  refine cont_seq ?_
  refine cont_region 2 rfl ?_
  refine batch0 [0, 2] 2 0 [(8, .pointer (some ⟨b1, 0, none⟩))] [.cells b5 [.int .i64 W, .int .i64 H, .slice (some ⟨r2, 0, none⟩) n3 n3] 41 true, .gen (rowE (some ⟨r2, 0, none⟩) r2 n3 n3 24 1 (ivals .u32 (compK ts W n3 gc i)) true), .cells b1 [.int .i64 W, .int .i64 H, .slice (some ⟨r2, 0, none⟩) n3 n3] 41 true, .gen (rdE (A) g o n 14 (dvals TS.cells ts)), .gen (subE n (TS.pxs ts))] rfl rfl (by kernel_rfl) (by kernel_rfl) ?_
  refine cont_forget 0 rfl ?_
  refine cont_done ?_
  refine then_normal ?_
  refine cont_ret ?_
  refine ret_one (.inl rfl) rfl 1 (.agg #[.int .i64 W, .int .i64 H, .slice (some ⟨r2, 0, none⟩) n3 n3]) (by kernel_rfl) (by kernel_rfl) (fun w hT => ?_)
  replace hT := hT.erase 3 (fun e h hw => by cases h; first | rfl | cases hw)
  replace hT := hT.erase 2 (fun e h hw => by cases h; first | rfl | cases hw)
  replace hT := hT.erase 1 (fun e h hw => by cases h; first | rfl | cases hw)
  rw [compK_all _ _ _ (by omega)] at hT
  exact ⟨_, _, rfl, hnum, hT⟩

end Go.Proofs.Ytlfahohbkgdabaa

/- Contracts of functions of the given program, printed by a program of this project. -/
set_option linter.unusedVariables false
set_option linter.unusedSimpArgs false
namespace Go.Proofs.Ytlfahohbkgdabaa
open Go Go.RowKit
set_option maxRecDepth 100000
set_option maxHeartbeats 8000000

theorem refBox17 (a b : Int) (w : World) (ha : -9223372036854775808 ≤ a ∧ a ≤ 9223372036854775807) (hb : -9223372036854775808 ≤ b ∧ b ≤ 9223372036854775807) :
    Calls Try.prog 23 #[.int .i64 a, .int .i64 b] w fun e w' => e = .returned (.agg #[.int .i64 0, .int .i64 0, .int .i64 (1 + aroundI a 16), .int .i64 (1 + aroundI b 16)]) ∧ Below w.heap.size w w' := by
 refine enter 12 [(0, iq a), (1, iq b)] [] Try.func23 rfl Try.ntmps23 rfl (by kernel_rfl) (Tab.start w) ?_
 refine cont_seq ?_
 refine cont_region 1 rfl ?_
 refine batch1 [0] 1 0 (fun b1 => [(0, iq a), (1, iq b), (4, .pointer (pB b1))]) (fun b1 => [.cells b1 [iq 0, iq 0, iq 0, iq 0] 53 true]) rfl rfl [0, 1, 4] (fun _ => rfl) (fun b1 => by kernel_rfl) (fun b1 => by kernel_rfl) (fun b1 => ?_)
 refine cont_done ?_
 refine then_normal ?_
 refine cont_seq ?_
 refine cont_region 8 rfl ?_
 refine bS [0] 1 7 [(1, iq b), (4, .pointer (pB b1)), (5, iq a)] ?_
 refine pl_step 2 6 rfl rfl ?_
 refine call_pure (d := 6) (iq (aroundI a 16)) (by kernel_rfl) (fun w hT => refAround a 16 w (by omega) (by omega)) ?_
 have hq2_ := aroundI_range a (m := 16) (by omega)
 refine bS [0] 3 5 [(1, iq b), (4, .pointer (pB b1)), (7, iq (IntKind.i64.wrap (1 + (aroundI a 16))))] ?_
 refine cont_recast 7 (iq (IntKind.i64.wrap (1 + (aroundI a 16)))) (iq (1 + (aroundI a 16))) rfl (wrapI (by omega) (by omega)) ?_
 refine bS [0] 4 4 [(4, .pointer (pB b1)), (7, iq (1 + (aroundI a 16))), (8, iq b)] ?_
 refine pl_step 5 3 rfl rfl ?_
 refine call_pure (d := 9) (iq (aroundI b 16)) (by kernel_rfl) (fun w hT => refAround b 16 w (by omega) (by omega)) ?_
 have hq3_ := aroundI_range b (m := 16) (by omega)
 refine bS [0] 6 2 [(4, .pointer (pB b1)), (7, iq (1 + (aroundI a 16))), (10, iq (IntKind.i64.wrap (1 + (aroundI b 16))))] ?_
 refine cont_recast 10 (iq (IntKind.i64.wrap (1 + (aroundI b 16)))) (iq (1 + (aroundI b 16))) rfl (wrapI (by omega) (by omega)) ?_
 refine batch0 [0, 0] 8 0 [(4, .pointer (pB b1))] [.cells b1 [iq 0, iq 0, iq (1 + (aroundI a 16)), iq (1 + (aroundI b 16))] 53 true] rfl rfl (by kernel_rfl) (by kernel_rfl) ?_
 refine cont_done ?_
 refine then_normal ?_
 refine cont_ret ?_
 refine ret_one (.inl rfl) rfl 0 (.agg #[iq 0, iq 0, iq (1 + (aroundI a 16)), iq (1 + (aroundI b 16))]) (by kernel_rfl) (by kernel_rfl) (fun w hT => ?_)
 exact ⟨rfl, hT.post rfl⟩

theorem naiveRight (K : Int) (A : Option Addr) (g o n cap : Nat) (its : List IT) (ts : List TS) (m' : Nat) (W' H' : Int) (r' n' cap' : Nat) (px' : List Int) (gc : Int) (w : World) (hT0 : Tab w w [.gen (rdE (A) g o n 14 (dvals IT.cells its)), .gen (subE n (IT.hds 118 its)), .gen (subE n (IT.pxs its)), .ro m' [.int .i64 W', .int .i64 H', .slice (some ⟨r', 0, none⟩) n' cap'] 118, .gen (rdE (some ⟨r', 0, none⟩) r' 0 n' 1 (ivals .u32 px'))]) (hmap : its.map (·.t) = ts) (hts : ∀ t ∈ ts, TS.Ok t) (hn : n ≤ 100) (hok' : ImgOk W' H' n' px') (hcap' : n' ≤ cap') (hgm : mayB gc = true) (hg0 : 0 ≤ gc) (hg1 : gc < 4294967296) :
    Calls Try.prog 28 #[.agg #[.int .i64 K, .slice A n cap], .pointer (some ⟨m', 0, none⟩), .int .u32 gc] w fun e w' => e = .returned (.bool (sameB W' H' (compS ts W' n' gc) W' H' px')) ∧ Below w.heap.size w w' := by
  have hgt := hts
  have hmapS := hmap
  have hw1' := hok'.w1
  have hw2' := hok'.w2
  have hh1' := hok'.h1
  have hh2' := hok'.h2
  refine enter 28 [(0, .agg #[.int .i64 K, .slice A n cap]), (1, .pointer (some ⟨m', 0, none⟩)), (2, .int .u32 gc)] [.gen (rdE (A) g o n 14 (dvals IT.cells its)), .gen (subE n (IT.hds 118 its)), .gen (subE n (IT.pxs its)), .ro m' [.int .i64 W', .int .i64 H', .slice (some ⟨r', 0, none⟩) n' cap'] 118, .gen (rdE (some ⟨r', 0, none⟩) r' 0 n' 1 (ivals .u32 px'))] Try.func28 rfl Try.ntmps28 rfl (by kernel_rfl) hT0 ?_
  refine cont_seq ?_
  refine cont_region 2 rfl ?_
  refine batch1 [0, 0] 2 0 (fun b1 => [(1, .pointer (some ⟨m', 0, none⟩)), (2, .int .u32 gc), (3, .pointer (some ⟨b1, 0, none⟩))]) (fun b1 => [.cells b1 [.int .i64 K, .slice A n cap] 29 true, .gen (rdE (A) g o n 14 (dvals IT.cells its)), .gen (subE n (IT.hds 118 its)), .gen (subE n (IT.pxs its)), .ro m' [.int .i64 W', .int .i64 H', .slice (some ⟨r', 0, none⟩) n' cap'] 118, .gen (rdE (some ⟨r', 0, none⟩) r' 0 n' 1 (ivals .u32 px'))]) rfl rfl [1, 2, 3] (fun _ => rfl) (fun b1 => by kernel_rfl) (fun b1 => by kernel_rfl) (fun b1 => ?_)
  refine cont_done ?_
  refine then_normal ?_
  refine cont_seq ?_
  refine drawn_enter 14 [] rfl (by kernel_rfl) ?_
  refine takes 0 [] [(0, 0), (1, 0), (4, 0), (7, 0)] 10 [7, 4, 1, 0] [(1, .pointer (some ⟨m', 0, none⟩)), (10, .agg #[.int .i64 K, .slice A n cap]), (11, .pointer (some ⟨m', 0, none⟩)), (14, .pointer (some ⟨m', 0, none⟩)), (17, .int .u32 gc)] (by kernel_rfl) (pok_then pok_body) (by kernel_rfl) rfl rfl (by kernel_rfl) (by kernel_rfl) ?_
  refine drawn_one 2 9 rfl (by kernel_rfl) ?_
  refine call_pure (d := 12) (.agg #[.int .i64 0, .int .i64 0, .int .i64 W', .int .i64 H']) (by kernel_rfl) (fun w hT => imgBox m' W' H' r' n' cap' px'  w ⟨hT.ok 4 _ rfl, hT.ok 5 _ rfl, by omega⟩ hok') ?_
  refine drawn_next 0 [] (by kernel_rfl) ?_
  refine takes 0 [] [(3, 0)] 8 [3, 2, 7, 4, 1, 0] [(1, .pointer (some ⟨m', 0, none⟩)), (10, .agg #[.int .i64 K, .slice A n cap]), (13, .int .i64 W'), (14, .pointer (some ⟨m', 0, none⟩)), (17, .int .u32 gc)] (by kernel_rfl) (pok_then pok_body) (by kernel_rfl) rfl rfl (by kernel_rfl) (by kernel_rfl) ?_
  refine drawn_one 5 7 rfl (by kernel_rfl) ?_
  refine call_pure (d := 15) (.agg #[.int .i64 0, .int .i64 0, .int .i64 W', .int .i64 H']) (by kernel_rfl) (fun w hT => imgBox m' W' H' r' n' cap' px'  w ⟨hT.ok 4 _ rfl, hT.ok 5 _ rfl, by omega⟩ hok') ?_
  refine drawn_next 0 [] (by kernel_rfl) ?_
  refine takes 0 [] [(6, 0)] 6 [6, 5, 3, 2, 7, 4, 1, 0] [(1, .pointer (some ⟨m', 0, none⟩)), (10, .agg #[.int .i64 K, .slice A n cap]), (13, .int .i64 W'), (16, .int .i64 H'), (17, .int .u32 gc)] (by kernel_rfl) (pok_then pok_body) (by kernel_rfl) rfl rfl (by kernel_rfl) (by kernel_rfl) ?_
  refine drawn_one 8 5 rfl (by kernel_rfl) ?_
  refine call_gen (d := 18) (α := Nat × Nat × Nat) (fun x_ => .tuple #[.pointer (some ⟨x_.1, 0, none⟩), .int .i64 0]) (fun x_ => [.cells x_.1 [.int .i64 W', .int .i64 H', .slice (some ⟨x_.2.1, 0, none⟩) x_.2.2 x_.2.2] 118 true, .gen (rowE (some ⟨x_.2.1, 0, none⟩) x_.2.1 x_.2.2 x_.2.2 24 1 (ivals .u32 (compS ts W' x_.2.2 gc)) true), .cells b1 [.int .i64 K, .slice A n cap] 29 true, .gen (rdE (A) g o n 14 (dvals IT.cells its)), .gen (subE n (IT.hds 118 its)), .gen (subE n (IT.pxs its)), .ro m' [.int .i64 W', .int .i64 H', .slice (some ⟨r', 0, none⟩) n' cap'] 118, .gen (rdE (some ⟨r', 0, none⟩) r' 0 n' 1 (ivals .u32 px'))]) (fun x_ => (x_.2.2 : Int) = W' * H') (by kernel_rfl) (fun w hT => (naiveCompose K A g o n cap its ts W' H' gc w (hT.view (.cons (i := 1) rfl Vw.rd (.cons (i := 2) rfl Vw.subSub (.cons (i := 3) rfl Vw.subSub .nil))) (by decide)) hmapS hgt (by omega) (by omega) hgm hg0 hg1).mono fun e w' ⟨b_, q_, n_, he_, hn_, hi_⟩ => ⟨(b_, q_, n_), he_, hn_, hT.addImg hi_⟩) ?_
  rintro ⟨cb2, cq2, cn2⟩ hcn2
  replace hcn2 : (cn2 : Int) = W' * H' := hcn2
  refine cont_norm [(1, .pointer (some ⟨m', 0, none⟩)), (10, .agg #[.int .i64 K, .slice A n cap]), (13, .int .i64 W'), (16, .int .i64 H'), (17, .int .u32 gc), (18, .tuple #[.pointer (some ⟨cb2, 0, none⟩), .int .i64 0])] [.cells cb2 [.int .i64 W', .int .i64 H', .slice (some ⟨cq2, 0, none⟩) cn2 cn2] 118 true, .gen (rowE (some ⟨cq2, 0, none⟩) cq2 cn2 cn2 24 1 (ivals .u32 (compS ts W' cn2 gc)) true), .cells b1 [.int .i64 K, .slice A n cap] 29 true, .gen (rdE (A) g o n 14 (dvals IT.cells its)), .gen (subE n (IT.hds 118 its)), .gen (subE n (IT.pxs its)), .ro m' [.int .i64 W', .int .i64 H', .slice (some ⟨r', 0, none⟩) n' cap'] 118, .gen (rdE (some ⟨r', 0, none⟩) r' 0 n' 1 (ivals .u32 px'))] (by kernel_rfl) rfl ?_
  refine drawn_next 2 [] (by kernel_rfl) ?_
  refine takes 2 [] [(9, 0), (10, 0), (11, 0), (12, 0), (13, 0)] 0 [13, 12, 11, 10, 9, 8, 6, 5, 3, 2, 7, 4, 1, 0] [(1, .pointer (some ⟨m', 0, none⟩)), (7, .pointer (some ⟨cb2, 0, none⟩)), (8, .int .i64 0)] (by kernel_rfl) (pok_then pok_body) (by kernel_rfl) rfl rfl (by kernel_rfl) (by kernel_rfl) ?_
  refine drawn_done (by kernel_rfl) ?_
  refine then_normal ?_
  refine cont_seq ?_
  refine cont_region 8 rfl ?_
  refine bS [0, 0, 0, 0, 0] 5 3 [(23, .bool true), (24, .pointer (some ⟨cb2, 0, none⟩)), (25, .pointer (some ⟨m', 0, none⟩))] ?_
  refine cont_forget 2 rfl ?_
  refine pl_step 6 2 rfl rfl ?_
  refine call_pure (d := 26) (.bool (sameB W' H' (compS ts W' cn2 gc) W' H' px')) (by kernel_rfl) (fun w hT => imgSame cb2 W' H' cq2 cn2 cn2 (compS ts W' cn2 gc) m' W' H' r' n' cap' px' w (hT.viewRo (.cons (i := 0) rfl Vw.roc (.cons (i := 1) rfl Vw.rowRd (.cons (i := 5) rfl Vw.ro (.cons (i := 6) rfl Vw.rd .nil)))) rfl) (imgOk_of (by omega) hcn2 (compS_len _ _ _ _) (compS_may hgt ⟨hgm, hg0, hg1⟩)) hok') ?_
  refine bS [0, 0] 8 0 [(6, .bool (sameB W' H' (compS ts W' cn2 gc) W' H' px'))] ?_
  refine cont_forget 0 rfl ?_
  refine cont_done ?_
  refine then_normal ?_
  refine cont_ret ?_
  refine ret_one (.inl rfl) rfl 0 (.bool (sameB W' H' (compS ts W' cn2 gc) W' H' px')) (by kernel_rfl) (by kernel_rfl) (fun w hT => ?_)
  have hnn : cn2 = n' := by have h1_ := hok'.num; omega
  exact ⟨ret_bool (by rw [hnn]), hT.post rfl⟩

end Go.Proofs.Ytlfahohbkgdabaa

/- Contracts of functions of the given program, printed by a program of this project. -/
set_option linter.unusedVariables false
set_option linter.unusedSimpArgs false
namespace Go.Proofs.Ytlfahohbkgdabaa
open Go Go.RowKit
set_option maxRecDepth 100000
set_option maxHeartbeats 8000000

theorem payPixel0 (c : Int) (w : World) :
    Calls Try.prog 51 #[.int .u32 c, .slice none 0 0] w fun e w' => e = .returned (.int .u32 c) ∧ Below w.heap.size w w' := by
 refine enter 18 [(0, .int .u32 c), (1, .slice none 0 0)] [] Try.func51 rfl Try.ntmps51 rfl (by kernel_rfl) (Tab.start w) ?_
 refine cont_seq ?_
 refine cont_region 1 rfl ?_
 refine bS [0] 1 0 [(0, .int .u32 c), (1, .slice none 0 0)] ?_
 refine cont_done ?_
 refine then_normal ?_
 refine cont_seq ?_
 refine cont_seq ?_
 refine cont_region 3 rfl ?_
 refine bS [0, 0, 0] 3 0 [(0, .int .u32 c), (7, .slice none 0 0), (8, iq 0), (9, iq 0)] ?_
 refine cont_done ?_
 refine then_normal ?_
 refine cont_block ?_
 refine cont_rounds 1 ?_
 refine cont_round 1 0 rfl ?_
 refine cont_seq ?_
 refine cont_region 1 rfl ?_
 refine bS [0] 1 0 [(0, .int .u32 c), (7, .slice none 0 0), (8, iq 0), (9, iq 0), (10, .bool false)] ?_
 refine cont_done ?_
 refine then_normal ?_
 refine cont_seq ?_
 refine cont_false rfl ?_
 refine cont_exit ?_
 refine then_exit ?_
 refine then_exit ?_
 refine blk_exit ?_
 refine then_normal ?_
 refine cont_seq ?_
 refine cont_region 2 rfl ?_
 refine bS [0, 0] 2 0 [(4, .int .u32 c)] ?_
 refine cont_done ?_
 refine then_normal ?_
 refine cont_ret ?_
 refine ret_one (.inl rfl) rfl 0 (.int .u32 c) (by kernel_rfl) (by kernel_rfl) (fun w hT => ?_)
 exact ⟨rfl, hT.post rfl⟩

theorem naivePixel0 (w : World) :
    Calls Try.prog 14 #[.agg #[.int .i64 0, .slice none 0 0], .int .i64 3, .int .i64 3, .int .u32 4278190081] w fun e w' => e = .returned (.int .u32 4278190081) ∧ Below w.heap.size w w' := by
 refine enter 39 [(0, .agg #[iq 0, .slice none 0 0]), (1, iq 3), (2, iq 3), (3, .int .u32 4278190081)] [] Try.func14 rfl Try.ntmps14 rfl (by kernel_rfl) (Tab.start w) ?_
 refine cont_seq ?_
 refine cont_region 2 rfl ?_
 refine batch1 [0, 0] 2 0 (fun b1 => [(1, iq 3), (2, iq 3), (3, .int .u32 4278190081), (4, .pointer (pB b1))]) (fun b1 => [.cells b1 [iq 0, .slice none 0 0] 29 true]) rfl rfl [1, 2, 3, 4] (fun _ => rfl) (fun b1 => by kernel_rfl) (fun b1 => by kernel_rfl) (fun b1 => ?_)
 refine cont_done ?_
 refine then_normal ?_
 refine cont_seq ?_
 refine cont_region 1 rfl ?_
 refine bS [0] 1 0 [(1, iq 3), (2, iq 3), (3, .int .u32 4278190081), (4, .pointer (pB b1)), (9, .slice none 0 0)] ?_
 refine cont_done ?_
 refine then_normal ?_
 refine cont_seq ?_
 refine cont_seq ?_
 refine cont_region 4 rfl ?_
 refine bS [0, 0, 0, 0] 4 0 [(1, iq 3), (2, iq 3), (3, .int .u32 4278190081), (9, .slice none 0 0), (15, .slice none 0 0), (16, iq 0), (17, iq 0)] ?_
 refine cont_forget 0 rfl ?_
 refine cont_done ?_
 refine then_normal ?_
 refine cont_block ?_
 refine cont_rounds 1 ?_
 refine cont_round 1 0 rfl ?_
 refine cont_seq ?_
 refine cont_region 1 rfl ?_
 refine bS [0] 1 0 [(1, iq 3), (2, iq 3), (3, .int .u32 4278190081), (9, .slice none 0 0), (15, .slice none 0 0), (16, iq 0), (17, iq 0), (18, .bool false)] ?_
 refine cont_done ?_
 refine then_normal ?_
 refine cont_seq ?_
 refine cont_false rfl ?_
 refine cont_exit ?_
 refine then_exit ?_
 refine then_exit ?_
 refine blk_exit ?_
 refine then_normal ?_
 refine cont_seq ?_
 refine cont_region 4 rfl ?_
 refine bS [0, 0] 2 2 [(36, .int .u32 4278190081), (37, .slice none 0 0)] ?_
 refine pl_step 3 1 rfl rfl ?_
 refine call_pure (d := 38) (.int .u32 4278190081) (by kernel_rfl) (fun w hT => payPixel0 4278190081 w) ?_
 refine bS [0] 4 0 [(8, .int .u32 4278190081)] ?_
 refine cont_done ?_
 refine then_normal ?_
 refine cont_ret ?_
 refine ret_one (.inl rfl) rfl 0 (.int .u32 4278190081) (by kernel_rfl) (by kernel_rfl) (fun w hT => ?_)
 exact ⟨rfl, hT.post rfl⟩

theorem lives19 (w : World) :
    Calls Try.prog 16 #[] w fun e w' => e = .returned (.bool true) ∧ Below w.heap.size w w' := by
 refine enter 4 [] [] Try.func16 rfl Try.ntmps16 rfl (by kernel_rfl) (Tab.start w) ?_
 refine cont_seq ?_
 refine cont_region 1 rfl ?_
 refine bS [0] 1 0 [] ?_
 refine cont_done ?_
 refine then_normal ?_
 refine cont_seq ?_
 refine cont_region 4 rfl ?_
 refine bS [0] 1 3 [(1, .agg #[iq 0, .slice none 0 0])] ?_
 refine pl_step 2 2 rfl rfl ?_
 refine call_pure (d := 2) (.int .u32 4278190081) (by kernel_rfl) (fun w hT => naivePixel0 w) ?_
 refine bS [0, 0] 4 0 [(0, .bool true)] ?_
 refine cont_done ?_
 refine then_normal ?_
 refine cont_ret ?_
 refine ret_one (.inl rfl) rfl 0 (.bool true) (by kernel_rfl) (by kernel_rfl) (fun w hT => ?_)
 exact ⟨ret_bool (by decide +kernel), hT.post rfl⟩

end Go.Proofs.Ytlfahohbkgdabaa

/- Contracts of functions of the given program, printed by a program of this project. -/
set_option linter.unusedVariables false
set_option linter.unusedSimpArgs false
namespace Go.Proofs.Ytlfahohbkgdabaa
open Go Go.RowKit
set_option maxRecDepth 100000
set_option maxHeartbeats 8000000

theorem walkNaiveComposes (A : Option Addr) (g o n cap : Nat) (xs : List V17) (w_ h_ gr at_ cc : Int) (w : World) (hr : Rd w A g o n 16 (dvals V17.cells xs)) (hl : xs.length = n) (hc : n ≤ cap) (hm : cap ≤ maxLen) (hg : ∀ d ∈ xs, V17.Good w d) (hw : -9223372036854775808 ≤ w_ ∧ w_ ≤ 9223372036854775807) (hh : -9223372036854775808 ≤ h_ ∧ h_ ≤ 9223372036854775807) (hgr : 0 ≤ gr ∧ gr < 4294967296) (hat_ : -9223372036854775808 ≤ at_ ∧ at_ ≤ 9223372036854775807) (hcc : 0 ≤ cc ∧ cc < 4294967296) :
    Calls Try.prog 6 #[.slice A n cap, .int .i64 w_, .int .i64 h_, .int .u32 gr, .int .i64 at_, .int .u32 cc] w fun e w' => e = .returned (.bool true) ∧ Below w.heap.size w w' := by
  unfold maxLen at hm
  obtain ⟨hra, _⟩ := Rd.factsD V17.size (by decide) hr
  have hge : ∀ i, i < n → V17.Good w (dget xs i) := fun i hi => hg _ (dget_mem (by omega))
  have hgpv : ∀ d ∈ xs, V17P d := fun d hd => (hg d hd).pure
  refine enter 135 [(0, .slice A n cap), (1, .int .i64 w_), (2, .int .i64 h_), (3, .int .u32 gr), (4, .int .i64 at_), (5, .int .u32 cc)] [.gen (rdE (A) g o n 16 (dvals V17.cells xs)), .gen (subE n (fun i_ => rdE ((dget xs i_).A3) (dget xs i_).g3 (dget xs i_).o3 (dget xs i_).m3 1 (ivals .u32 (dget xs i_).x3))), .gen (subE n (fun i_ => rdE ((dget xs i_).A14) (dget xs i_).g14 (dget xs i_).o14 (dget xs i_).m14 1 (ivals .u32 (dget xs i_).x14))), .gen (subE n (fun i_ => rdE ((dget xs i_).A15) (dget xs i_).g15 (dget xs i_).o15 (dget xs i_).m15 4 (rvals (dget xs i_).x15)))] Try.func6 rfl Try.ntmps6 rfl (by kernel_rfl) (Tab.olds (fun i_ e_ he_ => by
    match i_, he_ with
    | 0, he_ => cases he_; exact ⟨hr, rfl, rfl⟩
    | 1, he_ => cases he_; exact ⟨fun i_ hi_ => (hge i_ hi_).r3, rfl, rfl⟩
    | 2, he_ => cases he_; exact ⟨fun i_ hi_ => (hge i_ hi_).r14, rfl, rfl⟩
    | 3, he_ => cases he_; exact ⟨fun i_ hi_ => (hge i_ hi_).r15, rfl, rfl⟩
    | _ + 4, he_ => cases he_)) ?_
  refine cont_seq ?_
  refine cont_region 1 rfl ?_
  refine bS [0] 1 0 [(0, .slice A n cap), (1, .int .i64 w_), (2, .int .i64 h_), (3, .int .u32 gr), (4, .int .i64 at_), (5, .int .u32 cc)] ?_
  refine cont_done ?_
  refine then_normal ?_
  refine cont_seq ?_
  refine cont_region 3 rfl ?_
  refine bS [0] 1 2 [(1, .int .i64 w_), (2, .int .i64 h_), (3, .int .u32 gr), (4, .int .i64 at_), (5, .int .u32 cc), (27, .slice A n cap)] ?_
  refine pl_step 2 1 rfl rfl ?_
  refine call_gen (d := 28) (α := Option Addr × Nat × Nat × Nat × List TS) (fun x_ => .slice x_.1 x_.2.2.1 x_.2.2.2.1) (fun x_ => [.gen (bunO x_.2.2.1 (TS.pxs x_.2.2.2.2)), .gen (bunO x_.2.2.1 (TS.ops x_.2.2.2.2)), .gen (rowE (x_.1) x_.2.1 x_.2.2.1 x_.2.2.2.1 60 14 (dvals TS.cells x_.2.2.2.2) true), .gen (rdE (A) g o n 16 (dvals V17.cells xs)), .gen (subE n (fun i_ => rdE ((dget xs i_).A3) (dget xs i_).g3 (dget xs i_).o3 (dget xs i_).m3 1 (ivals .u32 (dget xs i_).x3))), .gen (subE n (fun i_ => rdE ((dget xs i_).A14) (dget xs i_).g14 (dget xs i_).o14 (dget xs i_).m14 1 (ivals .u32 (dget xs i_).x14))), .gen (subE n (fun i_ => rdE ((dget xs i_).A15) (dget xs i_).g15 (dget xs i_).o15 (dget xs i_).m15 4 (rvals (dget xs i_).x15)))]) (fun x_ => x_.2.2.1 ≤ 5 ∧ ∀ t ∈ x_.2.2.2.2, TS.Ok t) (by kernel_rfl) (fun w hT => (refGood17 A g o n cap xs w (hT.viewRo (.cons (i := 0) rfl Vw.rd (.cons (i := 1) rfl Vw.subSub (.cons (i := 2) rfl Vw.subSub (.cons (i := 3) rfl Vw.subSub .nil)))) rfl) hgpv).mono fun e w' ⟨A1, g2, k3, cp4, ts5, he_, hf_, ht_⟩ => ⟨(A1, g2, k3, cp4, ts5), he_, hf_, hT.news ht_ rfl⟩) ?_
  rintro ⟨A1, g2, k3, cp4, ts5⟩ hf6_
  replace hf6_ : k3 ≤ 5 ∧ ∀ t ∈ ts5, TS.Ok t := hf6_
  refine cont_norm [(1, .int .i64 w_), (2, .int .i64 h_), (3, .int .u32 gr), (4, .int .i64 at_), (5, .int .u32 cc), (27, .slice A n cap), (28, .slice A1 k3 cp4)] [.gen (bunO k3 (TS.pxs ts5)), .gen (bunO k3 (TS.ops ts5)), .gen (rowE (A1) g2 k3 cp4 60 14 (dvals TS.cells ts5) true), .gen (rdE (A) g o n 16 (dvals V17.cells xs)), .gen (subE n (fun i_ => rdE ((dget xs i_).A3) (dget xs i_).g3 (dget xs i_).o3 (dget xs i_).m3 1 (ivals .u32 (dget xs i_).x3))), .gen (subE n (fun i_ => rdE ((dget xs i_).A14) (dget xs i_).g14 (dget xs i_).o14 (dget xs i_).m14 1 (ivals .u32 (dget xs i_).x14))), .gen (subE n (fun i_ => rdE ((dget xs i_).A15) (dget xs i_).g15 (dget xs i_).o15 (dget xs i_).m15 4 (rvals (dget xs i_).x15)))] (by kernel_rfl) rfl ?_
  refine cont_fact (F := (0 < k3 → (A1 : Option Addr) = some ⟨g2, 0, none⟩) ∧ ts5.length = k3 ∧ k3 ≤ cp4 ∧ cp4 ≤ maxLen) (fun w hT => Row.factsD TS.size (by decide) (hT.ok 2 _ rfl)) (fun hr7_ => ?_)
  obtain ⟨hr7_a, hr7_l, hr7_c, hr7_m⟩ := hr7_
  unfold maxLen at hr7_m
  obtain ⟨hgl, hgt⟩ := hf6_
  refine bS [0] 3 0 [(1, .int .i64 w_), (2, .int .i64 h_), (3, .int .u32 gr), (4, .int .i64 at_), (5, .int .u32 cc), (13, .slice A1 k3 cp4)] ?_
  refine cont_done ?_
  refine then_normal ?_
  refine cont_seq ?_
  refine cont_region 8 rfl ?_
  refine bS [0] 1 7 [(1, .int .i64 w_), (2, .int .i64 h_), (3, .int .u32 gr), (4, .int .i64 at_), (5, .int .u32 cc), (13, .slice A1 k3 cp4), (30, .slice A1 k3 cp4)] ?_
  refine pl_step 2 6 rfl rfl ?_
  refine call_gen (d := 31) (α := Option Addr × Nat × Nat × List IT) (fun x_ => .tuple #[.agg #[.int .i64 0, .slice x_.1 k3 x_.2.2.1], .bool true]) (fun x_ => [.gen (bunO k3 (IT.pxs x_.2.2.2)), .gen (bunO k3 (IT.hds 118 x_.2.2.2)), .gen (rowE (x_.1) x_.2.1 k3 x_.2.2.1 103 14 (dvals IT.cells x_.2.2.2) true), .gen (bunO k3 (TS.pxs ts5)), .gen (bunO k3 (TS.ops ts5)), .gen (rowE (A1) g2 k3 cp4 60 14 (dvals TS.cells ts5) true), .gen (rdE (A) g o n 16 (dvals V17.cells xs)), .gen (subE n (fun i_ => rdE ((dget xs i_).A3) (dget xs i_).g3 (dget xs i_).o3 (dget xs i_).m3 1 (ivals .u32 (dget xs i_).x3))), .gen (subE n (fun i_ => rdE ((dget xs i_).A14) (dget xs i_).g14 (dget xs i_).o14 (dget xs i_).m14 1 (ivals .u32 (dget xs i_).x14))), .gen (subE n (fun i_ => rdE ((dget xs i_).A15) (dget xs i_).g15 (dget xs i_).o15 (dget xs i_).m15 4 (rvals (dget xs i_).x15)))]) (fun x_ => x_.2.2.2.map (·.t) = ts5) (by kernel_rfl) (fun w hT => (shot A1 g2 0 k3 cp4 ts5 w (hT.viewRo (.cons (i := 2) rfl Vw.rowRd (.cons (i := 0) rfl Vw.bunSub .nil)) rfl) hgt (by omega)).mono fun e w' ⟨A8, g9, cp10, its11, he_, hf_, ht_⟩ => ⟨(A8, g9, cp10, its11), he_, hf_, hT.news ht_ rfl⟩) ?_
  rintro ⟨A8, g9, cp10, its11⟩ hf12_
  replace hf12_ : its11.map (·.t) = ts5 := hf12_
  refine cont_norm [(1, .int .i64 w_), (2, .int .i64 h_), (3, .int .u32 gr), (4, .int .i64 at_), (5, .int .u32 cc), (13, .slice A1 k3 cp4), (30, .slice A1 k3 cp4), (31, .tuple #[.agg #[.int .i64 0, .slice A8 k3 cp10], .bool true])] [.gen (bunO k3 (IT.pxs its11)), .gen (bunO k3 (IT.hds 118 its11)), .gen (rowE (A8) g9 k3 cp10 103 14 (dvals IT.cells its11) true), .gen (bunO k3 (TS.pxs ts5)), .gen (bunO k3 (TS.ops ts5)), .gen (rowE (A1) g2 k3 cp4 60 14 (dvals TS.cells ts5) true), .gen (rdE (A) g o n 16 (dvals V17.cells xs)), .gen (subE n (fun i_ => rdE ((dget xs i_).A3) (dget xs i_).g3 (dget xs i_).o3 (dget xs i_).m3 1 (ivals .u32 (dget xs i_).x3))), .gen (subE n (fun i_ => rdE ((dget xs i_).A14) (dget xs i_).g14 (dget xs i_).o14 (dget xs i_).m14 1 (ivals .u32 (dget xs i_).x14))), .gen (subE n (fun i_ => rdE ((dget xs i_).A15) (dget xs i_).g15 (dget xs i_).o15 (dget xs i_).m15 4 (rvals (dget xs i_).x15)))] (by kernel_rfl) rfl ?_
  refine cont_fact (F := (0 < k3 → (A8 : Option Addr) = some ⟨g9, 0, none⟩) ∧ its11.length = k3 ∧ k3 ≤ cp10 ∧ cp10 ≤ maxLen) (fun w hT => Row.factsD IT.size (by decide) (hT.ok 2 _ rfl)) (fun hr13_ => ?_)
  obtain ⟨hr13_a, hr13_l, hr13_c, hr13_m⟩ := hr13_
  unfold maxLen at hr13_m
  have hmapS := hf12_
  refine batch1 [0, 0, 0, 0, 0, 0] 8 0 (fun b14 => [(1, .int .i64 w_), (2, .int .i64 h_), (3, .int .u32 gr), (4, .int .i64 at_), (5, .int .u32 cc), (13, .slice A1 k3 cp4), (14, .pointer (some ⟨b14, 0, none⟩)), (15, .bool true)]) (fun b14 => [.cells b14 [.int .i64 0, .slice A8 k3 cp10] 29 true, .gen (bunO k3 (IT.pxs its11)), .gen (bunO k3 (IT.hds 118 its11)), .gen (rowE (A8) g9 k3 cp10 103 14 (dvals IT.cells its11) true), .gen (bunO k3 (TS.pxs ts5)), .gen (bunO k3 (TS.ops ts5)), .gen (rowE (A1) g2 k3 cp4 60 14 (dvals TS.cells ts5) true), .gen (rdE (A) g o n 16 (dvals V17.cells xs)), .gen (subE n (fun i_ => rdE ((dget xs i_).A3) (dget xs i_).g3 (dget xs i_).o3 (dget xs i_).m3 1 (ivals .u32 (dget xs i_).x3))), .gen (subE n (fun i_ => rdE ((dget xs i_).A14) (dget xs i_).g14 (dget xs i_).o14 (dget xs i_).m14 1 (ivals .u32 (dget xs i_).x14))), .gen (subE n (fun i_ => rdE ((dget xs i_).A15) (dget xs i_).g15 (dget xs i_).o15 (dget xs i_).m15 4 (rvals (dget xs i_).x15)))]) rfl rfl [1, 2, 3, 4, 5, 13, 14, 15] (fun _ => rfl) (fun b14 => by kernel_rfl) (fun b14 => by kernel_rfl) (fun b14 => ?_)
  refine cont_done ?_
  refine then_normal ?_
  refine cont_seq ?_
  refine cont_seq ?_
  refine cont_region 2 rfl ?_
  refine bS [0, 0] 2 0 [(1, .int .i64 w_), (2, .int .i64 h_), (3, .int .u32 gr), (4, .int .i64 at_), (5, .int .u32 cc), (13, .slice A1 k3 cp4), (14, .pointer (some ⟨b14, 0, none⟩)), (35, .bool false)] ?_
  refine cont_done ?_
  refine then_normal ?_
  refine cont_false rfl ?_
  refine cont_skip ?_
  refine then_normal ?_
  refine cont_seq ?_
  refine cont_region 3 rfl ?_
  refine bS [0] 1 2 [(1, .int .i64 w_), (2, .int .i64 h_), (4, .int .i64 at_), (5, .int .u32 cc), (13, .slice A1 k3 cp4), (14, .pointer (some ⟨b14, 0, none⟩)), (36, .int .u32 gr)] ?_
  refine pl_step 2 1 rfl rfl ?_
  refine call_pure (d := 37) (.int .u32 (goodC gr)) (by kernel_rfl) (fun w hT => refGood3 gr w (by omega) (by omega)) ?_
  refine bS [0] 3 0 [(1, .int .i64 w_), (2, .int .i64 h_), (4, .int .i64 at_), (5, .int .u32 cc), (13, .slice A1 k3 cp4), (14, .pointer (some ⟨b14, 0, none⟩)), (16, .int .u32 (goodC gr))] ?_
  refine cont_done ?_
  refine then_normal ?_
  refine cont_seq ?_
  refine cont_region 5 rfl ?_
  refine bS [0, 0] 2 3 [(4, .int .i64 at_), (5, .int .u32 cc), (13, .slice A1 k3 cp4), (14, .pointer (some ⟨b14, 0, none⟩)), (16, .int .u32 (goodC gr)), (38, .int .i64 w_), (39, .int .i64 h_)] ?_
  refine pl_step 3 2 rfl rfl ?_
  refine call_pure (d := 40) (.agg #[.int .i64 0, .int .i64 0, .int .i64 (1 + aroundI w_ 16), .int .i64 (1 + aroundI h_ 16)]) (by kernel_rfl) (fun w hT => refBox17 w_ h_ w (by omega) (by omega)) ?_
  have hq15_ := aroundI_range w_ (m := 16) (by omega)
  have hq16_ := aroundI_range h_ (m := 16) (by omega)
  refine batch1 [0, 0] 5 0 (fun b17 => [(4, .int .i64 at_), (5, .int .u32 cc), (13, .slice A1 k3 cp4), (14, .pointer (some ⟨b14, 0, none⟩)), (16, .int .u32 (goodC gr)), (17, .pointer (some ⟨b17, 0, none⟩))]) (fun b17 => [.cells b17 [.int .i64 0, .int .i64 0, .int .i64 (1 + aroundI w_ 16), .int .i64 (1 + aroundI h_ 16)] 53 true, .cells b14 [.int .i64 0, .slice A8 k3 cp10] 29 true, .gen (bunO k3 (IT.pxs its11)), .gen (bunO k3 (IT.hds 118 its11)), .gen (rowE (A8) g9 k3 cp10 103 14 (dvals IT.cells its11) true), .gen (bunO k3 (TS.pxs ts5)), .gen (bunO k3 (TS.ops ts5)), .gen (rowE (A1) g2 k3 cp4 60 14 (dvals TS.cells ts5) true), .gen (rdE (A) g o n 16 (dvals V17.cells xs)), .gen (subE n (fun i_ => rdE ((dget xs i_).A3) (dget xs i_).g3 (dget xs i_).o3 (dget xs i_).m3 1 (ivals .u32 (dget xs i_).x3))), .gen (subE n (fun i_ => rdE ((dget xs i_).A14) (dget xs i_).g14 (dget xs i_).o14 (dget xs i_).m14 1 (ivals .u32 (dget xs i_).x14))), .gen (subE n (fun i_ => rdE ((dget xs i_).A15) (dget xs i_).g15 (dget xs i_).o15 (dget xs i_).m15 4 (rvals (dget xs i_).x15)))]) rfl rfl [4, 5, 13, 14, 16, 17] (fun _ => rfl) (fun b17 => by kernel_rfl) (fun b17 => by kernel_rfl) (fun b17 => ?_)
  refine cont_done ?_
  refine then_normal ?_
  refine cont_seq ?_
  refine cont_region 12 rfl ?_
  obtain ⟨hgm9, hg09, hg19⟩ := goodC_may gr hgr
  refine bS [1, 0, 0, 0, 0, 0] 6 6 [(4, .int .i64 at_), (5, .int .u32 cc), (13, .slice A1 k3 cp4), (14, .pointer (some ⟨b14, 0, none⟩)), (16, .int .u32 (goodC gr)), (17, .pointer (some ⟨b17, 0, none⟩)), (42, .agg #[.int .i64 0, .slice A8 k3 cp10]), (44, .int .i64 (1 + aroundI w_ 16)), (46, .int .i64 (1 + aroundI h_ 16)), (47, .int .u32 (goodC gr))] ?_
  refine pl_step 7 5 rfl rfl ?_
  refine call_gen (d := 48) (α := Nat × Nat × Nat) (fun x_ => .tuple #[.pointer (some ⟨x_.1, 0, none⟩), .int .i64 0]) (fun x_ => [.cells x_.1 [.int .i64 (1 + aroundI w_ 16), .int .i64 (1 + aroundI h_ 16), .slice (some ⟨x_.2.1, 0, none⟩) x_.2.2 x_.2.2] 118 true, .gen (rowE (some ⟨x_.2.1, 0, none⟩) x_.2.1 x_.2.2 x_.2.2 24 1 (ivals .u32 (compS ts5 (1 + aroundI w_ 16) x_.2.2 (goodC gr))) true), .cells b17 [.int .i64 0, .int .i64 0, .int .i64 (1 + aroundI w_ 16), .int .i64 (1 + aroundI h_ 16)] 53 true, .cells b14 [.int .i64 0, .slice A8 k3 cp10] 29 true, .gen (bunO k3 (IT.pxs its11)), .gen (bunO k3 (IT.hds 118 its11)), .gen (rowE (A8) g9 k3 cp10 103 14 (dvals IT.cells its11) true), .gen (bunO k3 (TS.pxs ts5)), .gen (bunO k3 (TS.ops ts5)), .gen (rowE (A1) g2 k3 cp4 60 14 (dvals TS.cells ts5) true), .gen (rdE (A) g o n 16 (dvals V17.cells xs)), .gen (subE n (fun i_ => rdE ((dget xs i_).A3) (dget xs i_).g3 (dget xs i_).o3 (dget xs i_).m3 1 (ivals .u32 (dget xs i_).x3))), .gen (subE n (fun i_ => rdE ((dget xs i_).A14) (dget xs i_).g14 (dget xs i_).o14 (dget xs i_).m14 1 (ivals .u32 (dget xs i_).x14))), .gen (subE n (fun i_ => rdE ((dget xs i_).A15) (dget xs i_).g15 (dget xs i_).o15 (dget xs i_).m15 4 (rvals (dget xs i_).x15)))]) (fun x_ => (x_.2.2 : Int) = (1 + aroundI w_ 16) * (1 + aroundI h_ 16)) (by kernel_rfl) (fun w hT => (naiveCompose 0 A8 g9 0 k3 cp10 its11 ts5 (1 + aroundI w_ 16) (1 + aroundI h_ 16) (goodC gr) w (hT.view (.cons (i := 4) rfl Vw.rowRd (.cons (i := 3) rfl Vw.bunSub (.cons (i := 2) rfl Vw.bunSub .nil))) (by decide)) hmapS hgt (by omega) (by omega) hgm9 hg09 hg19).mono fun e w' ⟨b_, q_, n_, he_, hn_, hi_⟩ => ⟨(b_, q_, n_), he_, hn_, hT.addImg hi_⟩) ?_
  rintro ⟨cb18, cq18, cn18⟩ hcn18
  replace hcn18 : (cn18 : Int) = (1 + aroundI w_ 16) * (1 + aroundI h_ 16) := hcn18
  refine cont_norm [(4, .int .i64 at_), (5, .int .u32 cc), (13, .slice A1 k3 cp4), (14, .pointer (some ⟨b14, 0, none⟩)), (16, .int .u32 (goodC gr)), (17, .pointer (some ⟨b17, 0, none⟩)), (42, .agg #[.int .i64 0, .slice A8 k3 cp10]), (44, .int .i64 (1 + aroundI w_ 16)), (46, .int .i64 (1 + aroundI h_ 16)), (47, .int .u32 (goodC gr)), (48, .tuple #[.pointer (some ⟨cb18, 0, none⟩), .int .i64 0])] [.cells cb18 [.int .i64 (1 + aroundI w_ 16), .int .i64 (1 + aroundI h_ 16), .slice (some ⟨cq18, 0, none⟩) cn18 cn18] 118 true, .gen (rowE (some ⟨cq18, 0, none⟩) cq18 cn18 cn18 24 1 (ivals .u32 (compS ts5 (1 + aroundI w_ 16) cn18 (goodC gr))) true), .cells b17 [.int .i64 0, .int .i64 0, .int .i64 (1 + aroundI w_ 16), .int .i64 (1 + aroundI h_ 16)] 53 true, .cells b14 [.int .i64 0, .slice A8 k3 cp10] 29 true, .gen (bunO k3 (IT.pxs its11)), .gen (bunO k3 (IT.hds 118 its11)), .gen (rowE (A8) g9 k3 cp10 103 14 (dvals IT.cells its11) true), .gen (bunO k3 (TS.pxs ts5)), .gen (bunO k3 (TS.ops ts5)), .gen (rowE (A1) g2 k3 cp4 60 14 (dvals TS.cells ts5) true), .gen (rdE (A) g o n 16 (dvals V17.cells xs)), .gen (subE n (fun i_ => rdE ((dget xs i_).A3) (dget xs i_).g3 (dget xs i_).o3 (dget xs i_).m3 1 (ivals .u32 (dget xs i_).x3))), .gen (subE n (fun i_ => rdE ((dget xs i_).A14) (dget xs i_).g14 (dget xs i_).o14 (dget xs i_).m14 1 (ivals .u32 (dget xs i_).x14))), .gen (subE n (fun i_ => rdE ((dget xs i_).A15) (dget xs i_).g15 (dget xs i_).o15 (dget xs i_).m15 4 (rvals (dget xs i_).x15)))] (by kernel_rfl) rfl ?_
  refine bS [0, 0, 0, 0, 0] 12 0 [(4, .int .i64 at_), (5, .int .u32 cc), (13, .slice A1 k3 cp4), (14, .pointer (some ⟨b14, 0, none⟩)), (16, .int .u32 (goodC gr)), (17, .pointer (some ⟨b17, 0, none⟩)), (18, .pointer (some ⟨cb18, 0, none⟩)), (19, .int .i64 0)] ?_
  refine cont_done ?_
  refine then_normal ?_
  refine cont_seq ?_
  refine cont_seq ?_
  refine cont_region 6 rfl ?_
  refine bS [0, 0, 0, 0, 0, 0] 6 0 [(4, .int .i64 at_), (5, .int .u32 cc), (13, .slice A1 k3 cp4), (14, .pointer (some ⟨b14, 0, none⟩)), (16, .int .u32 (goodC gr)), (17, .pointer (some ⟨b17, 0, none⟩)), (18, .pointer (some ⟨cb18, 0, none⟩)), (56, .bool false)] ?_
  refine cont_done ?_
  refine then_normal ?_
  refine cont_false rfl ?_
  refine cont_skip ?_
  refine then_normal ?_
  refine cont_seq ?_
  refine cont_region 9 rfl ?_
  refine bS [0, 0, 2, 0, 2, 0] 6 3 [(4, .int .i64 at_), (5, .int .u32 cc), (14, .pointer (some ⟨b14, 0, none⟩)), (16, .int .u32 (goodC gr)), (18, .pointer (some ⟨cb18, 0, none⟩)), (57, .slice A1 k3 cp4), (59, .int .i64 (1 + aroundI w_ 16)), (61, .int .i64 (1 + aroundI h_ 16)), (62, .int .u32 (goodC gr))] ?_
  refine cont_forget 2 rfl ?_
  refine pl_step 7 2 rfl rfl ?_
  refine call_gen (d := 63) (α := Nat × Nat) (fun x_ => .agg #[.int .i64 (1 + aroundI w_ 16), .int .i64 (1 + aroundI h_ 16), .slice (some ⟨x_.1, 0, none⟩) x_.2 x_.2]) (fun x_ => [.gen (rowE (some ⟨x_.1, 0, none⟩) x_.1 x_.2 x_.2 24 1 (ivals .u32 (compS ts5 (1 + aroundI w_ 16) x_.2 (goodC gr))) true), .cells cb18 [.int .i64 (1 + aroundI w_ 16), .int .i64 (1 + aroundI h_ 16), .slice (some ⟨cq18, 0, none⟩) cn18 cn18] 118 true, .gen (rowE (some ⟨cq18, 0, none⟩) cq18 cn18 cn18 24 1 (ivals .u32 (compS ts5 (1 + aroundI w_ 16) cn18 (goodC gr))) true), .cells b14 [.int .i64 0, .slice A8 k3 cp10] 29 true, .gen (bunO k3 (IT.pxs its11)), .gen (bunO k3 (IT.hds 118 its11)), .gen (rowE (A8) g9 k3 cp10 103 14 (dvals IT.cells its11) true), .gen (bunO k3 (TS.pxs ts5)), .gen (bunO k3 (TS.ops ts5)), .gen (rowE (A1) g2 k3 cp4 60 14 (dvals TS.cells ts5) true), .gen (rdE (A) g o n 16 (dvals V17.cells xs)), .gen (subE n (fun i_ => rdE ((dget xs i_).A3) (dget xs i_).g3 (dget xs i_).o3 (dget xs i_).m3 1 (ivals .u32 (dget xs i_).x3))), .gen (subE n (fun i_ => rdE ((dget xs i_).A14) (dget xs i_).g14 (dget xs i_).o14 (dget xs i_).m14 1 (ivals .u32 (dget xs i_).x14))), .gen (subE n (fun i_ => rdE ((dget xs i_).A15) (dget xs i_).g15 (dget xs i_).o15 (dget xs i_).m15 4 (rvals (dget xs i_).x15)))]) (fun x_ => (x_.2 : Int) = (1 + aroundI w_ 16) * (1 + aroundI h_ 16)) (by kernel_rfl) (fun w hT => (refCompose A1 g2 0 k3 cp4 ts5 (1 + aroundI w_ 16) (1 + aroundI h_ 16) (goodC gr) w (hT.viewRo (.cons (i := 8) rfl Vw.rowRd (.cons (i := 6) rfl Vw.bunSub .nil)) rfl) hgt (by omega) (by omega) hgm9 hg09 hg19).mono fun e w' ⟨r19, n20, he_, hf_, ht_⟩ => ⟨(r19, n20), he_, hf_, hT.news ht_ rfl⟩) ?_
  rintro ⟨r19, n20⟩ hf21_
  replace hf21_ : (n20 : Int) = (1 + aroundI w_ 16) * (1 + aroundI h_ 16) := hf21_
  refine cont_norm [(4, .int .i64 at_), (5, .int .u32 cc), (14, .pointer (some ⟨b14, 0, none⟩)), (16, .int .u32 (goodC gr)), (18, .pointer (some ⟨cb18, 0, none⟩)), (57, .slice A1 k3 cp4), (59, .int .i64 (1 + aroundI w_ 16)), (61, .int .i64 (1 + aroundI h_ 16)), (62, .int .u32 (goodC gr)), (63, .agg #[.int .i64 (1 + aroundI w_ 16), .int .i64 (1 + aroundI h_ 16), .slice (some ⟨r19, 0, none⟩) n20 n20])] [.gen (rowE (some ⟨r19, 0, none⟩) r19 n20 n20 24 1 (ivals .u32 (compS ts5 (1 + aroundI w_ 16) n20 (goodC gr))) true), .cells cb18 [.int .i64 (1 + aroundI w_ 16), .int .i64 (1 + aroundI h_ 16), .slice (some ⟨cq18, 0, none⟩) cn18 cn18] 118 true, .gen (rowE (some ⟨cq18, 0, none⟩) cq18 cn18 cn18 24 1 (ivals .u32 (compS ts5 (1 + aroundI w_ 16) cn18 (goodC gr))) true), .cells b14 [.int .i64 0, .slice A8 k3 cp10] 29 true, .gen (bunO k3 (IT.pxs its11)), .gen (bunO k3 (IT.hds 118 its11)), .gen (rowE (A8) g9 k3 cp10 103 14 (dvals IT.cells its11) true), .gen (bunO k3 (TS.pxs ts5)), .gen (bunO k3 (TS.ops ts5)), .gen (rowE (A1) g2 k3 cp4 60 14 (dvals TS.cells ts5) true), .gen (rdE (A) g o n 16 (dvals V17.cells xs)), .gen (subE n (fun i_ => rdE ((dget xs i_).A3) (dget xs i_).g3 (dget xs i_).o3 (dget xs i_).m3 1 (ivals .u32 (dget xs i_).x3))), .gen (subE n (fun i_ => rdE ((dget xs i_).A14) (dget xs i_).g14 (dget xs i_).o14 (dget xs i_).m14 1 (ivals .u32 (dget xs i_).x14))), .gen (subE n (fun i_ => rdE ((dget xs i_).A15) (dget xs i_).g15 (dget xs i_).o15 (dget xs i_).m15 4 (rvals (dget xs i_).x15)))] (by kernel_rfl) rfl ?_
  have hnn9 : n20 = cn18 := by omega
  refine cont_rowEq (k := .u32) 0 (compS ts5 (1 + aroundI w_ 16) n20 (goodC gr)) (compS ts5 (1 + aroundI w_ 16) cn18 (goodC gr)) rfl (by rw [hnn9]) ?_
  refine cont_norm [(4, .int .i64 at_), (5, .int .u32 cc), (14, .pointer (some ⟨b14, 0, none⟩)), (16, .int .u32 (goodC gr)), (18, .pointer (some ⟨cb18, 0, none⟩)), (57, .slice A1 k3 cp4), (59, .int .i64 (1 + aroundI w_ 16)), (61, .int .i64 (1 + aroundI h_ 16)), (62, .int .u32 (goodC gr)), (63, .agg #[.int .i64 (1 + aroundI w_ 16), .int .i64 (1 + aroundI h_ 16), .slice (some ⟨r19, 0, none⟩) n20 n20])] [.gen (rowE (some ⟨r19, 0, none⟩) r19 n20 n20 24 1 (ivals .u32 (compS ts5 (1 + aroundI w_ 16) cn18 (goodC gr))) true), .cells cb18 [.int .i64 (1 + aroundI w_ 16), .int .i64 (1 + aroundI h_ 16), .slice (some ⟨cq18, 0, none⟩) cn18 cn18] 118 true, .gen (rowE (some ⟨cq18, 0, none⟩) cq18 cn18 cn18 24 1 (ivals .u32 (compS ts5 (1 + aroundI w_ 16) cn18 (goodC gr))) true), .cells b14 [.int .i64 0, .slice A8 k3 cp10] 29 true, .gen (bunO k3 (IT.pxs its11)), .gen (bunO k3 (IT.hds 118 its11)), .gen (rowE (A8) g9 k3 cp10 103 14 (dvals IT.cells its11) true), .gen (bunO k3 (TS.pxs ts5)), .gen (bunO k3 (TS.ops ts5)), .gen (rowE (A1) g2 k3 cp4 60 14 (dvals TS.cells ts5) true), .gen (rdE (A) g o n 16 (dvals V17.cells xs)), .gen (subE n (fun i_ => rdE ((dget xs i_).A3) (dget xs i_).g3 (dget xs i_).o3 (dget xs i_).m3 1 (ivals .u32 (dget xs i_).x3))), .gen (subE n (fun i_ => rdE ((dget xs i_).A14) (dget xs i_).g14 (dget xs i_).o14 (dget xs i_).m14 1 (ivals .u32 (dget xs i_).x14))), .gen (subE n (fun i_ => rdE ((dget xs i_).A15) (dget xs i_).g15 (dget xs i_).o15 (dget xs i_).m15 4 (rvals (dget xs i_).x15)))] (by kernel_rfl) rfl ?_
  have hcle := (imgOk_of (W := (1 + aroundI w_ 16)) (H := (1 + aroundI h_ 16)) (by omega) hcn18 (compS_len ts5 (1 + aroundI w_ 16) cn18 (goodC gr)) (compS_may hgt ⟨hgm9, hg09, hg19⟩)).le
  refine batch1 [0, 0] 9 0 (fun b22 => [(4, .int .i64 at_), (5, .int .u32 cc), (14, .pointer (some ⟨b14, 0, none⟩)), (16, .int .u32 (goodC gr)), (18, .pointer (some ⟨cb18, 0, none⟩)), (20, .pointer (some ⟨b22, 0, none⟩))]) (fun b22 => [.cells b22 [.int .i64 (1 + aroundI w_ 16), .int .i64 (1 + aroundI h_ 16), .slice (some ⟨r19, 0, none⟩) n20 n20] 41 true, .gen (rowE (some ⟨r19, 0, none⟩) r19 n20 n20 24 1 (ivals .u32 (compS ts5 (1 + aroundI w_ 16) cn18 (goodC gr))) true), .cells cb18 [.int .i64 (1 + aroundI w_ 16), .int .i64 (1 + aroundI h_ 16), .slice (some ⟨cq18, 0, none⟩) cn18 cn18] 118 true, .gen (rowE (some ⟨cq18, 0, none⟩) cq18 cn18 cn18 24 1 (ivals .u32 (compS ts5 (1 + aroundI w_ 16) cn18 (goodC gr))) true), .cells b14 [.int .i64 0, .slice A8 k3 cp10] 29 true, .gen (bunO k3 (IT.pxs its11)), .gen (bunO k3 (IT.hds 118 its11)), .gen (rowE (A8) g9 k3 cp10 103 14 (dvals IT.cells its11) true), .gen (bunO k3 (TS.pxs ts5)), .gen (bunO k3 (TS.ops ts5)), .gen (rowE (A1) g2 k3 cp4 60 14 (dvals TS.cells ts5) true), .gen (rdE (A) g o n 16 (dvals V17.cells xs)), .gen (subE n (fun i_ => rdE ((dget xs i_).A3) (dget xs i_).g3 (dget xs i_).o3 (dget xs i_).m3 1 (ivals .u32 (dget xs i_).x3))), .gen (subE n (fun i_ => rdE ((dget xs i_).A14) (dget xs i_).g14 (dget xs i_).o14 (dget xs i_).m14 1 (ivals .u32 (dget xs i_).x14))), .gen (subE n (fun i_ => rdE ((dget xs i_).A15) (dget xs i_).g15 (dget xs i_).o15 (dget xs i_).m15 4 (rvals (dget xs i_).x15)))]) rfl rfl [4, 5, 14, 16, 18, 20] (fun _ => rfl) (fun b22 => by kernel_rfl) (fun b22 => by kernel_rfl) (fun b22 => ?_)
  refine cont_done ?_
  refine then_normal ?_
  refine cont_seq ?_
  refine cont_seq ?_
  refine cont_region 1 rfl ?_
  refine bS [0] 1 0 [(4, .int .i64 at_), (5, .int .u32 cc), (14, .pointer (some ⟨b14, 0, none⟩)), (16, .int .u32 (goodC gr)), (18, .pointer (some ⟨cb18, 0, none⟩)), (20, .pointer (some ⟨b22, 0, none⟩)), (21, .int .i64 0)] ?_
  refine cont_done ?_
  refine then_normal ?_
  refine cont_block ?_
  refine cont_loop (α := Nat) (fun x_ : Nat => x_ ≤ n20) (fun x_ : Nat => [(4, .int .i64 at_), (5, .int .u32 cc), (14, .pointer (some ⟨b14, 0, none⟩)), (16, .int .u32 (goodC gr)), (18, .pointer (some ⟨cb18, 0, none⟩)), (20, .pointer (some ⟨b22, 0, none⟩)), (21, .int .i64 (x_ : Int))]) (fun x_ : Nat => [.cells b22 [.int .i64 (1 + aroundI w_ 16), .int .i64 (1 + aroundI h_ 16), .slice (some ⟨r19, 0, none⟩) n20 n20] 41 true, .gen (rowE (some ⟨r19, 0, none⟩) r19 n20 n20 24 1 (ivals .u32 (compS ts5 (1 + aroundI w_ 16) cn18 (goodC gr))) true), .cells cb18 [.int .i64 (1 + aroundI w_ 16), .int .i64 (1 + aroundI h_ 16), .slice (some ⟨cq18, 0, none⟩) cn18 cn18] 118 true, .gen (rowE (some ⟨cq18, 0, none⟩) cq18 cn18 cn18 24 1 (ivals .u32 (compS ts5 (1 + aroundI w_ 16) cn18 (goodC gr))) true), .cells b14 [.int .i64 0, .slice A8 k3 cp10] 29 true, .gen (bunO k3 (IT.pxs its11)), .gen (bunO k3 (IT.hds 118 its11)), .gen (rowE (A8) g9 k3 cp10 103 14 (dvals IT.cells its11) true), .gen (bunO k3 (TS.pxs ts5)), .gen (bunO k3 (TS.ops ts5)), .gen (rowE (A1) g2 k3 cp4 60 14 (dvals TS.cells ts5) true), .gen (rdE (A) g o n 16 (dvals V17.cells xs)), .gen (subE n (fun i_ => rdE ((dget xs i_).A3) (dget xs i_).g3 (dget xs i_).o3 (dget xs i_).m3 1 (ivals .u32 (dget xs i_).x3))), .gen (subE n (fun i_ => rdE ((dget xs i_).A14) (dget xs i_).g14 (dget xs i_).o14 (dget xs i_).m14 1 (ivals .u32 (dget xs i_).x14))), .gen (subE n (fun i_ => rdE ((dget xs i_).A15) (dget xs i_).g15 (dget xs i_).o15 (dget xs i_).m15 4 (rvals (dget xs i_).x15)))]) (fun x_ : Nat => n20 - x_) 0 (by omega) (by kernel_rfl) (by kernel_rfl) ?_
  rintro i hinv23_
  replace hinv23_ : i ≤ n20 := hinv23_
  refine cont_norm [(4, .int .i64 at_), (5, .int .u32 cc), (14, .pointer (some ⟨b14, 0, none⟩)), (16, .int .u32 (goodC gr)), (18, .pointer (some ⟨cb18, 0, none⟩)), (20, .pointer (some ⟨b22, 0, none⟩)), (21, .int .i64 (i : Int))] [.cells b22 [.int .i64 (1 + aroundI w_ 16), .int .i64 (1 + aroundI h_ 16), .slice (some ⟨r19, 0, none⟩) n20 n20] 41 true, .gen (rowE (some ⟨r19, 0, none⟩) r19 n20 n20 24 1 (ivals .u32 (compS ts5 (1 + aroundI w_ 16) cn18 (goodC gr))) true), .cells cb18 [.int .i64 (1 + aroundI w_ 16), .int .i64 (1 + aroundI h_ 16), .slice (some ⟨cq18, 0, none⟩) cn18 cn18] 118 true, .gen (rowE (some ⟨cq18, 0, none⟩) cq18 cn18 cn18 24 1 (ivals .u32 (compS ts5 (1 + aroundI w_ 16) cn18 (goodC gr))) true), .cells b14 [.int .i64 0, .slice A8 k3 cp10] 29 true, .gen (bunO k3 (IT.pxs its11)), .gen (bunO k3 (IT.hds 118 its11)), .gen (rowE (A8) g9 k3 cp10 103 14 (dvals IT.cells its11) true), .gen (bunO k3 (TS.pxs ts5)), .gen (bunO k3 (TS.ops ts5)), .gen (rowE (A1) g2 k3 cp4 60 14 (dvals TS.cells ts5) true), .gen (rdE (A) g o n 16 (dvals V17.cells xs)), .gen (subE n (fun i_ => rdE ((dget xs i_).A3) (dget xs i_).g3 (dget xs i_).o3 (dget xs i_).m3 1 (ivals .u32 (dget xs i_).x3))), .gen (subE n (fun i_ => rdE ((dget xs i_).A14) (dget xs i_).g14 (dget xs i_).o14 (dget xs i_).m14 1 (ivals .u32 (dget xs i_).x14))), .gen (subE n (fun i_ => rdE ((dget xs i_).A15) (dget xs i_).g15 (dget xs i_).o15 (dget xs i_).m15 4 (rvals (dget xs i_).x15)))] (by kernel_rfl) rfl ?_
  have hi := hinv23_
  have hem := emod_range i (W := (1 + aroundI w_ 16)) (by omega)
  have hcsl := compS_len ts5 (1 + aroundI w_ 16) cn18 (goodC gr)
  refine cont_seq ?_
  refine cont_seq ?_
  refine cont_region 5 rfl ?_
  refine bS [0, 0, 0, 0, 0] 5 0 [(4, .int .i64 at_), (5, .int .u32 cc), (14, .pointer (some ⟨b14, 0, none⟩)), (16, .int .u32 (goodC gr)), (18, .pointer (some ⟨cb18, 0, none⟩)), (20, .pointer (some ⟨b22, 0, none⟩)), (21, .int .i64 (i : Int)), (68, .bool (decide ((i : Int) < (n20 : Int))))] ?_
  refine cont_done ?_
  refine then_normal ?_
  refine cont_split 68 (decide ((i : Int) < (n20 : Int))) rfl (fun c24_ => ?_) (fun c24_ => ?_)
  ·
    replace c24_ := of_decide_eq_true c24_
    refine cont_true rfl ?_
    refine cont_skip ?_
    refine then_normal ?_
    refine cont_seq ?_
    refine cont_block ?_
    refine cont_seq ?_
    refine drawn_enter 15 [] rfl (by kernel_rfl) ?_
    refine takes 0 [] [(0, 0), (1, 0), (2, 0), (5, 0), (6, 0), (3, 0), (7, 0)] 8 [7, 3, 6, 5, 2, 1, 0] [(4, .int .i64 at_), (5, .int .u32 cc), (14, .pointer (some ⟨b14, 0, none⟩)), (16, .int .u32 (goodC gr)), (18, .pointer (some ⟨cb18, 0, none⟩)), (20, .pointer (some ⟨b22, 0, none⟩)), (21, .int .i64 (i : Int)), (72, .pointer (some ⟨cb18, 0, none⟩)), (73, .int .i64 (i : Int)), (75, .int .i64 (1 + aroundI w_ 16)), (77, .int .i64 (i : Int)), (79, .int .i64 (1 + aroundI w_ 16))] (by kernel_rfl) (pok_then (pok_blk (pok_then (pok_then (pok_blk (pok_then pok_body)))))) (by kernel_rfl) rfl rfl (by kernel_rfl) (by kernel_rfl) ?_
    refine sem_take 0 [] 4 7 76 (bopS .rem 3 (.tmp 73) (.tmp 75) (.int .i64 (i : Int)) (.int .i64 (1 + aroundI w_ 16))) (.int .i64 ((i : Int).tmod (1 + aroundI w_ 16))) (by kernel_rfl) (pok_then (pok_blk (pok_then (pok_then (pok_blk (pok_then pok_body)))))) (by kernel_rfl) rfl (by kernel_rfl) (by kernel_rfl) (fun w hT => run_rem (by omega) w) ?_
    refine cont_recast 76 (.int .i64 ((i : Int).tmod (1 + aroundI w_ 16))) (.int .i64 ((i : Int) % (1 + aroundI w_ 16))) rfl (tmodI (by omega)) ?_
    refine sem_take 0 [] 8 6 80 (bopS .quo 3 (.tmp 77) (.tmp 79) (.int .i64 (i : Int)) (.int .i64 (1 + aroundI w_ 16))) (.int .i64 (IntKind.i64.wrap ((i : Int).tdiv (1 + aroundI w_ 16)))) (by kernel_rfl) (pok_then (pok_blk (pok_then (pok_then (pok_blk (pok_then pok_body)))))) (by kernel_rfl) rfl (by kernel_rfl) (by kernel_rfl) (fun w hT => run_quo (by omega) w) ?_
    refine cont_recast 80 (.int .i64 (IntKind.i64.wrap ((i : Int).tdiv (1 + aroundI w_ 16)))) (.int .i64 ((i : Int) / (1 + aroundI w_ 16))) rfl (tdivI (by omega) (by omega) (by omega)) ?_
    refine drawn_one 9 5 rfl (by kernel_rfl) ?_
    refine call_pure (d := 81) (.tuple #[.int .u32 (atC (1 + aroundI w_ 16) (1 + aroundI h_ 16) (compS ts5 (1 + aroundI w_ 16) cn18 (goodC gr)) ((i : Int) % (1 + aroundI w_ 16)) ((i : Int) / (1 + aroundI w_ 16))), .bool (hasB 0 0 (1 + aroundI w_ 16) (1 + aroundI h_ 16) ((i : Int) % (1 + aroundI w_ 16)) ((i : Int) / (1 + aroundI w_ 16)))]) (by kernel_rfl) (fun w hT => imgAt cb18 (1 + aroundI w_ 16) (1 + aroundI h_ 16) cq18 cn18 cn18 (compS ts5 (1 + aroundI w_ 16) cn18 (goodC gr)) ((i : Int) % (1 + aroundI w_ 16)) ((i : Int) / (1 + aroundI w_ 16)) w ⟨hT.ok 2 _ rfl, Row.rd (hT.ok 3 _ rfl), Row.capLe (hT.ok 3 _ rfl)⟩ (imgOk_of (by omega) hcn18 (compS_len _ _ _ _) (compS_may hgt ⟨hgm9, hg09, hg19⟩))) ?_
    refine drawn_next 0 [] (by kernel_rfl) ?_
    refine takes 0 [] [(10, 0), (11, 0), (12, 0), (13, 0), (14, 0)] 0 [14, 13, 12, 11, 10, 9, 8, 4, 7, 3, 6, 5, 2, 1, 0] [(4, .int .i64 at_), (5, .int .u32 cc), (14, .pointer (some ⟨b14, 0, none⟩)), (16, .int .u32 (goodC gr)), (18, .pointer (some ⟨cb18, 0, none⟩)), (20, .pointer (some ⟨b22, 0, none⟩)), (21, .int .i64 (i : Int)), (22, .int .u32 (atC (1 + aroundI w_ 16) (1 + aroundI h_ 16) (compS ts5 (1 + aroundI w_ 16) cn18 (goodC gr)) ((i : Int) % (1 + aroundI w_ 16)) ((i : Int) / (1 + aroundI w_ 16)))), (23, .bool (hasB 0 0 (1 + aroundI w_ 16) (1 + aroundI h_ 16) ((i : Int) % (1 + aroundI w_ 16)) ((i : Int) / (1 + aroundI w_ 16))))] (by kernel_rfl) (pok_then (pok_blk (pok_then (pok_then (pok_blk (pok_then pok_body)))))) (by kernel_rfl) rfl rfl (by kernel_rfl) (by kernel_rfl) ?_
    refine drawn_done (by kernel_rfl) ?_
    refine then_normal ?_
    refine cont_seq ?_
    refine cont_region 11 rfl ?_
    refine bS [0, 0, 0] 3 8 [(4, .int .i64 at_), (5, .int .u32 cc), (14, .pointer (some ⟨b14, 0, none⟩)), (16, .int .u32 (goodC gr)), (18, .pointer (some ⟨cb18, 0, none⟩)), (20, .pointer (some ⟨b22, 0, none⟩)), (21, .int .i64 (i : Int)), (22, .int .u32 (atC (1 + aroundI w_ 16) (1 + aroundI h_ 16) (compS ts5 (1 + aroundI w_ 16) cn18 (goodC gr)) ((i : Int) % (1 + aroundI w_ 16)) ((i : Int) / (1 + aroundI w_ 16)))), (86, .bool (!(hasB 0 0 (1 + aroundI w_ 16) (1 + aroundI h_ 16) ((i : Int) % (1 + aroundI w_ 16)) ((i : Int) / (1 + aroundI w_ 16)))))] ?_
    refine cont_recast 86 (.bool (!(hasB 0 0 (1 + aroundI w_ 16) (1 + aroundI h_ 16) ((i : Int) % (1 + aroundI w_ 16)) ((i : Int) / (1 + aroundI w_ 16))))) (.bool false) rfl (congrArg Value.bool (by rw [in_box (by omega) hcn18 (by omega)]; rfl)) ?_
    refine bS [0, 0, 0, 0] 7 4 [(4, .int .i64 at_), (5, .int .u32 cc), (14, .pointer (some ⟨b14, 0, none⟩)), (16, .int .u32 (goodC gr)), (18, .pointer (some ⟨cb18, 0, none⟩)), (20, .pointer (some ⟨b22, 0, none⟩)), (21, .int .i64 (i : Int)), (86, .bool false), (87, .int .u32 (atC (1 + aroundI w_ 16) (1 + aroundI h_ 16) (compS ts5 (1 + aroundI w_ 16) cn18 (goodC gr)) ((i : Int) % (1 + aroundI w_ 16)) ((i : Int) / (1 + aroundI w_ 16)))), (88, .pointer (some ⟨b22, 2, none⟩)), (89, .slice (some ⟨r19, 0, none⟩) n20 n20), (90, .int .i64 (i : Int))] ?_
    refine pl_step 8 3 rfl rfl ?_
    refine sem_step 91 (Instr.indexAt 39 (.slice (some ⟨r19, 0, none⟩) n20 n20) (.int .i64 (i : Int))) (.pointer (some ⟨r19, i, none⟩)) (by kernel_rfl) (fun w hT => run_indexAt (e := 24) (sz := 1) _ (by kernel_rfl) (by kernel_rfl) (by omega) (by omega) (by omega) w) ?_
    refine pl_step 9 2 rfl rfl ?_
    refine sem_step 92 (Instr.loadAt 24 (.pointer (some ⟨r19, i, none⟩))) (.int .u32 ((compS ts5 (1 + aroundI w_ 16) cn18 (goodC gr)).getD i 0)) (by kernel_rfl) (fun w hT => run_load1 (by kernel_rfl) (Row.cell (hT.ok 1 _ rfl) (i) _ (ivals_get (by omega)))) ?_
    refine bS [0, 0] 11 0 [(4, .int .i64 at_), (5, .int .u32 cc), (14, .pointer (some ⟨b14, 0, none⟩)), (16, .int .u32 (goodC gr)), (18, .pointer (some ⟨cb18, 0, none⟩)), (20, .pointer (some ⟨b22, 0, none⟩)), (21, .int .i64 (i : Int)), (87, .int .u32 (atC (1 + aroundI w_ 16) (1 + aroundI h_ 16) (compS ts5 (1 + aroundI w_ 16) cn18 (goodC gr)) ((i : Int) % (1 + aroundI w_ 16)) ((i : Int) / (1 + aroundI w_ 16)))), (88, .pointer (some ⟨b22, 2, none⟩)), (89, .slice (some ⟨r19, 0, none⟩) n20 n20), (90, .int .i64 (i : Int)), (91, .pointer (some ⟨r19, i, none⟩)), (92, .int .u32 ((compS ts5 (1 + aroundI w_ 16) cn18 (goodC gr)).getD i 0)), (93, .bool ((atC (1 + aroundI w_ 16) (1 + aroundI h_ 16) (compS ts5 (1 + aroundI w_ 16) cn18 (goodC gr)) ((i : Int) % (1 + aroundI w_ 16)) ((i : Int) / (1 + aroundI w_ 16))) != ((compS ts5 (1 + aroundI w_ 16) cn18 (goodC gr)).getD i 0))), (94, .bool ((atC (1 + aroundI w_ 16) (1 + aroundI h_ 16) (compS ts5 (1 + aroundI w_ 16) cn18 (goodC gr)) ((i : Int) % (1 + aroundI w_ 16)) ((i : Int) / (1 + aroundI w_ 16))) != ((compS ts5 (1 + aroundI w_ 16) cn18 (goodC gr)).getD i 0)))] ?_
    refine cont_done ?_
    refine then_normal ?_
    refine cont_recast 94 (.bool ((atC (1 + aroundI w_ 16) (1 + aroundI h_ 16) (compS ts5 (1 + aroundI w_ 16) cn18 (goodC gr)) ((i : Int) % (1 + aroundI w_ 16)) ((i : Int) / (1 + aroundI w_ 16))) != ((compS ts5 (1 + aroundI w_ 16) cn18 (goodC gr)).getD i 0))) (.bool false) rfl (congrArg Value.bool (by rw [atC_at _ (by omega) hcn18 (by omega)]; exact bne_self_eq_false _)) ?_
    refine cont_recast 93 (.bool ((atC (1 + aroundI w_ 16) (1 + aroundI h_ 16) (compS ts5 (1 + aroundI w_ 16) cn18 (goodC gr)) ((i : Int) % (1 + aroundI w_ 16)) ((i : Int) / (1 + aroundI w_ 16))) != ((compS ts5 (1 + aroundI w_ 16) cn18 (goodC gr)).getD i 0))) (.bool false) rfl (congrArg Value.bool (by rw [atC_at _ (by omega) hcn18 (by omega)]; exact bne_self_eq_false _)) ?_
    refine cont_false rfl ?_
    refine cont_skip ?_
    refine blk_normal ?_
    refine then_normal ?_
    refine cont_region 3 rfl ?_
    refine bS [0, 0] 2 1 [(4, .int .i64 at_), (5, .int .u32 cc), (14, .pointer (some ⟨b14, 0, none⟩)), (16, .int .u32 (goodC gr)), (18, .pointer (some ⟨cb18, 0, none⟩)), (20, .pointer (some ⟨b22, 0, none⟩)), (70, .int .i64 (IntKind.i64.wrap ((i : Int) + 1))), (87, .int .u32 (atC (1 + aroundI w_ 16) (1 + aroundI h_ 16) (compS ts5 (1 + aroundI w_ 16) cn18 (goodC gr)) ((i : Int) % (1 + aroundI w_ 16)) ((i : Int) / (1 + aroundI w_ 16)))), (88, .pointer (some ⟨b22, 2, none⟩)), (89, .slice (some ⟨r19, 0, none⟩) n20 n20), (90, .int .i64 (i : Int)), (91, .pointer (some ⟨r19, i, none⟩)), (92, .int .u32 ((compS ts5 (1 + aroundI w_ 16) cn18 (goodC gr)).getD i 0)), (93, .bool false)] ?_
    refine cont_recast 70 (.int .i64 (IntKind.i64.wrap ((i : Int) + 1))) (.int .i64 ((i : Int) + 1)) rfl (wrapI (by omega) (by omega)) ?_
    refine bS [0] 3 0 [(4, .int .i64 at_), (5, .int .u32 cc), (14, .pointer (some ⟨b14, 0, none⟩)), (16, .int .u32 (goodC gr)), (18, .pointer (some ⟨cb18, 0, none⟩)), (20, .pointer (some ⟨b22, 0, none⟩)), (21, .int .i64 ((i : Int) + 1)), (87, .int .u32 (atC (1 + aroundI w_ 16) (1 + aroundI h_ 16) (compS ts5 (1 + aroundI w_ 16) cn18 (goodC gr)) ((i : Int) % (1 + aroundI w_ 16)) ((i : Int) / (1 + aroundI w_ 16)))), (88, .pointer (some ⟨b22, 2, none⟩)), (89, .slice (some ⟨r19, 0, none⟩) n20 n20), (90, .int .i64 (i : Int)), (91, .pointer (some ⟨r19, i, none⟩)), (92, .int .u32 ((compS ts5 (1 + aroundI w_ 16) cn18 (goodC gr)).getD i 0)), (93, .bool false)] ?_
    refine cont_done ?_
    refine then_normal ?_
    refine cont_again (i + 1) (show (i + 1) ≤ n20 from (by omega)) (show n20 - (i + 1) < n20 - i from by omega) (by kernel_rfl) (by kernel_rfl)
  replace c24_ := of_decide_eq_false c24_
  refine cont_false rfl ?_
  refine cont_exit ?_
  refine then_exit ?_
  refine then_exit ?_
  refine blk_exit ?_
  refine then_normal ?_
  refine cont_seq ?_
  refine cont_region 5 rfl ?_
  refine bS [4, 0, 0] 3 2 [(4, .int .i64 at_), (5, .int .u32 cc), (14, .pointer (some ⟨b14, 0, none⟩)), (16, .int .u32 (goodC gr)), (18, .pointer (some ⟨cb18, 0, none⟩)), (20, .pointer (some ⟨b22, 0, none⟩)), (95, .agg #[.int .i64 0, .slice A8 k3 cp10]), (96, .pointer (some ⟨cb18, 0, none⟩)), (97, .int .u32 (goodC gr))] ?_
  refine pl_step 4 1 rfl rfl ?_
  refine call_pure (d := 98) (.bool (sameB (1 + aroundI w_ 16) (1 + aroundI h_ 16) (compS ts5 (1 + aroundI w_ 16) cn18 (goodC gr)) (1 + aroundI w_ 16) (1 + aroundI h_ 16) (compS ts5 (1 + aroundI w_ 16) cn18 (goodC gr)))) (by kernel_rfl) (fun w hT => naiveRight 0 A8 g9 0 k3 cp10 its11 ts5 cb18 (1 + aroundI w_ 16) (1 + aroundI h_ 16) cq18 cn18 cn18 (compS ts5 (1 + aroundI w_ 16) cn18 (goodC gr)) (goodC gr) w (hT.viewRo (.cons (i := 7) rfl Vw.rowRd (.cons (i := 6) rfl Vw.bunSub (.cons (i := 5) rfl Vw.bunSub (.cons (i := 2) rfl Vw.roc (.cons (i := 3) rfl Vw.rowRd .nil))))) rfl) hmapS hgt (by omega) (imgOk_of (by omega) hcn18 (compS_len _ _ _ _) (compS_may hgt ⟨hgm9, hg09, hg19⟩)) (Row.capLe (hT.ok 3 _ rfl)) hgm9 hg09 hg19) ?_
  refine cont_recast 98 (.bool (sameB (1 + aroundI w_ 16) (1 + aroundI h_ 16) (compS ts5 (1 + aroundI w_ 16) cn18 (goodC gr)) (1 + aroundI w_ 16) (1 + aroundI h_ 16) (compS ts5 (1 + aroundI w_ 16) cn18 (goodC gr)))) (.bool true) rfl (congrArg (Value.bool) (sameB_self _ _ _)) ?_
  refine bS [0] 5 0 [(4, .int .i64 at_), (5, .int .u32 cc), (14, .pointer (some ⟨b14, 0, none⟩)), (16, .int .u32 (goodC gr)), (18, .pointer (some ⟨cb18, 0, none⟩)), (20, .pointer (some ⟨b22, 0, none⟩)), (24, .bool true)] ?_
  refine cont_done ?_
  refine then_normal ?_
  refine cont_seq ?_
  refine cont_region 6 rfl ?_
  refine bS [0, 0, 0, 0] 4 2 [(5, .int .u32 cc), (14, .pointer (some ⟨b14, 0, none⟩)), (16, .int .u32 (goodC gr)), (18, .pointer (some ⟨cb18, 0, none⟩)), (20, .pointer (some ⟨b22, 0, none⟩)), (24, .bool true), (99, .int .i64 at_), (102, .int .i64 (n20 : Int))] ?_
  refine pl_step 5 1 rfl rfl ?_
  refine call_pure (d := 103) (.int .i64 (aroundI at_ (n20 : Int))) (by kernel_rfl) (fun w hT => refAround at_ (n20 : Int) w (by omega) (by omega)) ?_
  have hq27_ := aroundI_range at_ (m := (n20 : Int)) (by omega)
  obtain ⟨kk, hkk⟩ : ∃ y_ : Nat, (y_ : Int) = aroundI at_ (n20 : Int) := ⟨Int.toNat (aroundI at_ (n20 : Int)), by omega⟩
  refine cont_recast 103 (.int .i64 (aroundI at_ (n20 : Int))) (.int .i64 (kk : Int)) rfl (congrArg (Value.int .i64) hkk.symm) ?_
  have hem := emod_range kk (W := (1 + aroundI w_ 16)) (by omega)
  have hcsl := compS_len ts5 (1 + aroundI w_ 16) cn18 (goodC gr)
  refine bS [0] 6 0 [(5, .int .u32 cc), (14, .pointer (some ⟨b14, 0, none⟩)), (16, .int .u32 (goodC gr)), (18, .pointer (some ⟨cb18, 0, none⟩)), (20, .pointer (some ⟨b22, 0, none⟩)), (24, .bool true), (25, .int .i64 (kk : Int))] ?_
  refine cont_done ?_
  refine then_normal ?_
  refine cont_seq ?_
  refine cont_region 3 rfl ?_
  refine bS [0] 1 2 [(14, .pointer (some ⟨b14, 0, none⟩)), (16, .int .u32 (goodC gr)), (18, .pointer (some ⟨cb18, 0, none⟩)), (20, .pointer (some ⟨b22, 0, none⟩)), (24, .bool true), (25, .int .i64 (kk : Int)), (104, .int .u32 cc)] ?_
  refine pl_step 2 1 rfl rfl ?_
  refine call_pure (d := 105) (.int .u32 (goodC cc)) (by kernel_rfl) (fun w hT => refGood3 cc w (by omega) (by omega)) ?_
  refine bS [0] 3 0 [(14, .pointer (some ⟨b14, 0, none⟩)), (16, .int .u32 (goodC gr)), (18, .pointer (some ⟨cb18, 0, none⟩)), (20, .pointer (some ⟨b22, 0, none⟩)), (24, .bool true), (25, .int .i64 (kk : Int)), (26, .int .u32 (goodC cc))] ?_
  refine cont_done ?_
  refine then_normal ?_
  refine cont_seq ?_
  refine drawn_enter 11 [3] rfl (by kernel_rfl) ?_
  refine takes 0 [3] [(0, 0), (1, 0), (2, 0), (5, 0), (6, 0), (9, 0), (3, 0), (7, 0)] 3 [7, 3, 9, 6, 5, 2, 1, 0] [(14, .pointer (some ⟨b14, 0, none⟩)), (16, .int .u32 (goodC gr)), (18, .pointer (some ⟨cb18, 0, none⟩)), (20, .pointer (some ⟨b22, 0, none⟩)), (24, .bool true), (25, .int .i64 (kk : Int)), (26, .int .u32 (goodC cc)), (106, .pointer (some ⟨cb18, 0, none⟩)), (107, .int .i64 (kk : Int)), (109, .int .i64 (1 + aroundI w_ 16)), (111, .int .i64 (kk : Int)), (113, .int .i64 (1 + aroundI w_ 16)), (115, .int .u32 (goodC cc))] (by kernel_rfl) (pok_then pok_body) (by kernel_rfl) rfl rfl (by kernel_rfl) (by kernel_rfl) ?_
  refine sem_take 0 [3] 4 2 110 (bopS .rem 3 (.tmp 107) (.tmp 109) (.int .i64 (kk : Int)) (.int .i64 (1 + aroundI w_ 16))) (.int .i64 ((kk : Int).tmod (1 + aroundI w_ 16))) (by kernel_rfl) (pok_then pok_body) (by kernel_rfl) rfl (by kernel_rfl) (by kernel_rfl) (fun w hT => run_rem (by omega) w) ?_
  refine cont_recast 110 (.int .i64 ((kk : Int).tmod (1 + aroundI w_ 16))) (.int .i64 ((kk : Int) % (1 + aroundI w_ 16))) rfl (tmodI (by omega)) ?_
  refine sem_take 0 [3] 8 1 114 (bopS .quo 3 (.tmp 111) (.tmp 113) (.int .i64 (kk : Int)) (.int .i64 (1 + aroundI w_ 16))) (.int .i64 (IntKind.i64.wrap ((kk : Int).tdiv (1 + aroundI w_ 16)))) (by kernel_rfl) (pok_then pok_body) (by kernel_rfl) rfl (by kernel_rfl) (by kernel_rfl) (fun w hT => run_quo (by omega) w) ?_
  refine cont_recast 114 (.int .i64 (IntKind.i64.wrap ((kk : Int).tdiv (1 + aroundI w_ 16)))) (.int .i64 ((kk : Int) / (1 + aroundI w_ 16))) rfl (tdivI (by omega) (by omega) (by omega)) ?_
  refine drawn_one 10 0 rfl (by kernel_rfl) ?_
  refine call_gen (d := 116) (α := Unit) (fun _ => .int .i64 (setE (1 + aroundI w_ 16) (1 + aroundI h_ 16) ((kk : Int) % (1 + aroundI w_ 16)) ((kk : Int) / (1 + aroundI w_ 16)) (goodC cc))) (fun _ => [.cells b22 [.int .i64 (1 + aroundI w_ 16), .int .i64 (1 + aroundI h_ 16), .slice (some ⟨r19, 0, none⟩) n20 n20] 41 true, .gen (rowE (some ⟨r19, 0, none⟩) r19 n20 n20 24 1 (ivals .u32 (compS ts5 (1 + aroundI w_ 16) cn18 (goodC gr))) true), .cells cb18 [.int .i64 (1 + aroundI w_ 16), .int .i64 (1 + aroundI h_ 16), .slice (some ⟨cq18, 0, none⟩) cn18 cn18] 118 true, .gen (rowE (some ⟨cq18, 0, none⟩) cq18 cn18 cn18 24 1 (ivals .u32 (setL (1 + aroundI w_ 16) (1 + aroundI h_ 16) (compS ts5 (1 + aroundI w_ 16) cn18 (goodC gr)) ((kk : Int) % (1 + aroundI w_ 16)) ((kk : Int) / (1 + aroundI w_ 16)) (goodC cc))) true), .cells b14 [.int .i64 0, .slice A8 k3 cp10] 29 true, .gen (bunO k3 (IT.pxs its11)), .gen (bunO k3 (IT.hds 118 its11)), .gen (rowE (A8) g9 k3 cp10 103 14 (dvals IT.cells its11) true), .gen (bunO k3 (TS.pxs ts5)), .gen (bunO k3 (TS.ops ts5)), .gen (rowE (A1) g2 k3 cp4 60 14 (dvals TS.cells ts5) true), .gen (rdE (A) g o n 16 (dvals V17.cells xs)), .gen (subE n (fun i_ => rdE ((dget xs i_).A3) (dget xs i_).g3 (dget xs i_).o3 (dget xs i_).m3 1 (ivals .u32 (dget xs i_).x3))), .gen (subE n (fun i_ => rdE ((dget xs i_).A14) (dget xs i_).g14 (dget xs i_).o14 (dget xs i_).m14 1 (ivals .u32 (dget xs i_).x14))), .gen (subE n (fun i_ => rdE ((dget xs i_).A15) (dget xs i_).g15 (dget xs i_).o15 (dget xs i_).m15 4 (rvals (dget xs i_).x15)))]) (fun _ => True) (by kernel_rfl) (fun w hT => (imgSet cb18 (1 + aroundI w_ 16) (1 + aroundI h_ 16) cq18 cn18 cn18 (compS ts5 (1 + aroundI w_ 16) cn18 (goodC gr)) ((kk : Int) % (1 + aroundI w_ 16)) ((kk : Int) / (1 + aroundI w_ 16)) (goodC cc) w ⟨hT.ok 2 _ rfl, hT.ok 3 _ rfl, fun hne => hT.disj 2 3 _ _ (by omega) rfl rfl (.inr rfl) _ rfl ⟨hne, by simp⟩⟩ (imgOk_of (by omega) hcn18 (compS_len _ _ _ _) (compS_may hgt ⟨hgm9, hg09, hg19⟩)) (goodC_may cc hcc).2).mono fun e w' ⟨he_, hk_, hr_⟩ => ⟨(), he_, trivial, hT.keepBut hk_ (i := 3) rfl hr_⟩) (fun _ _ => ?_)
  refine drawn_next 0 [3] (by kernel_rfl) ?_
  refine drawn_done (by kernel_rfl) ?_
  refine then_normal ?_
  refine cont_seq ?_
  refine drawn_enter 19 [] rfl (by kernel_rfl) ?_
  refine takes 0 [] [(0, 0), (1, 0), (2, 4), (3, 0), (4, 0), (6, 0), (7, 0), (9, 0), (8, 0)] 10 [8, 9, 7, 6, 4, 3, 2, 1, 0] [(118, .bool true), (119, .agg #[.int .i64 0, .slice A8 k3 cp10]), (120, .pointer (some ⟨cb18, 0, none⟩)), (121, .int .u32 (goodC gr)), (123, .int .u32 (goodC cc)), (125, .slice (some ⟨r19, 0, none⟩) n20 n20), (126, .int .i64 (kk : Int))] (by kernel_rfl) (pok_then pok_body) (by kernel_rfl) rfl rfl (by kernel_rfl) (by kernel_rfl) ?_
  refine sem_take 0 [] 10 9 127 (Instr.indexAt 39 (.slice (some ⟨r19, 0, none⟩) n20 n20) (.int .i64 (kk : Int))) (.pointer (some ⟨r19, kk, none⟩)) (by kernel_rfl) (pok_then pok_body) (by kernel_rfl) rfl (by kernel_rfl) (by kernel_rfl) (fun w hT => run_indexAt (e := 24) (sz := 1) _ (by kernel_rfl) (by kernel_rfl) (by omega) (by omega) (by omega) w) ?_
  refine sem_take 0 [] 11 8 128 (Instr.loadAt 24 (.pointer (some ⟨r19, kk, none⟩))) (.int .u32 ((compS ts5 (1 + aroundI w_ 16) cn18 (goodC gr)).getD kk 0)) (by kernel_rfl) (pok_then pok_body) (by kernel_rfl) rfl (by kernel_rfl) (by kernel_rfl) (fun w hT => run_load1 (by kernel_rfl) (Row.cell (hT 1 _ rfl) (kk) _ (ivals_get (by omega)))) ?_
  refine takes 0 [] [(12, 0)] 7 [12, 11, 10, 8, 9, 7, 6, 4, 3, 2, 1, 0] [(118, .bool true), (119, .agg #[.int .i64 0, .slice A8 k3 cp10]), (120, .pointer (some ⟨cb18, 0, none⟩)), (121, .int .u32 (goodC gr)), (129, .bool ((goodC cc) == ((compS ts5 (1 + aroundI w_ 16) cn18 (goodC gr)).getD kk 0)))] (by kernel_rfl) (pok_then pok_body) (by kernel_rfl) rfl rfl (by kernel_rfl) (by kernel_rfl) ?_
  refine drawn_one 5 6 rfl (by kernel_rfl) ?_
  refine call_pure (d := 122) (.bool (sameB (1 + aroundI w_ 16) (1 + aroundI h_ 16) (compS ts5 (1 + aroundI w_ 16) cn18 (goodC gr)) (1 + aroundI w_ 16) (1 + aroundI h_ 16) (setL (1 + aroundI w_ 16) (1 + aroundI h_ 16) (compS ts5 (1 + aroundI w_ 16) cn18 (goodC gr)) ((kk : Int) % (1 + aroundI w_ 16)) ((kk : Int) / (1 + aroundI w_ 16)) (goodC cc)))) (by kernel_rfl) (fun w hT => naiveRight 0 A8 g9 0 k3 cp10 its11 ts5 cb18 (1 + aroundI w_ 16) (1 + aroundI h_ 16) cq18 cn18 cn18 (setL (1 + aroundI w_ 16) (1 + aroundI h_ 16) (compS ts5 (1 + aroundI w_ 16) cn18 (goodC gr)) ((kk : Int) % (1 + aroundI w_ 16)) ((kk : Int) / (1 + aroundI w_ 16)) (goodC cc)) (goodC gr) w (hT.viewRo (.cons (i := 7) rfl Vw.rowRd (.cons (i := 6) rfl Vw.bunSub (.cons (i := 5) rfl Vw.bunSub (.cons (i := 2) rfl Vw.roc (.cons (i := 3) rfl Vw.rowRd .nil))))) rfl) hmapS hgt (by omega) ((imgOk_of (by omega) hcn18 (compS_len _ _ _ _) (compS_may hgt ⟨hgm9, hg09, hg19⟩)).setL _ _ (goodC_may cc hcc).2) (Row.capLe (hT.ok 3 _ rfl)) hgm9 hg09 hg19) ?_
  refine cont_recast 122 (.bool (sameB (1 + aroundI w_ 16) (1 + aroundI h_ 16) (compS ts5 (1 + aroundI w_ 16) cn18 (goodC gr)) (1 + aroundI w_ 16) (1 + aroundI h_ 16) (setL (1 + aroundI w_ 16) (1 + aroundI h_ 16) (compS ts5 (1 + aroundI w_ 16) cn18 (goodC gr)) ((kk : Int) % (1 + aroundI w_ 16)) ((kk : Int) / (1 + aroundI w_ 16)) (goodC cc)))) (.bool ((goodC cc) == ((compS ts5 (1 + aroundI w_ 16) cn18 (goodC gr)).getD kk 0))) rfl (congrArg (Value.bool) (same_set (compS_len _ _ _ _) (by omega) hcn18 (by omega) (goodC_may cc hcc).1)) ?_
  refine drawn_next 0 [] (by kernel_rfl) ?_
  refine cont_split 122 ((goodC cc) == ((compS ts5 (1 + aroundI w_ 16) cn18 (goodC gr)).getD kk 0)) rfl (fun c28_ => ?_) (fun c28_ => ?_)
  ·
    refine cont_recast 129 (.bool ((goodC cc) == ((compS ts5 (1 + aroundI w_ 16) cn18 (goodC gr)).getD kk 0))) (.bool true) rfl (congrArg Value.bool c28_) ?_
    replace c28_ := eq_of_beqt c28_
    refine takes 0 [] [(13, 0), (14, 0), (15, 0)] 3 [15, 14, 13, 5, 12, 11, 10, 8, 9, 7, 6, 4, 3, 2, 1, 0] [(132, .bool true)] (by kernel_rfl) (pok_then pok_body) (by kernel_rfl) rfl rfl (by kernel_rfl) (by kernel_rfl) ?_
    refine drawn_one 16 2 rfl (by kernel_rfl) ?_
    refine call_pure (d := 133) (.bool true) (by kernel_rfl) (fun w hT => lives19  w) ?_
    refine drawn_next 0 [] (by kernel_rfl) ?_
    refine takes 0 [] [(17, 0), (18, 0)] 0 [18, 17, 16, 15, 14, 13, 5, 12, 11, 10, 8, 9, 7, 6, 4, 3, 2, 1, 0] [(12, .bool true)] (by kernel_rfl) (pok_then pok_body) (by kernel_rfl) rfl rfl (by kernel_rfl) (by kernel_rfl) ?_
    refine drawn_done (by kernel_rfl) ?_
    refine then_normal ?_
    refine cont_ret ?_
    refine ret_one (.inl rfl) rfl 0 (.bool true) (by kernel_rfl) (by kernel_rfl) (fun w hT => ?_)
    exact ⟨rfl, hT.post rfl⟩
  refine cont_recast 129 (.bool ((goodC cc) == ((compS ts5 (1 + aroundI w_ 16) cn18 (goodC gr)).getD kk 0))) (.bool false) rfl (congrArg Value.bool c28_) ?_
  replace c28_ := ne_of_beqf c28_
  refine takes 0 [] [(13, 0), (14, 0), (15, 0)] 3 [15, 14, 13, 5, 12, 11, 10, 8, 9, 7, 6, 4, 3, 2, 1, 0] [(132, .bool true)] (by kernel_rfl) (pok_then pok_body) (by kernel_rfl) rfl rfl (by kernel_rfl) (by kernel_rfl) ?_
  refine drawn_one 16 2 rfl (by kernel_rfl) ?_
  refine call_pure (d := 133) (.bool true) (by kernel_rfl) (fun w hT => lives19  w) ?_
  refine drawn_next 0 [] (by kernel_rfl) ?_
  refine takes 0 [] [(17, 0), (18, 0)] 0 [18, 17, 16, 15, 14, 13, 5, 12, 11, 10, 8, 9, 7, 6, 4, 3, 2, 1, 0] [(12, .bool true)] (by kernel_rfl) (pok_then pok_body) (by kernel_rfl) rfl rfl (by kernel_rfl) (by kernel_rfl) ?_
  refine drawn_done (by kernel_rfl) ?_
  refine then_normal ?_
  refine cont_ret ?_
  refine ret_one (.inl rfl) rfl 0 (.bool true) (by kernel_rfl) (by kernel_rfl) (fun w hT => ?_)
  exact ⟨rfl, hT.post rfl⟩

end Go.Proofs.Ytlfahohbkgdabaa

