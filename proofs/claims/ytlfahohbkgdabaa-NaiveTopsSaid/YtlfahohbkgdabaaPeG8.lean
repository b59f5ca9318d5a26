/- Texts of this proof's own, put together: what each holds is told ahead of it. -/
import Derived.Test.YtlfahohbkgdabaaPeG7
import Derived.Test.YtlfahohbkgdabaaProg
/- Contracts of functions of the given program, printed by a program of this project. -/
set_option linter.unusedVariables false
set_option linter.unusedSimpArgs false
namespace Go.Proofs.Ytlfahohbkgdabaa
open Go Go.RowKit
set_option maxRecDepth 100000
set_option maxHeartbeats 8000000

theorem sliceCloneQ (g o n cap : Nat) (xs : List Int) (w : World) (hT0 : Tab w w [.gen (rdE (some ⟨g, o, none⟩) g o n 1 (ivals .u32 xs))]) (hn : 1 ≤ n ∧ n ≤ 65536) :
    Calls Try.prog 78 #[.slice (some ⟨g, o, none⟩) n cap] w fun e w' => ∃ g2 cp : Nat, e = .returned (.slice (some ⟨g2, 0, none⟩) n cp) ∧ Tab w w' [.gen (rowE (some ⟨g2, 0, none⟩) g2 n cp 24 1 (ivals .u32 xs) true)] := by
 refine enter 8 [(0, .slice (some ⟨g, o, none⟩) n cap)] [.gen (rdE (some ⟨g, o, none⟩) g o n 1 (ivals .u32 xs))] Try.func78 rfl Try.ntmps78 rfl (by kernel_rfl) hT0 ?_
 refine cont_seq ?_
 refine cont_region 1 rfl ?_
 refine bS [0] 1 0 [(0, .slice (some ⟨g, o, none⟩) n cap)] ?_
 refine cont_done ?_
 refine then_normal ?_
 refine cont_seq ?_
 refine cont_seq ?_
 refine cont_region 2 rfl ?_
 refine bS [0, 0] 2 0 [(0, .slice (some ⟨g, o, none⟩) n cap), (4, .bool false)] ?_
 refine cont_done ?_
 refine then_normal ?_
 refine cont_false rfl ?_
 refine cont_skip ?_
 refine then_normal ?_
 refine cont_seq ?_
 refine cont_region 4 rfl ?_
 refine batch1 [0, 0] 2 2 (fun b1 => [(5, .slice (pB b1) 0 0), (6, .slice (some ⟨g, o, none⟩) n cap)]) (fun b1 => [.cells b1 [] 24 true, .gen (rdE (some ⟨g, o, none⟩) g o n 1 (ivals .u32 xs))]) rfl rfl [5, 6] (fun _ => rfl) (fun b1 => by kernel_rfl) (fun b1 => by kernel_rfl) (fun b1 => ?_)
 refine pl_step 3 1 rfl rfl ?_
 refine cont_asRow 0 0 1 rfl (vals := ivals .u32 []) rfl rfl (by decide) ?_
 refine sem_stepW (α := Option Addr × Nat × Nat) 7 (Builtin.append_ #[39, 39] 39 #[.slice (pB b1) 0 0, .slice (some ⟨g, o, none⟩) n cap]) (fun x_ => .slice x_.1 n x_.2.2) (fun x_ => [.gen (rowE (x_.1) x_.2.1 n x_.2.2 24 1 (ivals .u32 xs) true), .gen (rdE (some ⟨g, o, none⟩) g o n 1 (ivals .u32 xs))]) (fun _ => True) (by kernel_rfl) (fun w hT => append_own (n' := n) (z := .int .u32 0) hT (i := 0) (bytes := 4) rfl (by kernel_rfl) (by kernel_rfl) rfl (by decide) (by decide) (hT.ok 1 _ rfl) (ivals_one .u32 xs) (by omega) rfl (Nat.zero_add _).symm) ?_
 rintro ⟨A2, g2, cp2⟩ -
 refine cont_norm [(5, .slice (pB b1) 0 0), (6, .slice (some ⟨g, o, none⟩) n cap), (7, .slice A2 n cp2)] [.gen (rowE (A2) g2 n cp2 24 1 (ivals .u32 xs) true), .gen (rdE (some ⟨g, o, none⟩) g o n 1 (ivals .u32 xs))] (by kernel_rfl) rfl ?_
 refine cont_fact (F := (0 < n → (A2 : Option Addr) = pB g2) ∧ xs.length = n ∧ n ≤ cp2 ∧ cp2 ≤ maxLen) (fun w hT => Row.facts (hT.ok 0 _ rfl)) (fun hr3_ => ?_)
 obtain ⟨hr3_a, hr3_l, hr3_c, hr3_m⟩ := hr3_
 unfold maxLen at hr3_m
 refine bS [0] 4 0 [(2, .slice A2 n cp2)] ?_
 refine cont_done ?_
 refine then_normal ?_
 refine cont_ret ?_
 refine ret_one (.inl rfl) rfl 0 (.slice A2 n cp2) (by kernel_rfl) (by kernel_rfl) (fun w hT => ?_)
 replace hT := hT.erase 1 (fun e h hw => by cases h; first | rfl | cases hw)
 have hA := (Row.facts (hT.ok 0 _ rfl)).1 (by omega)
 subst hA
 exact ⟨_, _, rfl, hT⟩

theorem sliceCloneP (A : Option Addr) (g o n cap : Nat) (xs : List Int) (w : World) (hT0 : Tab w w [.gen (rdE A g o n 1 (ivals .u32 xs))]) (hA : A = some ⟨g, o, none⟩) (hn : 1 ≤ n ∧ n ≤ 65536) :
    Calls Try.prog 78 #[.slice A n cap] w fun e w' => ∃ g2 cp : Nat, e = .returned (.slice (some ⟨g2, 0, none⟩) n cp) ∧ Tab w w' [.gen (rowE (some ⟨g2, 0, none⟩) g2 n cp 24 1 (ivals .u32 xs) true)] := by
  subst hA
  exact sliceCloneQ g o n cap xs w hT0 hn

theorem rowsIterW0 (kb m : Nat) (W H : Int) (r n cap : Nat) (Wn Hn : Nat) (hWn : (Wn : Int) = W) (hHn : (Hn : Int) = H) (hcap : n ≤ cap) (w0 : World) {β : Type} (Inv : List (Int × Nat × Nat × List Int) → β → Prop) (Tr : β → List Ent) (pxf : β → List Int) (hokf : ∀ pre b, Inv pre b → ImgOk W H n (pxf b)) (Jx : World → Prop) (l_ : Nat) (e1 e2 : Ent) (w : World) (b0 : β) (hJx : ∀ w w', Jx w → Below w.heap.size w w' → Jx w') (hY : ∀ pre x b W1 z, (z.wr = true → z.own = true) → Inv pre b → RowsW Hn (pre ++ [x]) → Tab w0 W1 ([.gen (rowE (some ⟨x.2.1, 0, none⟩) x.2.1 Wn x.2.2.1 24 1 (ivals .u32 x.2.2.2) true)] ++ (z :: e1 :: e2 :: (.ro kb [.pointer (some ⟨m, 0, none⟩)] 43) :: (.cells m [.int .i64 W, .int .i64 H, .slice (some ⟨r, 0, none⟩) n cap] 118 true) :: (.gen (rowE (some ⟨r, 0, none⟩) r n cap 24 1 (ivals .u32 (pxf b)) true)) :: (Tr b))) → YieldAt Fence.wide 0 Try.prog l_ #[.int .i64 x.1, .slice (some ⟨x.2.1, 0, none⟩) Wn x.2.2.1] W1 fun e W' => (e = .returned (.bool true) ∧ ∃ b', Inv (pre ++ [x]) b' ∧ Tab w0 W' (z :: e1 :: e2 :: (.ro kb [.pointer (some ⟨m, 0, none⟩)] 43) :: (.cells m [.int .i64 W, .int .i64 H, .slice (some ⟨r, 0, none⟩) n cap] 118 true) :: (.gen (rowE (some ⟨r, 0, none⟩) r n cap 24 1 (ivals .u32 (pxf b')) true)) :: (Tr b'))) ∨ (e = .returned (.bool false) ∧ Jx W')) (h0 : Inv [] b0) (hT0 : Tab w0 w (e1 :: e2 :: (.ro kb [.pointer (some ⟨m, 0, none⟩)] 43) :: (.cells m [.int .i64 W, .int .i64 H, .slice (some ⟨r, 0, none⟩) n cap] 118 true) :: (.gen (rowE (some ⟨r, 0, none⟩) r n cap 24 1 (ivals .u32 (pxf b0)) true)) :: (Tr b0))) :
    Calls Try.prog 77 #[.func (.yield l_) #[] #[], .pointer (some ⟨kb, 0, none⟩)] w fun e W' => (∃ v, e = .returned v) ∧ ((∃ xs_ b', (RowsW Hn xs_ ∧ xs_.length = Hn) ∧ Inv xs_ b' ∧ Tab w0 W' (e1 :: e2 :: (.ro kb [.pointer (some ⟨m, 0, none⟩)] 43) :: (.cells m [.int .i64 W, .int .i64 H, .slice (some ⟨r, 0, none⟩) n cap] 118 true) :: (.gen (rowE (some ⟨r, 0, none⟩) r n cap 24 1 (ivals .u32 (pxf b')) true)) :: (Tr b'))) ∨ Jx W') := by
 have hok := hokf _ _ h0
 have hw1 := hok.w1
 have hw2 := hok.w2
 have hh1 := hok.h1
 have hh2 := hok.h2
 have hnum := hok.num
 have hle := hok.le
 refine enterI 24 [(0, .func (.yield l_) #[] #[]), (1, .pointer (pB kb))] (e1 :: e2 :: (.ro kb [.pointer (pB m)] 43) :: (.cells m [iq W, iq H, .slice (pB r) n cap] 118 true) :: (.gen (rowE (pB r) r n cap 24 1 (ivals .u32 (pxf b0)) true)) :: (Tr b0)) Try.func77 rfl Try.ntmps77 rfl (by kernel_rfl) hT0 (fun _ h_ => by simp at h_) ?_
 refine mcont_seq ?_
 refine mcont_region 5 rfl (by kernel_rfl) ?_
 refine bS [2, 0, 0, 3, 0] 5 0 [(0, .func (.yield l_) #[] #[]), (1, .pointer (pB kb)), (7, iq H), (8, iq 0)] ?_
 refine cont_done ?_
 refine then_normal ?_
 refine mcont_block ?_
 refine cont_nilrow 24 1 ?_
 refine cont_norm [(0, .func (.yield l_) #[] #[]), (1, .pointer (pB kb)), (7, iq H), (8, iq 0)] _ (by kernel_rfl) rfl ?_
 refine cont_recast 8 (iq 0) (iq (([] : List (Int × Nat × Nat × List Int)).length : Int)) rfl (congrArg (Value.int .i64) (by simp)) ?_
 refine mcont_loop (α := List (Int × Nat × Nat × List Int) × β) (fun x_ : List (Int × Nat × Nat × List Int) × β => RowsW Hn x_.1 ∧ Inv x_.1 x_.2) (fun x_ : List (Int × Nat × Nat × List Int) × β => [(0, .func (.yield l_) #[] #[]), (1, .pointer (pB kb)), (7, iq H), (8, iq ((x_.1.length : Nat) : Int))]) (fun x_ : List (Int × Nat × Nat × List Int) × β => ((.gen (rowE (none) 0 0 0 24 1 (ivals .u32 []) true)) :: e1 :: e2 :: (.ro kb [.pointer (pB m)] 43) :: (.cells m [iq W, iq H, .slice (pB r) n cap] 118 true) :: (.gen (rowE (pB r) r n cap 24 1 (ivals .u32 (pxf x_.2)) true)) :: (Tr x_.2))) (fun x_ : List (Int × Nat × Nat × List Int) × β => Hn - x_.1.length) ([], b0) (show RowsW Hn ([]) ∧ Inv ([]) (b0) from ⟨RowsW.nil _, h0⟩) (by kernel_rfl) (by kernel_rfl) ?_
 rintro ⟨pre, b⟩ hinv2_
 replace hinv2_ : RowsW Hn pre ∧ Inv pre b := hinv2_
 refine cont_norm [(0, .func (.yield l_) #[] #[]), (1, .pointer (pB kb)), (7, iq H), (8, iq ((pre.length : Nat) : Int))] _ (by kernel_rfl) rfl ?_
 obtain ⟨hP, hI⟩ := hinv2_
 have hokb := hokf _ _ hI
 have hpl := hP.2
 have hbd := fun h_ : pre.length < Hn => row_bd (k := pre.length) hnum hw1 (by omega)
 refine mcont_seq ?_
 refine mcont_region 1 rfl (by kernel_rfl) ?_
 refine bS [0] 1 0 [(0, .func (.yield l_) #[] #[]), (1, .pointer (pB kb)), (7, iq H), (8, iq ((pre.length : Nat) : Int)), (9, .bool (decide (((pre.length : Nat) : Int) < H)))] ?_
 refine cont_done ?_
 refine then_normal ?_
 refine mcont_seq ?_
 refine cont_split 9 (decide (((pre.length : Nat) : Int) < H)) rfl (fun c3_ => ?_) (fun c3_ => ?_)
 ·
  replace c3_ := of_decide_eq_true c3_
  refine mcont_true rfl ?_
  refine mcont_skip ?_
  refine then_normal ?_
  refine mcont_seq ?_
  refine mcont_block ?_
  refine mcont_seq ?_
  refine mcont_region 2 rfl (by kernel_rfl) ?_
  obtain ⟨hbd1, hbd2⟩ := hbd (by omega)
  refine bS [0, 0] 2 0 [(0, .func (.yield l_) #[] #[]), (1, .pointer (pB kb)), (3, iq ((pre.length : Nat) : Int)), (7, iq H), (8, iq ((pre.length : Nat) : Int))] ?_
  refine cont_done ?_
  refine then_normal ?_
  refine mcont_seq ?_
  refine idrawn_enter 12 10 [0, 1, 9, 8, 2, 3, 7, 6, 5, 4] [] rfl (by kernel_rfl) (by kernel_rfl) (by kernel_rfl) ?_
  refine takes 0 [] [(0, 0), (1, 0), (2, 3), (3, 0), (4, 3), (5, 0), (6, 0), (7, 4)] 4 [7, 6, 5, 4, 3, 2, 1, 0] [(0, .func (.yield l_) #[] #[]), (1, .pointer (pB kb)), (7, iq H), (8, iq ((pre.length : Nat) : Int)), (11, .func (.yield l_) #[] #[]), (12, iq ((pre.length : Nat) : Int)), (13, .pointer (pB m)), (14, iq ((pre.length : Nat) : Int)), (18, iq W)] (by kernel_rfl) (pok_then (pok_then (pok_blk (pok_then (pok_then (pok_blk pok_body)))))) (by kernel_rfl) rfl rfl (by kernel_rfl) (by kernel_rfl) ?_
  refine drawn_one 8 3 rfl (by kernel_rfl) ?_
  refine call_pure (d := 19) (.slice (sliceA r 0 (Int.toNat (((pre.length : Nat) : Int) * W + 0)) cap 1) (Int.toNat (((pre.length : Nat) : Int) * W + W) - Int.toNat (((pre.length : Nat) : Int) * W + 0)) (cap - Int.toNat (((pre.length : Nat) : Int) * W + 0))) (by kernel_rfl) (fun w hT => imgRow m W H r n cap (pxf b) ((pre.length : Nat) : Int) 0 W w ⟨hT.ok 4 _ rfl, Row.rd (hT.ok 5 _ rfl), Row.capLe (hT.ok 5 _ rfl)⟩ hokb (by omega)) ?_
  refine drawn_next 0 [] (by kernel_rfl) ?_
  refine drawn_one 9 2 rfl (by kernel_rfl) ?_
  refine call_gen (d := 20) (α := Nat × Nat) (fun x_ => .slice (pB x_.1) (Int.toNat (((pre.length : Nat) : Int) * W + W) - Int.toNat (((pre.length : Nat) : Int) * W + 0)) x_.2) (fun x_ => ((.gen (rowE (pB x_.1) x_.1 (Int.toNat (((pre.length : Nat) : Int) * W + W) - Int.toNat (((pre.length : Nat) : Int) * W + 0)) x_.2 24 1 (ivals .u32 (((pxf b).drop (Int.toNat (((pre.length : Nat) : Int) * W + 0))).take (Int.toNat (((pre.length : Nat) : Int) * W + W) - Int.toNat (((pre.length : Nat) : Int) * W + 0)))) true)) :: (.gen (rowE (none) 0 0 0 24 1 (ivals .u32 []) true)) :: e1 :: e2 :: (.ro kb [.pointer (pB m)] 43) :: (.cells m [iq W, iq H, .slice (pB r) n cap] 118 true) :: (.gen (rowE (pB r) r n cap 24 1 (ivals .u32 (pxf b)) true)) :: (Tr b))) (fun x_ => True) (by kernel_rfl) (fun w hT => (sliceCloneP (sliceA r 0 (Int.toNat (((pre.length : Nat) : Int) * W + 0)) cap 1) r (0 + (Int.toNat (((pre.length : Nat) : Int) * W + 0)) * 1) (Int.toNat (((pre.length : Nat) : Int) * W + W) - Int.toNat (((pre.length : Nat) : Int) * W + 0)) (cap - Int.toNat (((pre.length : Nat) : Int) * W + 0)) (((pxf b).drop (Int.toNat (((pre.length : Nat) : Int) * W + 0))).take (Int.toNat (((pre.length : Nat) : Int) * W + W) - Int.toNat (((pre.length : Nat) : Int) * W + 0))) w (hT.viewRo (.cons (i := 5) rfl (Vw.rowSub (by omega)) .nil) rfl) (sliceA_pos (by omega)) (by omega)).mono fun e w' ⟨g24, cp5, he_, ht_⟩ => ⟨(g24, cp5), he_, trivial, hT.news ht_ rfl⟩) ?_
  rintro ⟨g24, cp5⟩ hf6_
  refine cont_norm [(0, .func (.yield l_) #[] #[]), (1, .pointer (pB kb)), (7, iq H), (8, iq ((pre.length : Nat) : Int)), (11, .func (.yield l_) #[] #[]), (12, iq ((pre.length : Nat) : Int)), (13, .pointer (pB m)), (14, iq ((pre.length : Nat) : Int)), (18, iq W), (19, .slice (sliceA r 0 (Int.toNat (((pre.length : Nat) : Int) * W + 0)) cap 1) (Int.toNat (((pre.length : Nat) : Int) * W + W) - Int.toNat (((pre.length : Nat) : Int) * W + 0)) (cap - Int.toNat (((pre.length : Nat) : Int) * W + 0))), (20, .slice (pB g24) (Int.toNat (((pre.length : Nat) : Int) * W + W) - Int.toNat (((pre.length : Nat) : Int) * W + 0)) cp5)] _ (by kernel_rfl) rfl ?_
  refine drawn_next 1 [] (by kernel_rfl) ?_
  refine drawn_done (by kernel_rfl) ?_
  refine then_normal ?_
  obtain ⟨ll, hll⟩ : ∃ y_ : List Int, y_ = (((pxf b).drop (Int.toNat (((pre.length : Nat) : Int) * W + 0))).take (Int.toNat (((pre.length : Nat) : Int) * W + W) - Int.toNat (((pre.length : Nat) : Int) * W + 0))) := ⟨_, rfl⟩
  refine cont_rowEq (k := .u32) 0 ((((pxf b).drop (Int.toNat (((pre.length : Nat) : Int) * W + 0))).take (Int.toNat (((pre.length : Nat) : Int) * W + W) - Int.toNat (((pre.length : Nat) : Int) * W + 0)))) (ll) rfl hll.symm ?_
  rw [show (Int.toNat (((pre.length : Nat) : Int) * W + W) - Int.toNat (((pre.length : Nat) : Int) * W + 0)) = Wn from row_n hWn _]
  have hP2 : RowsW Hn (pre ++ [(((pre.length : Nat) : Int), g24, cp5, ll)]) := hP.step (by omega)
  refine cont_norm [(0, .func (.yield l_) #[] #[]), (1, .pointer (pB kb)), (7, iq H), (8, iq ((pre.length : Nat) : Int)), (11, .func (.yield l_) #[] #[]), (12, iq ((pre.length : Nat) : Int)), (13, .pointer (pB m)), (14, iq ((pre.length : Nat) : Int)), (18, iq W), (19, .slice (sliceA r 0 (Int.toNat (((pre.length : Nat) : Int) * W + 0)) cap 1) Wn (cap - Int.toNat (((pre.length : Nat) : Int) * W + 0))), (20, .slice (pB g24) Wn cp5)] _ (by kernel_rfl) rfl ?_
  refine pli_yield 21 11 1 rfl rfl (by kernel_rfl) (by kernel_rfl) (R := fun v_ w_ => (v_ = .bool true ∧ ∃ b_, Inv (pre ++ [(((pre.length : Nat) : Int), g24, cp5, ll)]) b_ ∧ Tab w0 w_ ((.gen (rowE (none) 0 0 0 24 1 (ivals .u32 []) true)) :: e1 :: e2 :: (.ro kb [.pointer (pB m)] 43) :: (.cells m [iq W, iq H, .slice (pB r) n cap] 118 true) :: (.gen (rowE (pB r) r n cap 24 1 (ivals .u32 (pxf b_)) true)) :: (Tr b_))) ∨ (v_ = .bool false ∧ Jx w_)) (fun w_ hT_ => YieldAt.weaken (hY pre (((pre.length : Nat) : Int), g24, cp5, ll) b w_ _ (fun _ => rfl) hI hP2 hT_) (fun e_ w_ h_ => by rcases h_ with ⟨rfl, hh_⟩ | ⟨rfl, hh_⟩; exact ⟨_, rfl, .inl ⟨rfl, hh_⟩⟩; exact ⟨_, rfl, .inr ⟨rfl, hh_⟩⟩)) ?_
  rintro a_ w_ v_ ha_ hf_ (⟨rfl, b, hI, hT_⟩ | ⟨rfl, hJ⟩)
  ·
   refine Cont.go ?_ ha_ hf_ hT_
   refine cont_norm [(0, .func (.yield l_) #[] #[]), (1, .pointer (pB kb)), (7, iq H), (8, iq ((pre.length : Nat) : Int)), (21, .bool true)] _ (by kernel_rfl) rfl ?_
   refine pli_ops 1 0 12 rfl rfl (by kernel_rfl) ?_
   refine bS [0] 12 0 [(0, .func (.yield l_) #[] #[]), (1, .pointer (pB kb)), (7, iq H), (8, iq ((pre.length : Nat) : Int)), (22, .bool false)] ?_
   refine cont_done ?_
   refine then_normal ?_
   refine pli_done ?_
   refine then_normal ?_
   refine mcont_false rfl ?_
   refine mcont_skip ?_
   refine blk_normal ?_
   refine then_normal ?_
   refine mcont_region 2 rfl (by kernel_rfl) ?_
   refine bS [0] 1 1 [(0, .func (.yield l_) #[] #[]), (1, .pointer (pB kb)), (7, iq H), (23, iq (IntKind.i64.wrap (((pre.length : Nat) : Int) + 1)))] ?_
   refine cont_recast 23 (iq (IntKind.i64.wrap (((pre.length : Nat) : Int) + 1))) (iq (((pre.length : Nat) : Int) + 1)) rfl (wrapI (by omega) (by omega)) ?_
   refine bS [0] 2 0 [(0, .func (.yield l_) #[] #[]), (1, .pointer (pB kb)), (7, iq H), (8, iq (((pre.length : Nat) : Int) + 1))] ?_
   refine cont_done ?_
   refine then_normal ?_
   refine cont_recast 8 (iq (((pre.length : Nat) : Int) + 1)) (iq (((pre ++ [(((pre.length : Nat) : Int), g24, cp5, ll)]).length : Nat) : Int)) rfl (congrArg (Value.int .i64) (by simp)) ?_
   refine cont_again (pre ++ [(((pre.length : Nat) : Int), g24, cp5, ll)], b) (show RowsW Hn (pre ++ [(((pre.length : Nat) : Int), g24, cp5, ll)]) ∧ Inv (pre ++ [(((pre.length : Nat) : Int), g24, cp5, ll)]) (b) from ⟨hP2, hI⟩) (show Hn - (pre ++ [(((pre.length : Nat) : Int), g24, cp5, ll)]).length < Hn - pre.length from by have h_ := hP2.2; rw [List.length_append, List.length_singleton] at h_ ⊢; omega) (by kernel_rfl) (by kernel_rfl)
  ·
   refine Cont.go ?_ ha_ hf_ (Tab.start w_)
   refine cont_norm [(0, .func (.yield l_) #[] #[]), (1, .pointer (pB kb)), (7, iq H), (8, iq ((pre.length : Nat) : Int)), (21, .bool false)] _ (by kernel_rfl) rfl ?_
   refine pli_ops 1 0 12 rfl rfl (by kernel_rfl) ?_
   refine bS [0] 12 0 [(0, .func (.yield l_) #[] #[]), (1, .pointer (pB kb)), (7, iq H), (8, iq ((pre.length : Nat) : Int)), (22, .bool true)] ?_
   refine cont_done ?_
   refine then_normal ?_
   refine pli_done ?_
   refine then_normal ?_
   refine mcont_true rfl ?_
   refine mcont_ret ?_
   refine blk_ret ?_
   refine then_ret ?_
   refine then_ret ?_
   refine blk_ret ?_
   refine ret_none (.inl rfl) rfl (fun w hT => ?_)
   exact ⟨⟨_, rfl⟩, .inr (hJx _ _ hJ (hT.toBelow (fun i e h => by simp at h)))⟩
 replace c3_ := of_decide_eq_false c3_
 refine mcont_false rfl ?_
 refine mcont_exit ?_
 refine then_exit ?_
 refine then_exit ?_
 refine blk_exit ?_
 refine ret_none (.inr rfl) rfl (fun w hT => ?_)
 exact ⟨⟨_, rfl⟩, .inl ⟨pre, b, ⟨hP, by omega⟩, hI, hT.drop (fun _ => rfl)⟩⟩

theorem rowsIterW (kb m : Nat) (W H : Int) (r n cap : Nat) (Wn Hn : Nat) (hWn : (Wn : Int) = W) (hHn : (Hn : Int) = H) (hcap : n ≤ cap) (w0 : World) {β : Type} (Inv : List (Int × Nat × Nat × List Int) → β → Prop) (Tr : β → List Ent) (pxf : β → List Int) (hokf : ∀ pre b, Inv pre b → ImgOk W H n (pxf b)) : IterAt Try.prog 77 #[.pointer (some ⟨kb, 0, none⟩)] (fun z_ : Int × Nat × Nat × List Int => #[.int .i64 z_.1, .slice (some ⟨z_.2.1, 0, none⟩) Wn z_.2.2.1]) w0 [.ro kb [.pointer (some ⟨m, 0, none⟩)] 43, .cells m [.int .i64 W, .int .i64 H, .slice (some ⟨r, 0, none⟩) n cap] 118 true] (fun z_ => [.gen (rowE (some ⟨z_.2.1, 0, none⟩) z_.2.1 Wn z_.2.2.1 24 1 (ivals .u32 z_.2.2.2) true)]) (fun xs_ => RowsW Hn xs_ ∧ xs_.length = Hn) (fun p_ => RowsW Hn p_) Inv (fun b_ => .gen (rowE (some ⟨r, 0, none⟩) r n cap 24 1 (ivals .u32 (pxf b_)) true) :: Tr b_) :=
  fun Jx l e1 e2 W1 b0 hJx hY h0 hT => rowsIterW0 kb m W H r n cap Wn Hn hWn hHn hcap w0 Inv Tr pxf hokf Jx l e1 e2 W1 b0 hJx hY h0 hT

theorem imgRows (m : Nat) (w : World) :
    Calls Try.prog 56 #[.pointer (some ⟨m, 0, none⟩)] w fun e w' => ∃ kb : Nat, e = .returned (.func (.func 77) #[] #[.pointer (some ⟨kb, 0, none⟩)]) ∧ Tab w w' [.cells kb [.pointer (some ⟨m, 0, none⟩)] 43 true] := by
 refine enter 4 [(0, .pointer (pB m))] [] Try.func56 rfl Try.ntmps56 rfl (by kernel_rfl) (Tab.start w) ?_
 refine cont_seq ?_
 refine cont_region 2 rfl ?_
 refine batch1 [0, 0] 2 0 (fun b1 => [(1, .pointer (pB b1))]) (fun b1 => [.cells b1 [.pointer (pB m)] 43 true]) rfl rfl [1] (fun _ => rfl) (fun b1 => by kernel_rfl) (fun b1 => by kernel_rfl) (fun b1 => ?_)
 refine cont_done ?_
 refine then_normal ?_
 refine cont_seq ?_
 refine cont_region 2 rfl ?_
 refine bS [0, 0] 2 0 [(2, .func (.func 77) #[] #[.pointer (pB b1)])] ?_
 refine cont_done ?_
 refine then_normal ?_
 refine cont_ret ?_
 refine ret_one (.inl rfl) rfl 0 (.func (.func 77) #[] #[.pointer (pB b1)]) (by kernel_rfl) (by kernel_rfl) (fun w hT => ?_)
 exact ⟨_, rfl, hT⟩

end Go.Proofs.Ytlfahohbkgdabaa

/- Contracts of functions of the given program, printed by a program of this project. -/
set_option linter.unusedVariables false
set_option linter.unusedSimpArgs false
namespace Go.Proofs.Ytlfahohbkgdabaa
open Go Go.RowKit
set_option maxRecDepth 100000
set_option maxHeartbeats 8000000

theorem naiveCompose (K : Int) (A : Option Addr) (g o n cap : Nat) (its : List IT) (ts : List TS) (W H gc : Int) (w : World) (hT0 : Tab w w [.gen (rdE (A) g o n 14 (dvals IT.cells its)), .gen (subE n (IT.hds 118 its)), .gen (subE n (IT.pxs its))]) (hmap : its.map (·.t) = ts) (hts : ∀ t ∈ ts, TS.Ok t) (hn : n ≤ 100) (hWH : 1 ≤ W ∧ W ≤ 256 ∧ 1 ≤ H ∧ H ≤ 256) (hgm : mayB gc = true) (hg0 : 0 ≤ gc) (hg1 : gc < 4294967296) :
    Calls Try.prog 25 #[.agg #[.int .i64 K, .slice A n cap], .int .i64 W, .int .i64 H, .int .u32 gc] w fun e w' => ∃ b q n : Nat, e = .returned (.tuple #[.pointer (some ⟨b, 0, none⟩), .int .i64 0]) ∧ (n : Int) = W * H ∧ NewImg 118 24 w w' b W H q n n (compS ts W n gc) := by
  have hgt := hts
  have hmapS := hmap
  refine enterM 44 [(0, .agg #[.int .i64 K, .slice A n cap]), (1, .int .i64 W), (2, .int .i64 H), (3, .int .u32 gc)] [.gen (rdE (A) g o n 14 (dvals IT.cells its)), .gen (subE n (IT.hds 118 its)), .gen (subE n (IT.pxs its))] Try.func25 rfl Try.ntmps25 rfl (by kernel_rfl) hT0 ?_
  refine cont_seq ?_
  refine cont_region 4 rfl ?_
  refine batch2 [0, 0, 0, 0] 4 0 (fun b1 b2 => [(1, .int .i64 W), (2, .int .i64 H), (4, .pointer (some ⟨b1, 0, none⟩)), (7, .pointer (some ⟨b2, 0, none⟩))]) (fun b1 b2 => [.cells b2 [.int .u32 gc] 24 true, .cells b1 [.int .i64 K, .slice A n cap] 29 true, .gen (rdE (A) g o n 14 (dvals IT.cells its)), .gen (subE n (IT.hds 118 its)), .gen (subE n (IT.pxs its))]) rfl rfl [1, 2, 4, 7] (fun _ _ => rfl) (fun b1 b2 => by kernel_rfl) (fun b1 b2 => by kernel_rfl) (fun b1 b2 => ?_)
  refine cont_done ?_
  refine then_normal ?_
  refine cont_seq ?_
  refine cont_region 9 rfl ?_
  refine bS [0, 0] 2 7 [(4, .pointer (some ⟨b1, 0, none⟩)), (7, .pointer (some ⟨b2, 0, none⟩)), (16, .int .i64 W), (17, .int .i64 H)] ?_
  refine pl_step 3 6 rfl rfl ?_
  refine call_gen (d := 18) (α := Nat × Nat × Nat) (fun x_ => .tuple #[.pointer (some ⟨x_.1, 0, none⟩), .int .i64 0]) (fun x_ => [.cells x_.1 [.int .i64 W, .int .i64 H, .slice (some ⟨x_.2.1, 0, none⟩) x_.2.2 x_.2.2] 118 true, .gen (rowE (some ⟨x_.2.1, 0, none⟩) x_.2.1 x_.2.2 x_.2.2 24 1 (ivals .u32 (List.replicate x_.2.2 0)) true), .cells b2 [.int .u32 gc] 24 true, .cells b1 [.int .i64 K, .slice A n cap] 29 true, .gen (rdE (A) g o n 14 (dvals IT.cells its)), .gen (subE n (IT.hds 118 its)), .gen (subE n (IT.pxs its))]) (fun x_ => (x_.2.2 : Int) = W * H) (by kernel_rfl) (fun w hT => (imgNew W H w hWH).mono fun e w' ⟨b_, r_, n_, he_, hn_, hi_⟩ => ⟨(b_, r_, n_), he_, hn_, hT.addImg hi_⟩) ?_
  rintro ⟨b3, r3, n3⟩ hn3
  replace hn3 : (n3 : Int) = W * H := hn3
  refine cont_norm [(4, .pointer (some ⟨b1, 0, none⟩)), (7, .pointer (some ⟨b2, 0, none⟩)), (16, .int .i64 W), (17, .int .i64 H), (18, .tuple #[.pointer (some ⟨b3, 0, none⟩), .int .i64 0])] [.cells b3 [.int .i64 W, .int .i64 H, .slice (some ⟨r3, 0, none⟩) n3 n3] 118 true, .gen (rowE (some ⟨r3, 0, none⟩) r3 n3 n3 24 1 (ivals .u32 (List.replicate n3 0)) true), .cells b2 [.int .u32 gc] 24 true, .cells b1 [.int .i64 K, .slice A n cap] 29 true, .gen (rdE (A) g o n 14 (dvals IT.cells its)), .gen (subE n (IT.hds 118 its)), .gen (subE n (IT.pxs its))] (by kernel_rfl) rfl ?_
  refine batch1 [0, 0, 0, 0, 0, 0] 9 0 (fun b4 => [(4, .pointer (some ⟨b1, 0, none⟩)), (7, .pointer (some ⟨b2, 0, none⟩)), (10, .pointer (some ⟨b4, 0, none⟩)), (11, .int .i64 0)]) (fun b4 => [.cells b4 [.pointer (some ⟨b3, 0, none⟩)] 43 true, .cells b3 [.int .i64 W, .int .i64 H, .slice (some ⟨r3, 0, none⟩) n3 n3] 118 true, .gen (rowE (some ⟨r3, 0, none⟩) r3 n3 n3 24 1 (ivals .u32 (List.replicate n3 0)) true), .cells b2 [.int .u32 gc] 24 true, .cells b1 [.int .i64 K, .slice A n cap] 29 true, .gen (rdE (A) g o n 14 (dvals IT.cells its)), .gen (subE n (IT.hds 118 its)), .gen (subE n (IT.pxs its))]) rfl rfl [4, 7, 10, 11] (fun _ => rfl) (fun b4 => by kernel_rfl) (fun b4 => by kernel_rfl) (fun b4 => ?_)
  refine cont_done ?_
  refine then_normal ?_
  refine cont_seq ?_
  refine cont_seq ?_
  refine cont_region 2 rfl ?_
  refine bS [0, 0] 2 0 [(4, .pointer (some ⟨b1, 0, none⟩)), (7, .pointer (some ⟨b2, 0, none⟩)), (10, .pointer (some ⟨b4, 0, none⟩)), (11, .int .i64 0), (22, .bool false)] ?_
  refine cont_done ?_
  refine then_normal ?_
  refine cont_false rfl ?_
  refine cont_skip ?_
  refine then_normal ?_
  refine cont_seq ?_
  refine cont_seq ?_
  refine cont_region 2 rfl ?_
  refine bS [0] 1 1 [(4, .pointer (some ⟨b1, 0, none⟩)), (7, .pointer (some ⟨b2, 0, none⟩)), (10, .pointer (some ⟨b4, 0, none⟩)), (24, .pointer (some ⟨b3, 0, none⟩))] ?_
  refine pl_step 2 0 rfl rfl ?_
  refine call_gen (d := 25) (α := Nat) (fun x_ => .func (.func 77) #[] #[.pointer (some ⟨x_, 0, none⟩)]) (fun x_ => [.cells x_ [.pointer (some ⟨b3, 0, none⟩)] 43 true, .cells b4 [.pointer (some ⟨b3, 0, none⟩)] 43 true, .cells b3 [.int .i64 W, .int .i64 H, .slice (some ⟨r3, 0, none⟩) n3 n3] 118 true, .gen (rowE (some ⟨r3, 0, none⟩) r3 n3 n3 24 1 (ivals .u32 (List.replicate n3 0)) true), .cells b2 [.int .u32 gc] 24 true, .cells b1 [.int .i64 K, .slice A n cap] 29 true, .gen (rdE (A) g o n 14 (dvals IT.cells its)), .gen (subE n (IT.hds 118 its)), .gen (subE n (IT.pxs its))]) (fun x_ => True) (by kernel_rfl) (fun w hT => (imgRows b3 w).mono fun e w' ⟨kb5, he_, ht_⟩ => ⟨kb5, he_, trivial, hT.news ht_ rfl⟩) ?_
  rintro kb5 hf6_
  refine cont_norm [(4, .pointer (some ⟨b1, 0, none⟩)), (7, .pointer (some ⟨b2, 0, none⟩)), (10, .pointer (some ⟨b4, 0, none⟩)), (24, .pointer (some ⟨b3, 0, none⟩)), (25, .func (.func 77) #[] #[.pointer (some ⟨kb5, 0, none⟩)])] [.cells kb5 [.pointer (some ⟨b3, 0, none⟩)] 43 true, .cells b4 [.pointer (some ⟨b3, 0, none⟩)] 43 true, .cells b3 [.int .i64 W, .int .i64 H, .slice (some ⟨r3, 0, none⟩) n3 n3] 118 true, .gen (rowE (some ⟨r3, 0, none⟩) r3 n3 n3 24 1 (ivals .u32 (List.replicate n3 0)) true), .cells b2 [.int .u32 gc] 24 true, .cells b1 [.int .i64 K, .slice A n cap] 29 true, .gen (rdE (A) g o n 14 (dvals IT.cells its)), .gen (subE n (IT.hds 118 its)), .gen (subE n (IT.pxs its))] (by kernel_rfl) rfl ?_
  refine cont_done ?_
  refine then_normal ?_
  refine cont_block ?_
  refine cont_fact (F := (0 < n3 → (some ⟨r3, 0, none⟩ : Option Addr) = some ⟨r3, 0, none⟩) ∧ ((List.replicate n3 0) : List Int).length = n3 ∧ n3 ≤ n3 ∧ n3 ≤ maxLen) (fun w hT => Row.facts (hT.ok 3 _ rfl)) (fun hr7_ => ?_)
  obtain ⟨hr7_a, hr7_l, hr7_c, hr7_m⟩ := hr7_
  unfold maxLen at hr7_m
  obtain ⟨Wn, hWn⟩ : ∃ k_ : Nat, (k_ : Int) = W := ⟨Int.toNat W, by omega⟩
  obtain ⟨Hn, hHn⟩ : ∃ k_ : Nat, (k_ : Int) = H := ⟨Int.toNat H, by omega⟩
  have hnum := hn3
  have hw1 : 1 ≤ W := hWH.1
  refine cont_weaken 0 (.ro kb5 [.pointer (some ⟨b3, 0, none⟩)] 43) rfl rfl Vw.roc rfl ?_
  refine cont_norm [(4, .pointer (some ⟨b1, 0, none⟩)), (7, .pointer (some ⟨b2, 0, none⟩)), (10, .pointer (some ⟨b4, 0, none⟩)), (24, .pointer (some ⟨b3, 0, none⟩)), (25, .func (.func 77) #[] #[.pointer (some ⟨kb5, 0, none⟩)])] [.ro kb5 [.pointer (some ⟨b3, 0, none⟩)] 43, .cells b4 [.pointer (some ⟨b3, 0, none⟩)] 43 true, .cells b3 [.int .i64 W, .int .i64 H, .slice (some ⟨r3, 0, none⟩) n3 n3] 118 true, .gen (rowE (some ⟨r3, 0, none⟩) r3 n3 n3 24 1 (ivals .u32 (List.replicate n3 0)) true), .cells b2 [.int .u32 gc] 24 true, .cells b1 [.int .i64 K, .slice A n cap] 29 true, .gen (rdE (A) g o n 14 (dvals IT.cells its)), .gen (subE n (IT.hds 118 its)), .gen (subE n (IT.pxs its))] (by kernel_rfl) rfl ?_
  refine cont_rowEq (k := .u32) 3 (List.replicate n3 0) (compK ts W n3 gc (0 * Wn)) rfl (by rw [Nat.zero_mul]; exact (compK_zero _ _ _ _).symm) ?_
  refine cont_pick [0, 2, 3, 1, 4, 5, 6, 7, 8] [.ro kb5 [.pointer (some ⟨b3, 0, none⟩)] 43, .cells b3 [.int .i64 W, .int .i64 H, .slice (some ⟨r3, 0, none⟩) n3 n3] 118 true, .gen (rowE (some ⟨r3, 0, none⟩) r3 n3 n3 24 1 (ivals .u32 (compK ts W n3 gc (0 * Wn))) true), .cells b4 [.pointer (some ⟨b3, 0, none⟩)] 43 true, .cells b2 [.int .u32 gc] 24 true, .cells b1 [.int .i64 K, .slice A n cap] 29 true, .gen (rdE (A) g o n 14 (dvals IT.cells its)), .gen (subE n (IT.hds 118 its)), .gen (subE n (IT.pxs its))] (by decide) rfl rfl ?_
  refine cont_rangeFuncW (X := Int × Nat × Nat × List Int) (β := Nat) (γ := Unit) (gf := 77) (lb := #[.pointer (some ⟨kb5, 0, none⟩)]) (fun z_ : Int × Nat × Nat × List Int => #[.int .i64 z_.1, .slice (some ⟨z_.2.1, 0, none⟩) Wn z_.2.2.1]) [.ro kb5 [.pointer (some ⟨b3, 0, none⟩)] 43, .cells b3 [.int .i64 W, .int .i64 H, .slice (some ⟨r3, 0, none⟩) n3 n3] 118 true] (fun z_ : Int × Nat × Nat × List Int => [.gen (rowE (some ⟨z_.2.1, 0, none⟩) z_.2.1 Wn z_.2.2.1 24 1 (ivals .u32 z_.2.2.2) true)]) (fun xs_ => RowsW Hn xs_ ∧ xs_.length = Hn) (fun xs_ => RowsW Hn xs_) (fun (pre : List (Int × Nat × Nat × List Int)) (x_ : Nat) => x_ = pre.length) (fun x_ : Nat => [.gen (rowE (some ⟨r3, 0, none⟩) r3 n3 n3 24 1 (ivals .u32 (compK ts W n3 gc (x_ * Wn))) true), .cells b4 [.pointer (some ⟨b3, 0, none⟩)] 43 true, .cells b2 [.int .u32 gc] 24 true, .cells b1 [.int .i64 K, .slice A n cap] 29 true, .gen (rdE (A) g o n 14 (dvals IT.cells its)), .gen (subE n (IT.hds 118 its)), .gen (subE n (IT.pxs its))]) (fun (_ : Code) (_ : Unit) => False) (fun x_ : Unit => []) 0 rfl (fun _ _ => rfl) (fun _ => rfl) (by kernel_rfl) (rowsIterW kb5 b3 W H r3 n3 n3 Wn Hn hWn hHn (Nat.le_refl _) _ _ _ (fun k_ : Nat => compK ts W n3 gc (k_ * Wn)) (fun _ k_ _ => (imgOk_of hWH hn3 (compK_len _ _ _ _ _) (compK_may hts ⟨hgm, hg0, hg1⟩ _)))) rfl rfl ?_ ?_ ?_ ?_
  ·
    rintro l_ z8_ e8_ e8b_ e8q_ pre ⟨y, gx, cx, ll⟩ k B_ hz_ hinv9_ hsp_ hB_
    replace hinv9_ : k = pre.length := hinv9_
    replace hsp_ : RowsW Hn (pre ++ [(y, gx, cx, ll)]) := hsp_
    refine cont_norm [(4, .pointer (some ⟨b1, 0, none⟩)), (7, .pointer (some ⟨b2, 0, none⟩)), (10, .pointer (some ⟨b4, 0, none⟩)), (26, .int .i64 y), (27, .slice (some ⟨gx, 0, none⟩) Wn cx)] [.gen (rowE (some ⟨gx, 0, none⟩) gx Wn cx 24 1 (ivals .u32 ll) true), z8_, e8_, e8q_, .ro kb5 [.pointer (some ⟨b3, 0, none⟩)] 43, .cells b3 [.int .i64 W, .int .i64 H, .slice (some ⟨r3, 0, none⟩) n3 n3] 118 true, .gen (rowE (some ⟨r3, 0, none⟩) r3 n3 n3 24 1 (ivals .u32 (compK ts W n3 gc (k * Wn))) true), .cells b4 [.pointer (some ⟨b3, 0, none⟩)] 43 true, .cells b2 [.int .u32 gc] 24 true, .cells b1 [.int .i64 K, .slice A n cap] 29 true, .gen (rdE (A) g o n 14 (dvals IT.cells its)), .gen (subE n (IT.hds 118 its)), .gen (subE n (IT.pxs its))] (by kernel_rfl) rfl ?_
    refine mcont_seq ?_
    refine mcont_region 1 rfl (by kernel_rfl) ?_
    refine bS [0] 1 0 [(4, .pointer (some ⟨b1, 0, none⟩)), (7, .pointer (some ⟨b2, 0, none⟩)), (10, .pointer (some ⟨b4, 0, none⟩)), (12, .int .i64 y), (27, .slice (some ⟨gx, 0, none⟩) Wn cx)] ?_
    refine cont_done ?_
    refine then_normal ?_
    refine mcont_region 1 rfl (by kernel_rfl) ?_
    refine bS [0] 1 0 [(4, .pointer (some ⟨b1, 0, none⟩)), (7, .pointer (some ⟨b2, 0, none⟩)), (10, .pointer (some ⟨b4, 0, none⟩)), (12, .int .i64 y), (13, .slice (some ⟨gx, 0, none⟩) Wn cx)] ?_
    refine cont_done ?_
    refine then_normal ?_
    refine hB_ [(4, .pointer (some ⟨b1, 0, none⟩)), (7, .pointer (some ⟨b2, 0, none⟩)), (10, .pointer (some ⟨b4, 0, none⟩)), (12, .int .i64 y), (13, .slice (some ⟨gx, 0, none⟩) Wn cx)] [.gen (rowE (some ⟨gx, 0, none⟩) gx Wn cx 24 1 (ivals .u32 ll) true), z8_] [e8q_, .ro kb5 [.pointer (some ⟨b3, 0, none⟩)] 43, .cells b3 [.int .i64 W, .int .i64 H, .slice (some ⟨r3, 0, none⟩) n3 n3] 118 true, .gen (rowE (some ⟨r3, 0, none⟩) r3 n3 n3 24 1 (ivals .u32 (compK ts W n3 gc (k * Wn))) true), .cells b4 [.pointer (some ⟨b3, 0, none⟩)] 43 true, .cells b2 [.int .u32 gc] 24 true, .cells b1 [.int .i64 K, .slice A n cap] 29 true, .gen (rdE (A) g o n 14 (dvals IT.cells its)), .gen (subE n (IT.hds 118 its)), .gen (subE n (IT.pxs its))] ?_
    refine cont_norm [(4, .pointer (some ⟨b1, 0, none⟩)), (7, .pointer (some ⟨b2, 0, none⟩)), (10, .pointer (some ⟨b4, 0, none⟩)), (12, .int .i64 y), (13, .slice (some ⟨gx, 0, none⟩) Wn cx)] [.gen (rowE (some ⟨gx, 0, none⟩) gx Wn cx 24 1 (ivals .u32 ll) true), z8_, e8b_, e8q_, .ro kb5 [.pointer (some ⟨b3, 0, none⟩)] 43, .cells b3 [.int .i64 W, .int .i64 H, .slice (some ⟨r3, 0, none⟩) n3 n3] 118 true, .gen (rowE (some ⟨r3, 0, none⟩) r3 n3 n3 24 1 (ivals .u32 (compK ts W n3 gc (k * Wn))) true), .cells b4 [.pointer (some ⟨b3, 0, none⟩)] 43 true, .cells b2 [.int .u32 gc] 24 true, .cells b1 [.int .i64 K, .slice A n cap] 29 true, .gen (rdE (A) g o n 14 (dvals IT.cells its)), .gen (subE n (IT.hds 118 its)), .gen (subE n (IT.pxs its))] (by kernel_rfl) rfl ?_
    have hkp := hinv9_
    obtain ⟨hyp, hlt_⟩ := hsp_.last
    simp only at hyp
    rw [← hkp] at hyp hlt_
    have hmx := row_max (k := k) hWn hnum hw1 (by omega)
    have hmx2 : (k + 1) * Wn = k * Wn + Wn := by rw [Nat.add_mul, Nat.one_mul]
    refine mcont_block ?_
    refine mcont_seq ?_
    refine mcont_region 3 rfl (by kernel_rfl) ?_
    refine bS [0, 0, 0] 3 0 [(4, .pointer (some ⟨b1, 0, none⟩)), (7, .pointer (some ⟨b2, 0, none⟩)), (10, .pointer (some ⟨b4, 0, none⟩)), (12, .int .i64 y), (29, .int .i64 (Wn : Int)), (30, .int .i64 0)] ?_
    refine cont_done ?_
    refine then_normal ?_
    refine mcont_block ?_
    refine mcont_loop (α := Nat) (fun x_ : Nat => x_ ≤ Wn) (fun x_ : Nat => [(4, .pointer (some ⟨b1, 0, none⟩)), (7, .pointer (some ⟨b2, 0, none⟩)), (10, .pointer (some ⟨b4, 0, none⟩)), (12, .int .i64 y), (29, .int .i64 (Wn : Int)), (30, .int .i64 (x_ : Int))]) (fun x_ : Nat => [.gen (rowE (some ⟨gx, 0, none⟩) gx Wn cx 24 1 (ivals .u32 ll) true), z8_, e8b_, e8q_, .ro kb5 [.pointer (some ⟨b3, 0, none⟩)] 43, .cells b3 [.int .i64 W, .int .i64 H, .slice (some ⟨r3, 0, none⟩) n3 n3] 118 true, .gen (rowE (some ⟨r3, 0, none⟩) r3 n3 n3 24 1 (ivals .u32 (compK ts W n3 gc (k * Wn + x_))) true), .cells b4 [.pointer (some ⟨b3, 0, none⟩)] 43 true, .cells b2 [.int .u32 gc] 24 true, .cells b1 [.int .i64 K, .slice A n cap] 29 true, .gen (rdE (A) g o n 14 (dvals IT.cells its)), .gen (subE n (IT.hds 118 its)), .gen (subE n (IT.pxs its))]) (fun x_ : Nat => Wn - x_) 0 (by omega) (by kernel_rfl) (by kernel_rfl) ?_
    rintro j hinv10_
    replace hinv10_ : j ≤ Wn := hinv10_
    refine cont_norm [(4, .pointer (some ⟨b1, 0, none⟩)), (7, .pointer (some ⟨b2, 0, none⟩)), (10, .pointer (some ⟨b4, 0, none⟩)), (12, .int .i64 y), (29, .int .i64 (Wn : Int)), (30, .int .i64 (j : Int))] [.gen (rowE (some ⟨gx, 0, none⟩) gx Wn cx 24 1 (ivals .u32 ll) true), z8_, e8b_, e8q_, .ro kb5 [.pointer (some ⟨b3, 0, none⟩)] 43, .cells b3 [.int .i64 W, .int .i64 H, .slice (some ⟨r3, 0, none⟩) n3 n3] 118 true, .gen (rowE (some ⟨r3, 0, none⟩) r3 n3 n3 24 1 (ivals .u32 (compK ts W n3 gc (k * Wn + j))) true), .cells b4 [.pointer (some ⟨b3, 0, none⟩)] 43 true, .cells b2 [.int .u32 gc] 24 true, .cells b1 [.int .i64 K, .slice A n cap] 29 true, .gen (rdE (A) g o n 14 (dvals IT.cells its)), .gen (subE n (IT.hds 118 its)), .gen (subE n (IT.pxs its))] (by kernel_rfl) rfl ?_
    have hj := hinv10_
    refine mcont_seq ?_
    refine mcont_region 1 rfl (by kernel_rfl) ?_
    refine bS [0] 1 0 [(4, .pointer (some ⟨b1, 0, none⟩)), (7, .pointer (some ⟨b2, 0, none⟩)), (10, .pointer (some ⟨b4, 0, none⟩)), (12, .int .i64 y), (29, .int .i64 (Wn : Int)), (30, .int .i64 (j : Int)), (31, .bool (decide ((j : Int) < (Wn : Int))))] ?_
    refine cont_done ?_
    refine then_normal ?_
    refine mcont_seq ?_
    refine cont_split 31 (decide ((j : Int) < (Wn : Int))) rfl (fun c11_ => ?_) (fun c11_ => ?_)
    ·
      replace c11_ := of_decide_eq_true c11_
      refine mcont_true rfl ?_
      refine mcont_skip ?_
      refine then_normal ?_
      refine mcont_seq ?_
      refine mcont_block ?_
      refine mcont_seq ?_
      refine mcont_region 2 rfl (by kernel_rfl) ?_
      refine bS [0, 0] 2 0 [(4, .pointer (some ⟨b1, 0, none⟩)), (7, .pointer (some ⟨b2, 0, none⟩)), (10, .pointer (some ⟨b4, 0, none⟩)), (12, .int .i64 y), (14, .int .i64 (j : Int)), (29, .int .i64 (Wn : Int)), (30, .int .i64 (j : Int))] ?_
      refine cont_done ?_
      refine then_normal ?_
      obtain ⟨hpx0, hpx1⟩ := pixS_in ts (j : Int) y (g := gc) ⟨hg0, hg1⟩
      refine mdrawn_enter 9 [6] rfl (by kernel_rfl) (by kernel_rfl) ?_
      refine takes 0 [6] [(0, 7), (1, 0), (2, 0), (3, 9), (4, 0), (5, 0), (6, 8)] 2 [6, 5, 4, 3, 2, 1, 0] [(4, .pointer (some ⟨b1, 0, none⟩)), (7, .pointer (some ⟨b2, 0, none⟩)), (10, .pointer (some ⟨b4, 0, none⟩)), (12, .int .i64 y), (29, .int .i64 (Wn : Int)), (30, .int .i64 (j : Int)), (33, .pointer (some ⟨b3, 0, none⟩)), (34, .int .i64 (j : Int)), (35, .int .i64 y), (36, .agg #[.int .i64 K, .slice A n cap]), (37, .int .i64 (j : Int)), (38, .int .i64 y), (39, .int .u32 gc)] (by kernel_rfl) (pok_blk (pok_then (pok_then (pok_blk (pok_blk pok_rq))))) (by kernel_rfl) rfl rfl (by kernel_rfl) (by kernel_rfl) ?_
      refine drawn_one 7 1 rfl (by kernel_rfl) ?_
      refine call_pure (d := 40) (.int .u32 (pixS ts (j : Int) y gc)) (by kernel_rfl) (fun w hT => naivePixel K A g o n cap its ts (j : Int) y gc w (hT.viewRo (.cons (i := 10) rfl Vw.rd (.cons (i := 11) rfl Vw.subSub (.cons (i := 12) rfl Vw.subSub .nil))) rfl) hmapS hgt (by omega) (by omega) (by omega) (by omega) (by omega)) ?_
      refine drawn_next 0 [6] (by kernel_rfl) ?_
      refine drawn_one 8 0 rfl (by kernel_rfl) ?_
      refine call_gen (d := 41) (α := Unit) (fun _ => .int .i64 (setE W H (j : Int) y (pixS ts (j : Int) y gc))) (fun _ => [.gen (rowE (some ⟨gx, 0, none⟩) gx Wn cx 24 1 (ivals .u32 ll) true), z8_, e8b_, e8q_, .ro kb5 [.pointer (some ⟨b3, 0, none⟩)] 43, .cells b3 [.int .i64 W, .int .i64 H, .slice (some ⟨r3, 0, none⟩) n3 n3] 118 true, .gen (rowE (some ⟨r3, 0, none⟩) r3 n3 n3 24 1 (ivals .u32 (setL W H (compK ts W n3 gc (k * Wn + j)) (j : Int) y (pixS ts (j : Int) y gc))) true), .cells b4 [.pointer (some ⟨b3, 0, none⟩)] 43 true, .cells b2 [.int .u32 gc] 24 true, .cells b1 [.int .i64 K, .slice A n cap] 29 true, .gen (rdE (A) g o n 14 (dvals IT.cells its)), .gen (subE n (IT.hds 118 its)), .gen (subE n (IT.pxs its))]) (fun _ => True) (by kernel_rfl) (fun w hT => (imgSet b3 W H r3 n3 n3 (compK ts W n3 gc (k * Wn + j)) (j : Int) y (pixS ts (j : Int) y gc) w ⟨hT.ok 5 _ rfl, hT.ok 6 _ rfl, fun hne => hT.disj 5 6 _ _ (by omega) rfl rfl (.inr rfl) _ rfl ⟨hne, by simp⟩⟩ (imgOk_of hWH hn3 (compK_len _ _ _ _ _) (compK_may hts ⟨hgm, hg0, hg1⟩ _)) ⟨hpx0, hpx1⟩).mono fun e w' ⟨he_, hk_, hr_⟩ => ⟨(), he_, trivial, hT.keepBut hk_ (i := 6) rfl hr_⟩) (fun _ _ => ?_)
      refine drawn_next 0 [6] (by kernel_rfl) ?_
      refine drawn_done (by kernel_rfl) ?_
      refine blk_normal ?_
      refine then_normal ?_
      refine mcont_region 2 rfl (by kernel_rfl) ?_
      refine bS [0] 1 1 [(4, .pointer (some ⟨b1, 0, none⟩)), (7, .pointer (some ⟨b2, 0, none⟩)), (10, .pointer (some ⟨b4, 0, none⟩)), (12, .int .i64 y), (29, .int .i64 (Wn : Int)), (42, .int .i64 (IntKind.i64.wrap ((j : Int) + 1)))] ?_
      refine cont_recast 42 (.int .i64 (IntKind.i64.wrap ((j : Int) + 1))) (.int .i64 ((j : Int) + 1)) rfl (wrapI (by omega) (by omega)) ?_
      refine bS [0] 2 0 [(4, .pointer (some ⟨b1, 0, none⟩)), (7, .pointer (some ⟨b2, 0, none⟩)), (10, .pointer (some ⟨b4, 0, none⟩)), (12, .int .i64 y), (29, .int .i64 (Wn : Int)), (30, .int .i64 ((j : Int) + 1))] ?_
      refine cont_done ?_
      refine then_normal ?_
      refine cont_rowEq (k := .u32) 6 (setL W H (compK ts W n3 gc (k * Wn + j)) (j : Int) y (pixS ts (j : Int) y gc)) (compK ts W n3 gc (k * Wn + (j + 1))) rfl (by rw [hyp]; exact compK_put hWn hw1 hnum (by omega) (by omega) (pixS_may hts hgm _ _)) ?_
      refine cont_again (j + 1) (show (j + 1) ≤ Wn from (by omega)) (show Wn - (j + 1) < Wn - j from by omega) (by kernel_rfl) (by kernel_rfl)
    replace c11_ := of_decide_eq_false c11_
    refine mcont_false rfl ?_
    refine mcont_exit ?_
    refine then_exit ?_
    refine then_exit ?_
    refine blk_exit ?_
    refine blk_normal ?_
    refine cont_rowEq (k := .u32) 6 (compK ts W n3 gc (k * Wn + j)) (compK ts W n3 gc ((k + 1) * Wn)) rfl (by rw [Nat.add_mul, Nat.one_mul, show j = Wn by omega]) ?_
    refine cont_pick [1, 2, 3, 4, 5, 6, 7, 8, 9, 10, 11, 12] [z8_, e8b_, e8q_, .ro kb5 [.pointer (some ⟨b3, 0, none⟩)] 43, .cells b3 [.int .i64 W, .int .i64 H, .slice (some ⟨r3, 0, none⟩) n3 n3] 118 true, .gen (rowE (some ⟨r3, 0, none⟩) r3 n3 n3 24 1 (ivals .u32 (compK ts W n3 gc ((k + 1) * Wn))) true), .cells b4 [.pointer (some ⟨b3, 0, none⟩)] 43 true, .cells b2 [.int .u32 gc] 24 true, .cells b1 [.int .i64 K, .slice A n cap] 29 true, .gen (rdE (A) g o n 14 (dvals IT.cells its)), .gen (subE n (IT.hds 118 its)), .gen (subE n (IT.pxs its))] (by decide) rfl rfl ?_
    refine rq_next (k + 1) (show (k + 1) = (pre ++ [(y, gx, cx, ll)]).length from (by rw [List.length_append, List.length_singleton]; omega)) rfl
  ·
    rintro D13_ xs_ k hS_ hinv12_
    replace hinv12_ : k = xs_.length := hinv12_
    replace hS_ : RowsW Hn xs_ ∧ xs_.length = Hn := hS_
    refine cont_norm [(10, .pointer (some ⟨b4, 0, none⟩))] [markE D13_, .ro kb5 [.pointer (some ⟨b3, 0, none⟩)] 43, .cells b3 [.int .i64 W, .int .i64 H, .slice (some ⟨r3, 0, none⟩) n3 n3] 118 true, .gen (rowE (some ⟨r3, 0, none⟩) r3 n3 n3 24 1 (ivals .u32 (compK ts W n3 gc (k * Wn))) true), .cells b4 [.pointer (some ⟨b3, 0, none⟩)] 43 true, .cells b2 [.int .u32 gc] 24 true, .cells b1 [.int .i64 K, .slice A n cap] 29 true, .gen (rdE (A) g o n 14 (dvals IT.cells its)), .gen (subE n (IT.hds 118 its)), .gen (subE n (IT.pxs its))] (by kernel_rfl) rfl ?_
    have hkp := hinv12_
    have h1k_ : k = Hn := by rw [hkp]; exact hS_.2
    have h2k_ : ((Hn * Wn : Nat) : Int) = (n3 : Int) := by rw [Int.natCast_mul, hWn, hHn, hnum, Int.mul_comm]
    refine cont_rowEq (k := .u32) 3 (compK ts W n3 gc (k * Wn)) (compS ts W n3 gc) rfl (compK_all _ _ _ (by rw [h1k_]; omega)) ?_
    refine blk_normal ?_
    refine then_normal ?_
    refine cont_seq ?_
    refine cont_region 3 rfl ?_
    refine bS [4, 0, 0] 3 0 [(8, .pointer (some ⟨b3, 0, none⟩)), (9, .int .i64 0)] ?_
    refine cont_forget 4 rfl ?_
    refine cont_forget 4 rfl ?_
    refine cont_forget 4 rfl ?_
    refine cont_done ?_
    refine then_normal ?_
    refine cont_ret ?_
    refine mark_end 0 rfl (.inl rfl) ?_
    refine cont_norm [(8, .pointer (some ⟨b3, 0, none⟩)), (9, .int .i64 0)] [objE D13_ (.deferred none), .ro kb5 [.pointer (some ⟨b3, 0, none⟩)] 43, .cells b3 [.int .i64 W, .int .i64 H, .slice (some ⟨r3, 0, none⟩) n3 n3] 118 true, .gen (rowE (some ⟨r3, 0, none⟩) r3 n3 n3 24 1 (ivals .u32 (compS ts W n3 gc)) true), .gen (rdE (A) g o n 14 (dvals IT.cells its)), .gen (subE n (IT.hds 118 its)), .gen (subE n (IT.pxs its))] (by kernel_rfl) rfl ?_
    refine ret_two (.inl rfl) rfl 0 0 (.pointer (some ⟨b3, 0, none⟩)) (.int .i64 0) (by kernel_rfl) (by kernel_rfl) (by kernel_rfl) (by kernel_rfl) (fun w hT => ?_)
    replace hT := hT.erase 6 (fun e h hw => by cases h; first | rfl | cases hw)
    replace hT := hT.erase 5 (fun e h hw => by cases h; first | rfl | cases hw)
    replace hT := hT.erase 4 (fun e h hw => by cases h; first | rfl | cases hw)
    replace hT := hT.erase 1 (fun e h hw => by cases h; first | rfl | cases hw)
    replace hT := hT.erase 0 (fun e h hw => by cases h; first | rfl | cases hw)
    exact ⟨_, _, n3, rfl, hnum, newImg_of_tab hT⟩
  ·
    intro D_  c_ h_; exact h_.elim
  ·
    intro D_ id_ c_ h_; exact h_.elim

end Go.Proofs.Ytlfahohbkgdabaa

/- Contracts of functions of the given program, printed by a program of this project. -/
set_option linter.unusedVariables false
set_option linter.unusedSimpArgs false
namespace Go.Proofs.Ytlfahohbkgdabaa
open Go Go.RowKit
set_option maxRecDepth 100000
set_option maxHeartbeats 8000000

theorem rowsIter0 (kb m : Nat) (W H : Int) (r n cap : Nat) (px : List Int) (Wn Hn : Nat) (hWn : (Wn : Int) = W) (hHn : (Hn : Int) = H) (hcap : n ≤ cap) (hok : ImgOk W H n px) (w0 : World) {β : Type} (Inv : List (Int × Nat × Nat) → β → Prop) (Tr : β → List Ent) (Jx : World → Prop) (l_ : Nat) (e1 e2 : Ent) (w : World) (b0 : β) (hJx : ∀ w w', Jx w → Below w.heap.size w w' → Jx w') (hY : ∀ pre x b W1 z, (z.wr = true → z.own = true) → Inv pre b → RowsP Hn (pre ++ [x]) → Tab w0 W1 ([.gen (rowE (some ⟨x.2.1, 0, none⟩) x.2.1 Wn x.2.2 24 1 (ivals .u32 (rowL Wn px x.1)) true)] ++ (z :: e1 :: e2 :: (.ro kb [.pointer (some ⟨m, 0, none⟩)] 43) :: (.ro m [.int .i64 W, .int .i64 H, .slice (some ⟨r, 0, none⟩) n cap] 118) :: (.gen (rdE (some ⟨r, 0, none⟩) r 0 n 1 (ivals .u32 px))) :: (Tr b))) → YieldAt Fence.wide 0 Try.prog l_ #[.int .i64 x.1, .slice (some ⟨x.2.1, 0, none⟩) Wn x.2.2] W1 fun e W' => (e = .returned (.bool true) ∧ ∃ b', Inv (pre ++ [x]) b' ∧ Tab w0 W' (z :: e1 :: e2 :: (.ro kb [.pointer (some ⟨m, 0, none⟩)] 43) :: (.ro m [.int .i64 W, .int .i64 H, .slice (some ⟨r, 0, none⟩) n cap] 118) :: (.gen (rdE (some ⟨r, 0, none⟩) r 0 n 1 (ivals .u32 px))) :: (Tr b'))) ∨ (e = .returned (.bool false) ∧ Jx W')) (h0 : Inv [] b0) (hT0 : Tab w0 w (e1 :: e2 :: (.ro kb [.pointer (some ⟨m, 0, none⟩)] 43) :: (.ro m [.int .i64 W, .int .i64 H, .slice (some ⟨r, 0, none⟩) n cap] 118) :: (.gen (rdE (some ⟨r, 0, none⟩) r 0 n 1 (ivals .u32 px))) :: (Tr b0))) :
    Calls Try.prog 77 #[.func (.yield l_) #[] #[], .pointer (some ⟨kb, 0, none⟩)] w fun e W' => (∃ v, e = .returned v) ∧ ((∃ xs_ b', (RowsP Hn xs_ ∧ xs_.length = Hn) ∧ Inv xs_ b' ∧ Tab w0 W' (e1 :: e2 :: (.ro kb [.pointer (some ⟨m, 0, none⟩)] 43) :: (.ro m [.int .i64 W, .int .i64 H, .slice (some ⟨r, 0, none⟩) n cap] 118) :: (.gen (rdE (some ⟨r, 0, none⟩) r 0 n 1 (ivals .u32 px))) :: (Tr b'))) ∨ Jx W') := by
 have hw1 := hok.w1
 have hw2 := hok.w2
 have hh1 := hok.h1
 have hh2 := hok.h2
 have hnum := hok.num
 have hlen := hok.len
 have hle := hok.le
 refine enterI 24 [(0, .func (.yield l_) #[] #[]), (1, .pointer (pB kb))] (e1 :: e2 :: (.ro kb [.pointer (pB m)] 43) :: (.ro m [iq W, iq H, .slice (pB r) n cap] 118) :: (.gen (rdE (pB r) r 0 n 1 (ivals .u32 px))) :: (Tr b0)) Try.func77 rfl Try.ntmps77 rfl (by kernel_rfl) hT0 (fun _ h_ => by simp at h_) ?_
 refine mcont_seq ?_
 refine mcont_region 5 rfl (by kernel_rfl) ?_
 refine bS [2, 0, 0, 3, 0] 5 0 [(0, .func (.yield l_) #[] #[]), (1, .pointer (pB kb)), (7, iq H), (8, iq 0)] ?_
 refine cont_done ?_
 refine then_normal ?_
 refine mcont_block ?_
 refine cont_nilrow 24 1 ?_
 refine cont_norm [(0, .func (.yield l_) #[] #[]), (1, .pointer (pB kb)), (7, iq H), (8, iq 0)] _ (by kernel_rfl) rfl ?_
 refine cont_recast 8 (iq 0) (iq (([] : List (Int × Nat × Nat)).length : Int)) rfl (congrArg (Value.int .i64) (by simp)) ?_
 refine mcont_loop (α := List (Int × Nat × Nat) × β) (fun x_ : List (Int × Nat × Nat) × β => RowsP Hn x_.1 ∧ Inv x_.1 x_.2) (fun x_ : List (Int × Nat × Nat) × β => [(0, .func (.yield l_) #[] #[]), (1, .pointer (pB kb)), (7, iq H), (8, iq ((x_.1.length : Nat) : Int))]) (fun x_ : List (Int × Nat × Nat) × β => ((.gen (rowE (none) 0 0 0 24 1 (ivals .u32 []) true)) :: e1 :: e2 :: (.ro kb [.pointer (pB m)] 43) :: (.ro m [iq W, iq H, .slice (pB r) n cap] 118) :: (.gen (rdE (pB r) r 0 n 1 (ivals .u32 px))) :: (Tr x_.2))) (fun x_ : List (Int × Nat × Nat) × β => Hn - x_.1.length) ([], b0) (show RowsP Hn ([]) ∧ Inv ([]) (b0) from ⟨RowsP.nil _, h0⟩) (by kernel_rfl) (by kernel_rfl) ?_
 rintro ⟨pre, b⟩ hinv2_
 replace hinv2_ : RowsP Hn pre ∧ Inv pre b := hinv2_
 refine cont_norm [(0, .func (.yield l_) #[] #[]), (1, .pointer (pB kb)), (7, iq H), (8, iq ((pre.length : Nat) : Int))] _ (by kernel_rfl) rfl ?_
 obtain ⟨hP, hI⟩ := hinv2_
 have hpl := hP.2
 have hbd := fun h_ : pre.length < Hn => row_bd (k := pre.length) hnum hw1 (by omega)
 refine mcont_seq ?_
 refine mcont_region 1 rfl (by kernel_rfl) ?_
 refine bS [0] 1 0 [(0, .func (.yield l_) #[] #[]), (1, .pointer (pB kb)), (7, iq H), (8, iq ((pre.length : Nat) : Int)), (9, .bool (decide (((pre.length : Nat) : Int) < H)))] ?_
 refine cont_done ?_
 refine then_normal ?_
 refine mcont_seq ?_
 refine cont_split 9 (decide (((pre.length : Nat) : Int) < H)) rfl (fun c3_ => ?_) (fun c3_ => ?_)
 ·
  replace c3_ := of_decide_eq_true c3_
  refine mcont_true rfl ?_
  refine mcont_skip ?_
  refine then_normal ?_
  refine mcont_seq ?_
  refine mcont_block ?_
  refine mcont_seq ?_
  refine mcont_region 2 rfl (by kernel_rfl) ?_
  obtain ⟨hbd1, hbd2⟩ := hbd (by omega)
  refine bS [0, 0] 2 0 [(0, .func (.yield l_) #[] #[]), (1, .pointer (pB kb)), (3, iq ((pre.length : Nat) : Int)), (7, iq H), (8, iq ((pre.length : Nat) : Int))] ?_
  refine cont_done ?_
  refine then_normal ?_
  refine mcont_seq ?_
  refine idrawn_enter 12 10 [0, 1, 9, 8, 2, 3, 7, 6, 5, 4] [] rfl (by kernel_rfl) (by kernel_rfl) (by kernel_rfl) ?_
  refine takes 0 [] [(0, 0), (1, 0), (2, 3), (3, 0), (4, 3), (5, 0), (6, 0), (7, 4)] 4 [7, 6, 5, 4, 3, 2, 1, 0] [(0, .func (.yield l_) #[] #[]), (1, .pointer (pB kb)), (7, iq H), (8, iq ((pre.length : Nat) : Int)), (11, .func (.yield l_) #[] #[]), (12, iq ((pre.length : Nat) : Int)), (13, .pointer (pB m)), (14, iq ((pre.length : Nat) : Int)), (18, iq W)] (by kernel_rfl) (pok_then (pok_then (pok_blk (pok_then (pok_then (pok_blk pok_body)))))) (by kernel_rfl) rfl rfl (by kernel_rfl) (by kernel_rfl) ?_
  refine drawn_one 8 3 rfl (by kernel_rfl) ?_
  refine call_pure (d := 19) (.slice (sliceA r 0 (Int.toNat (((pre.length : Nat) : Int) * W + 0)) cap 1) (Int.toNat (((pre.length : Nat) : Int) * W + W) - Int.toNat (((pre.length : Nat) : Int) * W + 0)) (cap - Int.toNat (((pre.length : Nat) : Int) * W + 0))) (by kernel_rfl) (fun w hT => imgRow m W H r n cap px ((pre.length : Nat) : Int) 0 W w ⟨hT.ok 4 _ rfl, hT.ok 5 _ rfl, by omega⟩ hok (by omega)) ?_
  refine drawn_next 0 [] (by kernel_rfl) ?_
  refine drawn_one 9 2 rfl (by kernel_rfl) ?_
  refine call_gen (d := 20) (α := Nat × Nat) (fun x_ => .slice (pB x_.1) (Int.toNat (((pre.length : Nat) : Int) * W + W) - Int.toNat (((pre.length : Nat) : Int) * W + 0)) x_.2) (fun x_ => ((.gen (rowE (pB x_.1) x_.1 (Int.toNat (((pre.length : Nat) : Int) * W + W) - Int.toNat (((pre.length : Nat) : Int) * W + 0)) x_.2 24 1 (ivals .u32 ((px.drop (Int.toNat (((pre.length : Nat) : Int) * W + 0))).take (Int.toNat (((pre.length : Nat) : Int) * W + W) - Int.toNat (((pre.length : Nat) : Int) * W + 0)))) true)) :: (.gen (rowE (none) 0 0 0 24 1 (ivals .u32 []) true)) :: e1 :: e2 :: (.ro kb [.pointer (pB m)] 43) :: (.ro m [iq W, iq H, .slice (pB r) n cap] 118) :: (.gen (rdE (pB r) r 0 n 1 (ivals .u32 px))) :: (Tr b))) (fun x_ => True) (by kernel_rfl) (fun w hT => (sliceCloneP (sliceA r 0 (Int.toNat (((pre.length : Nat) : Int) * W + 0)) cap 1) r (0 + (Int.toNat (((pre.length : Nat) : Int) * W + 0)) * 1) (Int.toNat (((pre.length : Nat) : Int) * W + W) - Int.toNat (((pre.length : Nat) : Int) * W + 0)) (cap - Int.toNat (((pre.length : Nat) : Int) * W + 0)) ((px.drop (Int.toNat (((pre.length : Nat) : Int) * W + 0))).take (Int.toNat (((pre.length : Nat) : Int) * W + W) - Int.toNat (((pre.length : Nat) : Int) * W + 0))) w (hT.viewRo (.cons (i := 5) rfl (Vw.rdSub (by omega) (by omega)) .nil) rfl) (sliceA_pos (by omega)) (by omega)).mono fun e w' ⟨g24, cp5, he_, ht_⟩ => ⟨(g24, cp5), he_, trivial, hT.news ht_ rfl⟩) ?_
  rintro ⟨g24, cp5⟩ hf6_
  refine cont_norm [(0, .func (.yield l_) #[] #[]), (1, .pointer (pB kb)), (7, iq H), (8, iq ((pre.length : Nat) : Int)), (11, .func (.yield l_) #[] #[]), (12, iq ((pre.length : Nat) : Int)), (13, .pointer (pB m)), (14, iq ((pre.length : Nat) : Int)), (18, iq W), (19, .slice (sliceA r 0 (Int.toNat (((pre.length : Nat) : Int) * W + 0)) cap 1) (Int.toNat (((pre.length : Nat) : Int) * W + W) - Int.toNat (((pre.length : Nat) : Int) * W + 0)) (cap - Int.toNat (((pre.length : Nat) : Int) * W + 0))), (20, .slice (pB g24) (Int.toNat (((pre.length : Nat) : Int) * W + W) - Int.toNat (((pre.length : Nat) : Int) * W + 0)) cp5)] _ (by kernel_rfl) rfl ?_
  refine drawn_next 1 [] (by kernel_rfl) ?_
  refine drawn_done (by kernel_rfl) ?_
  refine then_normal ?_
  refine cont_rowEq (k := .u32) 0 (((px.drop (Int.toNat (((pre.length : Nat) : Int) * W + 0))).take (Int.toNat (((pre.length : Nat) : Int) * W + W) - Int.toNat (((pre.length : Nat) : Int) * W + 0)))) (rowL Wn px ((pre.length : Nat) : Int)) rfl (rowL_part hWn _) ?_
  rw [show (Int.toNat (((pre.length : Nat) : Int) * W + W) - Int.toNat (((pre.length : Nat) : Int) * W + 0)) = Wn from row_n hWn _]
  have hP2 : RowsP Hn (pre ++ [(((pre.length : Nat) : Int), g24, cp5)]) := hP.step (by omega)
  refine cont_norm [(0, .func (.yield l_) #[] #[]), (1, .pointer (pB kb)), (7, iq H), (8, iq ((pre.length : Nat) : Int)), (11, .func (.yield l_) #[] #[]), (12, iq ((pre.length : Nat) : Int)), (13, .pointer (pB m)), (14, iq ((pre.length : Nat) : Int)), (18, iq W), (19, .slice (sliceA r 0 (Int.toNat (((pre.length : Nat) : Int) * W + 0)) cap 1) Wn (cap - Int.toNat (((pre.length : Nat) : Int) * W + 0))), (20, .slice (pB g24) Wn cp5)] _ (by kernel_rfl) rfl ?_
  refine pli_yield 21 11 1 rfl rfl (by kernel_rfl) (by kernel_rfl) (R := fun v_ w_ => (v_ = .bool true ∧ ∃ b_, Inv (pre ++ [(((pre.length : Nat) : Int), g24, cp5)]) b_ ∧ Tab w0 w_ ((.gen (rowE (none) 0 0 0 24 1 (ivals .u32 []) true)) :: e1 :: e2 :: (.ro kb [.pointer (pB m)] 43) :: (.ro m [iq W, iq H, .slice (pB r) n cap] 118) :: (.gen (rdE (pB r) r 0 n 1 (ivals .u32 px))) :: (Tr b_))) ∨ (v_ = .bool false ∧ Jx w_)) (fun w_ hT_ => YieldAt.weaken (hY pre (((pre.length : Nat) : Int), g24, cp5) b w_ _ (fun _ => rfl) hI hP2 hT_) (fun e_ w_ h_ => by rcases h_ with ⟨rfl, hh_⟩ | ⟨rfl, hh_⟩; exact ⟨_, rfl, .inl ⟨rfl, hh_⟩⟩; exact ⟨_, rfl, .inr ⟨rfl, hh_⟩⟩)) ?_
  rintro a_ w_ v_ ha_ hf_ (⟨rfl, b, hI, hT_⟩ | ⟨rfl, hJ⟩)
  ·
   refine Cont.go ?_ ha_ hf_ hT_
   refine cont_norm [(0, .func (.yield l_) #[] #[]), (1, .pointer (pB kb)), (7, iq H), (8, iq ((pre.length : Nat) : Int)), (21, .bool true)] _ (by kernel_rfl) rfl ?_
   refine pli_ops 1 0 12 rfl rfl (by kernel_rfl) ?_
   refine bS [0] 12 0 [(0, .func (.yield l_) #[] #[]), (1, .pointer (pB kb)), (7, iq H), (8, iq ((pre.length : Nat) : Int)), (22, .bool false)] ?_
   refine cont_done ?_
   refine then_normal ?_
   refine pli_done ?_
   refine then_normal ?_
   refine mcont_false rfl ?_
   refine mcont_skip ?_
   refine blk_normal ?_
   refine then_normal ?_
   refine mcont_region 2 rfl (by kernel_rfl) ?_
   refine bS [0] 1 1 [(0, .func (.yield l_) #[] #[]), (1, .pointer (pB kb)), (7, iq H), (23, iq (IntKind.i64.wrap (((pre.length : Nat) : Int) + 1)))] ?_
   refine cont_recast 23 (iq (IntKind.i64.wrap (((pre.length : Nat) : Int) + 1))) (iq (((pre.length : Nat) : Int) + 1)) rfl (wrapI (by omega) (by omega)) ?_
   refine bS [0] 2 0 [(0, .func (.yield l_) #[] #[]), (1, .pointer (pB kb)), (7, iq H), (8, iq (((pre.length : Nat) : Int) + 1))] ?_
   refine cont_done ?_
   refine then_normal ?_
   refine cont_recast 8 (iq (((pre.length : Nat) : Int) + 1)) (iq (((pre ++ [(((pre.length : Nat) : Int), g24, cp5)]).length : Nat) : Int)) rfl (congrArg (Value.int .i64) (by simp)) ?_
   refine cont_again (pre ++ [(((pre.length : Nat) : Int), g24, cp5)], b) (show RowsP Hn (pre ++ [(((pre.length : Nat) : Int), g24, cp5)]) ∧ Inv (pre ++ [(((pre.length : Nat) : Int), g24, cp5)]) (b) from ⟨hP2, hI⟩) (show Hn - (pre ++ [(((pre.length : Nat) : Int), g24, cp5)]).length < Hn - pre.length from by have h_ := hP2.2; rw [List.length_append, List.length_singleton] at h_ ⊢; omega) (by kernel_rfl) (by kernel_rfl)
  ·
   refine Cont.go ?_ ha_ hf_ (Tab.start w_)
   refine cont_norm [(0, .func (.yield l_) #[] #[]), (1, .pointer (pB kb)), (7, iq H), (8, iq ((pre.length : Nat) : Int)), (21, .bool false)] _ (by kernel_rfl) rfl ?_
   refine pli_ops 1 0 12 rfl rfl (by kernel_rfl) ?_
   refine bS [0] 12 0 [(0, .func (.yield l_) #[] #[]), (1, .pointer (pB kb)), (7, iq H), (8, iq ((pre.length : Nat) : Int)), (22, .bool true)] ?_
   refine cont_done ?_
   refine then_normal ?_
   refine pli_done ?_
   refine then_normal ?_
   refine mcont_true rfl ?_
   refine mcont_ret ?_
   refine blk_ret ?_
   refine then_ret ?_
   refine then_ret ?_
   refine blk_ret ?_
   refine ret_none (.inl rfl) rfl (fun w hT => ?_)
   exact ⟨⟨_, rfl⟩, .inr (hJx _ _ hJ (hT.toBelow (fun i e h => by simp at h)))⟩
 replace c3_ := of_decide_eq_false c3_
 refine mcont_false rfl ?_
 refine mcont_exit ?_
 refine then_exit ?_
 refine then_exit ?_
 refine blk_exit ?_
 refine ret_none (.inr rfl) rfl (fun w hT => ?_)
 exact ⟨⟨_, rfl⟩, .inl ⟨pre, b, ⟨hP, by omega⟩, hI, hT.drop (fun _ => rfl)⟩⟩

theorem rowsIter (kb m : Nat) (W H : Int) (r n cap : Nat) (px : List Int) (Wn Hn : Nat) (hWn : (Wn : Int) = W) (hHn : (Hn : Int) = H) (hcap : n ≤ cap) (hok : ImgOk W H n px) (w0 : World) : IterC Try.prog 77 #[.pointer (some ⟨kb, 0, none⟩)] (fun z_ : Int × Nat × Nat => #[.int .i64 z_.1, .slice (some ⟨z_.2.1, 0, none⟩) Wn z_.2.2]) w0 [.ro kb [.pointer (some ⟨m, 0, none⟩)] 43, .ro m [.int .i64 W, .int .i64 H, .slice (some ⟨r, 0, none⟩) n cap] 118, .gen (rdE (some ⟨r, 0, none⟩) r 0 n 1 (ivals .u32 px))] (fun z_ => [.gen (rowE (some ⟨z_.2.1, 0, none⟩) z_.2.1 Wn z_.2.2 24 1 (ivals .u32 (rowL Wn px z_.1)) true)]) (fun xs_ => RowsP Hn xs_ ∧ xs_.length = Hn) (fun p_ => RowsP Hn p_) :=
  fun Inv Tr Jx l e1 e2 W1 b0 hJx hY h0 hT => rowsIter0 kb m W H r n cap px Wn Hn hWn hHn hcap hok w0 Inv Tr Jx l e1 e2 W1 b0 hJx hY h0 hT

theorem naiveColors (m : Nat) (W H : Int) (r n cap : Nat) (px : List Int) (w : World) (hT0 : Tab w w [.ro m [.int .i64 W, .int .i64 H, .slice (some ⟨r, 0, none⟩) n cap] 118, .gen (rdE (some ⟨r, 0, none⟩) r 0 n 1 (ivals .u32 px))]) (hcap : n ≤ cap) (hok : ImgOk W H n px) :
    Calls Try.prog 19 #[.pointer (some ⟨m, 0, none⟩)] w fun e w' => ∃ (mp : Nat) (l : IL), e = .returned (.map (some mp)) ∧ CntM l px ∧ Tab w w' [.gen (mapEU mp (imsV l) true)] := by
  have hw1 := hok.w1
  have hw2 := hok.w2
  have hh1 := hok.h1
  have hh2 := hok.h2
  have hnum := hok.num
  have hlen := hok.len
  have hle := hok.le
  refine enterM 25 [(0, .pointer (some ⟨m, 0, none⟩))] [.ro m [.int .i64 W, .int .i64 H, .slice (some ⟨r, 0, none⟩) n cap] 118, .gen (rdE (some ⟨r, 0, none⟩) r 0 n 1 (ivals .u32 px))] Try.func19 rfl Try.ntmps19 rfl (by kernel_rfl) hT0 ?_
  refine cont_seq ?_
  refine cont_region 1 rfl ?_
  refine bS [0] 1 0 [(0, .pointer (some ⟨m, 0, none⟩))] ?_
  refine cont_done ?_
  refine then_normal ?_
  refine cont_seq ?_
  refine cont_region 3 rfl ?_
  refine pl_step 1 2 rfl rfl ?_
  refine sem_stepW 8 (Instr.makeMap 45 none) (fun mp1 => .map (some mp1)) (fun mp1 => [.gen (mapEU mp1 (imsV []) true), .ro m [.int .i64 W, .int .i64 H, .slice (some ⟨r, 0, none⟩) n cap] 118, .gen (rdE (some ⟨r, 0, none⟩) r 0 n 1 (ivals .u32 px))]) (fun _ => True) (by kernel_rfl) (fun w hT => run_makeMap'U hT 45) (fun mp1 _ => ?_)
  refine batch1 [0, 0] 3 0 (fun b2 => [(0, .pointer (some ⟨m, 0, none⟩)), (3, .pointer (some ⟨b2, 0, none⟩))]) (fun b2 => [.cells b2 [.map (some mp1)] 45 true, .gen (mapEU mp1 (imsV []) true), .ro m [.int .i64 W, .int .i64 H, .slice (some ⟨r, 0, none⟩) n cap] 118, .gen (rdE (some ⟨r, 0, none⟩) r 0 n 1 (ivals .u32 px))]) rfl rfl [0, 3] (fun _ => rfl) (fun b2 => by kernel_rfl) (fun b2 => by kernel_rfl) (fun b2 => ?_)
  refine cont_done ?_
  refine then_normal ?_
  refine cont_seq ?_
  refine cont_seq ?_
  refine cont_region 2 rfl ?_
  refine bS [0] 1 1 [(3, .pointer (some ⟨b2, 0, none⟩)), (9, .pointer (some ⟨m, 0, none⟩))] ?_
  refine pl_step 2 0 rfl rfl ?_
  refine call_gen (d := 10) (α := Nat) (fun x_ => .func (.func 77) #[] #[.pointer (some ⟨x_, 0, none⟩)]) (fun x_ => [.cells x_ [.pointer (some ⟨m, 0, none⟩)] 43 true, .cells b2 [.map (some mp1)] 45 true, .gen (mapEU mp1 (imsV []) true), .ro m [.int .i64 W, .int .i64 H, .slice (some ⟨r, 0, none⟩) n cap] 118, .gen (rdE (some ⟨r, 0, none⟩) r 0 n 1 (ivals .u32 px))]) (fun x_ => True) (by kernel_rfl) (fun w hT => (imgRows m w).mono fun e w' ⟨kb3, he_, ht_⟩ => ⟨kb3, he_, trivial, hT.news ht_ rfl⟩) ?_
  rintro kb3 hf4_
  refine cont_norm [(3, .pointer (some ⟨b2, 0, none⟩)), (9, .pointer (some ⟨m, 0, none⟩)), (10, .func (.func 77) #[] #[.pointer (some ⟨kb3, 0, none⟩)])] [.cells kb3 [.pointer (some ⟨m, 0, none⟩)] 43 true, .cells b2 [.map (some mp1)] 45 true, .gen (mapEU mp1 (imsV []) true), .ro m [.int .i64 W, .int .i64 H, .slice (some ⟨r, 0, none⟩) n cap] 118, .gen (rdE (some ⟨r, 0, none⟩) r 0 n 1 (ivals .u32 px))] (by kernel_rfl) rfl ?_
  refine cont_done ?_
  refine then_normal ?_
  refine cont_block ?_
  obtain ⟨Wn, hWn⟩ : ∃ k_ : Nat, (k_ : Int) = W := ⟨Int.toNat W, by omega⟩
  obtain ⟨Hn, hHn⟩ : ∃ k_ : Nat, (k_ : Int) = H := ⟨Int.toNat H, by omega⟩
  refine cont_weaken 0 (.ro kb3 [.pointer (some ⟨m, 0, none⟩)] 43) rfl rfl Vw.roc rfl ?_
  refine cont_norm [(3, .pointer (some ⟨b2, 0, none⟩)), (9, .pointer (some ⟨m, 0, none⟩)), (10, .func (.func 77) #[] #[.pointer (some ⟨kb3, 0, none⟩)])] [.ro kb3 [.pointer (some ⟨m, 0, none⟩)] 43, .cells b2 [.map (some mp1)] 45 true, .gen (mapEU mp1 (imsV []) true), .ro m [.int .i64 W, .int .i64 H, .slice (some ⟨r, 0, none⟩) n cap] 118, .gen (rdE (some ⟨r, 0, none⟩) r 0 n 1 (ivals .u32 px))] (by kernel_rfl) rfl ?_
  refine cont_pick [0, 3, 4, 1, 2] [.ro kb3 [.pointer (some ⟨m, 0, none⟩)] 43, .ro m [.int .i64 W, .int .i64 H, .slice (some ⟨r, 0, none⟩) n cap] 118, .gen (rdE (some ⟨r, 0, none⟩) r 0 n 1 (ivals .u32 px)), .cells b2 [.map (some mp1)] 45 true, .gen (mapEU mp1 (imsV []) true)] (by decide) rfl rfl ?_
  refine cont_rangeFunc (X := Int × Nat × Nat) (β := Nat × IL) (γ := Unit) (gf := 77) (lb := #[.pointer (some ⟨kb3, 0, none⟩)]) (fun z_ : Int × Nat × Nat => #[.int .i64 z_.1, .slice (some ⟨z_.2.1, 0, none⟩) Wn z_.2.2]) [.ro kb3 [.pointer (some ⟨m, 0, none⟩)] 43, .ro m [.int .i64 W, .int .i64 H, .slice (some ⟨r, 0, none⟩) n cap] 118, .gen (rdE (some ⟨r, 0, none⟩) r 0 n 1 (ivals .u32 px))] (fun z_ : Int × Nat × Nat => [.gen (rowE (some ⟨z_.2.1, 0, none⟩) z_.2.1 Wn z_.2.2 24 1 (ivals .u32 (rowL Wn px z_.1)) true)]) (fun xs_ => RowsP Hn xs_ ∧ xs_.length = Hn) (fun xs_ => RowsP Hn xs_) (fun (pre : List (Int × Nat × Nat)) (x_ : Nat × IL) => x_.1 = pre.length ∧ CntM x_.2 (px.take (x_.1 * Wn))) (fun x_ : Nat × IL => [.cells b2 [.map (some mp1)] 45 true, .gen (mapEU mp1 (imsV x_.2) true)]) (fun (_ : Code) (_ : Unit) => False) (fun x_ : Unit => []) (0, []) rfl (fun _ _ => rfl) (fun _ => rfl) (by kernel_rfl) (rowsIter kb3 m W H r n cap px Wn Hn hWn hHn hcap hok _) (⟨rfl, by rw [Nat.zero_mul, List.take_zero]; exact CntM.nil⟩) rfl ?_ ?_ ?_ ?_
  ·
    rintro l_ z5_ e5_ e5b_ e5q_ pre ⟨y, g, cx⟩ ⟨k, l⟩ B_ hz_ hinv6_ hsp_ hB_
    replace hinv6_ : k = pre.length ∧ CntM l (px.take (k * Wn)) := hinv6_
    replace hsp_ : RowsP Hn (pre ++ [(y, g, cx)]) := hsp_
    refine cont_norm [(3, .pointer (some ⟨b2, 0, none⟩)), (12, .slice (some ⟨g, 0, none⟩) Wn cx)] [.gen (rowE (some ⟨g, 0, none⟩) g Wn cx 24 1 (ivals .u32 (rowL Wn px y)) true), z5_, e5_, e5q_, .ro kb3 [.pointer (some ⟨m, 0, none⟩)] 43, .ro m [.int .i64 W, .int .i64 H, .slice (some ⟨r, 0, none⟩) n cap] 118, .gen (rdE (some ⟨r, 0, none⟩) r 0 n 1 (ivals .u32 px)), .cells b2 [.map (some mp1)] 45 true, .gen (mapEU mp1 (imsV l) true)] (by kernel_rfl) rfl ?_
    refine mcont_region 1 rfl (by kernel_rfl) ?_
    refine bS [0] 1 0 [(3, .pointer (some ⟨b2, 0, none⟩)), (5, .slice (some ⟨g, 0, none⟩) Wn cx)] ?_
    refine cont_done ?_
    refine then_normal ?_
    refine hB_ [(3, .pointer (some ⟨b2, 0, none⟩)), (5, .slice (some ⟨g, 0, none⟩) Wn cx)] [.gen (rowE (some ⟨g, 0, none⟩) g Wn cx 24 1 (ivals .u32 (rowL Wn px y)) true), z5_] [e5q_, .ro kb3 [.pointer (some ⟨m, 0, none⟩)] 43, .ro m [.int .i64 W, .int .i64 H, .slice (some ⟨r, 0, none⟩) n cap] 118, .gen (rdE (some ⟨r, 0, none⟩) r 0 n 1 (ivals .u32 px)), .cells b2 [.map (some mp1)] 45 true, .gen (mapEU mp1 (imsV l) true)] ?_
    refine cont_norm [(3, .pointer (some ⟨b2, 0, none⟩)), (5, .slice (some ⟨g, 0, none⟩) Wn cx)] [.gen (rowE (some ⟨g, 0, none⟩) g Wn cx 24 1 (ivals .u32 (rowL Wn px y)) true), z5_, e5b_, e5q_, .ro kb3 [.pointer (some ⟨m, 0, none⟩)] 43, .ro m [.int .i64 W, .int .i64 H, .slice (some ⟨r, 0, none⟩) n cap] 118, .gen (rdE (some ⟨r, 0, none⟩) r 0 n 1 (ivals .u32 px)), .cells b2 [.map (some mp1)] 45 true, .gen (mapEU mp1 (imsV l) true)] (by kernel_rfl) rfl ?_
    obtain ⟨hkp, hcm⟩ := hinv6_
    obtain ⟨hyp, hlt_⟩ := hsp_.last
    simp only at hyp
    rw [← hkp] at hyp hlt_
    have hrll := rowL_len (k := k) hWn hnum hw1 hlen (by omega)
    rw [← hyp] at hrll
    have hmx := row_max (k := k) hWn hnum hw1 (by omega)
    have hmx2 : (k + 1) * Wn = k * Wn + Wn := by rw [Nat.add_mul, Nat.one_mul]
    refine mcont_block ?_
    refine mcont_seq ?_
    refine mcont_region 3 rfl (by kernel_rfl) ?_
    refine bS [0, 0, 0] 3 0 [(3, .pointer (some ⟨b2, 0, none⟩)), (13, .slice (some ⟨g, 0, none⟩) Wn cx), (14, .int .i64 (Wn : Int)), (15, .int .i64 0)] ?_
    refine cont_done ?_
    refine then_normal ?_
    refine mcont_block ?_
    refine mcont_loop (α := Nat × IL) (fun x_ : Nat × IL => x_.1 ≤ Wn ∧ CntM x_.2 (px.take (k * Wn + x_.1))) (fun x_ : Nat × IL => [(3, .pointer (some ⟨b2, 0, none⟩)), (13, .slice (some ⟨g, 0, none⟩) Wn cx), (14, .int .i64 (Wn : Int)), (15, .int .i64 ((x_.1 : Nat) : Int))]) (fun x_ : Nat × IL => [.gen (rowE (some ⟨g, 0, none⟩) g Wn cx 24 1 (ivals .u32 (rowL Wn px y)) true), z5_, e5b_, e5q_, .ro kb3 [.pointer (some ⟨m, 0, none⟩)] 43, .ro m [.int .i64 W, .int .i64 H, .slice (some ⟨r, 0, none⟩) n cap] 118, .gen (rdE (some ⟨r, 0, none⟩) r 0 n 1 (ivals .u32 px)), .cells b2 [.map (some mp1)] 45 true, .gen (mapEU mp1 (imsV x_.2) true)]) (fun x_ : Nat × IL => Wn - x_.1) (0, l) (show (0) ≤ Wn ∧ CntM (l) (px.take (k * Wn + (0))) from ⟨by omega, hcm⟩) (by kernel_rfl) (by kernel_rfl) ?_
    rintro ⟨j, lj⟩ hinv7_
    replace hinv7_ : j ≤ Wn ∧ CntM lj (px.take (k * Wn + j)) := hinv7_
    refine cont_norm [(3, .pointer (some ⟨b2, 0, none⟩)), (13, .slice (some ⟨g, 0, none⟩) Wn cx), (14, .int .i64 (Wn : Int)), (15, .int .i64 ((j : Nat) : Int))] [.gen (rowE (some ⟨g, 0, none⟩) g Wn cx 24 1 (ivals .u32 (rowL Wn px y)) true), z5_, e5b_, e5q_, .ro kb3 [.pointer (some ⟨m, 0, none⟩)] 43, .ro m [.int .i64 W, .int .i64 H, .slice (some ⟨r, 0, none⟩) n cap] 118, .gen (rdE (some ⟨r, 0, none⟩) r 0 n 1 (ivals .u32 px)), .cells b2 [.map (some mp1)] 45 true, .gen (mapEU mp1 (imsV lj) true)] (by kernel_rfl) rfl ?_
    obtain ⟨hj, hcj⟩ := hinv7_
    have hkb := hcj.bd (n := 65536) (by rw [List.length_take]; omega)
    refine mcont_seq ?_
    refine mcont_region 1 rfl (by kernel_rfl) ?_
    refine bS [0] 1 0 [(3, .pointer (some ⟨b2, 0, none⟩)), (13, .slice (some ⟨g, 0, none⟩) Wn cx), (14, .int .i64 (Wn : Int)), (15, .int .i64 ((j : Nat) : Int)), (16, .bool (decide (((j : Nat) : Int) < (Wn : Int))))] ?_
    refine cont_done ?_
    refine then_normal ?_
    refine mcont_seq ?_
    refine cont_split 16 (decide (((j : Nat) : Int) < (Wn : Int))) rfl (fun c8_ => ?_) (fun c8_ => ?_)
    ·
      replace c8_ := of_decide_eq_true c8_
      refine mcont_true rfl ?_
      refine mcont_skip ?_
      refine then_normal ?_
      refine mcont_seq ?_
      refine mcont_block ?_
      refine mcont_seq ?_
      refine mcont_region 3 rfl (by kernel_rfl) ?_
      refine pl_step 1 2 rfl rfl ?_
      refine sem_step 17 (Instr.indexAt 39 (.slice (some ⟨g, 0, none⟩) Wn cx) (.int .i64 ((j : Nat) : Int))) (.pointer (some ⟨g, (j : Nat), none⟩)) (by kernel_rfl) (fun w hT => run_indexAt (e := 24) (sz := 1) _ (by kernel_rfl) (by kernel_rfl) (by omega) (by omega) (by omega) w) ?_
      refine pl_step 2 1 rfl rfl ?_
      refine sem_step 18 (Instr.loadAt 24 (.pointer (some ⟨g, (j : Nat), none⟩))) (.int .u32 ((rowL Wn px y).getD (j : Nat) 0)) (by kernel_rfl) (fun w hT => run_load1 (by kernel_rfl) (Row.cell (hT.ok 0 _ rfl) ((j : Nat)) _ (ivals_get (by omega)))) ?_
      refine bS [0] 3 0 [(3, .pointer (some ⟨b2, 0, none⟩)), (7, .int .u32 ((rowL Wn px y).getD (j : Nat) 0)), (13, .slice (some ⟨g, 0, none⟩) Wn cx), (14, .int .i64 (Wn : Int)), (15, .int .i64 ((j : Nat) : Int))] ?_
      refine cont_done ?_
      refine then_normal ?_
      refine mcont_region 5 rfl (by kernel_rfl) ?_
      have hkc := hkb ((rowL Wn px y).getD (j : Nat) 0)
      refine bS [7, 0] 2 3 [(3, .pointer (some ⟨b2, 0, none⟩)), (13, .slice (some ⟨g, 0, none⟩) Wn cx), (14, .int .i64 (Wn : Int)), (15, .int .i64 ((j : Nat) : Int)), (19, .map (some mp1)), (20, .int .u32 ((rowL Wn px y).getD (j : Nat) 0))] ?_
      refine pl_step 3 2 rfl rfl ?_
      refine sem_step 21 (Instr.lookup 45 (.map (some mp1)) (.int .u32 ((rowL Wn px y).getD (j : Nat) 0)) false) (.int .i64 (kindL lj ((rowL Wn px y).getD (j : Nat) 0))) (by kernel_rfl) (fun w hT => run_lookupIU (kt := 24) (et := 3) (kf := .u32) (hT.ok 8 _ rfl) (by kernel_rfl) (by kernel_rfl) (by kernel_rfl) ((rowL Wn px y).getD (j : Nat) 0)) ?_
      refine bS [0] 4 1 [(3, .pointer (some ⟨b2, 0, none⟩)), (13, .slice (some ⟨g, 0, none⟩) Wn cx), (14, .int .i64 (Wn : Int)), (15, .int .i64 ((j : Nat) : Int)), (19, .map (some mp1)), (20, .int .u32 ((rowL Wn px y).getD (j : Nat) 0)), (22, .int .i64 (IntKind.i64.wrap ((kindL lj ((rowL Wn px y).getD (j : Nat) 0)) + 1)))] ?_
      refine cont_recast 22 (.int .i64 (IntKind.i64.wrap ((kindL lj ((rowL Wn px y).getD (j : Nat) 0)) + 1))) (.int .i64 ((kindL lj ((rowL Wn px y).getD (j : Nat) 0)) + 1)) rfl (wrapI (by omega) (by omega)) ?_
      refine pl_step 5 0 rfl rfl ?_
      refine sem_stepU (Instr.mapUpdate 45 (.map (some mp1)) (.int .u32 ((rowL Wn px y).getD (j : Nat) 0)) (.int .i64 ((kindL lj ((rowL Wn px y).getD (j : Nat) 0)) + 1))) (fun _ => [.gen (rowE (some ⟨g, 0, none⟩) g Wn cx 24 1 (ivals .u32 (rowL Wn px y)) true), z5_, e5b_, e5q_, .ro kb3 [.pointer (some ⟨m, 0, none⟩)] 43, .ro m [.int .i64 W, .int .i64 H, .slice (some ⟨r, 0, none⟩) n cap] 118, .gen (rdE (some ⟨r, 0, none⟩) r 0 n 1 (ivals .u32 px)), .cells b2 [.map (some mp1)] 45 true, .gen (mapEU mp1 (imsV (iput lj ((rowL Wn px y).getD (j : Nat) 0) ((kindL lj ((rowL Wn px y).getD (j : Nat) 0)) + 1))) true)]) (fun _ => True) (by kernel_rfl) (fun w hT => run_updateIU (kt := 24) (et := 3) (kf := .u32) hT (i := 8) rfl (by kernel_rfl) (by kernel_rfl) ((rowL Wn px y).getD (j : Nat) 0) ((kindL lj ((rowL Wn px y).getD (j : Nat) 0)) + 1)) (fun _ _ => ?_)
      refine cont_done ?_
      refine blk_normal ?_
      refine then_normal ?_
      refine mcont_region 2 rfl (by kernel_rfl) ?_
      refine bS [0] 1 1 [(3, .pointer (some ⟨b2, 0, none⟩)), (13, .slice (some ⟨g, 0, none⟩) Wn cx), (14, .int .i64 (Wn : Int)), (23, .int .i64 (IntKind.i64.wrap (((j : Nat) : Int) + 1)))] ?_
      refine cont_recast 23 (.int .i64 (IntKind.i64.wrap (((j : Nat) : Int) + 1))) (.int .i64 (((j : Nat) : Int) + 1)) rfl (wrapI (by omega) (by omega)) ?_
      refine bS [0] 2 0 [(3, .pointer (some ⟨b2, 0, none⟩)), (13, .slice (some ⟨g, 0, none⟩) Wn cx), (14, .int .i64 (Wn : Int)), (15, .int .i64 (((j : Nat) : Int) + 1))] ?_
      refine cont_done ?_
      refine then_normal ?_
      refine cont_again (j + 1, iput lj ((rowL Wn px y).getD (j : Nat) 0) ((kindL lj ((rowL Wn px y).getD (j : Nat) 0)) + 1)) (show (j + 1) ≤ Wn ∧ CntM (iput lj ((rowL Wn px y).getD (j : Nat) 0) ((kindL lj ((rowL Wn px y).getD (j : Nat) 0)) + 1)) (px.take (k * Wn + (j + 1))) from ⟨by omega, hcj.next (i := k * Wn + j) (by omega) (by rw [hyp]; exact rowL_at (by omega))⟩) (show Wn - (j + 1) < Wn - j from by omega) (by kernel_rfl) (by kernel_rfl)
    replace c8_ := of_decide_eq_false c8_
    refine mcont_false rfl ?_
    refine mcont_exit ?_
    refine then_exit ?_
    refine then_exit ?_
    refine blk_exit ?_
    refine blk_normal ?_
    refine cont_pick [1, 2, 3, 4, 5, 6, 7, 8] [z5_, e5b_, e5q_, .ro kb3 [.pointer (some ⟨m, 0, none⟩)] 43, .ro m [.int .i64 W, .int .i64 H, .slice (some ⟨r, 0, none⟩) n cap] 118, .gen (rdE (some ⟨r, 0, none⟩) r 0 n 1 (ivals .u32 px)), .cells b2 [.map (some mp1)] 45 true, .gen (mapEU mp1 (imsV lj) true)] (by decide) rfl rfl ?_
    refine rq_next (k + 1, lj) (show (k + 1) = (pre ++ [(y, g, cx)]).length ∧ CntM (lj) (px.take ((k + 1) * Wn)) from ⟨by rw [List.length_append, List.length_singleton]; omega, by rw [Nat.add_mul, Nat.one_mul]; have h_ := hcj; rwa [show j = Wn by omega] at h_⟩) rfl
  ·
    rintro D10_ xs_ ⟨k, l⟩ hS_ hinv9_
    replace hinv9_ : k = xs_.length ∧ CntM l (px.take (k * Wn)) := hinv9_
    replace hS_ : RowsP Hn xs_ ∧ xs_.length = Hn := hS_
    refine cont_norm [(3, .pointer (some ⟨b2, 0, none⟩))] [markE D10_, .ro kb3 [.pointer (some ⟨m, 0, none⟩)] 43, .ro m [.int .i64 W, .int .i64 H, .slice (some ⟨r, 0, none⟩) n cap] 118, .gen (rdE (some ⟨r, 0, none⟩) r 0 n 1 (ivals .u32 px)), .cells b2 [.map (some mp1)] 45 true, .gen (mapEU mp1 (imsV l) true)] (by kernel_rfl) rfl ?_
    obtain ⟨hkp, hcm⟩ := hinv9_
    have h1k_ : k = Hn := by rw [hkp]; exact hS_.2
    have h2k_ : ((Hn * Wn : Nat) : Int) = (n : Int) := by rw [Int.natCast_mul, hWn, hHn, hnum, Int.mul_comm]
    have hkH : k * Wn = n := by rw [h1k_]; omega
    rw [hkH, List.take_of_length_le (by omega)] at hcm
    refine blk_normal ?_
    refine then_normal ?_
    refine cont_seq ?_
    refine cont_region 2 rfl ?_
    refine bS [4, 0] 2 0 [(2, .map (some mp1))] ?_
    refine cont_forget 4 rfl ?_
    refine cont_done ?_
    refine then_normal ?_
    refine cont_ret ?_
    refine mark_end 0 rfl (.inl rfl) ?_
    refine cont_norm [(2, .map (some mp1))] [objE D10_ (.deferred none), .ro kb3 [.pointer (some ⟨m, 0, none⟩)] 43, .ro m [.int .i64 W, .int .i64 H, .slice (some ⟨r, 0, none⟩) n cap] 118, .gen (rdE (some ⟨r, 0, none⟩) r 0 n 1 (ivals .u32 px)), .gen (mapEU mp1 (imsV l) true)] (by kernel_rfl) rfl ?_
    refine ret_one (.inl rfl) rfl 0 (.map (some mp1)) (by kernel_rfl) (by kernel_rfl) (fun w hT => ?_)
    replace hT := hT.erase 3 (fun e h hw => by cases h; first | rfl | cases hw)
    replace hT := hT.erase 2 (fun e h hw => by cases h; first | rfl | cases hw)
    replace hT := hT.erase 1 (fun e h hw => by cases h; first | rfl | cases hw)
    replace hT := hT.erase 0 (fun e h hw => by cases h; first | rfl | cases hw)
    exact ⟨_, _, rfl, hcm, hT⟩
  ·
    intro D_  c_ h_; exact h_.elim
  ·
    intro D_ id_ c_ h_; exact h_.elim

end Go.Proofs.Ytlfahohbkgdabaa

/- Contracts of functions of the given program, printed by a program of this project. -/
set_option linter.unusedVariables false
set_option linter.unusedSimpArgs false
namespace Go.Proofs.Ytlfahohbkgdabaa
open Go Go.RowKit
set_option maxRecDepth 100000
set_option maxHeartbeats 8000000

theorem refBox17 (a b : Int) (w : World) (ha : -9223372036854775808 ≤ a ∧ a ≤ 9223372036854775807) (hb : -9223372036854775808 ≤ b ∧ b ≤ 9223372036854775807) :
    Calls Try.prog 23 #[.int .i64 a, .int .i64 b] w fun e w' => e = .returned (.agg #[.int .i64 0, .int .i64 0, .int .i64 (1 + aroundI a 16), .int .i64 (1 + aroundI b 16)]) ∧ Below w.heap.size w w' := by
 refine enter 12 [(0, iq a), (1, iq b)] [] Try.func23 rfl Try.ntmps23 rfl (by kernel_rfl) (Tab.start w) ?_
 refine cont_seq ?_
 refine cont_region 1 rfl ?_
 refine batch1 [0] 1 0 (fun b1 => [(0, iq a), (1, iq b), (4, .pointer (pB b1))]) (fun b1 => [.cells b1 [iq 0, iq 0, iq 0, iq 0] 53 true]) rfl rfl [0, 1, 4] (fun _ => rfl) (fun b1 => by kernel_rfl) (fun b1 => by kernel_rfl) (fun b1 => ?_)
 refine cont_done ?_
 refine then_normal ?_
 refine cont_seq ?_
 refine cont_region 8 rfl ?_
 refine bS [0] 1 7 [(1, iq b), (4, .pointer (pB b1)), (5, iq a)] ?_
 refine pl_step 2 6 rfl rfl ?_
 refine call_pure (d := 6) (iq (aroundI a 16)) (by kernel_rfl) (fun w hT => refAround a 16 w (by omega) (by omega)) ?_
 have hq2_ := aroundI_range a (m := 16) (by omega)
 refine bS [0] 3 5 [(1, iq b), (4, .pointer (pB b1)), (7, iq (IntKind.i64.wrap (1 + (aroundI a 16))))] ?_
 refine cont_recast 7 (iq (IntKind.i64.wrap (1 + (aroundI a 16)))) (iq (1 + (aroundI a 16))) rfl (wrapI (by omega) (by omega)) ?_
 refine bS [0] 4 4 [(4, .pointer (pB b1)), (7, iq (1 + (aroundI a 16))), (8, iq b)] ?_
 refine pl_step 5 3 rfl rfl ?_
 refine call_pure (d := 9) (iq (aroundI b 16)) (by kernel_rfl) (fun w hT => refAround b 16 w (by omega) (by omega)) ?_
 have hq3_ := aroundI_range b (m := 16) (by omega)
 refine bS [0] 6 2 [(4, .pointer (pB b1)), (7, iq (1 + (aroundI a 16))), (10, iq (IntKind.i64.wrap (1 + (aroundI b 16))))] ?_
 refine cont_recast 10 (iq (IntKind.i64.wrap (1 + (aroundI b 16)))) (iq (1 + (aroundI b 16))) rfl (wrapI (by omega) (by omega)) ?_
 refine batch0 [0, 0] 8 0 [(4, .pointer (pB b1))] [.cells b1 [iq 0, iq 0, iq (1 + (aroundI a 16)), iq (1 + (aroundI b 16))] 53 true] rfl rfl (by kernel_rfl) (by kernel_rfl) ?_
 refine cont_done ?_
 refine then_normal ?_
 refine cont_ret ?_
 refine ret_one (.inl rfl) rfl 0 (.agg #[iq 0, iq 0, iq (1 + (aroundI a 16)), iq (1 + (aroundI b 16))]) (by kernel_rfl) (by kernel_rfl) (fun w hT => ?_)
 exact ⟨rfl, hT.post rfl⟩

end Go.Proofs.Ytlfahohbkgdabaa

/- Contracts of functions of the given program, printed by a program of this project. -/
set_option linter.unusedVariables false
set_option linter.unusedSimpArgs false
namespace Go.Proofs.Ytlfahohbkgdabaa
open Go Go.RowKit
set_option maxRecDepth 100000
set_option maxHeartbeats 8000000

theorem payPixel0 (c : Int) (w : World) :
    Calls Try.prog 51 #[.int .u32 c, .slice none 0 0] w fun e w' => e = .returned (.int .u32 c) ∧ Below w.heap.size w w' := by
 refine enter 18 [(0, .int .u32 c), (1, .slice none 0 0)] [] Try.func51 rfl Try.ntmps51 rfl (by kernel_rfl) (Tab.start w) ?_
 refine cont_seq ?_
 refine cont_region 1 rfl ?_
 refine bS [0] 1 0 [(0, .int .u32 c), (1, .slice none 0 0)] ?_
 refine cont_done ?_
 refine then_normal ?_
 refine cont_seq ?_
 refine cont_seq ?_
 refine cont_region 3 rfl ?_
 refine bS [0, 0, 0] 3 0 [(0, .int .u32 c), (7, .slice none 0 0), (8, iq 0), (9, iq 0)] ?_
 refine cont_done ?_
 refine then_normal ?_
 refine cont_block ?_
 refine cont_rounds 1 ?_
 refine cont_round 1 0 rfl ?_
 refine cont_seq ?_
 refine cont_region 1 rfl ?_
 refine bS [0] 1 0 [(0, .int .u32 c), (7, .slice none 0 0), (8, iq 0), (9, iq 0), (10, .bool false)] ?_
 refine cont_done ?_
 refine then_normal ?_
 refine cont_seq ?_
 refine cont_false rfl ?_
 refine cont_exit ?_
 refine then_exit ?_
 refine then_exit ?_
 refine blk_exit ?_
 refine then_normal ?_
 refine cont_seq ?_
 refine cont_region 2 rfl ?_
 refine bS [0, 0] 2 0 [(4, .int .u32 c)] ?_
 refine cont_done ?_
 refine then_normal ?_
 refine cont_ret ?_
 refine ret_one (.inl rfl) rfl 0 (.int .u32 c) (by kernel_rfl) (by kernel_rfl) (fun w hT => ?_)
 exact ⟨rfl, hT.post rfl⟩

theorem naivePixel0 (w : World) :
    Calls Try.prog 14 #[.agg #[.int .i64 0, .slice none 0 0], .int .i64 3, .int .i64 3, .int .u32 4278190081] w fun e w' => e = .returned (.int .u32 4278190081) ∧ Below w.heap.size w w' := by
 refine enter 39 [(0, .agg #[iq 0, .slice none 0 0]), (1, iq 3), (2, iq 3), (3, .int .u32 4278190081)] [] Try.func14 rfl Try.ntmps14 rfl (by kernel_rfl) (Tab.start w) ?_
 refine cont_seq ?_
 refine cont_region 2 rfl ?_
 refine batch1 [0, 0] 2 0 (fun b1 => [(1, iq 3), (2, iq 3), (3, .int .u32 4278190081), (4, .pointer (pB b1))]) (fun b1 => [.cells b1 [iq 0, .slice none 0 0] 29 true]) rfl rfl [1, 2, 3, 4] (fun _ => rfl) (fun b1 => by kernel_rfl) (fun b1 => by kernel_rfl) (fun b1 => ?_)
 refine cont_done ?_
 refine then_normal ?_
 refine cont_seq ?_
 refine cont_region 1 rfl ?_
 refine bS [0] 1 0 [(1, iq 3), (2, iq 3), (3, .int .u32 4278190081), (4, .pointer (pB b1)), (9, .slice none 0 0)] ?_
 refine cont_done ?_
 refine then_normal ?_
 refine cont_seq ?_
 refine cont_seq ?_
 refine cont_region 4 rfl ?_
 refine bS [0, 0, 0, 0] 4 0 [(1, iq 3), (2, iq 3), (3, .int .u32 4278190081), (9, .slice none 0 0), (15, .slice none 0 0), (16, iq 0), (17, iq 0)] ?_
 refine cont_forget 0 rfl ?_
 refine cont_done ?_
 refine then_normal ?_
 refine cont_block ?_
 refine cont_rounds 1 ?_
 refine cont_round 1 0 rfl ?_
 refine cont_seq ?_
 refine cont_region 1 rfl ?_
 refine bS [0] 1 0 [(1, iq 3), (2, iq 3), (3, .int .u32 4278190081), (9, .slice none 0 0), (15, .slice none 0 0), (16, iq 0), (17, iq 0), (18, .bool false)] ?_
 refine cont_done ?_
 refine then_normal ?_
 refine cont_seq ?_
 refine cont_false rfl ?_
 refine cont_exit ?_
 refine then_exit ?_
 refine then_exit ?_
 refine blk_exit ?_
 refine then_normal ?_
 refine cont_seq ?_
 refine cont_region 4 rfl ?_
 refine bS [0, 0] 2 2 [(36, .int .u32 4278190081), (37, .slice none 0 0)] ?_
 refine pl_step 3 1 rfl rfl ?_
 refine call_pure (d := 38) (.int .u32 4278190081) (by kernel_rfl) (fun w hT => payPixel0 4278190081 w) ?_
 refine bS [0] 4 0 [(8, .int .u32 4278190081)] ?_
 refine cont_done ?_
 refine then_normal ?_
 refine cont_ret ?_
 refine ret_one (.inl rfl) rfl 0 (.int .u32 4278190081) (by kernel_rfl) (by kernel_rfl) (fun w hT => ?_)
 exact ⟨rfl, hT.post rfl⟩

theorem lives19 (w : World) :
    Calls Try.prog 16 #[] w fun e w' => e = .returned (.bool true) ∧ Below w.heap.size w w' := by
 refine enter 4 [] [] Try.func16 rfl Try.ntmps16 rfl (by kernel_rfl) (Tab.start w) ?_
 refine cont_seq ?_
 refine cont_region 1 rfl ?_
 refine bS [0] 1 0 [] ?_
 refine cont_done ?_
 refine then_normal ?_
 refine cont_seq ?_
 refine cont_region 4 rfl ?_
 refine bS [0] 1 3 [(1, .agg #[iq 0, .slice none 0 0])] ?_
 refine pl_step 2 2 rfl rfl ?_
 refine call_pure (d := 2) (.int .u32 4278190081) (by kernel_rfl) (fun w hT => naivePixel0 w) ?_
 refine bS [0, 0] 4 0 [(0, .bool true)] ?_
 refine cont_done ?_
 refine then_normal ?_
 refine cont_ret ?_
 refine ret_one (.inl rfl) rfl 0 (.bool true) (by kernel_rfl) (by kernel_rfl) (fun w hT => ?_)
 exact ⟨ret_bool (by decide +kernel), hT.post rfl⟩

end Go.Proofs.Ytlfahohbkgdabaa

/- A solid item on top of all hides all under it. -/
set_option linter.unusedVariables false
set_option linter.unusedSimpArgs false
namespace Go.Proofs.Ytlfahohbkgdabaa
open Go Go.RowKit
def topK (n : Nat) (S : Int) (i : Nat) : List Int := List.replicate i S ++ List.replicate (n - i) 0
theorem topK_zero (n : Nat) (S : Int) : topK n S 0 = List.replicate n 0 := by simp [topK]
theorem topK_len {n : Nat} {S : Int} {i : Nat} (h : i ≤ n) : (topK n S i).length = n := by simp [topK]; omega
theorem topK_set {n : Nat} {S : Int} {i : Nat} (h : i < n) : (topK n S i).set i S = topK n S (i + 1) := by
  unfold topK
  rw [List.set_append_right _ _ (by simp), List.length_replicate, Nat.sub_self]
  rw [show n - i = (n - (i + 1)) + 1 by omega, List.replicate_succ, List.set_cons_zero, List.replicate_succ' (n := i), List.append_assoc]; rfl
theorem topK_all {n : Nat} {S : Int} {i : Nat} (h : i = n) : topK n S i = List.replicate n S := by subst h; simp [topK]
theorem fadeC_full {c : Int} (h : InC c) : fadeC c 255 = c := by
  obtain ⟨⟨a0, a1⟩, ⟨r0, r1⟩, ⟨g0, g1⟩, ⟨b0, b1⟩⟩ := parts_range h
  have key : ∀ p : Int, 0 ≤ p → p ≤ 255 → partI p 255 = p := by
    intro p h0 h1
    unfold partI clip
    rw [show min (max p 0) 255 = p by omega, show min (max (255 : Int) 0) 255 = 255 by omega]
    omega
  unfold fadeC
  rw [key _ a0 a1, key _ r0 r1, key _ g0 g1, key _ b0 b1]
  exact mkC_parts h
/-- The state of a top of one color. -/
def topT (W H : Int) (r n cap : Nat) (S : Int) : TS := ⟨W, H, r, n, cap, List.replicate n S, 0, 0, 1, 255, 0, 0, W, H, none, 0, 0, 0, []⟩
theorem topT_ok {W H : Int} {r n cap : Nat} {S : Int} (hW : 1 ≤ W ∧ W ≤ 16) (hH : 1 ≤ H ∧ H ≤ 16) (hn : (n : Int) = W * H) (hm : mayB S = true ∧ InC S) : TS.Ok (topT W H r n cap S) := by
  have ha : AllMay (List.replicate n S) := fun c hc => by rw [(List.mem_replicate.1 hc).2]; exact hm
  refine ⟨imgOk_of (by show 1 ≤ W ∧ W ≤ 256 ∧ 1 ≤ H ∧ H ≤ 256; omega) hn (by show (List.replicate n S).length = n; simp) ha, ha, hW.2, hH.2, (show (1 : Int) ≤ 1 ∧ (1 : Int) ≤ 3 by decide), (show (-6 : Int) ≤ 0 ∧ (0 : Int) ≤ 17 by decide), (show (-6 : Int) ≤ 0 ∧ (0 : Int) ≤ 17 by decide), (show (0 : Int) ≤ 255 ∧ (255 : Int) ≤ 255 by decide), ⟨(show (-9223372036854775808 : Int) ≤ 0 ∧ (0 : Int) ≤ 9223372036854775807 by decide), (show (-9223372036854775808 : Int) ≤ 0 ∧ (0 : Int) ≤ 9223372036854775807 by decide), ⟨?_, ?_⟩, ⟨?_, ?_⟩⟩, [], (show ([] : List Rect) = canR [] by first | rfl | decide +kernel | simp [canR]), by simp, fun r hr => absurd hr (by simp)⟩
  · show (-9223372036854775808 : Int) ≤ W; omega
  · show W ≤ (9223372036854775807 : Int); omega
  · show (-9223372036854775808 : Int) ≤ H; omega
  · show H ≤ (9223372036854775807 : Int); omega
theorem top_all {l : List TS} {W H : Int} {r n cap m : Nat} {S g : Int} (hW : 1 ≤ W) (hn : (n : Int) = W * H) (hm : (m : Int) = W * H) (hS : InC S) (ha : pa S = 255) : ∀ c ∈ compS (l ++ [topT W H r n cap S]) W m g, c = S := by
  intro c hc
  obtain ⟨i, hi, rfl⟩ := List.mem_map.1 hc
  have hi := List.mem_range.1 hi
  have hb := in_box hW hm hi
  obtain ⟨t, ht⟩ : ∃ t, t = topT W H r n cap S := ⟨_, rfl⟩
  have hs : t.sh ((i : Int) % W) ((i : Int) / W) = true := by
    rw [ht]; unfold TS.sh topT pcolB
    dsimp only
    rw [Int.sub_zero, Int.sub_zero, Int.ediv_one, Int.ediv_one, hb]; rfl
  have hco : t.co ((i : Int) % W) ((i : Int) / W) = S := by
    have h2 : pcolB W H 0 0 1 0 0 W H ((i : Int) % W) ((i : Int) / W) = true := by rw [ht] at hs; exact hs
    rw [ht]; unfold TS.co topT pcolC
    dsimp only
    rw [h2, if_pos rfl, Int.sub_zero, Int.sub_zero, Int.ediv_one, Int.ediv_one, atC_at _ hW hn (by omega)]
    rw [show (List.replicate n S).getD i 0 = S by rw [List.getD_eq_getElem?_getD, List.getElem?_replicate, if_pos (by omega)]; rfl]
    exact fadeC_full hS
  show pixS (l ++ [topT W H r n cap S]) _ _ g = S
  rw [← ht]
  unfold pixS colsS
  rw [List.filter_append, List.map_append, show [t].filter (fun t => t.sh ((i : Int) % W) ((i : Int) / W)) = [t] by simp [hs]]
  simp only [List.map_cons, List.map_nil]
  rw [hco, pixC_snocS]
  exact over_solid hS ha _
end Go.Proofs.Ytlfahohbkgdabaa

/- Contracts of functions of the given program, printed by a program of this project. -/
set_option linter.unusedVariables false
set_option linter.unusedSimpArgs false
namespace Go.Proofs.Ytlfahohbkgdabaa
open Go Go.RowKit
set_option maxRecDepth 100000
set_option maxHeartbeats 8000000

theorem walkNaiveTops (A : Option Addr) (g o n cap : Nat) (xs : List V17) (w_ h_ cc : Int) (w : World) (hr : Rd w A g o n 16 (dvals V17.cells xs)) (hl : xs.length = n) (hc : n ≤ cap) (hm : cap ≤ maxLen) (hg : ∀ d ∈ xs, V17.Good w d) (hw : -9223372036854775808 ≤ w_ ∧ w_ ≤ 9223372036854775807) (hh : -9223372036854775808 ≤ h_ ∧ h_ ≤ 9223372036854775807) (hcc : 0 ≤ cc ∧ cc < 4294967296) :
    Calls Try.prog 5 #[.slice A n cap, .int .i64 w_, .int .i64 h_, .int .u32 cc] w fun e w' => e = .returned (.bool true) ∧ Below w.heap.size w w' := by
  unfold maxLen at hm
  obtain ⟨hra, _⟩ := Rd.factsD V17.size (by decide) hr
  have hge : ∀ i, i < n → V17.Good w (dget xs i) := fun i hi => hg _ (dget_mem (by omega))
  have hgpv : ∀ d ∈ xs, V17P d := fun d hd => (hg d hd).pure
  refine enter 98 [(0, .slice A n cap), (1, .int .i64 w_), (2, .int .i64 h_), (3, .int .u32 cc)] [.gen (rdE (A) g o n 16 (dvals V17.cells xs)), .gen (subE n (fun i_ => rdE ((dget xs i_).A3) (dget xs i_).g3 (dget xs i_).o3 (dget xs i_).m3 1 (ivals .u32 (dget xs i_).x3))), .gen (subE n (fun i_ => rdE ((dget xs i_).A14) (dget xs i_).g14 (dget xs i_).o14 (dget xs i_).m14 1 (ivals .u32 (dget xs i_).x14))), .gen (subE n (fun i_ => rdE ((dget xs i_).A15) (dget xs i_).g15 (dget xs i_).o15 (dget xs i_).m15 4 (rvals (dget xs i_).x15)))] Try.func5 rfl Try.ntmps5 rfl (by kernel_rfl) (Tab.olds (fun i_ e_ he_ => by
    match i_, he_ with
    | 0, he_ => cases he_; exact ⟨hr, rfl, rfl⟩
    | 1, he_ => cases he_; exact ⟨fun i_ hi_ => (hge i_ hi_).r3, rfl, rfl⟩
    | 2, he_ => cases he_; exact ⟨fun i_ hi_ => (hge i_ hi_).r14, rfl, rfl⟩
    | 3, he_ => cases he_; exact ⟨fun i_ hi_ => (hge i_ hi_).r15, rfl, rfl⟩
    | _ + 4, he_ => cases he_)) ?_
  refine cont_seq ?_
  refine cont_region 1 rfl ?_
  refine bS [0] 1 0 [(0, .slice A n cap), (1, .int .i64 w_), (2, .int .i64 h_), (3, .int .u32 cc)] ?_
  refine cont_done ?_
  refine then_normal ?_
  refine cont_seq ?_
  refine cont_region 3 rfl ?_
  refine bS [0] 1 2 [(1, .int .i64 w_), (2, .int .i64 h_), (3, .int .u32 cc), (20, .slice A n cap)] ?_
  refine pl_step 2 1 rfl rfl ?_
  refine call_gen (d := 21) (α := Option Addr × Nat × Nat × Nat × List TS) (fun x_ => .slice x_.1 x_.2.2.1 x_.2.2.2.1) (fun x_ => [.gen (bunO x_.2.2.1 (TS.pxs x_.2.2.2.2)), .gen (bunO x_.2.2.1 (TS.ops x_.2.2.2.2)), .gen (rowE (x_.1) x_.2.1 x_.2.2.1 x_.2.2.2.1 60 14 (dvals TS.cells x_.2.2.2.2) true), .gen (rdE (A) g o n 16 (dvals V17.cells xs)), .gen (subE n (fun i_ => rdE ((dget xs i_).A3) (dget xs i_).g3 (dget xs i_).o3 (dget xs i_).m3 1 (ivals .u32 (dget xs i_).x3))), .gen (subE n (fun i_ => rdE ((dget xs i_).A14) (dget xs i_).g14 (dget xs i_).o14 (dget xs i_).m14 1 (ivals .u32 (dget xs i_).x14))), .gen (subE n (fun i_ => rdE ((dget xs i_).A15) (dget xs i_).g15 (dget xs i_).o15 (dget xs i_).m15 4 (rvals (dget xs i_).x15)))]) (fun x_ => x_.2.2.1 ≤ 5 ∧ ∀ t ∈ x_.2.2.2.2, TS.Ok t) (by kernel_rfl) (fun w hT => (refGood17 A g o n cap xs w (hT.viewRo (.cons (i := 0) rfl Vw.rd (.cons (i := 1) rfl Vw.subSub (.cons (i := 2) rfl Vw.subSub (.cons (i := 3) rfl Vw.subSub .nil)))) rfl) hgpv).mono fun e w' ⟨A1, g2, k3, cp4, ts5, he_, hf_, ht_⟩ => ⟨(A1, g2, k3, cp4, ts5), he_, hf_, hT.news ht_ rfl⟩) ?_
  rintro ⟨A1, g2, k3, cp4, ts5⟩ hf6_
  replace hf6_ : k3 ≤ 5 ∧ ∀ t ∈ ts5, TS.Ok t := hf6_
  refine cont_norm [(1, .int .i64 w_), (2, .int .i64 h_), (3, .int .u32 cc), (20, .slice A n cap), (21, .slice A1 k3 cp4)] [.gen (bunO k3 (TS.pxs ts5)), .gen (bunO k3 (TS.ops ts5)), .gen (rowE (A1) g2 k3 cp4 60 14 (dvals TS.cells ts5) true), .gen (rdE (A) g o n 16 (dvals V17.cells xs)), .gen (subE n (fun i_ => rdE ((dget xs i_).A3) (dget xs i_).g3 (dget xs i_).o3 (dget xs i_).m3 1 (ivals .u32 (dget xs i_).x3))), .gen (subE n (fun i_ => rdE ((dget xs i_).A14) (dget xs i_).g14 (dget xs i_).o14 (dget xs i_).m14 1 (ivals .u32 (dget xs i_).x14))), .gen (subE n (fun i_ => rdE ((dget xs i_).A15) (dget xs i_).g15 (dget xs i_).o15 (dget xs i_).m15 4 (rvals (dget xs i_).x15)))] (by kernel_rfl) rfl ?_
  refine cont_fact (F := (0 < k3 → (A1 : Option Addr) = some ⟨g2, 0, none⟩) ∧ ts5.length = k3 ∧ k3 ≤ cp4 ∧ cp4 ≤ maxLen) (fun w hT => Row.factsD TS.size (by decide) (hT.ok 2 _ rfl)) (fun hr7_ => ?_)
  obtain ⟨hr7_a, hr7_l, hr7_c, hr7_m⟩ := hr7_
  unfold maxLen at hr7_m
  obtain ⟨hgl, hgt⟩ := hf6_
  refine bS [0] 3 0 [(1, .int .i64 w_), (2, .int .i64 h_), (3, .int .u32 cc), (9, .slice A1 k3 cp4)] ?_
  refine cont_done ?_
  refine then_normal ?_
  refine cont_seq ?_
  refine cont_region 4 rfl ?_
  refine bS [0] 1 3 [(1, .int .i64 w_), (2, .int .i64 h_), (9, .slice A1 k3 cp4), (22, .int .u32 cc)] ?_
  refine pl_step 2 2 rfl rfl ?_
  refine call_pure (d := 23) (.agg #[.int .i64 (pa cc), .int .i64 (pr cc), .int .i64 (pg cc), .int .i64 (pb cc)]) (by kernel_rfl) (fun w hT => refParts cc w (by omega) (by omega)) ?_
  refine batch1 [0, 0] 4 0 (fun b8 => [(1, .int .i64 w_), (2, .int .i64 h_), (9, .slice A1 k3 cp4), (10, .pointer (some ⟨b8, 0, none⟩))]) (fun b8 => [.cells b8 [.int .i64 (pa cc), .int .i64 (pr cc), .int .i64 (pg cc), .int .i64 (pb cc)] 49 true, .gen (bunO k3 (TS.pxs ts5)), .gen (bunO k3 (TS.ops ts5)), .gen (rowE (A1) g2 k3 cp4 60 14 (dvals TS.cells ts5) true), .gen (rdE (A) g o n 16 (dvals V17.cells xs)), .gen (subE n (fun i_ => rdE ((dget xs i_).A3) (dget xs i_).g3 (dget xs i_).o3 (dget xs i_).m3 1 (ivals .u32 (dget xs i_).x3))), .gen (subE n (fun i_ => rdE ((dget xs i_).A14) (dget xs i_).g14 (dget xs i_).o14 (dget xs i_).m14 1 (ivals .u32 (dget xs i_).x14))), .gen (subE n (fun i_ => rdE ((dget xs i_).A15) (dget xs i_).g15 (dget xs i_).o15 (dget xs i_).m15 4 (rvals (dget xs i_).x15)))]) rfl rfl [1, 2, 9, 10] (fun _ => rfl) (fun b8 => by kernel_rfl) (fun b8 => by kernel_rfl) (fun b8 => ?_)
  refine cont_done ?_
  refine then_normal ?_
  refine cont_seq ?_
  refine cont_region 8 rfl ?_
  refine bS [0, 0, 0, 0, 0, 0] 6 2 [(1, .int .i64 w_), (2, .int .i64 h_), (9, .slice A1 k3 cp4), (25, .int .i64 (pr cc)), (27, .int .i64 (pg cc)), (29, .int .i64 (pb cc))] ?_
  refine cont_forget 0 rfl ?_
  refine pl_step 7 1 rfl rfl ?_
  refine call_pure (d := 30) (.int .u32 (mkC 255 (pr cc) (pg cc) (pb cc))) (by kernel_rfl) (fun w hT => refMake 255 (pr cc) (pg cc) (pb cc) w) ?_
  refine bS [0] 8 0 [(1, .int .i64 w_), (2, .int .i64 h_), (9, .slice A1 k3 cp4), (11, .int .u32 (mkC 255 (pr cc) (pg cc) (pb cc)))] ?_
  refine cont_done ?_
  refine then_normal ?_
  refine cont_seq ?_
  refine cont_region 5 rfl ?_
  obtain ⟨S, hS⟩ : ∃ y_ : Int, y_ = (mkC 255 (pr cc) (pg cc) (pb cc)) := ⟨_, rfl⟩
  refine cont_recast 11 (.int .u32 (mkC 255 (pr cc) (pg cc) (pb cc))) (.int .u32 S) rfl (congrArg (Value.int .u32) hS.symm) ?_
  have hpr9 := parts_range (c := cc) ⟨hcc.1, hcc.2⟩
  have hSi : InC S := by rw [hS]; exact mkC_range _ _ _ _
  have hSa : pa S = 255 := by rw [hS, (parts_mk _ _ _ _).1]; decide
  have hSm : mayB S = true := by rw [hS]; exact mayB_mk (by omega) (by omega) (by omega)
  refine bS [0, 0] 2 3 [(9, .slice A1 k3 cp4), (11, .int .u32 S), (31, .int .i64 w_), (32, .int .i64 h_)] ?_
  refine pl_step 3 2 rfl rfl ?_
  refine call_pure (d := 33) (.agg #[.int .i64 0, .int .i64 0, .int .i64 (1 + aroundI w_ 16), .int .i64 (1 + aroundI h_ 16)]) (by kernel_rfl) (fun w hT => refBox17 w_ h_ w (by omega) (by omega)) ?_
  have hq9_ := aroundI_range w_ (m := 16) (by omega)
  have hq10_ := aroundI_range h_ (m := 16) (by omega)
  refine batch1 [0, 0] 5 0 (fun b11 => [(9, .slice A1 k3 cp4), (11, .int .u32 S), (12, .pointer (some ⟨b11, 0, none⟩))]) (fun b11 => [.cells b11 [.int .i64 0, .int .i64 0, .int .i64 (1 + aroundI w_ 16), .int .i64 (1 + aroundI h_ 16)] 53 true, .gen (bunO k3 (TS.pxs ts5)), .gen (bunO k3 (TS.ops ts5)), .gen (rowE (A1) g2 k3 cp4 60 14 (dvals TS.cells ts5) true), .gen (rdE (A) g o n 16 (dvals V17.cells xs)), .gen (subE n (fun i_ => rdE ((dget xs i_).A3) (dget xs i_).g3 (dget xs i_).o3 (dget xs i_).m3 1 (ivals .u32 (dget xs i_).x3))), .gen (subE n (fun i_ => rdE ((dget xs i_).A14) (dget xs i_).g14 (dget xs i_).o14 (dget xs i_).m14 1 (ivals .u32 (dget xs i_).x14))), .gen (subE n (fun i_ => rdE ((dget xs i_).A15) (dget xs i_).g15 (dget xs i_).o15 (dget xs i_).m15 4 (rvals (dget xs i_).x15)))]) rfl rfl [9, 11, 12] (fun _ => rfl) (fun b11 => by kernel_rfl) (fun b11 => by kernel_rfl) (fun b11 => ?_)
  refine cont_done ?_
  refine then_normal ?_
  refine cont_seq ?_
  refine cont_region 7 rfl ?_
  refine bS [0, 0, 0, 0] 4 3 [(9, .slice A1 k3 cp4), (11, .int .u32 S), (12, .pointer (some ⟨b11, 0, none⟩)), (35, .int .i64 (1 + aroundI w_ 16)), (37, .int .i64 (1 + aroundI h_ 16))] ?_
  refine pl_step 5 2 rfl rfl ?_
  refine call_gen (d := 38) (α := Nat × Nat) (fun x_ => .agg #[.int .i64 (1 + aroundI w_ 16), .int .i64 (1 + aroundI h_ 16), .slice (some ⟨x_.1, 0, none⟩) x_.2 x_.2]) (fun x_ => [.gen (rowE (some ⟨x_.1, 0, none⟩) x_.1 x_.2 x_.2 24 1 (ivals .u32 (List.replicate x_.2 0)) true), .cells b11 [.int .i64 0, .int .i64 0, .int .i64 (1 + aroundI w_ 16), .int .i64 (1 + aroundI h_ 16)] 53 true, .gen (bunO k3 (TS.pxs ts5)), .gen (bunO k3 (TS.ops ts5)), .gen (rowE (A1) g2 k3 cp4 60 14 (dvals TS.cells ts5) true), .gen (rdE (A) g o n 16 (dvals V17.cells xs)), .gen (subE n (fun i_ => rdE ((dget xs i_).A3) (dget xs i_).g3 (dget xs i_).o3 (dget xs i_).m3 1 (ivals .u32 (dget xs i_).x3))), .gen (subE n (fun i_ => rdE ((dget xs i_).A14) (dget xs i_).g14 (dget xs i_).o14 (dget xs i_).m14 1 (ivals .u32 (dget xs i_).x14))), .gen (subE n (fun i_ => rdE ((dget xs i_).A15) (dget xs i_).g15 (dget xs i_).o15 (dget xs i_).m15 4 (rvals (dget xs i_).x15)))]) (fun x_ => (x_.2 : Int) = (1 + aroundI w_ 16) * (1 + aroundI h_ 16)) (by kernel_rfl) (fun w hT => (refNew4 (1 + aroundI w_ 16) (1 + aroundI h_ 16) w (by omega)).mono fun e w' ⟨r12, n13, he_, hf_, ht_⟩ => ⟨(r12, n13), he_, hf_, hT.news ht_ rfl⟩) ?_
  rintro ⟨r12, n13⟩ hf14_
  replace hf14_ : (n13 : Int) = (1 + aroundI w_ 16) * (1 + aroundI h_ 16) := hf14_
  refine cont_norm [(9, .slice A1 k3 cp4), (11, .int .u32 S), (12, .pointer (some ⟨b11, 0, none⟩)), (35, .int .i64 (1 + aroundI w_ 16)), (37, .int .i64 (1 + aroundI h_ 16)), (38, .agg #[.int .i64 (1 + aroundI w_ 16), .int .i64 (1 + aroundI h_ 16), .slice (some ⟨r12, 0, none⟩) n13 n13])] [.gen (rowE (some ⟨r12, 0, none⟩) r12 n13 n13 24 1 (ivals .u32 (List.replicate n13 0)) true), .cells b11 [.int .i64 0, .int .i64 0, .int .i64 (1 + aroundI w_ 16), .int .i64 (1 + aroundI h_ 16)] 53 true, .gen (bunO k3 (TS.pxs ts5)), .gen (bunO k3 (TS.ops ts5)), .gen (rowE (A1) g2 k3 cp4 60 14 (dvals TS.cells ts5) true), .gen (rdE (A) g o n 16 (dvals V17.cells xs)), .gen (subE n (fun i_ => rdE ((dget xs i_).A3) (dget xs i_).g3 (dget xs i_).o3 (dget xs i_).m3 1 (ivals .u32 (dget xs i_).x3))), .gen (subE n (fun i_ => rdE ((dget xs i_).A14) (dget xs i_).g14 (dget xs i_).o14 (dget xs i_).m14 1 (ivals .u32 (dget xs i_).x14))), .gen (subE n (fun i_ => rdE ((dget xs i_).A15) (dget xs i_).g15 (dget xs i_).o15 (dget xs i_).m15 4 (rvals (dget xs i_).x15)))] (by kernel_rfl) rfl ?_
  have hnum : (n13 : Int) = (1 + aroundI w_ 16) * (1 + aroundI h_ 16) := hf14_
  refine batch1 [0, 0] 7 0 (fun b15 => [(9, .slice A1 k3 cp4), (11, .int .u32 S), (12, .pointer (some ⟨b11, 0, none⟩)), (13, .pointer (some ⟨b15, 0, none⟩))]) (fun b15 => [.cells b15 [.int .i64 (1 + aroundI w_ 16), .int .i64 (1 + aroundI h_ 16), .slice (some ⟨r12, 0, none⟩) n13 n13] 41 true, .gen (rowE (some ⟨r12, 0, none⟩) r12 n13 n13 24 1 (ivals .u32 (List.replicate n13 0)) true), .cells b11 [.int .i64 0, .int .i64 0, .int .i64 (1 + aroundI w_ 16), .int .i64 (1 + aroundI h_ 16)] 53 true, .gen (bunO k3 (TS.pxs ts5)), .gen (bunO k3 (TS.ops ts5)), .gen (rowE (A1) g2 k3 cp4 60 14 (dvals TS.cells ts5) true), .gen (rdE (A) g o n 16 (dvals V17.cells xs)), .gen (subE n (fun i_ => rdE ((dget xs i_).A3) (dget xs i_).g3 (dget xs i_).o3 (dget xs i_).m3 1 (ivals .u32 (dget xs i_).x3))), .gen (subE n (fun i_ => rdE ((dget xs i_).A14) (dget xs i_).g14 (dget xs i_).o14 (dget xs i_).m14 1 (ivals .u32 (dget xs i_).x14))), .gen (subE n (fun i_ => rdE ((dget xs i_).A15) (dget xs i_).g15 (dget xs i_).o15 (dget xs i_).m15 4 (rvals (dget xs i_).x15)))]) rfl rfl [9, 11, 12, 13] (fun _ => rfl) (fun b15 => by kernel_rfl) (fun b15 => by kernel_rfl) (fun b15 => ?_)
  refine cont_done ?_
  refine then_normal ?_
  refine cont_seq ?_
  refine cont_seq ?_
  refine cont_region 1 rfl ?_
  refine bS [0] 1 0 [(9, .slice A1 k3 cp4), (11, .int .u32 S), (12, .pointer (some ⟨b11, 0, none⟩)), (13, .pointer (some ⟨b15, 0, none⟩)), (14, .int .i64 0)] ?_
  refine cont_done ?_
  refine then_normal ?_
  refine cont_block ?_
  refine cont_rowEq (k := .u32) 1 (List.replicate n13 0) (topK n13 S 0) rfl ((topK_zero _ _).symm) ?_
  refine cont_loop (α := Nat) (fun x_ : Nat => x_ ≤ n13) (fun x_ : Nat => [(9, .slice A1 k3 cp4), (11, .int .u32 S), (12, .pointer (some ⟨b11, 0, none⟩)), (13, .pointer (some ⟨b15, 0, none⟩)), (14, .int .i64 (x_ : Int))]) (fun x_ : Nat => [.cells b15 [.int .i64 (1 + aroundI w_ 16), .int .i64 (1 + aroundI h_ 16), .slice (some ⟨r12, 0, none⟩) n13 n13] 41 true, .gen (rowE (some ⟨r12, 0, none⟩) r12 n13 n13 24 1 (ivals .u32 (topK n13 S x_)) true), .cells b11 [.int .i64 0, .int .i64 0, .int .i64 (1 + aroundI w_ 16), .int .i64 (1 + aroundI h_ 16)] 53 true, .gen (bunO k3 (TS.pxs ts5)), .gen (bunO k3 (TS.ops ts5)), .gen (rowE (A1) g2 k3 cp4 60 14 (dvals TS.cells ts5) true), .gen (rdE (A) g o n 16 (dvals V17.cells xs)), .gen (subE n (fun i_ => rdE ((dget xs i_).A3) (dget xs i_).g3 (dget xs i_).o3 (dget xs i_).m3 1 (ivals .u32 (dget xs i_).x3))), .gen (subE n (fun i_ => rdE ((dget xs i_).A14) (dget xs i_).g14 (dget xs i_).o14 (dget xs i_).m14 1 (ivals .u32 (dget xs i_).x14))), .gen (subE n (fun i_ => rdE ((dget xs i_).A15) (dget xs i_).g15 (dget xs i_).o15 (dget xs i_).m15 4 (rvals (dget xs i_).x15)))]) (fun x_ : Nat => n13 - x_) 0 (by omega) (by kernel_rfl) (by kernel_rfl) ?_
  rintro i hinv16_
  replace hinv16_ : i ≤ n13 := hinv16_
  refine cont_norm [(9, .slice A1 k3 cp4), (11, .int .u32 S), (12, .pointer (some ⟨b11, 0, none⟩)), (13, .pointer (some ⟨b15, 0, none⟩)), (14, .int .i64 (i : Int))] [.cells b15 [.int .i64 (1 + aroundI w_ 16), .int .i64 (1 + aroundI h_ 16), .slice (some ⟨r12, 0, none⟩) n13 n13] 41 true, .gen (rowE (some ⟨r12, 0, none⟩) r12 n13 n13 24 1 (ivals .u32 (topK n13 S i)) true), .cells b11 [.int .i64 0, .int .i64 0, .int .i64 (1 + aroundI w_ 16), .int .i64 (1 + aroundI h_ 16)] 53 true, .gen (bunO k3 (TS.pxs ts5)), .gen (bunO k3 (TS.ops ts5)), .gen (rowE (A1) g2 k3 cp4 60 14 (dvals TS.cells ts5) true), .gen (rdE (A) g o n 16 (dvals V17.cells xs)), .gen (subE n (fun i_ => rdE ((dget xs i_).A3) (dget xs i_).g3 (dget xs i_).o3 (dget xs i_).m3 1 (ivals .u32 (dget xs i_).x3))), .gen (subE n (fun i_ => rdE ((dget xs i_).A14) (dget xs i_).g14 (dget xs i_).o14 (dget xs i_).m14 1 (ivals .u32 (dget xs i_).x14))), .gen (subE n (fun i_ => rdE ((dget xs i_).A15) (dget xs i_).g15 (dget xs i_).o15 (dget xs i_).m15 4 (rvals (dget xs i_).x15)))] (by kernel_rfl) rfl ?_
  have hi := hinv16_
  have htl := topK_len (S := S) hi
  have hnb : (1 + aroundI w_ 16) * (1 + aroundI h_ 16) ≤ 16 * 16 := mul_le_of (by omega) (by omega) (by omega) (by omega)
  refine cont_seq ?_
  refine cont_seq ?_
  refine cont_region 5 rfl ?_
  refine bS [0, 0, 0, 0, 0] 5 0 [(9, .slice A1 k3 cp4), (11, .int .u32 S), (12, .pointer (some ⟨b11, 0, none⟩)), (13, .pointer (some ⟨b15, 0, none⟩)), (14, .int .i64 (i : Int)), (43, .bool (decide ((i : Int) < (n13 : Int))))] ?_
  refine cont_done ?_
  refine then_normal ?_
  refine cont_split 43 (decide ((i : Int) < (n13 : Int))) rfl (fun c17_ => ?_) (fun c17_ => ?_)
  ·
    replace c17_ := of_decide_eq_true c17_
    refine cont_true rfl ?_
    refine cont_skip ?_
    refine then_normal ?_
    refine cont_seq ?_
    refine cont_block ?_
    refine cont_region 6 rfl ?_
    refine bS [0, 0, 0, 0] 4 2 [(9, .slice A1 k3 cp4), (11, .int .u32 S), (12, .pointer (some ⟨b11, 0, none⟩)), (13, .pointer (some ⟨b15, 0, none⟩)), (14, .int .i64 (i : Int)), (47, .slice (some ⟨r12, 0, none⟩) n13 n13), (48, .int .i64 (i : Int)), (49, .int .u32 S)] ?_
    refine pl_step 5 1 rfl rfl ?_
    refine sem_step 50 (Instr.indexAt 39 (.slice (some ⟨r12, 0, none⟩) n13 n13) (.int .i64 (i : Int))) (.pointer (some ⟨r12, i, none⟩)) (by kernel_rfl) (fun w hT => run_indexAt (e := 24) (sz := 1) _ (by kernel_rfl) (by kernel_rfl) (by omega) (by omega) (by omega) w) ?_
    refine pl_step 6 0 rfl rfl ?_
    refine sem_stepU (Instr.storeAt 24 (.pointer (some ⟨r12, i, none⟩)) (.int .u32 S)) (fun _ => [.cells b15 [.int .i64 (1 + aroundI w_ 16), .int .i64 (1 + aroundI h_ 16), .slice (some ⟨r12, 0, none⟩) n13 n13] 41 true, .gen (rowE (some ⟨r12, 0, none⟩) r12 n13 n13 24 1 (ivals .u32 ((topK n13 S i).set i S)) true), .cells b11 [.int .i64 0, .int .i64 0, .int .i64 (1 + aroundI w_ 16), .int .i64 (1 + aroundI h_ 16)] 53 true, .gen (bunO k3 (TS.pxs ts5)), .gen (bunO k3 (TS.ops ts5)), .gen (rowE (A1) g2 k3 cp4 60 14 (dvals TS.cells ts5) true), .gen (rdE (A) g o n 16 (dvals V17.cells xs)), .gen (subE n (fun i_ => rdE ((dget xs i_).A3) (dget xs i_).g3 (dget xs i_).o3 (dget xs i_).m3 1 (ivals .u32 (dget xs i_).x3))), .gen (subE n (fun i_ => rdE ((dget xs i_).A14) (dget xs i_).g14 (dget xs i_).o14 (dget xs i_).m14 1 (ivals .u32 (dget xs i_).x14))), .gen (subE n (fun i_ => rdE ((dget xs i_).A15) (dget xs i_).g15 (dget xs i_).o15 (dget xs i_).m15 4 (rvals (dget xs i_).x15)))]) (fun _ => True) (by kernel_rfl) (fun w hT => store_row hT (i := 1) rfl (by kernel_rfl) (by omega)) (fun _ _ => ?_)
    refine cont_done ?_
    refine blk_normal ?_
    refine then_normal ?_
    refine cont_region 3 rfl ?_
    refine bS [0, 0] 2 1 [(9, .slice A1 k3 cp4), (11, .int .u32 S), (12, .pointer (some ⟨b11, 0, none⟩)), (13, .pointer (some ⟨b15, 0, none⟩)), (45, .int .i64 (IntKind.i64.wrap ((i : Int) + 1)))] ?_
    refine cont_recast 45 (.int .i64 (IntKind.i64.wrap ((i : Int) + 1))) (.int .i64 ((i : Int) + 1)) rfl (wrapI (by omega) (by omega)) ?_
    refine bS [0] 3 0 [(9, .slice A1 k3 cp4), (11, .int .u32 S), (12, .pointer (some ⟨b11, 0, none⟩)), (13, .pointer (some ⟨b15, 0, none⟩)), (14, .int .i64 ((i : Int) + 1))] ?_
    refine cont_done ?_
    refine then_normal ?_
    refine cont_rowEq (k := .u32) 1 ((topK n13 S i).set i S) (topK n13 S (i + 1)) rfl (topK_set (by omega)) ?_
    refine cont_again (i + 1) (show (i + 1) ≤ n13 from (by omega)) (show n13 - (i + 1) < n13 - i from by omega) (by kernel_rfl) (by kernel_rfl)
  replace c17_ := of_decide_eq_false c17_
  refine cont_false rfl ?_
  refine cont_exit ?_
  refine then_exit ?_
  refine then_exit ?_
  refine blk_exit ?_
  refine then_normal ?_
  refine cont_seq ?_
  refine cont_region 7 rfl ?_
  refine cont_rowEq (k := .u32) 1 (topK n13 S i) (List.replicate n13 S) rfl (topK_all (by omega)) ?_
  refine cont_nilrow 53 4 ?_
  refine cont_norm [(9, .slice A1 k3 cp4), (11, .int .u32 S), (12, .pointer (some ⟨b11, 0, none⟩)), (13, .pointer (some ⟨b15, 0, none⟩)), (14, .int .i64 (i : Int)), (43, .bool false)] [.gen (rowE (none) 0 0 0 53 4 (rvals []) true), .cells b15 [.int .i64 (1 + aroundI w_ 16), .int .i64 (1 + aroundI h_ 16), .slice (some ⟨r12, 0, none⟩) n13 n13] 41 true, .gen (rowE (some ⟨r12, 0, none⟩) r12 n13 n13 24 1 (ivals .u32 (List.replicate n13 S)) true), .cells b11 [.int .i64 0, .int .i64 0, .int .i64 (1 + aroundI w_ 16), .int .i64 (1 + aroundI h_ 16)] 53 true, .gen (bunO k3 (TS.pxs ts5)), .gen (bunO k3 (TS.ops ts5)), .gen (rowE (A1) g2 k3 cp4 60 14 (dvals TS.cells ts5) true), .gen (rdE (A) g o n 16 (dvals V17.cells xs)), .gen (subE n (fun i_ => rdE ((dget xs i_).A3) (dget xs i_).g3 (dget xs i_).o3 (dget xs i_).m3 1 (ivals .u32 (dget xs i_).x3))), .gen (subE n (fun i_ => rdE ((dget xs i_).A14) (dget xs i_).g14 (dget xs i_).o14 (dget xs i_).m14 1 (ivals .u32 (dget xs i_).x14))), .gen (subE n (fun i_ => rdE ((dget xs i_).A15) (dget xs i_).g15 (dget xs i_).o15 (dget xs i_).m15 4 (rvals (dget xs i_).x15)))] (by kernel_rfl) rfl ?_
  refine batch1 [0, 1, 3, 0, 0] 5 2 (fun b19 => [(11, .int .u32 S), (12, .pointer (some ⟨b11, 0, none⟩)), (51, .slice A1 k3 cp4), (55, .slice (some ⟨b19, 0, none⟩) 1 1)]) (fun b19 => [.cells b19 [.bool true, .int .i64 (1 + aroundI w_ 16), .int .i64 (1 + aroundI h_ 16), .slice (some ⟨r12, 0, none⟩) n13 n13, .int .i64 0, .int .i64 0, .int .i64 1, .int .i64 255, .int .i64 0, .int .i64 0, .int .i64 (1 + aroundI w_ 16), .int .i64 (1 + aroundI h_ 16), .slice none 0 0, .string ⟨#[]⟩] 60 true, .gen (rowE (none) 0 0 0 53 4 (rvals []) true), .cells b15 [.int .i64 (1 + aroundI w_ 16), .int .i64 (1 + aroundI h_ 16), .slice (some ⟨r12, 0, none⟩) n13 n13] 41 true, .gen (rowE (some ⟨r12, 0, none⟩) r12 n13 n13 24 1 (ivals .u32 (List.replicate n13 S)) true), .cells b11 [.int .i64 0, .int .i64 0, .int .i64 (1 + aroundI w_ 16), .int .i64 (1 + aroundI h_ 16)] 53 true, .gen (bunO k3 (TS.pxs ts5)), .gen (bunO k3 (TS.ops ts5)), .gen (rowE (A1) g2 k3 cp4 60 14 (dvals TS.cells ts5) true), .gen (rdE (A) g o n 16 (dvals V17.cells xs)), .gen (subE n (fun i_ => rdE ((dget xs i_).A3) (dget xs i_).g3 (dget xs i_).o3 (dget xs i_).m3 1 (ivals .u32 (dget xs i_).x3))), .gen (subE n (fun i_ => rdE ((dget xs i_).A14) (dget xs i_).g14 (dget xs i_).o14 (dget xs i_).m14 1 (ivals .u32 (dget xs i_).x14))), .gen (subE n (fun i_ => rdE ((dget xs i_).A15) (dget xs i_).g15 (dget xs i_).o15 (dget xs i_).m15 4 (rvals (dget xs i_).x15)))]) rfl rfl [11, 12, 51, 55] (fun _ => rfl) (fun b19 => by kernel_rfl) (fun b19 => by kernel_rfl) (fun b19 => ?_)
  refine cont_forget 2 rfl ?_
  refine pl_step 6 1 rfl rfl ?_
  refine sem_stepW (α := Option Addr × Nat × Nat) 56 (Builtin.append_ #[25, 25] 25 #[.slice A1 k3 cp4, .slice (some ⟨b19, 0, none⟩) 1 1]) (fun x_ => .slice x_.1 (k3 + 1) x_.2.2) (fun x_ => [.cells b19 [.bool true, .int .i64 (1 + aroundI w_ 16), .int .i64 (1 + aroundI h_ 16), .slice (some ⟨r12, 0, none⟩) n13 n13, .int .i64 0, .int .i64 0, .int .i64 1, .int .i64 255, .int .i64 0, .int .i64 0, .int .i64 (1 + aroundI w_ 16), .int .i64 (1 + aroundI h_ 16), .slice none 0 0, .string ⟨#[]⟩] 60 true, .gen (rowE (none) 0 0 0 53 4 (rvals []) true), .gen (rowE (some ⟨r12, 0, none⟩) r12 n13 n13 24 1 (ivals .u32 (List.replicate n13 S)) true), .cells b11 [.int .i64 0, .int .i64 0, .int .i64 (1 + aroundI w_ 16), .int .i64 (1 + aroundI h_ 16)] 53 true, .gen (bunO k3 (TS.pxs ts5)), .gen (bunO k3 (TS.ops ts5)), .gen (rowE (x_.1) x_.2.1 (k3 + 1) x_.2.2 60 14 (dvals TS.cells (ts5 ++ [(⟨1 + aroundI w_ 16, 1 + aroundI h_ 16, r12, n13, n13, List.replicate n13 S, 0, 0, 1, 255, 0, 0, 1 + aroundI w_ 16, 1 + aroundI h_ 16, none, 0, 0, 0, []⟩ : TS)])) true), .gen (rdE (A) g o n 16 (dvals V17.cells xs)), .gen (subE n (fun i_ => rdE ((dget xs i_).A3) (dget xs i_).g3 (dget xs i_).o3 (dget xs i_).m3 1 (ivals .u32 (dget xs i_).x3))), .gen (subE n (fun i_ => rdE ((dget xs i_).A14) (dget xs i_).g14 (dget xs i_).o14 (dget xs i_).m14 1 (ivals .u32 (dget xs i_).x14))), .gen (subE n (fun i_ => rdE ((dget xs i_).A15) (dget xs i_).g15 (dget xs i_).o15 (dget xs i_).m15 4 (rvals (dget xs i_).x15)))]) (fun _ => True) (by kernel_rfl) (fun w hT => append_own (n' := (k3 + 1)) (z := .agg #[.bool false, .int .i64 0, .int .i64 0, .slice none 0 0, .int .i64 0, .int .i64 0, .int .i64 0, .int .i64 0, .int .i64 0, .int .i64 0, .int .i64 0, .int .i64 0, .slice none 0 0, .string ⟨#[]⟩]) hT (i := 6) (bytes := 152) rfl (by kernel_rfl) (by kernel_rfl) rfl (by decide) (by decide) (Rd.ofCells (vals := dvals TS.cells [(⟨1 + aroundI w_ 16, 1 + aroundI h_ 16, r12, n13, n13, List.replicate n13 S, 0, 0, 1, 255, 0, 0, 1 + aroundI w_ 16, 1 + aroundI h_ 16, none, 0, 0, 0, []⟩ : TS)]) (hT.ok 0 _ rfl) rfl rfl) (dvals_one TS.one [(⟨1 + aroundI w_ 16, 1 + aroundI h_ 16, r12, n13, n13, List.replicate n13 S, 0, 0, 1, 255, 0, 0, 1 + aroundI w_ 16, 1 + aroundI h_ 16, none, 0, 0, 0, []⟩ : TS)]) (by omega) (dvals_append ts5 [(⟨1 + aroundI w_ 16, 1 + aroundI h_ 16, r12, n13, n13, List.replicate n13 S, 0, 0, 1, 255, 0, 0, 1 + aroundI w_ 16, 1 + aroundI h_ 16, none, 0, 0, 0, []⟩ : TS)]) rfl) ?_
  rintro ⟨A20, g20, cp20⟩ -
  refine cont_norm [(11, .int .u32 S), (12, .pointer (some ⟨b11, 0, none⟩)), (51, .slice A1 k3 cp4), (55, .slice (some ⟨b19, 0, none⟩) 1 1), (56, .slice A20 (k3 + 1) cp20)] [.cells b19 [.bool true, .int .i64 (1 + aroundI w_ 16), .int .i64 (1 + aroundI h_ 16), .slice (some ⟨r12, 0, none⟩) n13 n13, .int .i64 0, .int .i64 0, .int .i64 1, .int .i64 255, .int .i64 0, .int .i64 0, .int .i64 (1 + aroundI w_ 16), .int .i64 (1 + aroundI h_ 16), .slice none 0 0, .string ⟨#[]⟩] 60 true, .gen (rowE (none) 0 0 0 53 4 (rvals []) true), .gen (rowE (some ⟨r12, 0, none⟩) r12 n13 n13 24 1 (ivals .u32 (List.replicate n13 S)) true), .cells b11 [.int .i64 0, .int .i64 0, .int .i64 (1 + aroundI w_ 16), .int .i64 (1 + aroundI h_ 16)] 53 true, .gen (bunO k3 (TS.pxs ts5)), .gen (bunO k3 (TS.ops ts5)), .gen (rowE (A20) g20 (k3 + 1) cp20 60 14 (dvals TS.cells (ts5 ++ [(⟨1 + aroundI w_ 16, 1 + aroundI h_ 16, r12, n13, n13, List.replicate n13 S, 0, 0, 1, 255, 0, 0, 1 + aroundI w_ 16, 1 + aroundI h_ 16, none, 0, 0, 0, []⟩ : TS)])) true), .gen (rdE (A) g o n 16 (dvals V17.cells xs)), .gen (subE n (fun i_ => rdE ((dget xs i_).A3) (dget xs i_).g3 (dget xs i_).o3 (dget xs i_).m3 1 (ivals .u32 (dget xs i_).x3))), .gen (subE n (fun i_ => rdE ((dget xs i_).A14) (dget xs i_).g14 (dget xs i_).o14 (dget xs i_).m14 1 (ivals .u32 (dget xs i_).x14))), .gen (subE n (fun i_ => rdE ((dget xs i_).A15) (dget xs i_).g15 (dget xs i_).o15 (dget xs i_).m15 4 (rvals (dget xs i_).x15)))] (by kernel_rfl) rfl ?_
  refine cont_fact (F := (0 < (k3 + 1) → (A20 : Option Addr) = some ⟨g20, 0, none⟩) ∧ (ts5 ++ [(⟨1 + aroundI w_ 16, 1 + aroundI h_ 16, r12, n13, n13, List.replicate n13 S, 0, 0, 1, 255, 0, 0, 1 + aroundI w_ 16, 1 + aroundI h_ 16, none, 0, 0, 0, []⟩ : TS)]).length = (k3 + 1) ∧ (k3 + 1) ≤ cp20 ∧ cp20 ≤ maxLen) (fun w hT => Row.factsD TS.size (by decide) (hT.ok 6 _ rfl)) (fun hr21_ => ?_)
  obtain ⟨hr21_a, hr21_l, hr21_c, hr21_m⟩ := hr21_
  unfold maxLen at hr21_m
  refine bS [0] 7 0 [(9, .slice A20 (k3 + 1) cp20), (11, .int .u32 S), (12, .pointer (some ⟨b11, 0, none⟩))] ?_
  refine cont_forget 0 rfl ?_
  refine cont_done ?_
  refine then_normal ?_
  refine cont_seq ?_
  refine cont_region 8 rfl ?_
  obtain ⟨t, ht⟩ : ∃ t_ : TS, t_ = topT (1 + aroundI w_ 16) (1 + aroundI h_ 16) r12 n13 n13 S := ⟨_, rfl⟩
  refine cont_rowEqD (cel := TS.cells) (z := 14) 5 (ts5 ++ [(⟨1 + aroundI w_ 16, 1 + aroundI h_ 16, r12, n13, n13, List.replicate n13 S, 0, 0, 1, 255, 0, 0, 1 + aroundI w_ 16, 1 + aroundI h_ 16, none, 0, 0, 0, []⟩ : TS)]) (ts5 ++ [t]) rfl (by rw [ht]; rfl) ?_
  obtain ⟨tsx, htx⟩ : ∃ y_ : List TS, y_ = ts5 ++ [t] := ⟨_, rfl⟩
  refine cont_rowEqD (cel := TS.cells) (z := 14) 5 (ts5 ++ [t]) (tsx) rfl htx.symm ?_
  refine cont_norm [(9, .slice A20 (k3 + 1) cp20), (11, .int .u32 S), (12, .pointer (some ⟨b11, 0, none⟩))] [.gen (rowE (none) 0 0 0 53 4 (rvals []) true), .gen (rowE (some ⟨r12, 0, none⟩) r12 n13 n13 24 1 (ivals .u32 (List.replicate n13 S)) true), .cells b11 [.int .i64 0, .int .i64 0, .int .i64 (1 + aroundI w_ 16), .int .i64 (1 + aroundI h_ 16)] 53 true, .gen (bunO k3 (TS.pxs ts5)), .gen (bunO k3 (TS.ops ts5)), .gen (rowE (A20) g20 (k3 + 1) cp20 60 14 (dvals TS.cells tsx) true), .gen (rdE (A) g o n 16 (dvals V17.cells xs)), .gen (subE n (fun i_ => rdE ((dget xs i_).A3) (dget xs i_).g3 (dget xs i_).o3 (dget xs i_).m3 1 (ivals .u32 (dget xs i_).x3))), .gen (subE n (fun i_ => rdE ((dget xs i_).A14) (dget xs i_).g14 (dget xs i_).o14 (dget xs i_).m14 1 (ivals .u32 (dget xs i_).x14))), .gen (subE n (fun i_ => rdE ((dget xs i_).A15) (dget xs i_).g15 (dget xs i_).o15 (dget xs i_).m15 4 (rvals (dget xs i_).x15)))] (by kernel_rfl) rfl ?_
  have hpa : (∀ k_, k_ < k3 → TS.pxs tsx k_ = TS.pxs ts5 k_) ∧ TS.pxs tsx k3 = t.pxG := by rw [htx]; exact TS.pxs_app hr7_l
  have hoa : (∀ k_, k_ < k3 → TS.ops tsx k_ = TS.ops ts5 k_) ∧ TS.ops tsx k3 = t.opG := by rw [htx]; exact TS.ops_app hr7_l
  refine cont_bun 1 3 k3 (TS.pxs ts5) (TS.pxs tsx) t.pxG rfl rfl (by rw [ht]; exact Vw.rowRd) rfl (by decide) hpa.1 hpa.2 ?_
  refine cont_norm [(9, .slice A20 (k3 + 1) cp20), (11, .int .u32 S), (12, .pointer (some ⟨b11, 0, none⟩))] [.gen (rowE (none) 0 0 0 53 4 (rvals []) true), .cells b11 [.int .i64 0, .int .i64 0, .int .i64 (1 + aroundI w_ 16), .int .i64 (1 + aroundI h_ 16)] 53 true, .gen (bunO (k3 + 1) (TS.pxs tsx)), .gen (bunO k3 (TS.ops ts5)), .gen (rowE (A20) g20 (k3 + 1) cp20 60 14 (dvals TS.cells tsx) true), .gen (rdE (A) g o n 16 (dvals V17.cells xs)), .gen (subE n (fun i_ => rdE ((dget xs i_).A3) (dget xs i_).g3 (dget xs i_).o3 (dget xs i_).m3 1 (ivals .u32 (dget xs i_).x3))), .gen (subE n (fun i_ => rdE ((dget xs i_).A14) (dget xs i_).g14 (dget xs i_).o14 (dget xs i_).m14 1 (ivals .u32 (dget xs i_).x14))), .gen (subE n (fun i_ => rdE ((dget xs i_).A15) (dget xs i_).g15 (dget xs i_).o15 (dget xs i_).m15 4 (rvals (dget xs i_).x15)))] (by kernel_rfl) rfl ?_
  refine cont_bun 0 3 k3 (TS.ops ts5) (TS.ops tsx) t.opG rfl rfl (by rw [ht]; exact Vw.rowRd) rfl (by decide) hoa.1 hoa.2 ?_
  refine cont_norm [(9, .slice A20 (k3 + 1) cp20), (11, .int .u32 S), (12, .pointer (some ⟨b11, 0, none⟩))] [.cells b11 [.int .i64 0, .int .i64 0, .int .i64 (1 + aroundI w_ 16), .int .i64 (1 + aroundI h_ 16)] 53 true, .gen (bunO (k3 + 1) (TS.pxs tsx)), .gen (bunO (k3 + 1) (TS.ops tsx)), .gen (rowE (A20) g20 (k3 + 1) cp20 60 14 (dvals TS.cells tsx) true), .gen (rdE (A) g o n 16 (dvals V17.cells xs)), .gen (subE n (fun i_ => rdE ((dget xs i_).A3) (dget xs i_).g3 (dget xs i_).o3 (dget xs i_).m3 1 (ivals .u32 (dget xs i_).x3))), .gen (subE n (fun i_ => rdE ((dget xs i_).A14) (dget xs i_).g14 (dget xs i_).o14 (dget xs i_).m14 1 (ivals .u32 (dget xs i_).x14))), .gen (subE n (fun i_ => rdE ((dget xs i_).A15) (dget xs i_).g15 (dget xs i_).o15 (dget xs i_).m15 4 (rvals (dget xs i_).x15)))] (by kernel_rfl) rfl ?_
  have hgt9 : ∀ u ∈ tsx, TS.Ok u := by rw [htx]; intro u hu; rcases List.mem_append.1 hu with h_ | h_; exact hgt u h_; rw [List.mem_singleton.1 h_, ht]; exact topT_ok ⟨by omega, by omega⟩ ⟨by omega, by omega⟩ hnum ⟨hSm, hSi⟩
  refine cont_fact (F := (0 < (k3 + 1) → (A20 : Option Addr) = some ⟨g20, 0, none⟩) ∧ tsx.length = (k3 + 1) ∧ (k3 + 1) ≤ cp20 ∧ cp20 ≤ maxLen) (fun w hT => Row.factsD TS.size (by decide) (hT.ok 3 _ rfl)) (fun hr22_ => ?_)
  obtain ⟨hr22_a, hr22_l, hr22_c, hr22_m⟩ := hr22_
  unfold maxLen at hr22_m
  refine bS [0] 1 7 [(11, .int .u32 S), (12, .pointer (some ⟨b11, 0, none⟩)), (58, .slice A20 (k3 + 1) cp20)] ?_
  refine pl_step 2 6 rfl rfl ?_
  refine call_gen (d := 59) (α := Option Addr × Nat × Nat × List IT) (fun x_ => .tuple #[.agg #[.int .i64 0, .slice x_.1 (k3 + 1) x_.2.2.1], .bool true]) (fun x_ => [.gen (bunO (k3 + 1) (IT.pxs x_.2.2.2)), .gen (bunO (k3 + 1) (IT.hds 118 x_.2.2.2)), .gen (rowE (x_.1) x_.2.1 (k3 + 1) x_.2.2.1 103 14 (dvals IT.cells x_.2.2.2) true), .cells b11 [.int .i64 0, .int .i64 0, .int .i64 (1 + aroundI w_ 16), .int .i64 (1 + aroundI h_ 16)] 53 true, .gen (bunO (k3 + 1) (TS.pxs tsx)), .gen (bunO (k3 + 1) (TS.ops tsx)), .gen (rowE (A20) g20 (k3 + 1) cp20 60 14 (dvals TS.cells tsx) true), .gen (rdE (A) g o n 16 (dvals V17.cells xs)), .gen (subE n (fun i_ => rdE ((dget xs i_).A3) (dget xs i_).g3 (dget xs i_).o3 (dget xs i_).m3 1 (ivals .u32 (dget xs i_).x3))), .gen (subE n (fun i_ => rdE ((dget xs i_).A14) (dget xs i_).g14 (dget xs i_).o14 (dget xs i_).m14 1 (ivals .u32 (dget xs i_).x14))), .gen (subE n (fun i_ => rdE ((dget xs i_).A15) (dget xs i_).g15 (dget xs i_).o15 (dget xs i_).m15 4 (rvals (dget xs i_).x15)))]) (fun x_ => x_.2.2.2.map (·.t) = tsx) (by kernel_rfl) (fun w hT => (shot A20 g20 0 (k3 + 1) cp20 tsx w (hT.viewRo (.cons (i := 3) rfl Vw.rowRd (.cons (i := 1) rfl Vw.bunSub .nil)) rfl) hgt9 (by omega)).mono fun e w' ⟨A23, g24, cp25, its26, he_, hf_, ht_⟩ => ⟨(A23, g24, cp25, its26), he_, hf_, hT.news ht_ rfl⟩) ?_
  rintro ⟨A23, g24, cp25, its26⟩ hf27_
  replace hf27_ : its26.map (·.t) = tsx := hf27_
  refine cont_norm [(11, .int .u32 S), (12, .pointer (some ⟨b11, 0, none⟩)), (58, .slice A20 (k3 + 1) cp20), (59, .tuple #[.agg #[.int .i64 0, .slice A23 (k3 + 1) cp25], .bool true])] [.gen (bunO (k3 + 1) (IT.pxs its26)), .gen (bunO (k3 + 1) (IT.hds 118 its26)), .gen (rowE (A23) g24 (k3 + 1) cp25 103 14 (dvals IT.cells its26) true), .cells b11 [.int .i64 0, .int .i64 0, .int .i64 (1 + aroundI w_ 16), .int .i64 (1 + aroundI h_ 16)] 53 true, .gen (bunO (k3 + 1) (TS.pxs tsx)), .gen (bunO (k3 + 1) (TS.ops tsx)), .gen (rowE (A20) g20 (k3 + 1) cp20 60 14 (dvals TS.cells tsx) true), .gen (rdE (A) g o n 16 (dvals V17.cells xs)), .gen (subE n (fun i_ => rdE ((dget xs i_).A3) (dget xs i_).g3 (dget xs i_).o3 (dget xs i_).m3 1 (ivals .u32 (dget xs i_).x3))), .gen (subE n (fun i_ => rdE ((dget xs i_).A14) (dget xs i_).g14 (dget xs i_).o14 (dget xs i_).m14 1 (ivals .u32 (dget xs i_).x14))), .gen (subE n (fun i_ => rdE ((dget xs i_).A15) (dget xs i_).g15 (dget xs i_).o15 (dget xs i_).m15 4 (rvals (dget xs i_).x15)))] (by kernel_rfl) rfl ?_
  refine cont_fact (F := (0 < (k3 + 1) → (A23 : Option Addr) = some ⟨g24, 0, none⟩) ∧ its26.length = (k3 + 1) ∧ (k3 + 1) ≤ cp25 ∧ cp25 ≤ maxLen) (fun w hT => Row.factsD IT.size (by decide) (hT.ok 2 _ rfl)) (fun hr28_ => ?_)
  obtain ⟨hr28_a, hr28_l, hr28_c, hr28_m⟩ := hr28_
  unfold maxLen at hr28_m
  have hmapS := hf27_
  refine batch1 [0, 0, 0, 0, 0, 0] 8 0 (fun b29 => [(11, .int .u32 S), (12, .pointer (some ⟨b11, 0, none⟩)), (15, .pointer (some ⟨b29, 0, none⟩)), (16, .bool true)]) (fun b29 => [.cells b29 [.int .i64 0, .slice A23 (k3 + 1) cp25] 29 true, .gen (bunO (k3 + 1) (IT.pxs its26)), .gen (bunO (k3 + 1) (IT.hds 118 its26)), .gen (rowE (A23) g24 (k3 + 1) cp25 103 14 (dvals IT.cells its26) true), .cells b11 [.int .i64 0, .int .i64 0, .int .i64 (1 + aroundI w_ 16), .int .i64 (1 + aroundI h_ 16)] 53 true, .gen (bunO (k3 + 1) (TS.pxs tsx)), .gen (bunO (k3 + 1) (TS.ops tsx)), .gen (rowE (A20) g20 (k3 + 1) cp20 60 14 (dvals TS.cells tsx) true), .gen (rdE (A) g o n 16 (dvals V17.cells xs)), .gen (subE n (fun i_ => rdE ((dget xs i_).A3) (dget xs i_).g3 (dget xs i_).o3 (dget xs i_).m3 1 (ivals .u32 (dget xs i_).x3))), .gen (subE n (fun i_ => rdE ((dget xs i_).A14) (dget xs i_).g14 (dget xs i_).o14 (dget xs i_).m14 1 (ivals .u32 (dget xs i_).x14))), .gen (subE n (fun i_ => rdE ((dget xs i_).A15) (dget xs i_).g15 (dget xs i_).o15 (dget xs i_).m15 4 (rvals (dget xs i_).x15)))]) rfl rfl [11, 12, 15, 16] (fun _ => rfl) (fun b29 => by kernel_rfl) (fun b29 => by kernel_rfl) (fun b29 => ?_)
  refine cont_done ?_
  refine then_normal ?_
  refine cont_seq ?_
  refine cont_seq ?_
  refine cont_region 2 rfl ?_
  refine bS [0, 0] 2 0 [(11, .int .u32 S), (12, .pointer (some ⟨b11, 0, none⟩)), (15, .pointer (some ⟨b29, 0, none⟩)), (63, .bool false)] ?_
  refine cont_done ?_
  refine then_normal ?_
  refine cont_false rfl ?_
  refine cont_skip ?_
  refine then_normal ?_
  refine cont_seq ?_
  refine cont_region 11 rfl ?_
  have hgm9 : mayB 4278190080 = true := by decide
  have hg09 : (0 : Int) ≤ 4278190080 := by decide
  have hg19 : (4278190080 : Int) < 4294967296 := by decide
  refine bS [0, 0, 4, 0, 4] 5 6 [(11, .int .u32 S), (12, .pointer (some ⟨b11, 0, none⟩)), (65, .agg #[.int .i64 0, .slice A23 (k3 + 1) cp25]), (67, .int .i64 (1 + aroundI w_ 16)), (69, .int .i64 (1 + aroundI h_ 16))] ?_
  refine cont_forget 0 rfl ?_
  refine pl_step 6 5 rfl rfl ?_
  refine call_gen (d := 70) (α := Nat × Nat × Nat) (fun x_ => .tuple #[.pointer (some ⟨x_.1, 0, none⟩), .int .i64 0]) (fun x_ => [.cells x_.1 [.int .i64 (1 + aroundI w_ 16), .int .i64 (1 + aroundI h_ 16), .slice (some ⟨x_.2.1, 0, none⟩) x_.2.2 x_.2.2] 118 true, .gen (rowE (some ⟨x_.2.1, 0, none⟩) x_.2.1 x_.2.2 x_.2.2 24 1 (ivals .u32 (compS tsx (1 + aroundI w_ 16) x_.2.2 4278190080)) true), .gen (bunO (k3 + 1) (IT.pxs its26)), .gen (bunO (k3 + 1) (IT.hds 118 its26)), .gen (rowE (A23) g24 (k3 + 1) cp25 103 14 (dvals IT.cells its26) true), .cells b11 [.int .i64 0, .int .i64 0, .int .i64 (1 + aroundI w_ 16), .int .i64 (1 + aroundI h_ 16)] 53 true, .gen (bunO (k3 + 1) (TS.pxs tsx)), .gen (bunO (k3 + 1) (TS.ops tsx)), .gen (rowE (A20) g20 (k3 + 1) cp20 60 14 (dvals TS.cells tsx) true), .gen (rdE (A) g o n 16 (dvals V17.cells xs)), .gen (subE n (fun i_ => rdE ((dget xs i_).A3) (dget xs i_).g3 (dget xs i_).o3 (dget xs i_).m3 1 (ivals .u32 (dget xs i_).x3))), .gen (subE n (fun i_ => rdE ((dget xs i_).A14) (dget xs i_).g14 (dget xs i_).o14 (dget xs i_).m14 1 (ivals .u32 (dget xs i_).x14))), .gen (subE n (fun i_ => rdE ((dget xs i_).A15) (dget xs i_).g15 (dget xs i_).o15 (dget xs i_).m15 4 (rvals (dget xs i_).x15)))]) (fun x_ => (x_.2.2 : Int) = (1 + aroundI w_ 16) * (1 + aroundI h_ 16)) (by kernel_rfl) (fun w hT => (naiveCompose 0 A23 g24 0 (k3 + 1) cp25 its26 tsx (1 + aroundI w_ 16) (1 + aroundI h_ 16) 4278190080 w (hT.view (.cons (i := 2) rfl Vw.rowRd (.cons (i := 1) rfl Vw.bunSub (.cons (i := 0) rfl Vw.bunSub .nil))) (by decide)) hmapS hgt9 (by omega) (by omega) hgm9 hg09 hg19).mono fun e w' ⟨b_, q_, n_, he_, hn_, hi_⟩ => ⟨(b_, q_, n_), he_, hn_, hT.addImg hi_⟩) ?_
  rintro ⟨cb30, cq30, cn30⟩ hcn30
  replace hcn30 : (cn30 : Int) = (1 + aroundI w_ 16) * (1 + aroundI h_ 16) := hcn30
  refine cont_norm [(11, .int .u32 S), (12, .pointer (some ⟨b11, 0, none⟩)), (65, .agg #[.int .i64 0, .slice A23 (k3 + 1) cp25]), (67, .int .i64 (1 + aroundI w_ 16)), (69, .int .i64 (1 + aroundI h_ 16)), (70, .tuple #[.pointer (some ⟨cb30, 0, none⟩), .int .i64 0])] [.cells cb30 [.int .i64 (1 + aroundI w_ 16), .int .i64 (1 + aroundI h_ 16), .slice (some ⟨cq30, 0, none⟩) cn30 cn30] 118 true, .gen (rowE (some ⟨cq30, 0, none⟩) cq30 cn30 cn30 24 1 (ivals .u32 (compS tsx (1 + aroundI w_ 16) cn30 4278190080)) true), .gen (bunO (k3 + 1) (IT.pxs its26)), .gen (bunO (k3 + 1) (IT.hds 118 its26)), .gen (rowE (A23) g24 (k3 + 1) cp25 103 14 (dvals IT.cells its26) true), .cells b11 [.int .i64 0, .int .i64 0, .int .i64 (1 + aroundI w_ 16), .int .i64 (1 + aroundI h_ 16)] 53 true, .gen (bunO (k3 + 1) (TS.pxs tsx)), .gen (bunO (k3 + 1) (TS.ops tsx)), .gen (rowE (A20) g20 (k3 + 1) cp20 60 14 (dvals TS.cells tsx) true), .gen (rdE (A) g o n 16 (dvals V17.cells xs)), .gen (subE n (fun i_ => rdE ((dget xs i_).A3) (dget xs i_).g3 (dget xs i_).o3 (dget xs i_).m3 1 (ivals .u32 (dget xs i_).x3))), .gen (subE n (fun i_ => rdE ((dget xs i_).A14) (dget xs i_).g14 (dget xs i_).o14 (dget xs i_).m14 1 (ivals .u32 (dget xs i_).x14))), .gen (subE n (fun i_ => rdE ((dget xs i_).A15) (dget xs i_).g15 (dget xs i_).o15 (dget xs i_).m15 4 (rvals (dget xs i_).x15)))] (by kernel_rfl) rfl ?_
  refine bS [0, 0, 0, 0, 0] 11 0 [(11, .int .u32 S), (12, .pointer (some ⟨b11, 0, none⟩)), (17, .pointer (some ⟨cb30, 0, none⟩)), (18, .int .i64 0)] ?_
  refine cont_done ?_
  refine then_normal ?_
  refine cont_seq ?_
  refine cont_seq ?_
  refine cont_region 6 rfl ?_
  refine bS [0, 0, 0, 0, 0, 0] 6 0 [(11, .int .u32 S), (12, .pointer (some ⟨b11, 0, none⟩)), (17, .pointer (some ⟨cb30, 0, none⟩)), (78, .bool false)] ?_
  refine cont_done ?_
  refine then_normal ?_
  refine cont_false rfl ?_
  refine cont_skip ?_
  refine then_normal ?_
  refine cont_seq ?_
  refine cont_region 3 rfl ?_
  have hcle := (imgOk_of (W := (1 + aroundI w_ 16)) (H := (1 + aroundI h_ 16)) (by omega) hcn30 (compS_len tsx (1 + aroundI w_ 16) cn30 4278190080) (compS_may hgt9 ⟨hgm9, hg09, hg19⟩)).le
  refine bS [0] 1 2 [(11, .int .u32 S), (12, .pointer (some ⟨b11, 0, none⟩)), (79, .pointer (some ⟨cb30, 0, none⟩))] ?_
  refine pl_step 2 1 rfl rfl ?_
  refine call_gen (d := 80) (α := Nat × IL) (fun x_ => .map (some x_.1)) (fun x_ => [.gen (mapEU x_.1 (imsV x_.2) true), .cells cb30 [.int .i64 (1 + aroundI w_ 16), .int .i64 (1 + aroundI h_ 16), .slice (some ⟨cq30, 0, none⟩) cn30 cn30] 118 true, .gen (rowE (some ⟨cq30, 0, none⟩) cq30 cn30 cn30 24 1 (ivals .u32 (compS tsx (1 + aroundI w_ 16) cn30 4278190080)) true), .gen (bunO (k3 + 1) (IT.pxs its26)), .gen (bunO (k3 + 1) (IT.hds 118 its26)), .gen (rowE (A23) g24 (k3 + 1) cp25 103 14 (dvals IT.cells its26) true), .cells b11 [.int .i64 0, .int .i64 0, .int .i64 (1 + aroundI w_ 16), .int .i64 (1 + aroundI h_ 16)] 53 true, .gen (bunO (k3 + 1) (TS.pxs tsx)), .gen (bunO (k3 + 1) (TS.ops tsx)), .gen (rowE (A20) g20 (k3 + 1) cp20 60 14 (dvals TS.cells tsx) true), .gen (rdE (A) g o n 16 (dvals V17.cells xs)), .gen (subE n (fun i_ => rdE ((dget xs i_).A3) (dget xs i_).g3 (dget xs i_).o3 (dget xs i_).m3 1 (ivals .u32 (dget xs i_).x3))), .gen (subE n (fun i_ => rdE ((dget xs i_).A14) (dget xs i_).g14 (dget xs i_).o14 (dget xs i_).m14 1 (ivals .u32 (dget xs i_).x14))), .gen (subE n (fun i_ => rdE ((dget xs i_).A15) (dget xs i_).g15 (dget xs i_).o15 (dget xs i_).m15 4 (rvals (dget xs i_).x15)))]) (fun x_ => CntM x_.2 (compS tsx (1 + aroundI w_ 16) cn30 4278190080)) (by kernel_rfl) (fun w hT => (naiveColors cb30 (1 + aroundI w_ 16) (1 + aroundI h_ 16) cq30 cn30 cn30 (compS tsx (1 + aroundI w_ 16) cn30 4278190080) w (hT.viewRo (.cons (i := 0) rfl Vw.roc (.cons (i := 1) rfl Vw.rowRd .nil)) rfl) (Row.capLe (hT.ok 1 _ rfl)) (imgOk_of (by omega) hcn30 (compS_len _ _ _ _) (compS_may hgt9 ⟨hgm9, hg09, hg19⟩))).mono fun e w' ⟨mp31, l32, he_, hf_, ht_⟩ => ⟨(mp31, l32), he_, hf_, hT.news ht_ rfl⟩) ?_
  rintro ⟨mp31, l32⟩ hf33_
  replace hf33_ : CntM l32 (compS tsx (1 + aroundI w_ 16) cn30 4278190080) := hf33_
  refine cont_norm [(11, .int .u32 S), (12, .pointer (some ⟨b11, 0, none⟩)), (79, .pointer (some ⟨cb30, 0, none⟩)), (80, .map (some mp31))] [.gen (mapEU mp31 (imsV l32) true), .cells cb30 [.int .i64 (1 + aroundI w_ 16), .int .i64 (1 + aroundI h_ 16), .slice (some ⟨cq30, 0, none⟩) cn30 cn30] 118 true, .gen (rowE (some ⟨cq30, 0, none⟩) cq30 cn30 cn30 24 1 (ivals .u32 (compS tsx (1 + aroundI w_ 16) cn30 4278190080)) true), .gen (bunO (k3 + 1) (IT.pxs its26)), .gen (bunO (k3 + 1) (IT.hds 118 its26)), .gen (rowE (A23) g24 (k3 + 1) cp25 103 14 (dvals IT.cells its26) true), .cells b11 [.int .i64 0, .int .i64 0, .int .i64 (1 + aroundI w_ 16), .int .i64 (1 + aroundI h_ 16)] 53 true, .gen (bunO (k3 + 1) (TS.pxs tsx)), .gen (bunO (k3 + 1) (TS.ops tsx)), .gen (rowE (A20) g20 (k3 + 1) cp20 60 14 (dvals TS.cells tsx) true), .gen (rdE (A) g o n 16 (dvals V17.cells xs)), .gen (subE n (fun i_ => rdE ((dget xs i_).A3) (dget xs i_).g3 (dget xs i_).o3 (dget xs i_).m3 1 (ivals .u32 (dget xs i_).x3))), .gen (subE n (fun i_ => rdE ((dget xs i_).A14) (dget xs i_).g14 (dget xs i_).o14 (dget xs i_).m14 1 (ivals .u32 (dget xs i_).x14))), .gen (subE n (fun i_ => rdE ((dget xs i_).A15) (dget xs i_).g15 (dget xs i_).o15 (dget xs i_).m15 4 (rvals (dget xs i_).x15)))] (by kernel_rfl) rfl ?_
  have hcmL := hf33_
  refine bS [0] 3 0 [(11, .int .u32 S), (12, .pointer (some ⟨b11, 0, none⟩)), (19, .map (some mp31))] ?_
  refine cont_done ?_
  refine then_normal ?_
  refine cont_seq ?_
  refine cont_region 18 rfl ?_
  obtain ⟨hl1, hkS⟩ := hcmL.one (c := S) (by rw [htx, ht]; exact top_all (by omega) hnum hcn30 hSi hSa) (by rw [compS_len]; omega)
  rw [compS_len] at hkS
  refine bS [0] 1 17 [(11, .int .u32 S), (12, .pointer (some ⟨b11, 0, none⟩)), (19, .map (some mp31)), (81, .map (some mp31))] ?_
  refine pl_step 2 16 rfl rfl ?_
  refine sem_step 82 (Builtin.len_ #[45] 3 #[.map (some mp31)]) (.int .i64 (l32.length : Int)) (by kernel_rfl) (fun w hT => run_lenIU (kt := 24) (et := 3) (hT.ok 0 _ rfl) rfl (by kernel_rfl)) ?_
  refine bS [0, 0] 4 14 [(11, .int .u32 S), (12, .pointer (some ⟨b11, 0, none⟩)), (19, .map (some mp31)), (84, .bool ((l32.length : Int) == 1))] ?_
  refine cont_recast 84 (.bool ((l32.length : Int) == 1)) (.bool true) rfl (congrArg Value.bool (by rw [hl1]; rfl)) ?_
  refine bS [0, 0] 6 12 [(12, .pointer (some ⟨b11, 0, none⟩)), (84, .bool true), (85, .map (some mp31)), (86, .int .u32 S)] ?_
  refine pl_step 7 11 rfl rfl ?_
  refine sem_step 87 (Instr.lookup 45 (.map (some mp31)) (.int .u32 S) false) (.int .i64 (kindL l32 S)) (by kernel_rfl) (fun w hT => run_lookupIU (kt := 24) (et := 3) (kf := .u32) (hT.ok 0 _ rfl) (by kernel_rfl) (by kernel_rfl) (by kernel_rfl) S) ?_
  refine bS [0, 6, 0, 6, 0] 12 6 [(84, .bool true), (87, .int .i64 (kindL l32 S)), (92, .int .i64 (IntKind.i64.wrap ((1 + aroundI w_ 16) * (1 + aroundI h_ 16))))] ?_
  refine cont_recast 92 (.int .i64 (IntKind.i64.wrap ((1 + aroundI w_ 16) * (1 + aroundI h_ 16)))) (.int .i64 ((1 + aroundI w_ 16) * (1 + aroundI h_ 16))) rfl (wrapI (by omega) (by omega)) ?_
  refine cont_forget 6 rfl ?_
  refine bS [0, 0, 0] 15 3 [(95, .bool ((kindL l32 S) == ((1 + aroundI w_ 16) * (1 + aroundI h_ 16))))] ?_
  refine cont_recast 95 (.bool ((kindL l32 S) == ((1 + aroundI w_ 16) * (1 + aroundI h_ 16)))) (.bool true) rfl (congrArg Value.bool (by rw [hkS, hcn30]; exact beq_self_eq_true _)) ?_
  refine pl_step 16 2 rfl rfl ?_
  refine call_pure (d := 96) (.bool true) (by kernel_rfl) (fun w hT => lives19  w) ?_
  refine bS [0, 0] 18 0 [(8, .bool true)] ?_
  refine cont_done ?_
  refine then_normal ?_
  refine cont_ret ?_
  refine ret_one (.inl rfl) rfl 0 (.bool true) (by kernel_rfl) (by kernel_rfl) (fun w hT => ?_)
  exact ⟨rfl, hT.post rfl⟩

end Go.Proofs.Ytlfahohbkgdabaa

