/- Contracts of functions of the given program, printed by a program of this project. -/
import Derived.Test.YtommojgfkkoghaaL4c
import Derived.Test.YtommojgfkkoghaaWr
import Derived.Test.YtommojgfkkoghaaProg
set_option linter.unusedVariables false
set_option linter.unusedSimpArgs false
namespace Go.Proofs.Ytommojgfkkoghaa
open Go Go.RowKit
set_option maxRecDepth 100000
set_option maxHeartbeats 8000000

theorem sliceChunk (g o n cap : Nat) (w : World) :
    Calls Try.prog 63 #[.slice (some ⟨g, o, none⟩) n cap, .int .i64 4] w fun e w' => ∃ kb1 kb2 : Nat, e = .returned (.func (.func 69) #[] #[.pointer (some ⟨kb1, 0, none⟩), .pointer (some ⟨kb2, 0, none⟩)]) ∧ Tab w w' [.cells kb2 [.int .i64 4] 3 true, .cells kb1 [.slice (some ⟨g, o, none⟩) n cap] 43 true] := by
 refine enter 9 [(0, .slice (some ⟨g, o, none⟩) n cap), (1, iq 4)] [] Try.func63 rfl Try.ntmps63 rfl (by kernel_rfl) (Tab.start w) ?_
 refine cont_seq ?_
 refine cont_region 3 rfl ?_
 refine batch2 [0, 0, 0] 3 0 (fun b1 b2 => [(2, .pointer (pB b1)), (3, .pointer (pB b2))]) (fun b1 b2 => [.cells b2 [iq 4] 3 true, .cells b1 [.slice (some ⟨g, o, none⟩) n cap] 43 true]) rfl rfl [2, 3] (fun _ _ => rfl) (fun b1 b2 => by kernel_rfl) (fun b1 b2 => by kernel_rfl) (fun b1 b2 => ?_)
 refine cont_done ?_
 refine then_normal ?_
 refine cont_seq ?_
 refine cont_seq ?_
 refine cont_region 2 rfl ?_
 refine bS [0, 0] 2 0 [(2, .pointer (pB b1)), (3, .pointer (pB b2)), (6, .bool false)] ?_
 refine cont_done ?_
 refine then_normal ?_
 refine cont_false rfl ?_
 refine cont_skip ?_
 refine then_normal ?_
 refine cont_seq ?_
 refine cont_region 2 rfl ?_
 refine bS [0, 0] 2 0 [(4, .func (.func 69) #[] #[.pointer (pB b1), .pointer (pB b2)])] ?_
 refine cont_done ?_
 refine then_normal ?_
 refine cont_ret ?_
 refine ret_one (.inl rfl) rfl 0 (.func (.func 69) #[] #[.pointer (pB b1), .pointer (pB b2)]) (by kernel_rfl) (by kernel_rfl) (fun w hT => ?_)
 exact ⟨_, _, rfl, hT⟩

theorem chunkIter0 (kb1 kb2 : Nat) (A : Option Addr) (g o n cap : Nat) (xs : List Int) (N : Nat) (hN : n = 4 * N) (hcap : n ≤ cap) (hm : n ≤ 1048576) (w0 : World) {β : Type} (Inv : List Nat → β → Prop) (Tr : β → List Ent) (Jx : World → Prop) (l_ : Nat) (e1 e2 : Ent) (w : World) (b0 : β) (hJx : ∀ w w', Jx w → Below w.heap.size w w' → Jx w') (hY : ∀ pre x b W1 z, (z.wr = true → z.own = true) → Inv pre b → ChP N (pre ++ [x]) → Tab w0 W1 ([] ++ (z :: e1 :: e2 :: (.ro kb1 [.slice (some ⟨g, o, none⟩) n cap] 43) :: (.ro kb2 [.int .i64 4] 3) :: (.gen (rdE (A) g o n 1 (ivals .u8 xs))) :: (Tr b))) → YieldAt Fence.wide 0 Try.prog l_ #[.slice (some ⟨g, o + 4 * x, none⟩) 4 4] W1 fun e W' => (e = .returned (.bool true) ∧ ∃ b', Inv (pre ++ [x]) b' ∧ Tab w0 W' (z :: e1 :: e2 :: (.ro kb1 [.slice (some ⟨g, o, none⟩) n cap] 43) :: (.ro kb2 [.int .i64 4] 3) :: (.gen (rdE (A) g o n 1 (ivals .u8 xs))) :: (Tr b'))) ∨ (e = .returned (.bool false) ∧ Jx W')) (h0 : Inv [] b0) (hT0 : Tab w0 w (e1 :: e2 :: (.ro kb1 [.slice (some ⟨g, o, none⟩) n cap] 43) :: (.ro kb2 [.int .i64 4] 3) :: (.gen (rdE (A) g o n 1 (ivals .u8 xs))) :: (Tr b0))) :
    Calls Try.prog 69 #[.func (.yield l_) #[] #[], .pointer (some ⟨kb1, 0, none⟩), .pointer (some ⟨kb2, 0, none⟩)] w fun e W' => (∃ v, e = .returned v) ∧ ((∃ xs_ b', (ChP N xs_ ∧ xs_.length = N) ∧ Inv xs_ b' ∧ Tab w0 W' (e1 :: e2 :: (.ro kb1 [.slice (some ⟨g, o, none⟩) n cap] 43) :: (.ro kb2 [.int .i64 4] 3) :: (.gen (rdE (A) g o n 1 (ivals .u8 xs))) :: (Tr b'))) ∨ Jx W') := by
 refine enterI 31 [(0, .func (.yield l_) #[] #[]), (1, .pointer (pB kb1)), (2, .pointer (pB kb2))] (e1 :: e2 :: (.ro kb1 [.slice (some ⟨g, o, none⟩) n cap] 43) :: (.ro kb2 [iq 4] 3) :: (.gen (rdE (A) g o n 1 (ivals .u8 xs))) :: (Tr b0)) Try.func69 rfl Try.ntmps69 rfl (by kernel_rfl) hT0 (fun _ h_ => by simp at h_) ?_
 refine mcont_seq ?_
 refine mcont_region 1 rfl (by kernel_rfl) ?_
 refine bS [0] 1 0 [(0, .func (.yield l_) #[] #[]), (1, .pointer (pB kb1)), (2, .pointer (pB kb2)), (4, iq 0)] ?_
 refine cont_done ?_
 refine then_normal ?_
 refine mcont_block ?_
 refine cont_nilrow 5 1 ?_
 refine cont_norm [(0, .func (.yield l_) #[] #[]), (1, .pointer (pB kb1)), (2, .pointer (pB kb2)), (4, iq 0)] _ (by kernel_rfl) rfl ?_
 refine cont_recast 4 (iq 0) (iq ((4 * ([] : List Nat).length : Nat) : Int)) rfl (congrArg (Value.int .i64) (by simp)) ?_
 refine mcont_loop (α := List Nat × β) (fun x_ : List Nat × β => ChP N x_.1 ∧ Inv x_.1 x_.2) (fun x_ : List Nat × β => [(0, .func (.yield l_) #[] #[]), (1, .pointer (pB kb1)), (2, .pointer (pB kb2)), (4, iq ((4 * x_.1.length : Nat) : Int))]) (fun x_ : List Nat × β => ((.gen (rowE (none) 0 0 0 5 1 (ivals .u8 []) true)) :: e1 :: e2 :: (.ro kb1 [.slice (some ⟨g, o, none⟩) n cap] 43) :: (.ro kb2 [iq 4] 3) :: (.gen (rdE (A) g o n 1 (ivals .u8 xs))) :: (Tr x_.2))) (fun x_ : List Nat × β => N - x_.1.length) ([], b0) (show ChP N ([]) ∧ Inv ([]) (b0) from ⟨ChP.nil _, h0⟩) (by kernel_rfl) (by kernel_rfl) ?_
 rintro ⟨pre, b⟩ hinv2_
 replace hinv2_ : ChP N pre ∧ Inv pre b := hinv2_
 refine cont_norm [(0, .func (.yield l_) #[] #[]), (1, .pointer (pB kb1)), (2, .pointer (pB kb2)), (4, iq ((4 * pre.length : Nat) : Int))] _ (by kernel_rfl) rfl ?_
 obtain ⟨hP, hI⟩ := hinv2_
 have hpl := hP.2
 refine mcont_seq ?_
 refine mcont_seq ?_
 refine mcont_region 4 rfl (by kernel_rfl) ?_
 refine bS [0, 3, 0, 0] 4 0 [(0, .func (.yield l_) #[] #[]), (1, .pointer (pB kb1)), (2, .pointer (pB kb2)), (4, iq ((4 * pre.length : Nat) : Int)), (9, .bool (decide (((4 * pre.length : Nat) : Int) < (n : Int))))] ?_
 refine cont_done ?_
 refine then_normal ?_
 refine cont_split 9 (decide (((4 * pre.length : Nat) : Int) < (n : Int))) rfl (fun c3_ => ?_) (fun c3_ => ?_)
 ·
  replace c3_ := of_decide_eq_true c3_
  refine mcont_true rfl ?_
  refine mcont_skip ?_
  refine then_normal ?_
  refine mcont_seq ?_
  refine mcont_block ?_
  refine mcont_seq ?_
  refine mdrawn_enter 7 [] rfl (by kernel_rfl) (by kernel_rfl) ?_
  refine takes 0 [] [(0, 4), (1, 3), (2, 0)] 4 [2, 1, 0] [(0, .func (.yield l_) #[] #[]), (1, .pointer (pB kb1)), (2, .pointer (pB kb2)), (4, iq ((4 * pre.length : Nat) : Int)), (13, iq 4), (14, .slice (some ⟨g, o, none⟩) n cap), (15, iq ((4 * pre.length : Nat) : Int))] (by kernel_rfl) (pok_then (pok_blk (pok_then (pok_then (pok_blk pok_body))))) (by kernel_rfl) rfl rfl (by kernel_rfl) (by kernel_rfl) ?_
  refine sem_take 0 [] 3 3 16 (Instr.sliceAt 43 (.slice (some ⟨g, o, none⟩) n cap) (some (iq ((4 * pre.length : Nat) : Int))) none none) (.slice (sliceA g o (4 * pre.length : Nat) cap 1) (n - (4 * pre.length : Nat)) (cap - (4 * pre.length : Nat))) (by kernel_rfl) (pok_then (pok_blk (pok_then (pok_then (pok_blk pok_body))))) (by kernel_rfl) rfl (by kernel_rfl) (by kernel_rfl) (fun w hT => run_sliceLoC (e := 5) (sz := 1) _ (by kernel_rfl) (by kernel_rfl) (by omega) (by omega) (by omega) (by omega) w) ?_
  refine takes 0 [] [(4, 0), (5, 0), (6, 0)] 0 [6, 5, 4, 3, 2, 1, 0] [(0, .func (.yield l_) #[] #[]), (1, .pointer (pB kb1)), (2, .pointer (pB kb2)), (4, iq ((4 * pre.length : Nat) : Int)), (5, iq (mn 4 (((n - (4 * pre.length : Nat)) : Nat) : Int)))] (by kernel_rfl) (pok_then (pok_blk (pok_then (pok_then (pok_blk pok_body))))) (by kernel_rfl) rfl rfl (by kernel_rfl) (by kernel_rfl) ?_
  refine drawn_done (by kernel_rfl) ?_
  refine then_normal ?_
  refine mcont_seq ?_
  refine icont_region 12 rfl ?_
  refine pli_ops 10 2 10 rfl rfl (by kernel_rfl) ?_
  refine cont_recast 5 (iq (mn 4 (((n - (4 * pre.length : Nat)) : Nat) : Int))) (iq 4) rfl (congrArg (Value.int .i64) (by unfold mn; split <;> omega)) ?_
  refine bS [0, 3, 0, 0, 0, 0] 6 4 [(0, .func (.yield l_) #[] #[]), (1, .pointer (pB kb1)), (2, .pointer (pB kb2)), (4, iq ((4 * pre.length : Nat) : Int)), (5, iq 4), (19, .func (.yield l_) #[] #[]), (20, .slice (some ⟨g, o, none⟩) n cap), (21, iq ((4 * pre.length : Nat) : Int)), (24, iq (IntKind.i64.wrap (((4 * pre.length : Nat) : Int) + 4)))] ?_
  refine cont_recast 24 (iq (IntKind.i64.wrap (((4 * pre.length : Nat) : Int) + 4))) (iq (((4 * pre.length : Nat) : Int) + 4)) rfl (wrapI (by omega) (by omega)) ?_
  refine bS [0, 0, 0] 9 1 [(0, .func (.yield l_) #[] #[]), (1, .pointer (pB kb1)), (2, .pointer (pB kb2)), (4, iq ((4 * pre.length : Nat) : Int)), (19, .func (.yield l_) #[] #[]), (20, .slice (some ⟨g, o, none⟩) n cap), (21, iq ((4 * pre.length : Nat) : Int)), (24, iq (((4 * pre.length : Nat) : Int) + 4)), (27, iq (IntKind.i64.wrap (((4 * pre.length : Nat) : Int) + 4)))] ?_
  refine cont_recast 27 (iq (IntKind.i64.wrap (((4 * pre.length : Nat) : Int) + 4))) (iq (((4 * pre.length : Nat) : Int) + 4)) rfl (wrapI (by omega) (by omega)) ?_
  refine pl_step 10 0 rfl rfl ?_
  refine sem_step 28 (Instr.sliceAt 43 (.slice (some ⟨g, o, none⟩) n cap) (some (iq ((4 * pre.length : Nat) : Int))) (some (iq (((4 * pre.length : Nat) : Int) + 4))) (some (iq (((4 * pre.length : Nat) : Int) + 4)))) (.slice (some ⟨g, o + 4 * pre.length, none⟩) 4 4) (by kernel_rfl) (fun w hT => run_slice3 (e := 5) (sz := 1) (by kernel_rfl) (by kernel_rfl) (by omega) (by omega) (by omega) (by omega) (by omega) (by omega) (by omega) w) ?_
  refine cont_done ?_
  refine then_normal ?_
  have hP2 : ChP N (pre ++ [pre.length]) := hP.step (by omega)
  refine pli_yield 29 11 1 rfl rfl (by kernel_rfl) (by kernel_rfl) (R := fun v_ w_ => (v_ = .bool true ∧ ∃ b_, Inv (pre ++ [pre.length]) b_ ∧ Tab w0 w_ ((.gen (rowE (none) 0 0 0 5 1 (ivals .u8 []) true)) :: e1 :: e2 :: (.ro kb1 [.slice (some ⟨g, o, none⟩) n cap] 43) :: (.ro kb2 [iq 4] 3) :: (.gen (rdE (A) g o n 1 (ivals .u8 xs))) :: (Tr b_))) ∨ (v_ = .bool false ∧ Jx w_)) (fun w_ hT_ => YieldAt.weaken (hY pre pre.length b w_ _ (fun _ => rfl) hI hP2 hT_) (fun e_ w_ h_ => by rcases h_ with ⟨rfl, hh_⟩ | ⟨rfl, hh_⟩; exact ⟨_, rfl, .inl ⟨rfl, hh_⟩⟩; exact ⟨_, rfl, .inr ⟨rfl, hh_⟩⟩)) ?_
  rintro a_ w_ v_ ha_ hf_ (⟨rfl, b, hI, hT_⟩ | ⟨rfl, hJ⟩)
  ·
   refine Cont.go ?_ ha_ hf_ hT_
   refine cont_norm [(0, .func (.yield l_) #[] #[]), (1, .pointer (pB kb1)), (2, .pointer (pB kb2)), (4, iq ((4 * pre.length : Nat) : Int)), (29, .bool true)] _ (by kernel_rfl) rfl ?_
   refine pli_ops 1 0 12 rfl rfl (by kernel_rfl) ?_
   refine bS [0] 12 0 [(0, .func (.yield l_) #[] #[]), (1, .pointer (pB kb1)), (2, .pointer (pB kb2)), (4, iq ((4 * pre.length : Nat) : Int)), (30, .bool false)] ?_
   refine cont_done ?_
   refine then_normal ?_
   refine pli_done ?_
   refine then_normal ?_
   refine mcont_false rfl ?_
   refine mcont_skip ?_
   refine blk_normal ?_
   refine then_normal ?_
   refine mcont_region 4 rfl (by kernel_rfl) ?_
   refine bS [0, 4, 0] 3 1 [(0, .func (.yield l_) #[] #[]), (1, .pointer (pB kb1)), (2, .pointer (pB kb2)), (12, iq (IntKind.i64.wrap (((4 * pre.length : Nat) : Int) + 4)))] ?_
   refine cont_recast 12 (iq (IntKind.i64.wrap (((4 * pre.length : Nat) : Int) + 4))) (iq (((4 * pre.length : Nat) : Int) + 4)) rfl (wrapI (by omega) (by omega)) ?_
   refine bS [0] 4 0 [(0, .func (.yield l_) #[] #[]), (1, .pointer (pB kb1)), (2, .pointer (pB kb2)), (4, iq (((4 * pre.length : Nat) : Int) + 4))] ?_
   refine cont_done ?_
   refine then_normal ?_
   refine cont_recast 4 (iq (((4 * pre.length : Nat) : Int) + 4)) (iq ((4 * (pre ++ [pre.length]).length : Nat) : Int)) rfl (congrArg (Value.int .i64) (by rw [List.length_append, List.length_singleton]; omega)) ?_
   refine cont_again (pre ++ [pre.length], b) (show ChP N (pre ++ [pre.length]) ∧ Inv (pre ++ [pre.length]) (b) from ⟨hP2, hI⟩) (show N - (pre ++ [pre.length]).length < N - pre.length from by have h_ := hP2.2; rw [List.length_append, List.length_singleton] at h_ ⊢; omega) (by kernel_rfl) (by kernel_rfl)
  ·
   refine Cont.go ?_ ha_ hf_ (Tab.start w_)
   refine cont_norm [(0, .func (.yield l_) #[] #[]), (1, .pointer (pB kb1)), (2, .pointer (pB kb2)), (4, iq ((4 * pre.length : Nat) : Int)), (29, .bool false)] _ (by kernel_rfl) rfl ?_
   refine pli_ops 1 0 12 rfl rfl (by kernel_rfl) ?_
   refine bS [0] 12 0 [(0, .func (.yield l_) #[] #[]), (1, .pointer (pB kb1)), (2, .pointer (pB kb2)), (4, iq ((4 * pre.length : Nat) : Int)), (30, .bool true)] ?_
   refine cont_done ?_
   refine then_normal ?_
   refine pli_done ?_
   refine then_normal ?_
   refine mcont_true rfl ?_
   refine mcont_ret ?_
   refine blk_ret ?_
   refine then_ret ?_
   refine then_ret ?_
   refine blk_ret ?_
   refine ret_none (.inl rfl) rfl (fun w hT => ?_)
   exact ⟨⟨_, rfl⟩, .inr (hJx _ _ hJ (hT.toBelow (fun i e h => by simp at h)))⟩
 replace c3_ := of_decide_eq_false c3_
 refine mcont_false rfl ?_
 refine mcont_exit ?_
 refine then_exit ?_
 refine then_exit ?_
 refine blk_exit ?_
 refine ret_none (.inr rfl) rfl (fun w hT => ?_)
 exact ⟨⟨_, rfl⟩, .inl ⟨pre, b, ⟨hP, by omega⟩, hI, hT.drop (fun _ => rfl)⟩⟩

theorem chunkIter (kb1 kb2 : Nat) (A : Option Addr) (g o n cap : Nat) (xs : List Int) (N : Nat) (hN : n = 4 * N) (hcap : n ≤ cap) (hm : n ≤ 1048576) (w0 : World) : IterC Try.prog 69 #[.pointer (some ⟨kb1, 0, none⟩), .pointer (some ⟨kb2, 0, none⟩)] (fun z_ : Nat => #[.slice (some ⟨g, o + 4 * z_, none⟩) 4 4]) w0 [.ro kb1 [.slice (some ⟨g, o, none⟩) n cap] 43, .ro kb2 [.int .i64 4] 3, .gen (rdE (A) g o n 1 (ivals .u8 xs))] (fun _ => []) (fun xs_ => ChP N xs_ ∧ xs_.length = N) (fun p_ => ChP N p_) :=
  fun Inv Tr Jx l e1 e2 W1 b0 hJx hY h0 hT => chunkIter0 kb1 kb2 A g o n cap xs N hN hcap hm w0 Inv Tr Jx l e1 e2 W1 b0 hJx hY h0 hT

theorem imgWrite (m : Nat) (W H : Int) (r n cap : Nat) (px : List Int) (a b c d : Int) (A2 : Option Addr) (g2 o2 n2 cap2 : Nat) (xs2 : List Int) (w : World) (hT0 : Tab w w [.ro m [.int .i64 W, .int .i64 H, .slice (some ⟨r, 0, none⟩) n cap] 84, .gen (rowE (some ⟨r, 0, none⟩) r n cap 28 1 (ivals .u32 px) false), .gen (rdE (A2) g2 o2 n2 1 (ivals .u8 xs2))]) (hok : ImgOk W H n px) (hcap : n ≤ cap) (hc2 : n2 ≤ cap2) (hx2 : ∀ x ∈ xs2, 0 ≤ x ∧ x ≤ 255) :
    Calls Try.prog 39 #[.pointer (some ⟨m, 0, none⟩), .agg #[.int .i64 a, .int .i64 b, .int .i64 c, .int .i64 d], .slice A2 n2 cap2] w fun e w' => e = .returned (.int .i64 (wrE W H a b c d xs2)) ∧ Tab w w' [.ro m [.int .i64 W, .int .i64 H, .slice (some ⟨r, 0, none⟩) n cap] 84, .gen (rowE (some ⟨r, 0, none⟩) r n cap 28 1 (ivals .u32 (wrA W H px a b c d xs2)) false)] := by
  have hw1 := hok.w1
  have hw2 := hok.w2
  have hh1 := hok.h1
  have hh2 := hok.h2
  have hnum := hok.num
  have hlen := hok.len
  have hle := hok.le
  have hra2 := ((hT0.ok 2 _ rfl : Rd w A2 g2 o2 n2 1 (ivals .u8 xs2)).at_)
  have hl2 : xs2.length = n2 := Rd.flen (hT0.ok 2 _ rfl)
  refine enterM 78 [(0, .pointer (some ⟨m, 0, none⟩)), (1, .agg #[.int .i64 a, .int .i64 b, .int .i64 c, .int .i64 d]), (2, .slice A2 n2 cap2)] [.ro m [.int .i64 W, .int .i64 H, .slice (some ⟨r, 0, none⟩) n cap] 84, .gen (rowE (some ⟨r, 0, none⟩) r n cap 28 1 (ivals .u32 px) false), .gen (rdE (A2) g2 o2 n2 1 (ivals .u8 xs2))] Try.func39 rfl Try.ntmps39 rfl (by kernel_rfl) hT0 ?_
  refine cont_fact (F := (0 < n2 → (A2 : Option Addr) = some ⟨g2, o2, none⟩) ∧ xs2.length = n2) (fun w hT => Rd.facts (hT.ok 2 _ rfl)) (fun hl1_ => ?_)
  obtain ⟨hl1_a, hl1_l⟩ := hl1_
  refine cont_seq ?_
  refine cont_region 2 rfl ?_
  refine batch2 [0, 0] 2 0 (fun b2 b3 => [(0, .pointer (some ⟨m, 0, none⟩)), (2, .slice A2 n2 cap2), (4, .pointer (some ⟨b2, 0, none⟩)), (6, .pointer (some ⟨b3, 0, none⟩))]) (fun b2 b3 => [.cells b3 [.int .i64 0] 23 true, .cells b2 [.int .i64 a, .int .i64 b, .int .i64 c, .int .i64 d] 32 true, .ro m [.int .i64 W, .int .i64 H, .slice (some ⟨r, 0, none⟩) n cap] 84, .gen (rowE (some ⟨r, 0, none⟩) r n cap 28 1 (ivals .u32 px) false), .gen (rdE (A2) g2 o2 n2 1 (ivals .u8 xs2))]) rfl rfl [0, 2, 4, 6] (fun _ _ => rfl) (fun b2 b3 => by kernel_rfl) (fun b2 b3 => by kernel_rfl) (fun b2 b3 => ?_)
  refine cont_done ?_
  refine then_normal ?_
  refine cont_seq ?_
  refine cont_block ?_
  refine cont_seq ?_
  refine cont_region 5 rfl ?_
  refine bS [0, 1] 2 3 [(0, .pointer (some ⟨m, 0, none⟩)), (2, .slice A2 n2 cap2), (4, .pointer (some ⟨b2, 0, none⟩)), (6, .pointer (some ⟨b3, 0, none⟩)), (13, .pointer (some ⟨m, 0, none⟩)), (14, .agg #[.int .i64 a, .int .i64 b, .int .i64 c, .int .i64 d])] ?_
  refine pl_step 3 2 rfl rfl ?_
  refine call_pure (d := 15) (.bool (insB W H a b c d)) (by kernel_rfl) (fun w hT => imgIns m W H r n cap px a b c d w ⟨hT.ok 2 _ rfl, Row.rd (hT.ok 3 _ rfl), Row.capLe (hT.ok 3 _ rfl)⟩ hok) ?_
  refine bS [0, 0] 5 0 [(0, .pointer (some ⟨m, 0, none⟩)), (2, .slice A2 n2 cap2), (4, .pointer (some ⟨b2, 0, none⟩)), (6, .pointer (some ⟨b3, 0, none⟩)), (12, .bool (!(insB W H a b c d)))] ?_
  refine cont_done ?_
  refine then_normal ?_
  refine cont_split 12 (!(insB W H a b c d)) rfl (fun c4_ => ?_) (fun c4_ => ?_)
  ·
    replace c4_ : (insB W H a b c d) = false := by simpa using c4_
    have hgF : insB W H a b c d = false := c4_
    refine cont_true rfl ?_
    refine cont_seq ?_
    refine cont_region 1 rfl ?_
    refine batch0 [0] 1 0 [(6, .pointer (some ⟨b3, 0, none⟩))] [.cells b3 [.int .i64 4] 23 true, .cells b2 [.int .i64 a, .int .i64 b, .int .i64 c, .int .i64 d] 32 true, .ro m [.int .i64 W, .int .i64 H, .slice (some ⟨r, 0, none⟩) n cap] 84, .gen (rowE (some ⟨r, 0, none⟩) r n cap 28 1 (ivals .u32 px) false), .gen (rdE (A2) g2 o2 n2 1 (ivals .u8 xs2))] rfl rfl (by kernel_rfl) (by kernel_rfl) ?_
    refine cont_forget 1 rfl ?_
    refine cont_done ?_
    refine then_normal ?_
    refine cont_ret ?_
    refine blk_ret ?_
    refine then_ret ?_
    refine plain_end (.inl rfl) ?_
    refine ret_one (.inl rfl) rfl 0 (.int .i64 4) (by kernel_rfl) (by kernel_rfl) (fun w hT => ?_)
    replace hT := hT.erase 3 (fun e h hw => by cases h; first | rfl | cases hw)
    replace hT := hT.erase 0 (fun e h hw => by cases h; first | rfl | cases hw)
    have hE : wrE W H a b c d xs2 = 4 := wrE_ins hgF
    exact ⟨ret_int hE.symm, by rw [wrA_no (by rw [hE]; decide)]; exact hT⟩
  replace c4_ : (insB W H a b c d) = true := by simpa using c4_
  have hg : insB W H a b c d = true := c4_
  obtain ⟨hg1, hg2, hg3, hg4, hg5, hg6⟩ := insB_true hg
  obtain ⟨har0, har1, har2⟩ := ins_area hok hg
  refine cont_false rfl ?_
  refine cont_seq ?_
  refine cont_region 7 rfl ?_
  refine bS [0, 0, 1] 3 4 [(0, .pointer (some ⟨m, 0, none⟩)), (2, .slice A2 n2 cap2), (4, .pointer (some ⟨b2, 0, none⟩)), (6, .pointer (some ⟨b3, 0, none⟩)), (19, .int .i64 (n2 : Int)), (20, .agg #[.int .i64 a, .int .i64 b, .int .i64 c, .int .i64 d])] ?_
  refine pl_step 4 3 rfl rfl ?_
  refine call_pure (d := 21) (.int .i64 (areaI a b c d)) (by kernel_rfl) (fun w hT => rectArea a b c d w (by omega) (by omega) (by omega) (by omega)) ?_
  refine bS [0] 5 2 [(0, .pointer (some ⟨m, 0, none⟩)), (2, .slice A2 n2 cap2), (4, .pointer (some ⟨b2, 0, none⟩)), (6, .pointer (some ⟨b3, 0, none⟩)), (19, .int .i64 (n2 : Int)), (22, .int .i64 (IntKind.i64.wrap (4 * (areaI a b c d))))] ?_
  refine cont_recast 22 (.int .i64 (IntKind.i64.wrap (4 * (areaI a b c d)))) (.int .i64 (4 * (areaI a b c d))) rfl (wrapI (by omega) (by omega)) ?_
  refine bS [0, 0] 7 0 [(0, .pointer (some ⟨m, 0, none⟩)), (2, .slice A2 n2 cap2), (4, .pointer (some ⟨b2, 0, none⟩)), (6, .pointer (some ⟨b3, 0, none⟩)), (17, .bool (decide ((n2 : Int) < (4 * (areaI a b c d)))))] ?_
  refine cont_done ?_
  refine then_normal ?_
  refine cont_split 17 (decide ((n2 : Int) < (4 * (areaI a b c d)))) rfl (fun c5_ => ?_) (fun c5_ => ?_)
  ·
    replace c5_ := of_decide_eq_true c5_
    refine cont_true rfl ?_
    refine cont_seq ?_
    refine cont_region 1 rfl ?_
    refine batch0 [0] 1 0 [(6, .pointer (some ⟨b3, 0, none⟩))] [.cells b3 [.int .i64 3] 23 true, .cells b2 [.int .i64 a, .int .i64 b, .int .i64 c, .int .i64 d] 32 true, .ro m [.int .i64 W, .int .i64 H, .slice (some ⟨r, 0, none⟩) n cap] 84, .gen (rowE (some ⟨r, 0, none⟩) r n cap 28 1 (ivals .u32 px) false), .gen (rdE (A2) g2 o2 n2 1 (ivals .u8 xs2))] rfl rfl (by kernel_rfl) (by kernel_rfl) ?_
    refine cont_forget 1 rfl ?_
    refine cont_done ?_
    refine then_normal ?_
    refine cont_ret ?_
    refine blk_ret ?_
    refine then_ret ?_
    refine plain_end (.inl rfl) ?_
    refine ret_one (.inl rfl) rfl 0 (.int .i64 3) (by kernel_rfl) (by kernel_rfl) (fun w hT => ?_)
    replace hT := hT.erase 3 (fun e h hw => by cases h; first | rfl | cases hw)
    replace hT := hT.erase 0 (fun e h hw => by cases h; first | rfl | cases hw)
    have hE : wrE W H a b c d xs2 = 3 := wrE_short hg (by omega)
    exact ⟨ret_int hE.symm, by rw [wrA_no (by rw [hE]; decide)]; exact hT⟩
  replace c5_ := of_decide_eq_false c5_
  refine cont_false rfl ?_
  refine cont_seq ?_
  refine cont_region 7 rfl ?_
  refine bS [0, 0, 1] 3 4 [(0, .pointer (some ⟨m, 0, none⟩)), (2, .slice A2 n2 cap2), (4, .pointer (some ⟨b2, 0, none⟩)), (6, .pointer (some ⟨b3, 0, none⟩)), (26, .int .i64 (n2 : Int)), (27, .agg #[.int .i64 a, .int .i64 b, .int .i64 c, .int .i64 d])] ?_
  refine pl_step 4 3 rfl rfl ?_
  refine call_pure (d := 28) (.int .i64 (areaI a b c d)) (by kernel_rfl) (fun w hT => rectArea a b c d w (by omega) (by omega) (by omega) (by omega)) ?_
  refine bS [0] 5 2 [(0, .pointer (some ⟨m, 0, none⟩)), (2, .slice A2 n2 cap2), (4, .pointer (some ⟨b2, 0, none⟩)), (6, .pointer (some ⟨b3, 0, none⟩)), (26, .int .i64 (n2 : Int)), (29, .int .i64 (IntKind.i64.wrap (4 * (areaI a b c d))))] ?_
  refine cont_recast 29 (.int .i64 (IntKind.i64.wrap (4 * (areaI a b c d)))) (.int .i64 (4 * (areaI a b c d))) rfl (wrapI (by omega) (by omega)) ?_
  refine bS [0, 0] 7 0 [(0, .pointer (some ⟨m, 0, none⟩)), (2, .slice A2 n2 cap2), (4, .pointer (some ⟨b2, 0, none⟩)), (6, .pointer (some ⟨b3, 0, none⟩)), (24, .bool (decide ((n2 : Int) > (4 * (areaI a b c d)))))] ?_
  refine cont_done ?_
  refine then_normal ?_
  refine cont_split 24 (decide ((n2 : Int) > (4 * (areaI a b c d)))) rfl (fun c6_ => ?_) (fun c6_ => ?_)
  ·
    replace c6_ := of_decide_eq_true c6_
    refine cont_true rfl ?_
    refine cont_seq ?_
    refine cont_region 1 rfl ?_
    refine batch0 [0] 1 0 [(6, .pointer (some ⟨b3, 0, none⟩))] [.cells b3 [.int .i64 2] 23 true, .cells b2 [.int .i64 a, .int .i64 b, .int .i64 c, .int .i64 d] 32 true, .ro m [.int .i64 W, .int .i64 H, .slice (some ⟨r, 0, none⟩) n cap] 84, .gen (rowE (some ⟨r, 0, none⟩) r n cap 28 1 (ivals .u32 px) false), .gen (rdE (A2) g2 o2 n2 1 (ivals .u8 xs2))] rfl rfl (by kernel_rfl) (by kernel_rfl) ?_
    refine cont_forget 1 rfl ?_
    refine cont_done ?_
    refine then_normal ?_
    refine cont_ret ?_
    refine blk_ret ?_
    refine then_ret ?_
    refine plain_end (.inl rfl) ?_
    refine ret_one (.inl rfl) rfl 0 (.int .i64 2) (by kernel_rfl) (by kernel_rfl) (fun w hT => ?_)
    replace hT := hT.erase 3 (fun e h hw => by cases h; first | rfl | cases hw)
    replace hT := hT.erase 0 (fun e h hw => by cases h; first | rfl | cases hw)
    have hE : wrE W H a b c d xs2 = 2 := wrE_long hg (by omega)
    exact ⟨ret_int hE.symm, by rw [wrA_no (by rw [hE]; decide)]; exact hT⟩
  replace c6_ := of_decide_eq_false c6_
  refine cont_false rfl ?_
  refine cont_skip ?_
  refine blk_normal ?_
  refine then_normal ?_
  refine cont_seq ?_
  refine cont_region 1 rfl ?_
  refine batch1 [0] 1 0 (fun b7 => [(0, .pointer (some ⟨m, 0, none⟩)), (2, .slice A2 n2 cap2), (4, .pointer (some ⟨b2, 0, none⟩)), (6, .pointer (some ⟨b3, 0, none⟩)), (7, .pointer (some ⟨b7, 0, none⟩))]) (fun b7 => [.cells b7 [.slice none 0 0] 35 true, .cells b3 [.int .i64 0] 23 true, .cells b2 [.int .i64 a, .int .i64 b, .int .i64 c, .int .i64 d] 32 true, .ro m [.int .i64 W, .int .i64 H, .slice (some ⟨r, 0, none⟩) n cap] 84, .gen (rowE (some ⟨r, 0, none⟩) r n cap 28 1 (ivals .u32 px) false), .gen (rdE (A2) g2 o2 n2 1 (ivals .u8 xs2))]) rfl rfl [0, 2, 4, 6, 7] (fun _ => rfl) (fun b7 => by kernel_rfl) (fun b7 => by kernel_rfl) (fun b7 => ?_)
  refine cont_done ?_
  refine then_normal ?_
  refine cont_seq ?_
  refine cont_seq ?_
  refine cont_region 2 rfl ?_
  obtain ⟨N, hN⟩ : ∃ N : Nat, (N : Int) = areaI a b c d := ⟨Int.toNat (areaI a b c d), by omega⟩
  refine bS [0] 1 1 [(0, .pointer (some ⟨m, 0, none⟩)), (4, .pointer (some ⟨b2, 0, none⟩)), (6, .pointer (some ⟨b3, 0, none⟩)), (7, .pointer (some ⟨b7, 0, none⟩)), (31, .slice A2 n2 cap2)] ?_
  refine pl_step 2 0 rfl rfl ?_
  refine cont_recast 31 (.slice A2 n2 cap2) (.slice (some ⟨g2, o2, none⟩) n2 cap2) rfl (by rw [hl1_a (by omega)]) ?_
  refine call_gen (d := 32) (α := Nat × Nat) (fun x_ => .func (.func 69) #[] #[.pointer (some ⟨x_.1, 0, none⟩), .pointer (some ⟨x_.2, 0, none⟩)]) (fun x_ => [.cells x_.2 [.int .i64 4] 3 true, .cells x_.1 [.slice (some ⟨g2, o2, none⟩) n2 cap2] 43 true, .cells b7 [.slice none 0 0] 35 true, .cells b3 [.int .i64 0] 23 true, .cells b2 [.int .i64 a, .int .i64 b, .int .i64 c, .int .i64 d] 32 true, .ro m [.int .i64 W, .int .i64 H, .slice (some ⟨r, 0, none⟩) n cap] 84, .gen (rowE (some ⟨r, 0, none⟩) r n cap 28 1 (ivals .u32 px) false), .gen (rdE (A2) g2 o2 n2 1 (ivals .u8 xs2))]) (fun x_ => True) (by kernel_rfl) (fun w hT => (sliceChunk g2 o2 n2 cap2 w).mono fun e w' ⟨kb18, kb29, he_, ht_⟩ => ⟨(kb18, kb29), he_, trivial, hT.news ht_ rfl⟩) ?_
  rintro ⟨kb18, kb29⟩ hf10_
  refine cont_norm [(0, .pointer (some ⟨m, 0, none⟩)), (4, .pointer (some ⟨b2, 0, none⟩)), (6, .pointer (some ⟨b3, 0, none⟩)), (7, .pointer (some ⟨b7, 0, none⟩)), (31, .slice (some ⟨g2, o2, none⟩) n2 cap2), (32, .func (.func 69) #[] #[.pointer (some ⟨kb18, 0, none⟩), .pointer (some ⟨kb29, 0, none⟩)])] [.cells kb29 [.int .i64 4] 3 true, .cells kb18 [.slice (some ⟨g2, o2, none⟩) n2 cap2] 43 true, .cells b7 [.slice none 0 0] 35 true, .cells b3 [.int .i64 0] 23 true, .cells b2 [.int .i64 a, .int .i64 b, .int .i64 c, .int .i64 d] 32 true, .ro m [.int .i64 W, .int .i64 H, .slice (some ⟨r, 0, none⟩) n cap] 84, .gen (rowE (some ⟨r, 0, none⟩) r n cap 28 1 (ivals .u32 px) false), .gen (rdE (A2) g2 o2 n2 1 (ivals .u8 xs2))] (by kernel_rfl) rfl ?_
  refine cont_done ?_
  refine then_normal ?_
  refine cont_block ?_
  refine cont_weaken 1 (.ro kb18 [.slice (some ⟨g2, o2, none⟩) n2 cap2] 43) rfl rfl Vw.roc rfl ?_
  refine cont_norm [(0, .pointer (some ⟨m, 0, none⟩)), (4, .pointer (some ⟨b2, 0, none⟩)), (6, .pointer (some ⟨b3, 0, none⟩)), (7, .pointer (some ⟨b7, 0, none⟩)), (31, .slice (some ⟨g2, o2, none⟩) n2 cap2), (32, .func (.func 69) #[] #[.pointer (some ⟨kb18, 0, none⟩), .pointer (some ⟨kb29, 0, none⟩)])] [.cells kb29 [.int .i64 4] 3 true, .ro kb18 [.slice (some ⟨g2, o2, none⟩) n2 cap2] 43, .cells b7 [.slice none 0 0] 35 true, .cells b3 [.int .i64 0] 23 true, .cells b2 [.int .i64 a, .int .i64 b, .int .i64 c, .int .i64 d] 32 true, .ro m [.int .i64 W, .int .i64 H, .slice (some ⟨r, 0, none⟩) n cap] 84, .gen (rowE (some ⟨r, 0, none⟩) r n cap 28 1 (ivals .u32 px) false), .gen (rdE (A2) g2 o2 n2 1 (ivals .u8 xs2))] (by kernel_rfl) rfl ?_
  refine cont_weaken 0 (.ro kb29 [.int .i64 4] 3) rfl rfl Vw.roc rfl ?_
  refine cont_norm [(0, .pointer (some ⟨m, 0, none⟩)), (4, .pointer (some ⟨b2, 0, none⟩)), (6, .pointer (some ⟨b3, 0, none⟩)), (7, .pointer (some ⟨b7, 0, none⟩)), (31, .slice (some ⟨g2, o2, none⟩) n2 cap2), (32, .func (.func 69) #[] #[.pointer (some ⟨kb18, 0, none⟩), .pointer (some ⟨kb29, 0, none⟩)])] [.ro kb29 [.int .i64 4] 3, .ro kb18 [.slice (some ⟨g2, o2, none⟩) n2 cap2] 43, .cells b7 [.slice none 0 0] 35 true, .cells b3 [.int .i64 0] 23 true, .cells b2 [.int .i64 a, .int .i64 b, .int .i64 c, .int .i64 d] 32 true, .ro m [.int .i64 W, .int .i64 H, .slice (some ⟨r, 0, none⟩) n cap] 84, .gen (rowE (some ⟨r, 0, none⟩) r n cap 28 1 (ivals .u32 px) false), .gen (rdE (A2) g2 o2 n2 1 (ivals .u8 xs2))] (by kernel_rfl) rfl ?_
  refine cont_nilrow 28 1 ?_
  refine cont_norm [(0, .pointer (some ⟨m, 0, none⟩)), (4, .pointer (some ⟨b2, 0, none⟩)), (6, .pointer (some ⟨b3, 0, none⟩)), (7, .pointer (some ⟨b7, 0, none⟩)), (31, .slice (some ⟨g2, o2, none⟩) n2 cap2), (32, .func (.func 69) #[] #[.pointer (some ⟨kb18, 0, none⟩), .pointer (some ⟨kb29, 0, none⟩)])] [.gen (rowE (none) 0 0 0 28 1 (ivals .u32 []) true), .ro kb29 [.int .i64 4] 3, .ro kb18 [.slice (some ⟨g2, o2, none⟩) n2 cap2] 43, .cells b7 [.slice none 0 0] 35 true, .cells b3 [.int .i64 0] 23 true, .cells b2 [.int .i64 a, .int .i64 b, .int .i64 c, .int .i64 d] 32 true, .ro m [.int .i64 W, .int .i64 H, .slice (some ⟨r, 0, none⟩) n cap] 84, .gen (rowE (some ⟨r, 0, none⟩) r n cap 28 1 (ivals .u32 px) false), .gen (rdE (A2) g2 o2 n2 1 (ivals .u8 xs2))] (by kernel_rfl) rfl ?_
  refine cont_pick [2, 1, 8, 0, 3, 4, 5, 6, 7] [.ro kb18 [.slice (some ⟨g2, o2, none⟩) n2 cap2] 43, .ro kb29 [.int .i64 4] 3, .gen (rdE (A2) g2 o2 n2 1 (ivals .u8 xs2)), .gen (rowE (none) 0 0 0 28 1 (ivals .u32 []) true), .cells b7 [.slice none 0 0] 35 true, .cells b3 [.int .i64 0] 23 true, .cells b2 [.int .i64 a, .int .i64 b, .int .i64 c, .int .i64 d] 32 true, .ro m [.int .i64 W, .int .i64 H, .slice (some ⟨r, 0, none⟩) n cap] 84, .gen (rowE (some ⟨r, 0, none⟩) r n cap 28 1 (ivals .u32 px) false)] (by decide) rfl rfl ?_
  refine cont_rangeFunc (X := Nat) (β := Nat × Option Addr × Nat × Nat) (γ := Unit) (gf := 69) (lb := #[.pointer (some ⟨kb18, 0, none⟩), .pointer (some ⟨kb29, 0, none⟩)]) (fun z_ : Nat => #[.slice (some ⟨g2, o2 + 4 * z_, none⟩) 4 4]) [.ro kb18 [.slice (some ⟨g2, o2, none⟩) n2 cap2] 43, .ro kb29 [.int .i64 4] 3, .gen (rdE (A2) g2 o2 n2 1 (ivals .u8 xs2))] (fun z_ : Nat => []) (fun xs_ => ChP N xs_ ∧ xs_.length = N) (fun xs_ => ChP N xs_) (fun (pre : List (Nat)) (x_ : Nat × Option Addr × Nat × Nat) => x_.1 = pre.length ∧ okN xs2 x_.1) (fun x_ : Nat × Option Addr × Nat × Nat => [.gen (rowE (x_.2.1) x_.2.2.1 x_.1 x_.2.2.2 28 1 (ivals .u32 (wrL xs2 x_.1)) true), .cells b7 [.slice x_.2.1 x_.1 x_.2.2.2] 35 true, .cells b3 [.int .i64 0] 23 true, .cells b2 [.int .i64 a, .int .i64 b, .int .i64 c, .int .i64 d] 32 true, .ro m [.int .i64 W, .int .i64 H, .slice (some ⟨r, 0, none⟩) n cap] 84, .gen (rowE (some ⟨r, 0, none⟩) r n cap 28 1 (ivals .u32 px) false)]) (fun (c_ : Code) (x_ : Unit) => (c_ = .ret ∧ ∃ k_, k_ < N ∧ mayB (mkB xs2 k_) = false)) (fun x_ : Unit => [.cells b3 [.int .i64 1] 23 true, .ro m [.int .i64 W, .int .i64 H, .slice (some ⟨r, 0, none⟩) n cap] 84, .gen (rowE (some ⟨r, 0, none⟩) r n cap 28 1 (ivals .u32 px) false)]) (0, none, 0, 0) rfl (fun _ _ => rfl) (fun _ => rfl) (by kernel_rfl) (chunkIter kb18 kb29 A2 g2 o2 n2 cap2 xs2 N (by omega) hc2 (by omega) _) (⟨rfl, fun j hj => by omega⟩) rfl ?_ ?_ ?_ ?_
  ·
    rintro l_ z12_ e12_ e12b_ e12q_ pre kk ⟨k, Ao, gw, co⟩ B_ hz_ hinv13_ hsp_ hB_
    replace hinv13_ : k = pre.length ∧ okN xs2 k := hinv13_
    replace hsp_ : ChP N (pre ++ [(kk)]) := hsp_
    refine cont_norm [(6, .pointer (some ⟨b3, 0, none⟩)), (7, .pointer (some ⟨b7, 0, none⟩)), (33, .slice (some ⟨g2, o2 + 4 * kk, none⟩) 4 4)] [z12_, e12_, e12q_, .ro kb18 [.slice (some ⟨g2, o2, none⟩) n2 cap2] 43, .ro kb29 [.int .i64 4] 3, .gen (rdE (A2) g2 o2 n2 1 (ivals .u8 xs2)), .gen (rowE (Ao) gw k co 28 1 (ivals .u32 (wrL xs2 k)) true), .cells b7 [.slice Ao k co] 35 true, .cells b3 [.int .i64 0] 23 true, .cells b2 [.int .i64 a, .int .i64 b, .int .i64 c, .int .i64 d] 32 true, .ro m [.int .i64 W, .int .i64 H, .slice (some ⟨r, 0, none⟩) n cap] 84, .gen (rowE (some ⟨r, 0, none⟩) r n cap 28 1 (ivals .u32 px) false)] (by kernel_rfl) rfl ?_
    refine mcont_region 1 rfl (by kernel_rfl) ?_
    refine bS [0] 1 0 [(6, .pointer (some ⟨b3, 0, none⟩)), (7, .pointer (some ⟨b7, 0, none⟩)), (8, .slice (some ⟨g2, o2 + 4 * kk, none⟩) 4 4)] ?_
    refine cont_done ?_
    refine then_normal ?_
    refine hB_ [(6, .pointer (some ⟨b3, 0, none⟩)), (7, .pointer (some ⟨b7, 0, none⟩)), (8, .slice (some ⟨g2, o2 + 4 * kk, none⟩) 4 4)] [z12_] [e12q_, .ro kb18 [.slice (some ⟨g2, o2, none⟩) n2 cap2] 43, .ro kb29 [.int .i64 4] 3, .gen (rdE (A2) g2 o2 n2 1 (ivals .u8 xs2)), .gen (rowE (Ao) gw k co 28 1 (ivals .u32 (wrL xs2 k)) true), .cells b7 [.slice Ao k co] 35 true, .cells b3 [.int .i64 0] 23 true, .cells b2 [.int .i64 a, .int .i64 b, .int .i64 c, .int .i64 d] 32 true, .ro m [.int .i64 W, .int .i64 H, .slice (some ⟨r, 0, none⟩) n cap] 84, .gen (rowE (some ⟨r, 0, none⟩) r n cap 28 1 (ivals .u32 px) false)] ?_
    refine cont_norm [(6, .pointer (some ⟨b3, 0, none⟩)), (7, .pointer (some ⟨b7, 0, none⟩)), (8, .slice (some ⟨g2, o2 + 4 * kk, none⟩) 4 4)] [z12_, e12b_, e12q_, .ro kb18 [.slice (some ⟨g2, o2, none⟩) n2 cap2] 43, .ro kb29 [.int .i64 4] 3, .gen (rdE (A2) g2 o2 n2 1 (ivals .u8 xs2)), .gen (rowE (Ao) gw k co 28 1 (ivals .u32 (wrL xs2 k)) true), .cells b7 [.slice Ao k co] 35 true, .cells b3 [.int .i64 0] 23 true, .cells b2 [.int .i64 a, .int .i64 b, .int .i64 c, .int .i64 d] 32 true, .ro m [.int .i64 W, .int .i64 H, .slice (some ⟨r, 0, none⟩) n cap] 84, .gen (rowE (some ⟨r, 0, none⟩) r n cap 28 1 (ivals .u32 px) false)] (by kernel_rfl) rfl ?_
    obtain ⟨hkp, hokn⟩ := hinv13_
    obtain ⟨hkk0, hlt_⟩ := hsp_.last
    have hkk : kk = k := by omega
    have hmk := mkB_in xs2 kk
    have hb0 := getD_byte hx2 (4 * kk + 0)
    have hb1 := getD_byte hx2 (4 * kk + 1)
    have hb2 := getD_byte hx2 (4 * kk + 2)
    have hb3 := getD_byte hx2 (4 * kk + 3)
    refine mcont_block ?_
    refine mcont_seq ?_
    refine mdrawn_enter 18 [] rfl (by kernel_rfl) (by kernel_rfl) ?_
    refine takes 0 [] [(0, 0), (4, 0), (8, 0), (12, 0)] 14 [12, 8, 4, 0] [(6, .pointer (some ⟨b3, 0, none⟩)), (7, .pointer (some ⟨b7, 0, none⟩)), (34, .slice (some ⟨g2, o2 + 4 * kk, none⟩) 4 4), (38, .slice (some ⟨g2, o2 + 4 * kk, none⟩) 4 4), (42, .slice (some ⟨g2, o2 + 4 * kk, none⟩) 4 4), (46, .slice (some ⟨g2, o2 + 4 * kk, none⟩) 4 4)] (by kernel_rfl) (pok_then (pok_blk pok_rq)) (by kernel_rfl) rfl rfl (by kernel_rfl) (by kernel_rfl) ?_
    refine sem_take 0 [] 1 13 35 (Instr.indexAt 43 (.slice (some ⟨g2, o2 + 4 * kk, none⟩) 4 4) (.int .i64 0)) (.pointer (some ⟨g2, o2 + 4 * kk + 0, none⟩)) (by kernel_rfl) (pok_then (pok_blk pok_rq)) (by kernel_rfl) rfl (by kernel_rfl) (by kernel_rfl) (fun w hT => run_indexAt (e := 5) (sz := 1) _ (by kernel_rfl) (by kernel_rfl) (by omega) (by omega) (by omega) w) ?_
    refine sem_take 0 [] 2 12 36 (Instr.loadAt 5 (.pointer (some ⟨g2, o2 + 4 * kk + 0, none⟩))) (.int .u8 (xs2.getD (4 * kk + 0) 0)) (by kernel_rfl) (pok_then (pok_blk pok_rq)) (by kernel_rfl) rfl (by kernel_rfl) (by kernel_rfl) (fun w hT => run_load1 (by kernel_rfl) (Rd.cell (hT 5 _ rfl) (4 * kk + 0) _ (ivals_get (by omega)))) ?_
    refine takes 0 [] [(3, 0)] 11 [3, 2, 1, 12, 8, 4, 0] [(6, .pointer (some ⟨b3, 0, none⟩)), (7, .pointer (some ⟨b7, 0, none⟩)), (37, .int .i64 (IntKind.i64.wrap (xs2.getD (4 * kk + 0) 0))), (38, .slice (some ⟨g2, o2 + 4 * kk, none⟩) 4 4), (42, .slice (some ⟨g2, o2 + 4 * kk, none⟩) 4 4), (46, .slice (some ⟨g2, o2 + 4 * kk, none⟩) 4 4)] (by kernel_rfl) (pok_then (pok_blk pok_rq)) (by kernel_rfl) rfl rfl (by kernel_rfl) (by kernel_rfl) ?_
    refine cont_recast 37 (.int .i64 (IntKind.i64.wrap (xs2.getD (4 * kk + 0) 0))) (.int .i64 (xs2.getD (4 * kk + 0) 0)) rfl (wrapI (by omega) (by omega)) ?_
    refine sem_take 0 [] 5 10 39 (Instr.indexAt 43 (.slice (some ⟨g2, o2 + 4 * kk, none⟩) 4 4) (.int .i64 1)) (.pointer (some ⟨g2, o2 + 4 * kk + 1, none⟩)) (by kernel_rfl) (pok_then (pok_blk pok_rq)) (by kernel_rfl) rfl (by kernel_rfl) (by kernel_rfl) (fun w hT => run_indexAt (e := 5) (sz := 1) _ (by kernel_rfl) (by kernel_rfl) (by omega) (by omega) (by omega) w) ?_
    refine sem_take 0 [] 6 9 40 (Instr.loadAt 5 (.pointer (some ⟨g2, o2 + 4 * kk + 1, none⟩))) (.int .u8 (xs2.getD (4 * kk + 1) 0)) (by kernel_rfl) (pok_then (pok_blk pok_rq)) (by kernel_rfl) rfl (by kernel_rfl) (by kernel_rfl) (fun w hT => run_load1 (by kernel_rfl) (Rd.cell (hT 5 _ rfl) (4 * kk + 1) _ (ivals_get (by omega)))) ?_
    refine takes 0 [] [(7, 0)] 8 [7, 6, 5, 3, 2, 1, 12, 8, 4, 0] [(6, .pointer (some ⟨b3, 0, none⟩)), (7, .pointer (some ⟨b7, 0, none⟩)), (37, .int .i64 (xs2.getD (4 * kk + 0) 0)), (41, .int .i64 (IntKind.i64.wrap (xs2.getD (4 * kk + 1) 0))), (42, .slice (some ⟨g2, o2 + 4 * kk, none⟩) 4 4), (46, .slice (some ⟨g2, o2 + 4 * kk, none⟩) 4 4)] (by kernel_rfl) (pok_then (pok_blk pok_rq)) (by kernel_rfl) rfl rfl (by kernel_rfl) (by kernel_rfl) ?_
    refine cont_recast 41 (.int .i64 (IntKind.i64.wrap (xs2.getD (4 * kk + 1) 0))) (.int .i64 (xs2.getD (4 * kk + 1) 0)) rfl (wrapI (by omega) (by omega)) ?_
    refine sem_take 0 [] 9 7 43 (Instr.indexAt 43 (.slice (some ⟨g2, o2 + 4 * kk, none⟩) 4 4) (.int .i64 2)) (.pointer (some ⟨g2, o2 + 4 * kk + 2, none⟩)) (by kernel_rfl) (pok_then (pok_blk pok_rq)) (by kernel_rfl) rfl (by kernel_rfl) (by kernel_rfl) (fun w hT => run_indexAt (e := 5) (sz := 1) _ (by kernel_rfl) (by kernel_rfl) (by omega) (by omega) (by omega) w) ?_
    refine sem_take 0 [] 10 6 44 (Instr.loadAt 5 (.pointer (some ⟨g2, o2 + 4 * kk + 2, none⟩))) (.int .u8 (xs2.getD (4 * kk + 2) 0)) (by kernel_rfl) (pok_then (pok_blk pok_rq)) (by kernel_rfl) rfl (by kernel_rfl) (by kernel_rfl) (fun w hT => run_load1 (by kernel_rfl) (Rd.cell (hT 5 _ rfl) (4 * kk + 2) _ (ivals_get (by omega)))) ?_
    refine takes 0 [] [(11, 0)] 5 [11, 10, 9, 7, 6, 5, 3, 2, 1, 12, 8, 4, 0] [(6, .pointer (some ⟨b3, 0, none⟩)), (7, .pointer (some ⟨b7, 0, none⟩)), (37, .int .i64 (xs2.getD (4 * kk + 0) 0)), (41, .int .i64 (xs2.getD (4 * kk + 1) 0)), (45, .int .i64 (IntKind.i64.wrap (xs2.getD (4 * kk + 2) 0))), (46, .slice (some ⟨g2, o2 + 4 * kk, none⟩) 4 4)] (by kernel_rfl) (pok_then (pok_blk pok_rq)) (by kernel_rfl) rfl rfl (by kernel_rfl) (by kernel_rfl) ?_
    refine cont_recast 45 (.int .i64 (IntKind.i64.wrap (xs2.getD (4 * kk + 2) 0))) (.int .i64 (xs2.getD (4 * kk + 2) 0)) rfl (wrapI (by omega) (by omega)) ?_
    refine sem_take 0 [] 13 4 47 (Instr.indexAt 43 (.slice (some ⟨g2, o2 + 4 * kk, none⟩) 4 4) (.int .i64 3)) (.pointer (some ⟨g2, o2 + 4 * kk + 3, none⟩)) (by kernel_rfl) (pok_then (pok_blk pok_rq)) (by kernel_rfl) rfl (by kernel_rfl) (by kernel_rfl) (fun w hT => run_indexAt (e := 5) (sz := 1) _ (by kernel_rfl) (by kernel_rfl) (by omega) (by omega) (by omega) w) ?_
    refine sem_take 0 [] 14 3 48 (Instr.loadAt 5 (.pointer (some ⟨g2, o2 + 4 * kk + 3, none⟩))) (.int .u8 (xs2.getD (4 * kk + 3) 0)) (by kernel_rfl) (pok_then (pok_blk pok_rq)) (by kernel_rfl) rfl (by kernel_rfl) (by kernel_rfl) (fun w hT => run_load1 (by kernel_rfl) (Rd.cell (hT 5 _ rfl) (4 * kk + 3) _ (ivals_get (by omega)))) ?_
    refine takes 0 [] [(15, 0)] 2 [15, 14, 13, 11, 10, 9, 7, 6, 5, 3, 2, 1, 12, 8, 4, 0] [(6, .pointer (some ⟨b3, 0, none⟩)), (7, .pointer (some ⟨b7, 0, none⟩)), (37, .int .i64 (xs2.getD (4 * kk + 0) 0)), (41, .int .i64 (xs2.getD (4 * kk + 1) 0)), (45, .int .i64 (xs2.getD (4 * kk + 2) 0)), (49, .int .i64 (IntKind.i64.wrap (xs2.getD (4 * kk + 3) 0)))] (by kernel_rfl) (pok_then (pok_blk pok_rq)) (by kernel_rfl) rfl rfl (by kernel_rfl) (by kernel_rfl) ?_
    refine cont_recast 49 (.int .i64 (IntKind.i64.wrap (xs2.getD (4 * kk + 3) 0))) (.int .i64 (xs2.getD (4 * kk + 3) 0)) rfl (wrapI (by omega) (by omega)) ?_
    refine drawn_one 16 1 rfl (by kernel_rfl) ?_
    refine call_pure (d := 50) (.int .u32 (mkC (xs2.getD (4 * kk + 0) 0) (xs2.getD (4 * kk + 1) 0) (xs2.getD (4 * kk + 2) 0) (xs2.getD (4 * kk + 3) 0))) (by kernel_rfl) (fun w hT => colorMake (xs2.getD (4 * kk + 0) 0) (xs2.getD (4 * kk + 1) 0) (xs2.getD (4 * kk + 2) 0) (xs2.getD (4 * kk + 3) 0) w) ?_
    refine cont_recast 50 (.int .u32 (mkC (xs2.getD (4 * kk + 0) 0) (xs2.getD (4 * kk + 1) 0) (xs2.getD (4 * kk + 2) 0) (xs2.getD (4 * kk + 3) 0))) (.int .u32 (mkB xs2 kk)) rfl (congrArg (Value.int .u32) rfl) ?_
    refine drawn_next 0 [] (by kernel_rfl) ?_
    refine takes 0 [] [(17, 0)] 0 [17, 16, 15, 14, 13, 11, 10, 9, 7, 6, 5, 3, 2, 1, 12, 8, 4, 0] [(6, .pointer (some ⟨b3, 0, none⟩)), (7, .pointer (some ⟨b7, 0, none⟩)), (9, .int .u32 (mkB xs2 kk))] (by kernel_rfl) (pok_then (pok_blk pok_rq)) (by kernel_rfl) rfl rfl (by kernel_rfl) (by kernel_rfl) ?_
    refine drawn_done (by kernel_rfl) ?_
    refine then_normal ?_
    refine mcont_seq ?_
    refine mcont_seq ?_
    refine mcont_region 3 rfl (by kernel_rfl) ?_
    refine bS [0] 1 2 [(6, .pointer (some ⟨b3, 0, none⟩)), (7, .pointer (some ⟨b7, 0, none⟩)), (9, .int .u32 (mkB xs2 kk)), (51, .int .u32 (mkB xs2 kk))] ?_
    refine pl_step 2 1 rfl rfl ?_
    refine call_pure (d := 52) (.bool (mayB (mkB xs2 kk))) (by kernel_rfl) (fun w hT => colorMay (mkB xs2 kk) w (by omega) (by omega)) ?_
    refine bS [0] 3 0 [(6, .pointer (some ⟨b3, 0, none⟩)), (7, .pointer (some ⟨b7, 0, none⟩)), (9, .int .u32 (mkB xs2 kk)), (53, .bool (!(mayB (mkB xs2 kk))))] ?_
    refine cont_done ?_
    refine then_normal ?_
    refine cont_split 53 (!(mayB (mkB xs2 kk))) rfl (fun c14_ => ?_) (fun c14_ => ?_)
    ·
      replace c14_ : (mayB (mkB xs2 kk)) = false := by simpa using c14_
      have hmy : mayB (mkB xs2 kk) = false := c14_
      refine mcont_true rfl ?_
      refine mcont_seq ?_
      refine mcont_region 1 rfl (by kernel_rfl) ?_
      refine batch0 [8] 1 0 [(6, .pointer (some ⟨b3, 0, none⟩))] [z12_, e12b_, e12q_, .ro kb18 [.slice (some ⟨g2, o2, none⟩) n2 cap2] 43, .ro kb29 [.int .i64 4] 3, .gen (rdE (A2) g2 o2 n2 1 (ivals .u8 xs2)), .gen (rowE (Ao) gw k co 28 1 (ivals .u32 (wrL xs2 k)) true), .cells b7 [.slice Ao k co] 35 true, .cells b3 [.int .i64 1] 23 true, .cells b2 [.int .i64 a, .int .i64 b, .int .i64 c, .int .i64 d] 32 true, .ro m [.int .i64 W, .int .i64 H, .slice (some ⟨r, 0, none⟩) n cap] 84, .gen (rowE (some ⟨r, 0, none⟩) r n cap 28 1 (ivals .u32 px) false)] rfl rfl (by kernel_rfl) (by kernel_rfl) ?_
      refine cont_done ?_
      refine then_normal ?_
      refine mcont_ret ?_
      refine then_ret ?_
      refine blk_ret ?_
      refine cont_pick [0, 1, 2, 8, 10, 11] [z12_, e12b_, e12q_, .cells b3 [.int .i64 1] 23 true, .ro m [.int .i64 W, .int .i64 H, .slice (some ⟨r, 0, none⟩) n cap] 84, .gen (rowE (some ⟨r, 0, none⟩) r n cap 28 1 (ivals .u32 px) false)] (by decide) rfl rfl ?_
      refine rq_ret hz_ () (⟨rfl, kk, by omega, hmy⟩) rfl
    replace c14_ : (mayB (mkB xs2 kk)) = true := by simpa using c14_
    have hmy : mayB (mkB xs2 kk) = true := c14_
    refine mcont_false rfl ?_
    refine mcont_skip ?_
    refine then_normal ?_
    refine mcont_region 5 rfl (by kernel_rfl) ?_
    refine batch1 [7, 0, 0] 3 2 (fun b15 => [(7, .pointer (some ⟨b7, 0, none⟩)), (54, .slice Ao k co), (56, .slice (some ⟨b15, 0, none⟩) 1 1)]) (fun b15 => [.cells b15 [.int .u32 (mkB xs2 kk)] 28 true, z12_, e12b_, e12q_, .ro kb18 [.slice (some ⟨g2, o2, none⟩) n2 cap2] 43, .ro kb29 [.int .i64 4] 3, .gen (rdE (A2) g2 o2 n2 1 (ivals .u8 xs2)), .gen (rowE (Ao) gw k co 28 1 (ivals .u32 (wrL xs2 k)) true), .cells b7 [.slice Ao k co] 35 true, .cells b3 [.int .i64 0] 23 true, .cells b2 [.int .i64 a, .int .i64 b, .int .i64 c, .int .i64 d] 32 true, .ro m [.int .i64 W, .int .i64 H, .slice (some ⟨r, 0, none⟩) n cap] 84, .gen (rowE (some ⟨r, 0, none⟩) r n cap 28 1 (ivals .u32 px) false)]) rfl rfl [7, 54, 56] (fun _ => rfl) (fun b15 => by kernel_rfl) (fun b15 => by kernel_rfl) (fun b15 => ?_)
    refine pl_step 4 1 rfl rfl ?_
    refine sem_stepW (α := Option Addr × Nat × Nat) 57 (Builtin.append_ #[35, 35] 35 #[.slice Ao k co, .slice (some ⟨b15, 0, none⟩) 1 1]) (fun x_ => .slice x_.1 (k + 1) x_.2.2) (fun x_ => [.cells b15 [.int .u32 (mkB xs2 kk)] 28 true, z12_, e12b_, e12q_, .ro kb18 [.slice (some ⟨g2, o2, none⟩) n2 cap2] 43, .ro kb29 [.int .i64 4] 3, .gen (rdE (A2) g2 o2 n2 1 (ivals .u8 xs2)), .gen (rowE (x_.1) x_.2.1 (k + 1) x_.2.2 28 1 (ivals .u32 ((wrL xs2 k) ++ [mkB xs2 kk])) true), .cells b7 [.slice Ao k co] 35 true, .cells b3 [.int .i64 0] 23 true, .cells b2 [.int .i64 a, .int .i64 b, .int .i64 c, .int .i64 d] 32 true, .ro m [.int .i64 W, .int .i64 H, .slice (some ⟨r, 0, none⟩) n cap] 84, .gen (rowE (some ⟨r, 0, none⟩) r n cap 28 1 (ivals .u32 px) false)]) (fun _ => True) (by kernel_rfl) (fun w hT => append_own (n' := (k + 1)) (z := .int .u32 0) hT (i := 7) (bytes := 4) rfl (by kernel_rfl) (by kernel_rfl) rfl (by decide) (by decide) (Rd.ofCells (vals := ivals .u32 [mkB xs2 kk]) (hT.ok 0 _ rfl) rfl rfl) (ivals_one .u32 [mkB xs2 kk]) (by omega) (ivals_append .u32 (wrL xs2 k) [mkB xs2 kk]) rfl) ?_
    rintro ⟨A16, g16, cp16⟩ -
    refine cont_norm [(7, .pointer (some ⟨b7, 0, none⟩)), (54, .slice Ao k co), (56, .slice (some ⟨b15, 0, none⟩) 1 1), (57, .slice A16 (k + 1) cp16)] [.cells b15 [.int .u32 (mkB xs2 kk)] 28 true, z12_, e12b_, e12q_, .ro kb18 [.slice (some ⟨g2, o2, none⟩) n2 cap2] 43, .ro kb29 [.int .i64 4] 3, .gen (rdE (A2) g2 o2 n2 1 (ivals .u8 xs2)), .gen (rowE (A16) g16 (k + 1) cp16 28 1 (ivals .u32 ((wrL xs2 k) ++ [mkB xs2 kk])) true), .cells b7 [.slice Ao k co] 35 true, .cells b3 [.int .i64 0] 23 true, .cells b2 [.int .i64 a, .int .i64 b, .int .i64 c, .int .i64 d] 32 true, .ro m [.int .i64 W, .int .i64 H, .slice (some ⟨r, 0, none⟩) n cap] 84, .gen (rowE (some ⟨r, 0, none⟩) r n cap 28 1 (ivals .u32 px) false)] (by kernel_rfl) rfl ?_
    refine cont_fact (F := (0 < (k + 1) → (A16 : Option Addr) = some ⟨g16, 0, none⟩) ∧ ((wrL xs2 k) ++ [mkB xs2 kk]).length = (k + 1) ∧ (k + 1) ≤ cp16 ∧ cp16 ≤ maxLen) (fun w hT => Row.facts (hT.ok 7 _ rfl)) (fun hr17_ => ?_)
    obtain ⟨hr17_a, hr17_l, hr17_c, hr17_m⟩ := hr17_
    unfold maxLen at hr17_m
    refine batch0 [8] 5 0 [] [.cells b15 [.int .u32 (mkB xs2 kk)] 28 true, z12_, e12b_, e12q_, .ro kb18 [.slice (some ⟨g2, o2, none⟩) n2 cap2] 43, .ro kb29 [.int .i64 4] 3, .gen (rdE (A2) g2 o2 n2 1 (ivals .u8 xs2)), .gen (rowE (A16) g16 (k + 1) cp16 28 1 (ivals .u32 ((wrL xs2 k) ++ [mkB xs2 kk])) true), .cells b7 [.slice A16 (k + 1) cp16] 35 true, .cells b3 [.int .i64 0] 23 true, .cells b2 [.int .i64 a, .int .i64 b, .int .i64 c, .int .i64 d] 32 true, .ro m [.int .i64 W, .int .i64 H, .slice (some ⟨r, 0, none⟩) n cap] 84, .gen (rowE (some ⟨r, 0, none⟩) r n cap 28 1 (ivals .u32 px) false)] rfl rfl (by kernel_rfl) (by kernel_rfl) ?_
    refine cont_forget 0 rfl ?_
    refine cont_done ?_
    refine blk_normal ?_
    refine cont_rowEq (k := .u32) 6 ((wrL xs2 k) ++ [mkB xs2 kk]) (wrL xs2 (k + 1)) rfl (by rw [wrL_succ, hkk]) ?_
    refine rq_next (k + 1, A16, g16, cp16) (show (k + 1) = (pre ++ [kk]).length ∧ okN xs2 (k + 1) from ⟨by rw [List.length_append, List.length_singleton]; omega, hokn.step (by rw [← hkk]; exact hmy)⟩) rfl
  ·
    rintro D19_ xs_ ⟨k, Ao, gw, co⟩ hS_ hinv18_
    replace hinv18_ : k = xs_.length ∧ okN xs2 k := hinv18_
    replace hS_ : ChP N xs_ ∧ xs_.length = N := hS_
    refine cont_norm [(0, .pointer (some ⟨m, 0, none⟩)), (4, .pointer (some ⟨b2, 0, none⟩)), (6, .pointer (some ⟨b3, 0, none⟩)), (7, .pointer (some ⟨b7, 0, none⟩))] [markE D19_, .ro kb18 [.slice (some ⟨g2, o2, none⟩) n2 cap2] 43, .ro kb29 [.int .i64 4] 3, .gen (rdE (A2) g2 o2 n2 1 (ivals .u8 xs2)), .gen (rowE (Ao) gw k co 28 1 (ivals .u32 (wrL xs2 k)) true), .cells b7 [.slice Ao k co] 35 true, .cells b3 [.int .i64 0] 23 true, .cells b2 [.int .i64 a, .int .i64 b, .int .i64 c, .int .i64 d] 32 true, .ro m [.int .i64 W, .int .i64 H, .slice (some ⟨r, 0, none⟩) n cap] 84, .gen (rowE (some ⟨r, 0, none⟩) r n cap 28 1 (ivals .u32 px) false)] (by kernel_rfl) rfl ?_
    obtain ⟨hkp, hokn⟩ := hinv18_
    have hkN : k = N := by rw [hkp]; exact hS_.2
    have hro := 0
    refine blk_normal ?_
    refine then_normal ?_
    refine cont_seq ?_
    refine cont_seq ?_
    refine cont_region 3 rfl ?_
    refine bS [0, 7, 0] 3 0 [(0, .pointer (some ⟨m, 0, none⟩)), (4, .pointer (some ⟨b2, 0, none⟩)), (6, .pointer (some ⟨b3, 0, none⟩)), (7, .pointer (some ⟨b7, 0, none⟩)), (10, .int .i64 b)] ?_
    refine cont_done ?_
    refine then_normal ?_
    refine cont_block ?_
    clear hro
    refine cont_fact (F := (0 < k → (Ao : Option Addr) = some ⟨gw, 0, none⟩) ∧ (wrL xs2 k).length = k ∧ k ≤ co ∧ co ≤ maxLen) (fun w hT => Row.facts (hT.ok 4 _ rfl)) (fun hr20_ => ?_)
    obtain ⟨hr20_a, hr20_l, hr20_c, hr20_m⟩ := hr20_
    unfold maxLen at hr20_m
    have hroa := hr20_a
    obtain ⟨wn, hwn⟩ : ∃ k_ : Nat, k_ = Int.toNat (c - a) := ⟨_, rfl⟩
    rw [har0] at hN
    refine cont_rowEq (k := .u32) 9 (px) (wrS W a b wn xs2 px (0 * wn)) rfl (by rw [Nat.zero_mul]; rfl) ?_
    refine cont_recast 10 (.int .i64 b) (.int .i64 (b + ((0 : Nat) : Int))) rfl (congrArg (Value.int .i64) (by omega)) ?_
    refine cont_loop (α := Nat × Option Addr × Nat × Nat) (fun x_ : Nat × Option Addr × Nat × Nat => b + (x_.1 : Int) ≤ d ∧ x_.2.2.1 = k - x_.1 * wn ∧ x_.2.2.1 ≤ x_.2.2.2 ∧ (0 < x_.2.2.1 → x_.2.1 = some ⟨gw, 0 + (x_.1 * wn) * 1, none⟩)) (fun x_ : Nat × Option Addr × Nat × Nat => [(0, .pointer (some ⟨m, 0, none⟩)), (4, .pointer (some ⟨b2, 0, none⟩)), (6, .pointer (some ⟨b3, 0, none⟩)), (7, .pointer (some ⟨b7, 0, none⟩)), (10, .int .i64 (b + (x_.1 : Int)))]) (fun x_ : Nat × Option Addr × Nat × Nat => [markE D19_, .ro kb18 [.slice (some ⟨g2, o2, none⟩) n2 cap2] 43, .ro kb29 [.int .i64 4] 3, .gen (rdE (A2) g2 o2 n2 1 (ivals .u8 xs2)), .gen (rowE (Ao) gw k co 28 1 (ivals .u32 (wrL xs2 k)) true), .cells b7 [.slice x_.2.1 x_.2.2.1 x_.2.2.2] 35 true, .cells b3 [.int .i64 0] 23 true, .cells b2 [.int .i64 a, .int .i64 b, .int .i64 c, .int .i64 d] 32 true, .ro m [.int .i64 W, .int .i64 H, .slice (some ⟨r, 0, none⟩) n cap] 84, .gen (rowE (some ⟨r, 0, none⟩) r n cap 28 1 (ivals .u32 (wrS W a b wn xs2 px (x_.1 * wn))) false)]) (fun x_ : Nat × Option Addr × Nat × Nat => (d - b - x_.1).toNat) (0, Ao, k, co) (show b + ((0) : Int) ≤ d ∧ (k) = k - (0) * wn ∧ (k) ≤ (co) ∧ (0 < (k) → (Ao) = some ⟨gw, 0 + ((0) * wn) * 1, none⟩) from ⟨by omega, by omega, by omega, fun h_ => by rw [Nat.zero_mul]; exact hroa h_⟩) (by kernel_rfl) (by kernel_rfl) ?_
    rintro ⟨j, Aj, kn, kc⟩ hinv21_
    replace hinv21_ : b + (j : Int) ≤ d ∧ kn = k - j * wn ∧ kn ≤ kc ∧ (0 < kn → Aj = some ⟨gw, 0 + (j * wn) * 1, none⟩) := hinv21_
    refine cont_norm [(0, .pointer (some ⟨m, 0, none⟩)), (4, .pointer (some ⟨b2, 0, none⟩)), (6, .pointer (some ⟨b3, 0, none⟩)), (7, .pointer (some ⟨b7, 0, none⟩)), (10, .int .i64 (b + (j : Int)))] [markE D19_, .ro kb18 [.slice (some ⟨g2, o2, none⟩) n2 cap2] 43, .ro kb29 [.int .i64 4] 3, .gen (rdE (A2) g2 o2 n2 1 (ivals .u8 xs2)), .gen (rowE (Ao) gw k co 28 1 (ivals .u32 (wrL xs2 k)) true), .cells b7 [.slice Aj kn kc] 35 true, .cells b3 [.int .i64 0] 23 true, .cells b2 [.int .i64 a, .int .i64 b, .int .i64 c, .int .i64 d] 32 true, .ro m [.int .i64 W, .int .i64 H, .slice (some ⟨r, 0, none⟩) n cap] 84, .gen (rowE (some ⟨r, 0, none⟩) r n cap 28 1 (ivals .u32 (wrS W a b wn xs2 px (j * wn))) false)] (by kernel_rfl) rfl ?_
    obtain ⟨hj, hkn, hkc, hAj⟩ := hinv21_
    have hjw : b + (j : Int) < d → j * wn + wn ≤ k := fun h_ => by rw [hwn]; exact area_nat hg1 hg2 (by omega) h_
    have hjx : ∀ q : Nat, (wrS W a b wn xs2 px q).length = n := fun q => by rw [wrS_length]; exact hlen
    have hjl := hjx (j * wn)
    have hpl : b + (j : Int) < d → 0 ≤ (b + (j : Int)) * W ∧ (b + (j : Int)) * W ≤ 65536 ∧ (b + (j : Int)) * W + (W - 1) < n := fun h_ => hok.place (x := W - 1) (y := b + j) (by omega) (by omega) (by omega) (by omega)
    refine cont_seq ?_
    refine cont_seq ?_
    refine cont_region 4 rfl ?_
    refine bS [0, 0, 7, 0] 4 0 [(0, .pointer (some ⟨m, 0, none⟩)), (4, .pointer (some ⟨b2, 0, none⟩)), (6, .pointer (some ⟨b3, 0, none⟩)), (7, .pointer (some ⟨b7, 0, none⟩)), (10, .int .i64 (b + (j : Int))), (63, .bool (decide ((b + (j : Int)) < d)))] ?_
    refine cont_done ?_
    refine then_normal ?_
    refine cont_split 63 (decide ((b + (j : Int)) < d)) rfl (fun c22_ => ?_) (fun c22_ => ?_)
    ·
      replace c22_ := of_decide_eq_true c22_
      refine cont_true rfl ?_
      refine cont_skip ?_
      refine then_normal ?_
      refine cont_seq ?_
      refine cont_block ?_
      refine cont_seq ?_
      have hjw2 := hjw (by omega)
      obtain ⟨hpl1, hpl2, hpl3⟩ := hpl (by omega)
      refine drawn_enter 10 [9] rfl (by kernel_rfl) ?_
      refine takes 0 [9] [(0, 0), (1, 0), (2, 0), (4, 0), (7, 5), (3, 7), (5, 7)] 3 [5, 3, 7, 4, 2, 1, 0] [(0, .pointer (some ⟨m, 0, none⟩)), (4, .pointer (some ⟨b2, 0, none⟩)), (6, .pointer (some ⟨b3, 0, none⟩)), (7, .pointer (some ⟨b7, 0, none⟩)), (10, .int .i64 (b + (j : Int))), (66, .pointer (some ⟨m, 0, none⟩)), (67, .int .i64 (b + (j : Int))), (69, .int .i64 a), (71, .int .i64 c), (73, .slice Aj kn kc)] (by kernel_rfl) (pok_then (pok_blk (pok_then (pok_then (pok_blk (pok_then pok_np)))))) (by kernel_rfl) rfl rfl (by kernel_rfl) (by kernel_rfl) ?_
      refine drawn_one 6 2 rfl (by kernel_rfl) ?_
      refine call_pure (d := 72) (.slice (sliceA r 0 (Int.toNat ((b + (j : Int)) * W + a)) cap 1) (Int.toNat ((b + (j : Int)) * W + c) - Int.toNat ((b + (j : Int)) * W + a)) (cap - Int.toNat ((b + (j : Int)) * W + a))) (by kernel_rfl) (fun w hT => imgRow m W H r n cap (wrS W a b wn xs2 px (j * wn)) (b + (j : Int)) a c w ⟨hT.ok 8 _ rfl, Row.rd (hT.ok 9 _ rfl), Row.capLe (hT.ok 9 _ rfl)⟩ (wrS_in hok _) (by omega)) ?_
      refine drawn_next 0 [9] (by kernel_rfl) ?_
      refine drawn_one 8 1 rfl (by kernel_rfl) ?_
      refine sem_stepW 74 (Builtin.copy_ #[35, 35] 3 #[.slice (sliceA r 0 (Int.toNat ((b + (j : Int)) * W + a)) cap 1) (Int.toNat ((b + (j : Int)) * W + c) - Int.toNat ((b + (j : Int)) * W + a)) (cap - Int.toNat ((b + (j : Int)) * W + a)), .slice Aj kn kc]) (fun _ => .int .i64 ((min kn (Int.toNat ((b + (j : Int)) * W + c) - Int.toNat ((b + (j : Int)) * W + a)) : Nat) : Int)) (fun _ => [markE D19_, .ro kb18 [.slice (some ⟨g2, o2, none⟩) n2 cap2] 43, .ro kb29 [.int .i64 4] 3, .gen (rdE (A2) g2 o2 n2 1 (ivals .u8 xs2)), .gen (rowE (Ao) gw k co 28 1 (ivals .u32 (wrL xs2 k)) true), .cells b7 [.slice Aj kn kc] 35 true, .cells b3 [.int .i64 0] 23 true, .cells b2 [.int .i64 a, .int .i64 b, .int .i64 c, .int .i64 d] 32 true, .ro m [.int .i64 W, .int .i64 H, .slice (some ⟨r, 0, none⟩) n cap] 84, .gen (rowE (some ⟨r, 0, none⟩) r n cap 28 1 (ivals .u32 (wrS W a b wn xs2 px ((j + 1) * wn))) false)]) (fun _ => True) (by kernel_rfl) (fun w hT => copy_row (o := 0 + (Int.toNat ((b + (j : Int)) * W + a)) * 1) hT (i := 9) rfl (by kernel_rfl) (by kernel_rfl) (fun h_ => sliceA_pos (by omega)) (by omega) (Row.subA (hT.ok 4 _ rfl) (by omega) hAj) (wrS_row (H := H) (d := d) hok ⟨by omega, by omega, by omega, by omega, by omega⟩ (by omega) hwn hjw2 hkn (by omega) rfl)) (fun _ _ => ?_)
      refine drawn_next 0 [9] (by kernel_rfl) ?_
      refine takes 0 [9] [(9, 0)] 0 [9, 8, 6, 5, 3, 7, 4, 2, 1, 0] [(0, .pointer (some ⟨m, 0, none⟩)), (4, .pointer (some ⟨b2, 0, none⟩)), (6, .pointer (some ⟨b3, 0, none⟩)), (7, .pointer (some ⟨b7, 0, none⟩)), (10, .int .i64 (b + (j : Int))), (11, .int .i64 ((min kn (Int.toNat ((b + (j : Int)) * W + c) - Int.toNat ((b + (j : Int)) * W + a)) : Nat) : Int))] (by kernel_rfl) (pok_then (pok_blk (pok_then (pok_then (pok_blk (pok_then pok_np)))))) (by kernel_rfl) rfl rfl (by kernel_rfl) (by kernel_rfl) ?_
      refine drawn_done (by kernel_rfl) ?_
      refine then_normal ?_
      refine cont_region 4 rfl ?_
      refine cont_recast 11 (.int .i64 ((min kn (Int.toNat ((b + (j : Int)) * W + c) - Int.toNat ((b + (j : Int)) * W + a)) : Nat) : Int)) (.int .i64 (wn : Int)) rfl (congrArg (Value.int .i64) (by omega)) ?_
      refine bS [5, 0] 2 2 [(0, .pointer (some ⟨m, 0, none⟩)), (4, .pointer (some ⟨b2, 0, none⟩)), (6, .pointer (some ⟨b3, 0, none⟩)), (7, .pointer (some ⟨b7, 0, none⟩)), (10, .int .i64 (b + (j : Int))), (75, .slice Aj kn kc), (76, .int .i64 (wn : Int))] ?_
      refine pl_step 3 1 rfl rfl ?_
      refine cont_recast 75 (.slice Aj kn kc) (.slice (some ⟨gw, 0 + (j * wn) * 1, none⟩) kn kc) rfl (by rw [hAj (by omega)]) ?_
      refine sem_step 77 (Instr.sliceAt 35 (.slice (some ⟨gw, 0 + (j * wn) * 1, none⟩) kn kc) (some (.int .i64 (wn : Int))) none none) (.slice (sliceA gw (0 + (j * wn) * 1) wn kc 1) (kn - wn) (kc - wn)) (by kernel_rfl) (fun w hT => run_sliceLoC (e := 28) (sz := 1) _ (by kernel_rfl) (by kernel_rfl) (by omega) (by omega) (by omega) (by omega) w) ?_
      refine batch0 [5] 4 0 [(0, .pointer (some ⟨m, 0, none⟩)), (4, .pointer (some ⟨b2, 0, none⟩)), (6, .pointer (some ⟨b3, 0, none⟩)), (7, .pointer (some ⟨b7, 0, none⟩)), (10, .int .i64 (b + (j : Int)))] [markE D19_, .ro kb18 [.slice (some ⟨g2, o2, none⟩) n2 cap2] 43, .ro kb29 [.int .i64 4] 3, .gen (rdE (A2) g2 o2 n2 1 (ivals .u8 xs2)), .gen (rowE (Ao) gw k co 28 1 (ivals .u32 (wrL xs2 k)) true), .cells b7 [.slice (sliceA gw (0 + (j * wn) * 1) wn kc 1) (kn - wn) (kc - wn)] 35 true, .cells b3 [.int .i64 0] 23 true, .cells b2 [.int .i64 a, .int .i64 b, .int .i64 c, .int .i64 d] 32 true, .ro m [.int .i64 W, .int .i64 H, .slice (some ⟨r, 0, none⟩) n cap] 84, .gen (rowE (some ⟨r, 0, none⟩) r n cap 28 1 (ivals .u32 (wrS W a b wn xs2 px ((j + 1) * wn))) false)] rfl rfl (by kernel_rfl) (by kernel_rfl) ?_
      refine cont_done ?_
      refine blk_normal ?_
      refine then_normal ?_
      refine cont_region 3 rfl ?_
      refine bS [0, 0] 2 1 [(0, .pointer (some ⟨m, 0, none⟩)), (4, .pointer (some ⟨b2, 0, none⟩)), (6, .pointer (some ⟨b3, 0, none⟩)), (7, .pointer (some ⟨b7, 0, none⟩)), (65, .int .i64 (IntKind.i64.wrap ((b + (j : Int)) + 1)))] ?_
      refine cont_recast 65 (.int .i64 (IntKind.i64.wrap ((b + (j : Int)) + 1))) (.int .i64 ((b + (j : Int)) + 1)) rfl (wrapI (by omega) (by omega)) ?_
      refine bS [0] 3 0 [(0, .pointer (some ⟨m, 0, none⟩)), (4, .pointer (some ⟨b2, 0, none⟩)), (6, .pointer (some ⟨b3, 0, none⟩)), (7, .pointer (some ⟨b7, 0, none⟩)), (10, .int .i64 ((b + (j : Int)) + 1))] ?_
      refine cont_done ?_
      refine then_normal ?_
      refine cont_recast 10 (.int .i64 ((b + (j : Int)) + 1)) (.int .i64 (b + ((j + 1 : Nat) : Int))) rfl (congrArg (Value.int .i64) (by omega)) ?_
      refine cont_again (j + 1, sliceA gw (0 + (j * wn) * 1) wn kc 1, (kn - wn), (kc - wn)) (show b + ((j + 1) : Int) ≤ d ∧ ((kn - wn)) = k - (j + 1) * wn ∧ ((kn - wn)) ≤ ((kc - wn)) ∧ (0 < ((kn - wn)) → (sliceA gw (0 + (j * wn) * 1) wn kc 1) = some ⟨gw, 0 + ((j + 1) * wn) * 1, none⟩) from ⟨by omega, by rw [Nat.add_mul, Nat.one_mul]; omega, by omega, fun h_ => by rw [sliceA_pos (by omega), show 0 + j * wn * 1 + wn * 1 = 0 + (j + 1) * wn * 1 by rw [Nat.add_mul]; omega]⟩) (show (d - b - (j + 1)).toNat < (d - b - j).toNat from by omega) (by kernel_rfl) (by kernel_rfl)
    replace c22_ := of_decide_eq_false c22_
    refine cont_false rfl ?_
    refine cont_exit ?_
    refine then_exit ?_
    refine then_exit ?_
    refine blk_exit ?_
    refine then_normal ?_
    refine cont_seq ?_
    refine cont_region 1 rfl ?_
    refine bS [6] 1 0 [(6, .pointer (some ⟨b3, 0, none⟩))] ?_
    refine cont_forget 5 rfl ?_
    refine cont_forget 6 rfl ?_
    refine cont_done ?_
    refine then_normal ?_
    refine cont_ret ?_
    refine mark_end 0 rfl (.inl rfl) ?_
    refine cont_norm [(6, .pointer (some ⟨b3, 0, none⟩))] [objE D19_ (.deferred none), .ro kb18 [.slice (some ⟨g2, o2, none⟩) n2 cap2] 43, .ro kb29 [.int .i64 4] 3, .gen (rdE (A2) g2 o2 n2 1 (ivals .u8 xs2)), .gen (rowE (Ao) gw k co 28 1 (ivals .u32 (wrL xs2 k)) true), .cells b3 [.int .i64 0] 23 true, .ro m [.int .i64 W, .int .i64 H, .slice (some ⟨r, 0, none⟩) n cap] 84, .gen (rowE (some ⟨r, 0, none⟩) r n cap 28 1 (ivals .u32 (wrS W a b wn xs2 px (j * wn))) false)] (by kernel_rfl) rfl ?_
    refine ret_one (.inl rfl) rfl 5 (.int .i64 0) (by kernel_rfl) (by kernel_rfl) (fun w hT => ?_)
    replace hT := hT.erase 5 (fun e h hw => by cases h; first | rfl | cases hw)
    replace hT := hT.erase 4 (fun e h hw => by cases h; first | rfl | cases hw)
    replace hT := hT.erase 3 (fun e h hw => by cases h; first | rfl | cases hw)
    replace hT := hT.erase 2 (fun e h hw => by cases h; first | rfl | cases hw)
    replace hT := hT.erase 1 (fun e h hw => by cases h; first | rfl | cases hw)
    replace hT := hT.erase 0 (fun e h hw => by cases h; first | rfl | cases hw)
    have hE : wrE W H a b c d xs2 = 0 := wrE_ok hg (by omega) (N := k) (by omega) hokn
    have hjk : j * wn = k := by rw [hwn]; exact area_end hg1 hg2 (by omega) (by omega)
    rw [hjk, hwn] at hT
    exact ⟨ret_int hE.symm, by rw [wrA_yes hE, show xs2.length / 4 = k by omega]; exact hT⟩
  ·
    rintro D23_ ⟨⟩ hinv24_
    replace hinv24_ : ∃ k_, k_ < N ∧ mayB (mkB xs2 k_) = false := by simpa using hinv24_
    refine cont_norm [(6, .pointer (some ⟨b3, 0, none⟩))] [markE D23_, .cells b3 [.int .i64 1] 23 true, .ro m [.int .i64 W, .int .i64 H, .slice (some ⟨r, 0, none⟩) n cap] 84, .gen (rowE (some ⟨r, 0, none⟩) r n cap 28 1 (ivals .u32 px) false)] (by kernel_rfl) rfl ?_
    refine blk_ret ?_
    refine then_ret ?_
    refine mark_end 0 rfl (.inl rfl) ?_
    refine cont_norm [(6, .pointer (some ⟨b3, 0, none⟩))] [objE D23_ (.deferred none), .cells b3 [.int .i64 1] 23 true, .ro m [.int .i64 W, .int .i64 H, .slice (some ⟨r, 0, none⟩) n cap] 84, .gen (rowE (some ⟨r, 0, none⟩) r n cap 28 1 (ivals .u32 px) false)] (by kernel_rfl) rfl ?_
    refine ret_one (.inl rfl) rfl 1 (.int .i64 1) (by kernel_rfl) (by kernel_rfl) (fun w hT => ?_)
    replace hT := hT.erase 1 (fun e h hw => by cases h; first | rfl | cases hw)
    replace hT := hT.erase 0 (fun e h hw => by cases h; first | rfl | cases hw)
    obtain ⟨k_, hk1_, hk2_⟩ := hinv24_
    have hE : wrE W H a b c d xs2 = 1 := wrE_bad hg (by omega) (N := N) (by omega) hk1_ hk2_
    exact ⟨ret_int hE.symm, by rw [wrA_no (by rw [hE]; decide)]; exact hT⟩
  ·
    rintro D_ id_ c_ h_; simp at h_

end Go.Proofs.Ytommojgfkkoghaa
