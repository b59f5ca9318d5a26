/- Contracts of functions of the given program, printed by a program of this project. -/
import Derived.Test.YtekgdfaggagfmaaPeL11
import Derived.Test.YtekgdfaggagfmaaPeRo3
import Derived.Test.YtekgdfaggagfmaaProg
set_option linter.unusedVariables false
set_option linter.unusedSimpArgs false
namespace Go.Proofs.Ytekgdfaggagfmaa
open Go Go.RowKit
set_option maxRecDepth 100000
set_option maxHeartbeats 8000000

theorem idsOf (h bm : Nat) (most : Int) (l : IL) (k : Int) (w : World) (hT0 : Tab w w [.ro h [.int .i64 most, .map (some bm)] 54, .gen (mapR bm (imsV l))]) (hok : IdsOk most l) :
    Calls Try.prog 16 #[.pointer (some ⟨h, 0, none⟩), .int .i64 k] w fun e w' => ∃ (A_ : Option Addr) (g_ k_ cp_ : Nat), e = .returned (.slice A_ k_ cp_) ∧ Tab w w' [.gen (rowE (A_) g_ k_ cp_ 3 1 (ivals .i64 (ofL l k)) true)] := by
 have hmx1 := hok.le
 have hmx2 := hok.hi
 refine enter 28 [(0, .pointer (pB h)), (1, iq k)] [.ro h [iq most, .map (some bm)] 54, .gen (mapR bm (imsV l))] Try.func16 rfl Try.ntmps16 rfl (by kernel_rfl) hT0 ?_
 refine cont_seq ?_
 refine cont_region 1 rfl ?_
 refine bS [0] 1 0 [(0, .pointer (pB h)), (1, iq k)] ?_
 refine cont_done ?_
 refine then_normal ?_
 refine cont_seq ?_
 refine cont_region 1 rfl ?_
 refine bS [0] 1 0 [(0, .pointer (pB h)), (1, iq k), (5, .slice none 0 0)] ?_
 refine cont_done ?_
 refine then_normal ?_
 refine cont_seq ?_
 refine cont_seq ?_
 refine cont_region 5 rfl ?_
 refine bS [0, 0, 0, 0] 4 1 [(1, iq k), (5, .slice none 0 0), (11, .map (some bm))] ?_
 refine pl_step 5 0 rfl rfl ?_
 refine cont_openMap 1 (l := l) rfl (fun es1 ck1 hMF1 => ?_)
 refine cont_norm [(1, iq k), (5, .slice none 0 0), (11, .map (some bm))] _ (by kernel_rfl) rfl ?_
 refine sem_range 12 (m := 1) (t := 52) (k := 3) (e := 3) (by kernel_rfl) (by kernel_rfl) rfl (fun ri1 => ?_)
 refine cont_done ?_
 refine then_normal ?_
 refine cont_block ?_
 refine cont_nilrow 3 1 ?_
 refine cont_norm [(1, iq k), (5, .slice none 0 0), (11, .map (some bm)), (12, .pointer (pB ri1))] _ (by kernel_rfl) rfl ?_
 refine cont_rowEq (k := .i64) 0 ([]) (keysK [] k) rfl rfl ?_
 refine cont_loop (α := Array Nat × IL × Option Addr × Nat × Nat × Nat) (fun x_ : Array Nat × IL × Option Addr × Nat × Nat × Nat => IterP es1 l x_.1 x_.2.1) (fun x_ : Array Nat × IL × Option Addr × Nat × Nat × Nat => [(1, iq k), (5, .slice x_.2.2.1 x_.2.2.2.2.1 x_.2.2.2.2.2), (12, .pointer (pB ri1))]) (fun x_ : Array Nat × IL × Option Addr × Nat × Nat × Nat => [.gen (rowE (x_.2.2.1) x_.2.2.2.1 x_.2.2.2.2.1 x_.2.2.2.2.2 3 1 (ivals .i64 (keysK x_.2.1 k)) true), objE ri1 (.mapIter (some bm) ck1 x_.1 ck1), .ro h [iq most, .map (some bm)] 54, roObjE bm (.map es1 ck1)]) (fun x_ : Array Nat × IL × Option Addr × Nat × Nat × Nat => l.length - x_.2.1.length) (#[], [], none, 0, 0, 0) (show IterP es1 l (#[]) ([]) from (IterP.start hMF1)) (by kernel_rfl) (by kernel_rfl) ?_
 rintro ⟨sn, dn, A, g, kn, cp⟩ hinv3_
 replace hinv3_ : IterP es1 l sn dn := hinv3_
 refine cont_norm [(1, iq k), (5, .slice A kn cp), (12, .pointer (pB ri1))] _ (by kernel_rfl) rfl ?_
 have hIP := hinv3_
 have hil := hIP.len
 have hkl := keysK_len dn k
 refine cont_seq ?_
 refine cont_region 2 rfl ?_
 refine pl_step 1 1 rfl rfl ?_
 refine sem_next 13 (j := 1) (m := 3) (ty := 0) (by kernel_rfl) rfl rfl hMF1 hIP (fun hpm => ?_) (fun xk_ vk_ sn2 hxm hIP2 hls => ?_)
 ·
  refine bS [0] 2 0 [(1, iq k), (5, .slice A kn cp), (12, .pointer (pB ri1)), (14, .bool false)] ?_
  refine cont_done ?_
  refine then_normal ?_
  refine cont_seq ?_
  refine cont_false rfl ?_
  refine cont_exit ?_
  refine then_exit ?_
  refine then_exit ?_
  refine blk_exit ?_
  refine then_normal ?_
  refine cont_seq ?_
  refine cont_region 2 rfl ?_
  refine cont_fact (F := (0 < kn → (A : Option Addr) = pB g) ∧ (keysK dn k).length = kn ∧ kn ≤ cp ∧ cp ≤ maxLen) (fun w hT => Row.facts (hT.ok 0 _ rfl)) (fun hr4_ => ?_)
  obtain ⟨hr4_a, hr4_l, hr4_c, hr4_m⟩ := hr4_
  unfold maxLen at hr4_m
  refine bS [0] 1 1 [(5, .slice A kn cp), (25, .slice A kn cp)] ?_
  refine pl_step 2 0 rfl rfl ?_
  refine call_gen (d := 26) (α := Unit) (fun _ => .tuple #[]) (fun _ => [.gen (rowE (A) g kn cp 3 1 (ivals .i64 (sortL (keysK dn k))) true), objE ri1 (.mapIter (some bm) ck1 sn ck1), .ro h [iq most, .map (some bm)] 54, roObjE bm (.map es1 ck1)]) (fun _ => True) (by kernel_rfl) (fun w hT => (sortRow A g kn cp (keysK dn k) w (hT.view (.cons (i := 0) rfl Vw.row .nil) (by decide)) (by omega)).mono fun e w' ⟨he_, ht_⟩ => ⟨(), he_, trivial, hT.merge (N := []) (s := [0]) ht_ (.cons (i := 0) rfl Mg.row .nil) (by decide) (fun i e h => by simp at h)⟩) (fun _ _ => ?_)
  refine cont_done ?_
  refine then_normal ?_
  refine cont_seq ?_
  refine cont_region 2 rfl ?_
  refine bS [0, 0] 2 0 [(4, .slice A kn cp)] ?_
  refine cont_done ?_
  refine then_normal ?_
  refine cont_ret ?_
  refine ret_one (.inl rfl) rfl 0 (.slice A kn cp) (by kernel_rfl) (by kernel_rfl) (fun w hT => ?_)
  replace hT := hT.erase 3 (fun e h hw => by cases h; first | rfl | cases hw)
  replace hT := hT.erase 2 (fun e h hw => by cases h; first | rfl | cases hw)
  replace hT := hT.erase 1 (fun e h hw => by cases h; first | rfl | cases hw)
  rw [show sortL (keysK dn k) = ofL l k from sortL_perm (keysK_perm hpm k)] at hT
  exact ⟨_, _, _, _, rfl, hT⟩
 ·
  refine cont_norm [(1, iq k), (5, .slice A kn cp), (12, .pointer (pB ri1)), (13, .tuple #[.bool true, iq xk_, iq vk_])] _ (by kernel_rfl) rfl ?_
  refine bS [0] 2 0 [(1, iq k), (5, .slice A kn cp), (12, .pointer (pB ri1)), (14, .bool true)] ?_
  refine cont_done ?_
  refine then_normal ?_
  refine cont_seq ?_
  refine cont_true rfl ?_
  refine cont_skip ?_
  refine then_normal ?_
  refine cont_block ?_
  refine cont_seq ?_
  refine cont_region 5 rfl ?_
  refine pl_step 1 4 rfl rfl ?_
  refine sem_step 15 (Instr.entry (.pointer (pB ri1))) (.tuple #[iq xk_, iq vk_]) (by kernel_rfl) (fun w hT => run_entryL (hT.ok 1 _ rfl) (hT.ok 3 _ rfl) hMF1 hls) ?_
  refine bS [0, 0, 0, 0] 5 0 [(1, iq k), (5, .slice A kn cp), (6, iq xk_), (7, iq vk_), (12, .pointer (pB ri1))] ?_
  refine cont_done ?_
  refine then_normal ?_
  refine cont_seq ?_
  refine cont_region 3 rfl ?_
  refine bS [0, 0, 0] 3 0 [(1, iq k), (5, .slice A kn cp), (6, iq xk_), (12, .pointer (pB ri1)), (20, .bool (vk_ == k))] ?_
  refine cont_done ?_
  refine then_normal ?_
  refine cont_split 20 (vk_ == k) rfl (fun c5_ => ?_) (fun c5_ => ?_)
  ·
   replace c5_ := eq_of_beqt c5_
   have hB_ : (vk_ == k) = true := (by simpa using c5_)
   refine cont_true rfl ?_
   refine cont_region 5 rfl ?_
   refine cont_fact (F := (0 < kn → (A : Option Addr) = pB g) ∧ (keysK dn k).length = kn ∧ kn ≤ cp ∧ cp ≤ maxLen) (fun w hT => Row.facts (hT.ok 0 _ rfl)) (fun hr6_ => ?_)
   obtain ⟨hr6_a, hr6_l, hr6_c, hr6_m⟩ := hr6_
   unfold maxLen at hr6_m
   refine batch1 [0, 0, 0] 3 2 (fun b7 => [(1, iq k), (12, .pointer (pB ri1)), (21, .slice A kn cp), (23, .slice (pB b7) 1 1)]) (fun b7 => [.cells b7 [iq xk_] 3 true, .gen (rowE (A) g kn cp 3 1 (ivals .i64 (keysK dn k)) true), objE ri1 (.mapIter (some bm) ck1 sn2 ck1), .ro h [iq most, .map (some bm)] 54, roObjE bm (.map es1 ck1)]) rfl rfl [1, 12, 21, 23] (fun _ => rfl) (fun b7 => by kernel_rfl) (fun b7 => by kernel_rfl) (fun b7 => ?_)
   refine pl_step 4 1 rfl rfl ?_
   refine sem_stepW (α := Option Addr × Nat × Nat) 24 (Builtin.append_ #[32, 32] 32 #[.slice A kn cp, .slice (pB b7) 1 1]) (fun x_ => .slice x_.1 (kn + 1) x_.2.2) (fun x_ => [.cells b7 [iq xk_] 3 true, .gen (rowE (x_.1) x_.2.1 (kn + 1) x_.2.2 3 1 (ivals .i64 ((keysK dn k) ++ [xk_])) true), objE ri1 (.mapIter (some bm) ck1 sn2 ck1), .ro h [iq most, .map (some bm)] 54, roObjE bm (.map es1 ck1)]) (fun _ => True) (by kernel_rfl) (fun w hT => append_own (n' := (kn + 1)) (z := iq 0) hT (i := 1) (bytes := 8) rfl (by kernel_rfl) (by kernel_rfl) rfl (by decide) (by decide) (Rd.ofCells (vals := ivals .i64 [xk_]) (hT.ok 0 _ rfl) rfl rfl) (ivals_one .i64 [xk_]) (by omega) (ivals_append .i64 (keysK dn k) [xk_]) rfl) ?_
   rintro ⟨A8, g8, cp8⟩ -
   refine cont_norm [(1, iq k), (12, .pointer (pB ri1)), (21, .slice A kn cp), (23, .slice (pB b7) 1 1), (24, .slice A8 (kn + 1) cp8)] _ (by kernel_rfl) rfl ?_
   refine cont_fact (F := (0 < (kn + 1) → (A8 : Option Addr) = pB g8) ∧ ((keysK dn k) ++ [xk_]).length = (kn + 1) ∧ (kn + 1) ≤ cp8 ∧ cp8 ≤ maxLen) (fun w hT => Row.facts (hT.ok 1 _ rfl)) (fun hr9_ => ?_)
   obtain ⟨hr9_a, hr9_l, hr9_c, hr9_m⟩ := hr9_
   unfold maxLen at hr9_m
   refine bS [0] 5 0 [(1, iq k), (5, .slice A8 (kn + 1) cp8), (12, .pointer (pB ri1))] ?_
   refine cont_forget 0 rfl ?_
   refine cont_done ?_
   refine blk_normal ?_
   refine then_normal ?_
   refine cont_rowEq (k := .i64) 0 ((keysK dn k) ++ [xk_]) (keysK (dn ++ [(xk_, vk_)]) k) rfl (keysK_yes hB_) ?_
   refine cont_again (sn2, dn ++ [(xk_, vk_)], A8, g8, (kn + 1), cp8) (show IterP es1 l (sn2) (dn ++ [(xk_, vk_)]) from hIP2) (show l.length - (dn ++ [(xk_, vk_)]).length < l.length - dn.length from by have h_ := hIP2.len; rw [List.length_append, List.length_singleton] at h_ ⊢; omega) (by kernel_rfl) (by kernel_rfl)
  replace c5_ := ne_of_beqf c5_
  have hB_ : (vk_ == k) = false := (by simpa using c5_)
  refine cont_false rfl ?_
  refine cont_skip ?_
  refine blk_normal ?_
  refine then_normal ?_
  refine cont_rowEq (k := .i64) 0 (keysK dn k) (keysK (dn ++ [(xk_, vk_)]) k) rfl (keysK_no hB_) ?_
  refine cont_again (sn2, dn ++ [(xk_, vk_)], A, g, kn, cp) (show IterP es1 l (sn2) (dn ++ [(xk_, vk_)]) from hIP2) (show l.length - (dn ++ [(xk_, vk_)]).length < l.length - dn.length from by have h_ := hIP2.len; rw [List.length_append, List.length_singleton] at h_ ⊢; omega) (by kernel_rfl) (by kernel_rfl)

end Go.Proofs.Ytekgdfaggagfmaa

