/- Texts of this proof's own, put together: what each holds is told ahead of it. -/
import Derived.Test.YtlfahohbkgdabaaPhG2
import Derived.Test.YtlfahohbkgdabaaProg
import Derived.Test.YtlfahohbkgdabaaPhG1
import Derived.Test.YtlfahohbkgdabaaPhG0
import Derived.Test.YtlfahohbkgdabaaRows
import Derived.ProofKit
import Derived.OpenShut
import Derived.Carry
import Derived.ChangeSame
import Derived.ChangeSlices
import Derived.Deep.Slices
import Derived.Deep.Fields
import Derived.Lib.SmallJoins
set_option linter.unusedSimpArgs false
set_option linter.unusedVariables false
namespace Go.Proofs.Ytlfahohbkgdabaa
open Go Go.RowKit
set_option maxRecDepth 100000
set_option maxHeartbeats 8000000
theorem keepOf (p q : Bool) (w : World) :
    Calls Try.prog 95 #[.bool p, .bool q] w fun e w' => e = .returned (.bool (fstB p q)) ∧ Below w.heap.size w w' := by
 refine eN [(0, .bool p)] Try.func95 Try.ntmps95 rfl (Tab.start w) ?_
 refine zSR 1 <| bD [0] 1 0 [] [4] <| zDNSR 2 <| bS [0, 0] 2 0 [(4, .bool p)] <| zDNr <| rA rfl 0 (.bool p) fun w hT => ?_
 exact ⟨ret_bool (by simp [fstB, *]), hT.post rfl⟩
theorem keepAnd (p q : Bool) (w : World) :
    Calls Try.prog 87 #[.bool p, .bool q] w fun e w' => e = .returned (.bool (andB p q)) ∧ Below w.heap.size w w' := by
 refine eN [(0, .bool p), (1, .bool q)] Try.func87 Try.ntmps87 rfl (Tab.start w) ?_
 refine zSR 1 <| bD [0] 1 0 [] [4] <| zDNSR 5 <| bD [0, 0] 2 3 [(6, .bool p)] [5] <| cSp 6 _ rfl (fun c1_ => ?_) fun c1_ => ?_
 ·
  refine bS [0, 0, 0] 5 0 [(4, .bool q)] <| zDNr <| rA rfl 0 (.bool q) fun w hT => ?_
  exact ⟨ret_bool (by simp [andB, *]), hT.post rfl⟩
 refine bS [0, 0, 0] 5 0 [(4, .bool false)] <| zDNr <| rA rfl 0 (.bool false) fun w hT => ?_
 exact ⟨ret_bool (by simp [andB, *]), hT.post rfl⟩
theorem keepLess (p q : Bool) (w : World) :
    Calls Try.prog 103 #[.bool p, .bool q] w fun e w' => e = .returned (.bool (lessB p q)) ∧ Below w.heap.size w w' := by
 refine eN [(0, .bool p), (1, .bool q)] Try.func103 Try.ntmps103 rfl (Tab.start w) ?_
 refine zSR 1 <| bD [0] 1 0 [] [4] <| zDNSR 6 <| bD [0, 0] 2 4 [(6, .bool p)] [5] <| cSp 6 _ rfl (fun c1_ => ?_) fun c1_ => ?_
 ·
  refine bS [0, 0, 0, 0] 6 0 [(4, .bool (!q))] <| zDNr <| rA rfl 0 (.bool (!q)) fun w hT => ?_
  exact ⟨ret_bool (by simp [lessB, *]), hT.post rfl⟩
 refine bS [0, 0, 0, 0] 6 0 [(4, .bool false)] <| zDNr <| rA rfl 0 (.bool false) fun w hT => ?_
 exact ⟨ret_bool (by simp [lessB, *]), hT.post rfl⟩
theorem cloneR (A : Option Addr) (g o n cap : Nat) (xs : List Rect) (w : World) (hT0 : Tab w w [rD (A) g o n 4 (rvals xs)]) (hn : n ≤ 1000000000000) :
    Calls Try.prog 93 #[.slice A n cap] w fun e w' => ∃ (A_ : Option Addr) (g_ k_ cp_ : Nat), e = .returned (.slice A_ k_ cp_) ∧ Tab w w' [.gen (rowE (A_) g_ k_ cp_ 53 4 (rvals xs) true)] := by
 obtain ⟨hra, hrl⟩ := Rd.factsR (hT0.ok 0 _ rfl)
 refine eN [(0, .slice A n cap)] Try.func93 Try.ntmps93 rfl hT0 ?_
 refine zSR 1 <| bD [0] 1 0 [] [2] <| zDNSSR 2 <| bD [0] 1 1 [(3, .slice A n cap)] [] <| pS 2 0 <| sS 4 (bopS .eql 58 (.tmp 3) (.const (.slice none 0 0)) (.slice A n cap) (.slice none 0 0)) (.bool A.isNone) (fun w hT => run_eqNil (e := 53) (by kernel_rfl) w) <| zDN <| cSp 4 _ rfl (fun c1_ => ?_) fun c1_ => ?_
 ·
  have hn0 : n = 0 := by rcases Nat.eq_zero_or_pos n with h_ | h_; exact h_; rw [hra h_] at c1_; cases c1_
  refine zTSR 1 <| bS [0] 1 0 [(2, .slice none 0 0)] <| zDNrt <| rA rfl 0 (.slice none 0 0) fun w hT => ?_
  replace hT := hT.erase 0 (fun e h hw => by cases h; first | rfl | cases hw)
  have hx0 : xs = [] := List.length_eq_zero_iff.1 (by omega)
  subst hx0
  exact ⟨none, 0, 0, 0, rfl, hT.nilR _ _⟩
 refine zFKNSR 4 <| bW [0, 0] 2 2 (fun b2 => [(5, .slice (pB b2) 0 0), (6, .slice A n cap)]) (fun b2 => [.cells b2 [] 53 true, rD (A) g o n 4 (rvals xs)]) [5, 6] fun b2 => ?_
 refine pS 3 1 <| cont_asRow 0 0 4 rfl (vals := rvals []) rfl rfl (by decide) ?_
 refine sSW (α := Option Addr × Nat × Nat) 7 (Builtin.append_ #[58, 58] 58 #[.slice (pB b2) 0 0, .slice A n cap]) (fun x_ => .slice x_.1 n x_.2.2) (fun x_ => [.gen (rowE (x_.1) x_.2.1 n x_.2.2 53 4 (rvals xs) true), rD (A) g o n 4 (rvals xs)]) (fun _ => True) (by kernel_rfl) (fun w hT => append_own (n' := n) (z := .agg #[iq 0, iq 0, iq 0, iq 0]) hT (i := 0) (bytes := 32) rfl (by kernel_rfl) (by kernel_rfl) rfl (by decide) (by decide) (hT.ok 1 _ rfl) (rvals_one xs) (by omega) rfl (Nat.zero_add _).symm) ?_
 rintro ⟨A3, g3, cp3⟩ -
 refine fR 0 n A3 g3 cp3 xs rfl fun hr4_a hr4_l hr4_c hr4_m => ?_
 refine bS [0] 4 0 [(2, .slice A3 n cp3)] <| zDNr <| rA rfl 0 (.slice A3 n cp3) fun w hT => ?_
 replace hT := hT.erase 1 (fun e h hw => by cases h; first | rfl | cases hw)
 exact ⟨_, _, _, _, rfl, hT⟩
theorem deleteR (A : Option Addr) (g n cap : Nat) (xs : List Rect) (fk : FuncId) (p : Rect → Bool) (w : World) (hT0 : Tab w w [.gen (rowE (A) g n cap 53 4 (rvals xs) false)]) (hE : Enters Try.prog fk) (hf : ∀ (r : Rect) (w : World), Calls Try.prog fk #[.agg #[iQ r.x0, iQ r.y0, iQ r.x1, iQ r.y1]] w fun e w' => e = .returned (.bool (p r)) ∧ Below w.heap.size w w') (hn : n ≤ 1000000000000) :
    Calls Try.prog 92 #[.slice A n cap, .func (.func fk) #[] #[]] w fun e w' => ∃ k_ : Nat, (keptL p xs).length = k_ ∧ e = .returned (.slice A k_ cap) ∧ Tab w w' [.gen (rowE (A) g k_ cap 53 4 (rvals (keptL p xs)) false)] := by
 obtain ⟨hra, hrl, hrc, hrm⟩ := Row.factsR (hT0.ok 0 _ rfl)
 unfold maxLen at hrm
 refine eN [(0, .slice A n cap), (1, .func (.func fk) #[] #[])] Try.func92 Try.ntmps92 rfl hT0 ?_
 refine zSR 1 <| bD [0] 1 0 [] [4] <| zDNSR 4 <| bD [0, 0] 2 2 [(8, .slice A n cap), (9, .func (.func fk) #[] #[])] [] <| pS 3 1 <| cP 10 (iq (idxR p xs)) (fun w hT => idxFuncR0 A g 0 n cap xs fk p w (hT.viewRo (.cons (i := 0) rfl Vw.rowRd .nil) rfl) hE hf (by omega)) <| bD [0] 4 0 [(5, iq (idxR p xs))] [] <| zDNSSR 2 <| bD [0, 0] 2 0 [(12, .bool ((idxR p xs) == (-1)))] [11] <| zDN <| sE 12 rfl (fun c1_ => ?_) fun c1_ => ?_
 ·
  refine zTSR 2 <| bS [0, 0] 2 0 [(4, .slice A n cap)] <| zDNrt <| rA rfl 0 (.slice A n cap) fun w hT => ?_
  refine ⟨n, ?_, rfl, ?_⟩
  · rw [← keptL_none ‹_›]; exact hrl
  · have e_ := keptL_none (p := p) (l := xs) ‹_›
    rw [← e_]; exact hT
 refine zFKNSSR 3 ?_
 have hge : idxR p xs ≠ -1 := ‹_›
 obtain ⟨i0, hi0⟩ : ∃ i_ : Nat, idxR p xs = (i_ : Int) := by
   unfold idxR at hge ⊢
   split
   · exact ⟨_, rfl⟩
   · rename_i h_; rw [if_neg h_] at hge; exact absurd rfl hge
 obtain ⟨hs1, hs2, hs3⟩ := keptL_start hi0
 refine rC 5 (iq (i0 : Int)) rfl (congrArg (Value.int .i64) hi0) <| bD [0, 0] 2 1 [(15, iq (IntKind.i64.wrap ((i0 : Int) + 1)))] [14] <| wI 15 ((i0 : Int) + 1) <| bD [0] 3 0 [(6, iq ((i0 : Int) + 1))] [] <| zDNB <| rC 6 (iq ((i0 + 1 : Nat) : Int)) rfl (congrArg (Value.int .i64) (by omega)) <| cont_rowEqR 0 (xs) (keptL p (xs.take (i0 + 1)) ++ xs.drop (keptL p (xs.take (i0 + 1))).length) rfl hs2 ?_
 refine cL (α := Nat × Nat) (fun x_ : Nat × Nat => x_.1 ≤ n ∧ x_.2 < x_.1 ∧ (keptL p (xs.take x_.1)).length = x_.2) (fun x_ : Nat × Nat => [(0, .slice A n cap), (1, .func (.func fk) #[] #[]), (5, iq (x_.2 : Int)), (6, iq (x_.1 : Int))]) (fun x_ : Nat × Nat => [.gen (rowE (A) g n cap 53 4 (rvals (keptL p (xs.take x_.1) ++ xs.drop (keptL p (xs.take x_.1)).length)) false)]) (fun x_ : Nat × Nat => n - x_.1) (i0 + 1, i0) (show (i0 + 1) ≤ n ∧ (i0) < (i0 + 1) ∧ (keptL p (xs.take (i0 + 1))).length = (i0) from ⟨by omega, by omega, hs3⟩) ?_
 rintro ⟨j, i⟩ hinv2_
 replace hinv2_ : j ≤ n ∧ i < j ∧ (keptL p (xs.take j)).length = i := hinv2_
 obtain ⟨hj, hij, hk⟩ := hinv2_
 refine zSSR 4 <| bD [0, 0, 0, 0] 4 0 [(19, .bool (decide ((j : Int) < (n : Int))))] [16, 17, 18] <| zDN <| sD 19 rfl (fun c3_ => ?_) fun c3_ => ?_
 ·
  refine zTKNSBSR 6 <| bD [0, 0] 2 4 [(22, .slice A n cap), (23, iq (j : Int))] [] <| pS 3 3 <| rC 22 (.slice (pB g) n cap) rfl (by rw [hra (by omega)]) <| sS 24 (Instr.indexAt 58 (.slice (pB g) n cap) (iq (j : Int))) (.pointer (some ⟨g, j * 4, none⟩)) (fun w hT => rI 53 4 w) <| pS 4 2 <| sS 25 (Instr.loadAt 53 (.pointer (some ⟨g, j * 4, none⟩))) (.agg #[iq ((rget (keptL p (xs.take j) ++ xs.drop (keptL p (xs.take j)).length) j).x0), iq ((rget (keptL p (xs.take j) ++ xs.drop (keptL p (xs.take j)).length) j).y0), iq ((rget (keptL p (xs.take j) ++ xs.drop (keptL p (xs.take j)).length) j).x1), iq ((rget (keptL p (xs.take j) ++ xs.drop (keptL p (xs.take j)).length) j).y1)]) (fun w hT => rM 4 (rcells (rget (keptL p (xs.take j) ++ xs.drop (keptL p (xs.take j)).length) j)) (Rd.rect0 (Row.rd (hT.ok 0 _ rfl)) (by first | omega | (rw [List.length_append, List.length_drop]; omega)))) <| bW [0, 0] 6 0 (fun b4 => [(0, .slice A n cap), (1, .func (.func fk) #[] #[]), (5, iq (i : Int)), (6, iq (j : Int)), (7, .pointer (pB b4))]) (fun b4 => [.cells b4 [iq ((rget (keptL p (xs.take j) ++ xs.drop (keptL p (xs.take j)).length) j).x0), iq ((rget (keptL p (xs.take j) ++ xs.drop (keptL p (xs.take j)).length) j).y0), iq ((rget (keptL p (xs.take j) ++ xs.drop (keptL p (xs.take j)).length) j).x1), iq ((rget (keptL p (xs.take j) ++ xs.drop (keptL p (xs.take j)).length) j).y1)] 53 true, .gen (rowE (A) g n cap 53 4 (rvals (keptL p (xs.take j) ++ xs.drop (keptL p (xs.take j)).length)) false)]) [0, 1, 5, 6, 7] fun b4 => ?_
  refine zDNSR 4 <| bD [0, 0] 2 2 [(26, .func (.func fk) #[] #[]), (27, .agg #[iq ((rget (keptL p (xs.take j) ++ xs.drop (keptL p (xs.take j)).length) j).x0), iq ((rget (keptL p (xs.take j) ++ xs.drop (keptL p (xs.take j)).length) j).y0), iq ((rget (keptL p (xs.take j) ++ xs.drop (keptL p (xs.take j)).length) j).x1), iq ((rget (keptL p (xs.take j) ++ xs.drop (keptL p (xs.take j)).length) j).y1)])] [] <| pS 3 1 <| call_pureF (d := 28) (.bool (p (rget (keptL p (xs.take j) ++ xs.drop (keptL p (xs.take j)).length) j))) (by kernel_rfl) hE (fun w hT => hf (rget (keptL p (xs.take j) ++ xs.drop (keptL p (xs.take j)).length) j) w) ?_
  refine bD [0] 4 0 [(29, .bool (!(p (rget (keptL p (xs.take j) ++ xs.drop (keptL p (xs.take j)).length) j))))] [] <| zDN <| cSp 29 _ rfl (fun c5_ => ?_) fun c5_ => ?_
  ·
   replace c5_ : (p (rget (keptL p (xs.take j) ++ xs.drop (keptL p (xs.take j)).length) j)) = false := by simpa using c5_
   have hpj : p (rget xs j) = false := by rw [← kept_get (K := keptL p (xs.take j)) (l := xs) (by omega)]; exact c5_
   refine zTSR 5 <| bD [0, 0, 0] 3 2 [(30, .slice A n cap), (31, iq (i : Int)), (32, .agg #[iq ((rget (keptL p (xs.take j) ++ xs.drop (keptL p (xs.take j)).length) j).x0), iq ((rget (keptL p (xs.take j) ++ xs.drop (keptL p (xs.take j)).length) j).y0), iq ((rget (keptL p (xs.take j) ++ xs.drop (keptL p (xs.take j)).length) j).x1), iq ((rget (keptL p (xs.take j) ++ xs.drop (keptL p (xs.take j)).length) j).y1)])] [] <| fG 0 <| pS 4 1 <| rC 30 (.slice (pB g) n cap) rfl (by rw [hra (by omega)]) <| sS 33 (Instr.indexAt 58 (.slice (pB g) n cap) (iq (i : Int))) (.pointer (some ⟨g, i * 4, none⟩)) (fun w hT => rI 53 4 w) <| pS 5 0 <| sem_stepU (Instr.storeAt 53 (.pointer (some ⟨g, i * 4, none⟩)) (.agg #[iq ((rget (keptL p (xs.take j) ++ xs.drop (keptL p (xs.take j)).length) j).x0), iq ((rget (keptL p (xs.take j) ++ xs.drop (keptL p (xs.take j)).length) j).y0), iq ((rget (keptL p (xs.take j) ++ xs.drop (keptL p (xs.take j)).length) j).x1), iq ((rget (keptL p (xs.take j) ++ xs.drop (keptL p (xs.take j)).length) j).y1)])) (fun _ => [.gen (rowE (A) g n cap 53 4 (rvals ((keptL p (xs.take j) ++ xs.drop (keptL p (xs.take j)).length).set i (⟨(rget (keptL p (xs.take j) ++ xs.drop (keptL p (xs.take j)).length) j).x0, (rget (keptL p (xs.take j) ++ xs.drop (keptL p (xs.take j)).length) j).y0, (rget (keptL p (xs.take j) ++ xs.drop (keptL p (xs.take j)).length) j).x1, (rget (keptL p (xs.take j) ++ xs.drop (keptL p (xs.take j)).length) j).y1⟩ : Rect))) false)]) (fun _ => True) (by kernel_rfl) (fun w hT => store_rectR hT (i := 0) (J := i) (⟨(rget (keptL p (xs.take j) ++ xs.drop (keptL p (xs.take j)).length) j).x0, (rget (keptL p (xs.take j) ++ xs.drop (keptL p (xs.take j)).length) j).y0, (rget (keptL p (xs.take j) ++ xs.drop (keptL p (xs.take j)).length) j).x1, (rget (keptL p (xs.take j) ++ xs.drop (keptL p (xs.take j)).length) j).y1⟩ : Rect) rfl (by kernel_rfl) (by (rw [List.length_append, List.length_drop]; omega))) (fun _ _ => ?_)
   refine zDNR 3 <| bD [0, 0] 2 1 [(35, iq (IntKind.i64.wrap ((i : Int) + 1)))] [34] <| rC 35 (iq ((i + 1 : Nat) : Int)) rfl (by rw [show (((i + 1 : Nat) : Int)) = (i : Int) + 1 by omega]; exact wrapI (by omega) (by omega)) <| bD [0] 3 0 [(5, iq ((i + 1 : Nat) : Int))] [] <| zDbNR 3 <| bD [0, 0] 2 1 [(21, iq (IntKind.i64.wrap ((j : Int) + 1)))] [20] <| rC 21 (iq ((j + 1 : Nat) : Int)) rfl (by rw [show (((j + 1 : Nat) : Int)) = (j : Int) + 1 by omega]; exact wrapI (by omega) (by omega)) <| bD [0] 3 0 [(6, iq ((j + 1 : Nat) : Int))] [] <| zDN <| cont_rowEqR 0 ((keptL p (xs.take j) ++ xs.drop (keptL p (xs.take j)).length).set i (⟨(rget (keptL p (xs.take j) ++ xs.drop (keptL p (xs.take j)).length) j).x0, (rget (keptL p (xs.take j) ++ xs.drop (keptL p (xs.take j)).length) j).y0, (rget (keptL p (xs.take j) ++ xs.drop (keptL p (xs.take j)).length) j).x1, (rget (keptL p (xs.take j) ++ xs.drop (keptL p (xs.take j)).length) j).y1⟩ : Rect)) (keptL p (xs.take (j + 1)) ++ xs.drop (keptL p (xs.take (j + 1))).length) rfl (by rw [kept_get (show (keptL p (xs.take j)).length ≤ j by omega)]; exact (kept_set (rget xs j) hk (by omega)).trans (by rw [keptL_put (by omega) hpj])) ?_
   have hk2 : (keptL p (xs.take (j + 1))).length = i + 1 := by rw [← keptL_put (by omega) hpj, List.length_append, hk]; rfl
   refine cA (j + 1, i + 1) (show (j + 1) ≤ n ∧ (i + 1) < (j + 1) ∧ (keptL p (xs.take (j + 1))).length = (i + 1) from ⟨by omega, by omega, hk2⟩)
  replace c5_ : (p (rget (keptL p (xs.take j) ++ xs.drop (keptL p (xs.take j)).length) j)) = true := by simpa using c5_
  have hpj : p (rget xs j) = true := by rw [← kept_get (K := keptL p (xs.take j)) (l := xs) (by omega)]; exact c5_
  refine zFKbNR 3 <| bD [0, 0] 2 1 [(21, iq (IntKind.i64.wrap ((j : Int) + 1)))] [20] <| rC 21 (iq ((j + 1 : Nat) : Int)) rfl (by rw [show (((j + 1 : Nat) : Int)) = (j : Int) + 1 by omega]; exact wrapI (by omega) (by omega)) <| fG 0 <| bD [0] 3 0 [(6, iq ((j + 1 : Nat) : Int))] [] <| zDN <| cont_rowEqR 0 (keptL p (xs.take j) ++ xs.drop (keptL p (xs.take j)).length) (keptL p (xs.take (j + 1)) ++ xs.drop (keptL p (xs.take (j + 1))).length) rfl (by rw [keptL_skip (by omega) hpj]) ?_
  have hk2 : (keptL p (xs.take (j + 1))).length = i := by rw [← keptL_skip (by omega) hpj]; exact hk
  refine cA (j + 1, i) (show (j + 1) ≤ n ∧ (i) < (j + 1) ∧ (keptL p (xs.take (j + 1))).length = (i) from ⟨by omega, by omega, hk2⟩)
 refine zFXxxeNSR 4 <| bD [0, 0] 2 2 [(36, .slice A n cap), (37, iq (i : Int))] [] <| pS 3 1 <| rC 36 (.slice (pB g) n cap) rfl (by rw [hra (by omega)]) <| sS 38 (Instr.sliceAt 58 (.slice (pB g) n cap) (some (iq (i : Int))) none none) (.slice (sliceA g 0 i cap 4) (n - i) (cap - i)) (fun w hT => run_sliceLo (e := 53) (sz := 4) _ (by kernel_rfl) (by kernel_rfl) (by omega) (by omega) (by omega) (by omega) w) <| pS 4 0 ?_
 obtain ⟨ca_, hca_⟩ : ∃ a_ : Addr, (sliceA g 0 i cap 4) = some a_ := by unfold sliceA; split <;> exact ⟨_, rfl⟩
 refine rC 38 (.slice (some ca_) (n - i) (cap - i)) rfl (by rw [hca_]) <| sem_stepN (Builtin.clear_ #[58] 0 #[.slice (some ca_) (n - i) (cap - i)]) (fun _ => [.gen (rowE (A) g n cap 53 4 (rvals ((keptL p (xs.take j) ++ xs.drop (keptL p (xs.take j)).length).take i ++ List.replicate (n - i) ⟨0, 0, 0, 0⟩ ++ (keptL p (xs.take j) ++ xs.drop (keptL p (xs.take j)).length).drop (i + (n - i)))) false)]) (fun _ => True) (by kernel_rfl) (fun w hT => clear_rowR (J := i) hT (i := 0) rfl (by kernel_rfl) (by kernel_rfl) (fun h_ => Option.some.inj (hca_.symm.trans (by rw [sliceA_pos (by omega)]; simp))) (by omega) rfl) (fun _ _ => ?_)
 refine zDNSR 4 <| bS [0, 0] 2 2 [(39, .slice A n cap), (40, iq (i : Int))] <| pS 3 1 <| rC 39 (.slice (pB g) n cap) rfl (by rw [hra (by omega)]) <| sS 41 (Instr.sliceAt 58 (.slice (pB g) n cap) none (some (iq (i : Int))) none) (.slice (pB g) i cap) (fun w hT => run_sliceHi (e := 53) (sz := 4) _ (by kernel_rfl) (by kernel_rfl) (by omega) (by omega) (by omega) w) <| bS [0] 4 0 [(4, .slice (pB g) i cap)] <| zDNr <| rA rfl 0 (.slice (pB g) i cap) fun w hT => ?_
 refine ⟨i, ?_, by rw [hra (by omega)], ?_⟩
 · rw [← hk, show j = n by omega, List.take_of_length_le (by omega)]
 · exact hT.shrink (i := 0) rfl (k := i) (by omega) (by rw [rvals_take, take_clear hk, show j = n by omega, List.take_of_length_le (by omega)])
theorem regOf (A : Option Addr) (g o n cap : Nat) (xs : List Rect) (w : World) (hT0 : Tab w w [rD (A) g o n 4 (rvals xs)]) (hn : n ≤ 262144) :
    Calls Try.prog 68 #[.slice A n cap] w fun e w' => ∃ (A_ : Option Addr) (g_ k_ cp_ : Nat), e = .returned (.slice A_ k_ cp_) ∧ Tab w w' [.gen (rowE (A_) g_ k_ cp_ 53 4 (rvals (canR xs)) true)] := by
 obtain ⟨hra, hrl⟩ := Rd.factsR (hT0.ok 0 _ rfl)
 refine eN [(0, .slice A n cap)] Try.func68 Try.ntmps68 rfl hT0 ?_
 refine zSR 1 <| bD [0] 1 0 [] [2] <| zDNSR 4 <| bS [0] 1 3 [(3, .slice A n cap)] <| pS 2 2 <| cG (d := 4) (α := Option Addr × Nat × Nat × Nat) (fun x_ => .slice x_.1 x_.2.2.1 x_.2.2.2) (fun x_ => [.gen (rowE (x_.1) x_.2.1 x_.2.2.1 x_.2.2.2 53 4 (rvals xs) true), rD (A) g o n 4 (rvals xs)]) (fun x_ => True) (fun w hT => (cloneR A g o n cap xs w (hT.viewRo (.cons (i := 0) rfl Vw.rd .nil) rfl) (by omega)).mono fun e w' ⟨A1, g2, k3, cp4, he_, ht_⟩ => ⟨(A1, g2, k3, cp4), he_, trivial, hT.news ht_ rfl⟩) ?_
 rintro ⟨A1, g2, k3, cp4⟩ hf5_
 refine fR 0 k3 A1 g2 cp4 xs rfl fun hr6_a hr6_l hr6_c hr6_m => ?_
 refine pS 3 1 <| cG (d := 5) (α := Nat) (fun x_ => .slice A1 x_ cp4) (fun x_ => [.gen (rowE (A1) g2 x_ cp4 53 4 (rvals (keptL emptyR xs)) true), rD (A) g o n 4 (rvals xs)]) (fun x_ => (keptL emptyR xs).length = x_) (fun w hT => (deleteR A1 g2 k3 cp4 xs 94 emptyR w (hT.view (.cons (i := 0) rfl Vw.row .nil) (by decide)) (fun _ => by kernel_rfl) (fun r w => rectEmpty r.x0 r.y0 r.x1 r.y1 w) (by omega)).mono fun e w' ⟨x_, hl_, he_, ht_⟩ => ⟨x_, he_, hl_, hT.merge (N := []) (s := [0]) ht_ (.cons (i := 0) rfl Mg.row .nil) (by decide) (fun i e h => by simp at h)⟩) ?_
 rintro kd7 hkd8_
 replace hkd8_ : (keptL emptyR xs).length = kd7 := hkd8_
 refine fR 0 kd7 A1 g2 cp4 (keptL emptyR xs) rfl fun hr9_a hr9_l hr9_c hr9_m => ?_
 refine bS [0] 4 0 [(0, .slice A1 kd7 cp4)] <| zDNSR 3 ?_
 have hkl := keptL_length emptyR xs
 refine bS [0] 1 2 [(6, .slice A1 kd7 cp4)] <| pS 2 1 <| cont_nilrow 53 4 ?_
 refine cG (d := 7) (α := Option Addr × Nat × Nat × Nat) (fun x_ => .slice x_.1 x_.2.2.1 x_.2.2.2) (fun x_ => [.gen (rowE (x_.1) x_.2.1 x_.2.2.1 x_.2.2.2 53 4 (rvals (regM fstB (keptL emptyR xs) [])) true), .gen (rowE (none) 0 0 0 53 4 (rvals []) true), .gen (rowE (A1) g2 kd7 cp4 53 4 (rvals (keptL emptyR xs)) true), rD (A) g o n 4 (rvals xs)]) (fun x_ => True) (fun w hT => (regMerge A1 g2 0 kd7 cp4 (keptL emptyR xs) none 0 0 0 0 [] 95 fstB w (hT.viewRo (.cons (i := 1) rfl Vw.rowRd (.cons (i := 0) rfl Vw.rowRd .nil)) rfl) (fun _ => by kernel_rfl) (fun p q w => keepOf p q w) (by omega)).mono fun e w' ⟨A11, g12, k13, cp14, he_, ht_⟩ => ⟨(A11, g12, k13, cp14), he_, trivial, hT.news ht_ rfl⟩) ?_
 rintro ⟨A11, g12, k13, cp14⟩ hf15_
 refine fR 0 k13 A11 g12 cp14 (regM fstB (keptL emptyR xs) []) rfl fun hr16_a hr16_l hr16_c hr16_m => ?_
 refine bS [0] 3 0 [(2, .slice A11 k13 cp14)] <| zDNr <| rA rfl 0 (.slice A11 k13 cp14) fun w hT => ?_
 replace hT := hT.erase 3 (fun e h hw => by cases h; first | rfl | cases hw)
 replace hT := hT.erase 2 (fun e h hw => by cases h; first | rfl | cases hw)
 replace hT := hT.erase 1 (fun e h hw => by cases h; first | rfl | cases hw)
 rw [of_eq] at hT
 exact ⟨_, _, _, _, rfl, hT⟩
theorem regCut (A : Option Addr) (g o n cap : Nat) (xs : List Rect) (A' : Option Addr) (g' o' n' cap' : Nat) (xs' : List Rect) (w : World) (hT0 : Tab w w [rD (A) g o n 4 (rvals xs), rD (A') g' o' n' 4 (rvals xs')]) (hn : n + n' ≤ 262144) :
    Calls Try.prog 63 #[.slice A n cap, .slice A' n' cap'] w fun e w' => ∃ (A_ : Option Addr) (g_ k_ cp_ : Nat), e = .returned (.slice A_ k_ cp_) ∧ Tab w w' [.gen (rowE (A_) g_ k_ cp_ 53 4 (rvals (regM andB xs xs')) true)] := by
 obtain ⟨hra, hrl⟩ := Rd.factsR (hT0.ok 0 _ rfl)
 obtain ⟨hra', hrl'⟩ := Rd.factsR (hT0.ok 1 _ rfl)
 refine eN [(0, .slice A n cap), (1, .slice A' n' cap')] Try.func63 Try.ntmps63 rfl hT0 ?_
 refine zSR 1 <| bD [0] 1 0 [] [4] <| zDNSR 4 <| bS [0, 0] 2 2 [(5, .slice A n cap), (6, .slice A' n' cap')] <| pS 3 1 <| cG (d := 7) (α := Option Addr × Nat × Nat × Nat) (fun x_ => .slice x_.1 x_.2.2.1 x_.2.2.2) (fun x_ => [.gen (rowE (x_.1) x_.2.1 x_.2.2.1 x_.2.2.2 53 4 (rvals (regM andB xs xs')) true), rD (A) g o n 4 (rvals xs), rD (A') g' o' n' 4 (rvals xs')]) (fun x_ => True) (fun w hT => (regMerge A g o n cap xs A' g' o' n' cap' xs' 87 andB w (hT.viewRo (.cons (i := 0) rfl Vw.rd (.cons (i := 1) rfl Vw.rd .nil)) rfl) (fun _ => by kernel_rfl) (fun p q w => keepAnd p q w) (by omega)).mono fun e w' ⟨A1, g2, k3, cp4, he_, ht_⟩ => ⟨(A1, g2, k3, cp4), he_, trivial, hT.news ht_ rfl⟩) ?_
 rintro ⟨A1, g2, k3, cp4⟩ hf5_
 refine fR 0 k3 A1 g2 cp4 (regM andB xs xs') rfl fun hr6_a hr6_l hr6_c hr6_m => ?_
 refine bS [0] 4 0 [(4, .slice A1 k3 cp4)] <| zDNr <| rA rfl 0 (.slice A1 k3 cp4) fun w hT => ?_
 replace hT := hT.erase 2 (fun e h hw => by cases h; first | rfl | cases hw)
 replace hT := hT.erase 1 (fun e h hw => by cases h; first | rfl | cases hw)
 exact ⟨_, _, _, _, rfl, hT⟩
theorem regLess (A : Option Addr) (g o n cap : Nat) (xs : List Rect) (A' : Option Addr) (g' o' n' cap' : Nat) (xs' : List Rect) (w : World) (hT0 : Tab w w [rD (A) g o n 4 (rvals xs), rD (A') g' o' n' 4 (rvals xs')]) (hn : n + n' ≤ 262144) :
    Calls Try.prog 84 #[.slice A n cap, .slice A' n' cap'] w fun e w' => ∃ (A_ : Option Addr) (g_ k_ cp_ : Nat), e = .returned (.slice A_ k_ cp_) ∧ Tab w w' [.gen (rowE (A_) g_ k_ cp_ 53 4 (rvals (regM lessB xs xs')) true)] := by
 obtain ⟨hra, hrl⟩ := Rd.factsR (hT0.ok 0 _ rfl)
 obtain ⟨hra', hrl'⟩ := Rd.factsR (hT0.ok 1 _ rfl)
 refine eN [(0, .slice A n cap), (1, .slice A' n' cap')] Try.func84 Try.ntmps84 rfl hT0 ?_
 refine zSR 1 <| bD [0] 1 0 [] [4] <| zDNSR 4 <| bS [0, 0] 2 2 [(5, .slice A n cap), (6, .slice A' n' cap')] <| pS 3 1 <| cG (d := 7) (α := Option Addr × Nat × Nat × Nat) (fun x_ => .slice x_.1 x_.2.2.1 x_.2.2.2) (fun x_ => [.gen (rowE (x_.1) x_.2.1 x_.2.2.1 x_.2.2.2 53 4 (rvals (regM lessB xs xs')) true), rD (A) g o n 4 (rvals xs), rD (A') g' o' n' 4 (rvals xs')]) (fun x_ => True) (fun w hT => (regMerge A g o n cap xs A' g' o' n' cap' xs' 103 lessB w (hT.viewRo (.cons (i := 0) rfl Vw.rd (.cons (i := 1) rfl Vw.rd .nil)) rfl) (fun _ => by kernel_rfl) (fun p q w => keepLess p q w) (by omega)).mono fun e w' ⟨A1, g2, k3, cp4, he_, ht_⟩ => ⟨(A1, g2, k3, cp4), he_, trivial, hT.news ht_ rfl⟩) ?_
 rintro ⟨A1, g2, k3, cp4⟩ hf5_
 refine fR 0 k3 A1 g2 cp4 (regM lessB xs xs') rfl fun hr6_a hr6_l hr6_c hr6_m => ?_
 refine bS [0] 4 0 [(4, .slice A1 k3 cp4)] <| zDNr <| rA rfl 0 (.slice A1 k3 cp4) fun w hT => ?_
 replace hT := hT.erase 2 (fun e h hw => by cases h; first | rfl | cases hw)
 replace hT := hT.erase 1 (fun e h hw => by cases h; first | rfl | cases hw)
 exact ⟨_, _, _, _, rfl, hT⟩
end Go.Proofs.Ytlfahohbkgdabaa
namespace Go.Proofs.Ytlfahohbkgdabaa
open Go Go.RowKit
def anyGt (l : List Int) (y : Int) : Bool := l.any fun x => decide (y < x)
def insP (xs : List Int) (y : Int) (i : Nat) : List Int := if anyGt (xs.take i) y then (xs.take i).filter (· < y) ++ y :: (xs.take i).filter (y < ·) else xs.take i
theorem take_succ_getD {l : List Int} {i : Nat} (h : i < l.length) : l.take (i + 1) = l.take i ++ [l.getD i 0] := by
  rw [List.take_add_one, List.getElem?_eq_getElem h]
  simp [List.getD_eq_getElem?_getD, List.getElem?_eq_getElem h]
theorem mem_take_getD {l : List Int} {i : Nat} {x : Int} (h : x ∈ l.take i) : ∃ j, j < i ∧ j < l.length ∧ l.getD j 0 = x := by
  obtain ⟨j, hj, e⟩ := List.mem_iff_getElem.1 h
  rw [List.length_take] at hj
  refine ⟨j, by omega, by omega, ?_⟩
  rw [List.getElem_take] at e
  rw [List.getD_eq_getElem?_getD, List.getElem?_eq_getElem (by omega)]; exact e
theorem anyGt_zero (xs : List Int) (y : Int) : anyGt (xs.take 0) y = false := by simp [anyGt]
theorem insP_zero (xs : List Int) (y : Int) : insP xs y 0 = [] := by simp [insP, anyGt]
theorem anyGt_succ {xs : List Int} {y : Int} {i : Nat} (h : i < xs.length) : anyGt (xs.take (i + 1)) y = (anyGt (xs.take i) y || decide (y < xs.getD i 0)) := by
  rw [take_succ_getD h]; simp [anyGt]
theorem anyGt_no {xs : List Int} {y : Int} {i : Nat} (ha : anyGt (xs.take i) y = false) (hne : ∀ j, j < i → xs.getD j 0 ≠ y) : ∀ x ∈ xs.take i, x < y := by
  intro x hx
  unfold anyGt at ha
  rw [List.any_eq_false] at ha
  have h1 := ha x hx
  obtain ⟨j, h2, h3, rfl⟩ := mem_take_getD hx
  have := hne j h2
  simp only [decide_eq_true_eq] at h1
  omega
theorem insP_gt {xs : List Int} {y : Int} {i : Nat} (h : i < xs.length) (ha : anyGt (xs.take i) y = false) (hy : y < xs.getD i 0) (hne : ∀ j, j < i → xs.getD j 0 ≠ y) : (insP xs y i ++ [y]) ++ [xs.getD i 0] = insP xs y (i + 1) := by
  have hlt := anyGt_no ha hne
  have h1 : insP xs y i = xs.take i := by unfold insP; rw [ha]; rfl
  have h2 : anyGt (xs.take (i + 1)) y = true := by rw [anyGt_succ h, ha, decide_eq_true hy]; rfl
  rw [h1]
  unfold insP
  rw [h2, if_pos rfl, take_succ_getD h, List.filter_append, List.filter_append]
  have e1 : (xs.take i).filter (fun x => decide (x < y)) = xs.take i := List.filter_eq_self.2 (fun x hx => by simpa using hlt x hx)
  have e2 : (xs.take i).filter (fun x => decide (y < x)) = [] := List.filter_eq_nil_iff.2 (fun x hx => by have := hlt x hx; simp; omega)
  rw [e1, e2]
  have e3 : [xs.getD i 0].filter (fun x => decide (x < y)) = [] := by rw [List.filter_cons, decide_eq_false (by omega)]; rfl
  have e4 : [xs.getD i 0].filter (fun x => decide (y < x)) = [xs.getD i 0] := by rw [List.filter_cons, decide_eq_true hy]; rfl
  rw [e3, e4]; simp
theorem insP_on {xs : List Int} {y : Int} {i : Nat} (hr : Rise xs) (h : i < xs.length) (ha : anyGt (xs.take i) y = true) : insP xs y i ++ [xs.getD i 0] = insP xs y (i + 1) ∧ anyGt (xs.take (i + 1)) y = true := by
  have h2 : anyGt (xs.take (i + 1)) y = true := by rw [anyGt_succ h, ha]; rfl
  refine ⟨?_, h2⟩
  have hgt : y < xs.getD i 0 := by
    unfold anyGt at ha
    rw [List.any_eq_true] at ha
    obtain ⟨x, hx, hd⟩ := ha
    obtain ⟨j, h3, h4, rfl⟩ := mem_take_getD hx
    have := hr.lt h3 h
    simp only [decide_eq_true_eq] at hd
    omega
  unfold insP
  rw [ha, h2, if_pos rfl, if_pos rfl, take_succ_getD h, List.filter_append, List.filter_append]
  have e3 : [xs.getD i 0].filter (fun x => decide (x < y)) = [] := by rw [List.filter_cons, decide_eq_false (by omega)]; rfl
  have e4 : [xs.getD i 0].filter (fun x => decide (y < x)) = [xs.getD i 0] := by rw [List.filter_cons, decide_eq_true hgt]; rfl
  rw [e3, e4]; simp
theorem insP_low {xs : List Int} {y : Int} {i : Nat} (h : i < xs.length) (ha : anyGt (xs.take i) y = false) (hy : ¬ y < xs.getD i 0) : insP xs y i ++ [xs.getD i 0] = insP xs y (i + 1) ∧ anyGt (xs.take (i + 1)) y = false := by
  have h2 : anyGt (xs.take (i + 1)) y = false := by rw [anyGt_succ h, ha, decide_eq_false hy]; rfl
  refine ⟨?_, h2⟩
  unfold insP
  rw [ha, h2, if_neg (by simp), if_neg (by simp), take_succ_getD h]
theorem notin {xs : List Int} {y : Int} {i : Nat} (hi : xs.length ≤ i) (hne : ∀ j, j < i → xs.getD j 0 ≠ y) : y ∉ xs := by
  intro hm
  obtain ⟨j, h1, h2⟩ := mem_getD hm
  exact hne j (by omega) h2
theorem insP_end {xs : List Int} {y : Int} {i : Nat} (hi : xs.length ≤ i) (ha : anyGt (xs.take i) y = true) (hne : ∀ j, j < i → xs.getD j 0 ≠ y) : insP xs y i = addL' xs y := by
  unfold insP addL'
  rw [ha, if_pos rfl, if_neg (notin hi hne), List.take_of_length_le hi]
theorem insP_last {xs : List Int} {y : Int} {i : Nat} (hi : xs.length ≤ i) (ha : anyGt (xs.take i) y = false) (hne : ∀ j, j < i → xs.getD j 0 ≠ y) : insP xs y i ++ [y] = addL' xs y := by
  have hlt := anyGt_no ha hne
  rw [List.take_of_length_le hi] at hlt ha
  unfold insP addL'
  rw [List.take_of_length_le hi, ha, if_neg (by simp), if_neg (notin hi hne)]
  have e1 : xs.filter (fun x => decide (x < y)) = xs := List.filter_eq_self.2 (fun x hx => by simpa using hlt x hx)
  have e2 : xs.filter (fun x => decide (y < x)) = [] := List.filter_eq_nil_iff.2 (fun x hx => by have := hlt x hx; simp; omega)
  rw [e1, e2]
theorem Tab.swapIn {w0 w : World} {T : List Ent} {e old : Ent} {i : Nat} (hT : Tab w0 w (e :: T)) (hi : T[i]? = some old) (hg : old.own = true) : Tab w0 w (T.set i e) := by
  have hlt : i < T.length := (List.getElem?_eq_some_iff.1 hi).1
  have look : ∀ (j : Nat) (x : Ent), (T.set i e)[j]? = some x → ∃ q : Nat, (e :: T)[q]? = some x ∧ q = if j = i then 0 else j + 1 := by
    intro j x hx
    rcases getElem?_set_cases _ _ _ _ _ hx with ⟨h1, rfl⟩ | ⟨h1, h2⟩
    · exact ⟨0, rfl, by rw [if_pos h1]⟩
    · exact ⟨j + 1, by simpa using h2, by rw [if_neg h1]⟩
  refine ⟨hT.os, hT.tape, hT.output, hT.size, ?_, ?_, ?_, ?_⟩
  · intro j x hx
    obtain ⟨q, h, _⟩ := look j x hx
    exact hT.ok q x h
  · intro k hk hno
    refine hT.frame k hk (fun q x hx hw hb => ?_)
    cases q with
    | zero =>
      simp at hx; subst hx
      exact hno i e (by simp [hlt]) hw hb
    | succ q =>
      simp at hx
      by_cases hq : q = i
      · subst hq
        rw [hi] at hx; cases hx
        have := hT.own (q + 1) old (by simpa using hi) hg k hb
        omega
      · exact hno q x (by rw [List.getElem?_set_ne (Ne.symm hq)]; exact hx) hw hb
  · intro j x hx
    obtain ⟨q, h, _⟩ := look j x hx
    exact hT.own q x h
  · intro a b x y hab hx hy
    obtain ⟨q, h1, e1⟩ := look a x hx
    obtain ⟨r, h2, e2⟩ := look b y hy
    refine hT.disj q r x y ?_ h1 h2
    rw [e1, e2]
    split <;> split <;> omega
theorem Tab.moved {w0 w w' : World} {T : List Ent} (hT : Tab w0 w T) {i : Nat} {A A' : Option Addr} {g n cap g' k' cp' e sz : Nat} {vals vals' : List Value} (hi : T[i]? = some (.gen (rowE A g n cap e sz vals true)))
    (h : (A' = A ∧ g' = g ∧ k' = n ∧ cp' = cap ∧ vals' = vals ∧ Below w.heap.size w w') ∨ Tab w w' [.gen (rowE A' g' k' cp' e sz vals' true)]) : Tab w0 w' (T.set i (.gen (rowE A' g' k' cp' e sz vals' true))) := by
  rcases h with ⟨rfl, rfl, rfl, rfl, rfl, hb⟩ | h
  · have : T.set i (.gen (rowE A' g' k' cp' e sz vals' true)) = T := by
      obtain ⟨hlt, he⟩ := List.getElem?_eq_some_iff.1 hi
      rw [← he]
      exact List.set_getElem_self hlt
    rw [this]; exact hT.below hb
  · exact (hT.news (N := [_]) h rfl).swapIn hi rfl
def docK (how : Int) (a b : Bool) : Bool := if how = 0 then a || b else if how = 1 then a && b else if how = 2 then a && !b else a != b
theorem docK_none (how : Int) : docK how false false = false := by unfold docK; split; rfl; split; rfl; split <;> rfl
theorem rget_append {a b : List Rect} {i : Nat} : rget (a ++ b) i = if i < a.length then rget a i else rget b (i - a.length) := by
  unfold rget
  rw [List.getD_eq_getElem?_getD]
  split
  · rename_i h; rw [List.getElem?_append_left h, List.getD_eq_getElem?_getD]
  · rename_i h; rw [List.getElem?_append_right (by omega), List.getD_eq_getElem?_getD]
def gx (l : List Rect) (i : Nat) : List Int := (l.take i).foldl addXs []
def gy (l : List Rect) (i : Nat) : List Int := (l.take i).foldl addYs []
theorem gx_zero (l : List Rect) : gx l 0 = [] := rfl
theorem gy_zero (l : List Rect) : gy l 0 = [] := rfl
theorem gx_skip {l : List Rect} {i : Nat} (h : i < l.length) (he : emptyR (rget l i) = true) : gx l i = gx l (i + 1) := by
  unfold gx; rw [take_succ_rget h, List.foldl_append, List.foldl_cons, List.foldl_nil, addXs, he]; rfl
theorem gy_skip {l : List Rect} {i : Nat} (h : i < l.length) (he : emptyR (rget l i) = true) : gy l i = gy l (i + 1) := by
  unfold gy; rw [take_succ_rget h, List.foldl_append, List.foldl_cons, List.foldl_nil, addYs, he]; rfl
theorem gx_put {l : List Rect} {i : Nat} (h : i < l.length) (he : emptyR (rget l i) = false) : addL' (addL' (gx l i) (rget l i).x0) (rget l i).x1 = gx l (i + 1) := by
  unfold gx; rw [take_succ_rget h, List.foldl_append, List.foldl_cons, List.foldl_nil]; conv => rhs; rw [addXs, he]
  rfl
theorem gy_put {l : List Rect} {i : Nat} (h : i < l.length) (he : emptyR (rget l i) = false) : addL' (addL' (gy l i) (rget l i).y0) (rget l i).y1 = gy l (i + 1) := by
  unfold gy; rw [take_succ_rget h, List.foldl_append, List.foldl_cons, List.foldl_nil]; conv => rhs; rw [addYs, he]
  rfl
theorem gx_rise (l : List Rect) (i : Nat) : Rise (gx l i) := (xsD_ok (l.take i) [] rise_nil).1
theorem gy_rise (l : List Rect) (i : Nat) : Rise (gy l i) := (ysD_ok (l.take i) [] rise_nil).1
theorem gx_length (l : List Rect) (i : Nat) : (gx l i).length ≤ 2 * i := by
  have := (xsD_ok (l.take i) [] rise_nil).2.2.2
  rw [List.length_take] at this
  simp only [List.length_nil] at this
  unfold gx; omega
theorem gy_length (l : List Rect) (i : Nat) : (gy l i).length ≤ 2 * i := by
  have := (ysD_ok (l.take i) [] rise_nil).2.2.2
  rw [List.length_take] at this
  simp only [List.length_nil] at this
  unfold gy; omega
def ownD (how : Int) (a b : List Rect) (XS : List Int) (y y' : Int) : List Rect := ownL (fun x => keepF (docK how) a b x y) y y' XS (XS.length - 1)
theorem ownD_length (how : Int) (a b : List Rect) (XS : List Int) (y y' : Int) : (ownD how a b XS y y').length ≤ XS.length := by
  have := ownL_length (fun x => keepF (docK how) a b x y) y y' XS (XS.length - 1)
  unfold ownD; omega
theorem regD_of (how : Int) (a b : List Rect) (XS YS : List Int) (hX : XS = gx (a ++ b) (a ++ b).length) (hY : YS = gy (a ++ b) (a ++ b).length) : (mgG touchL (ownD how a b XS) YS (YS.length - 1)).1 ++ (mgG touchL (ownD how a b XS) YS (YS.length - 1)).2 = regM (docK how) a b := by
  rw [← regD_eq (docK_none how) a b]
  have e1 : gx (a ++ b) (a ++ b).length = xsD (a ++ b) := by unfold gx xsD; rw [List.take_length]
  have e2 : gy (a ++ b) (a ++ b).length = ysD (a ++ b) := by unfold gy ysD; rw [List.take_length]
  subst hX hY
  rw [e1, e2]; rfl
theorem touchL_true {l o : List Rect} {y : Int} (h0 : 0 < l.length) (h1 : (rget l 0).y1 = y) (h2 : eqF span1 l o = true) : touchL l o y = true := by
  unfold touchL; rw [decide_eq_true h0, decide_eq_true h1, h2]; rfl
theorem touchL_no0 {l o : List Rect} {y : Int} (h0 : ¬ 0 < l.length) : touchL l o y = false := by
  unfold touchL; rw [decide_eq_false h0]; rfl
theorem touchL_no1 {l o : List Rect} {y : Int} (h1 : (rget l 0).y1 ≠ y) : touchL l o y = false := by
  unfold touchL; rw [decide_eq_false h1]; simp
theorem touchL_no2 {l o : List Rect} {y : Int} (h2 : eqF span1 l o = false) : touchL l o y = false := by
  unfold touchL; rw [h2]; simp
def smallR (r : Rect) : Rect := ⟨aroundI r.x0 24 - 4, aroundI r.y0 24 - 4, aroundI r.x0 24 - 4 + aroundI r.x1 13, aroundI r.y0 24 - 4 + aroundI r.y1 13⟩
def smallL (l : List Rect) (most : Nat) : List Rect := (l.take most).map smallR
theorem smallL_put {l : List Rect} {i : Nat} (h : i < l.length) : smallL l i ++ [smallR (rget l i)] = smallL l (i + 1) := by
  unfold smallL; rw [take_succ_rget h]; simp
theorem smallL_length (l : List Rect) (m : Nat) : (smallL l m).length ≤ m := by simp [smallL]; omega
theorem smallL_end {l : List Rect} {i m : Nat} (h : l.length ≤ i ∨ m ≤ i) (hi : i ≤ m) (hl : i ≤ l.length) : smallL l i = smallL l m := by
  unfold smallL
  rcases h with h | h
  · rw [List.take_of_length_le h, List.take_of_length_le (by omega)]
  · rw [show i = m by omega]
end Go.Proofs.Ytlfahohbkgdabaa
namespace Go.Proofs.Ytlfahohbkgdabaa
open Go.ChangeShapes Go.WideShapes Go.ChangeAt Go.RowKit Go.Deep
theorem own0 : ownKnob Try.prog.godebug = none := by kernel_rfl
theorem laidOut0 : laidOutB Try.prog = true := by kernel_rfl
section
variable {H : Type} {enc : TypeId × Value → H} {P : Program}
theorem post_below {f : Func} {s : ChangeSpec} {apart fresh handsOn again : Bool} {W W' : World} {args : Array Value} {v : Value} {ds gs : List (DataW H)} {before pa pv : List MemPlace}
    (hW : DataW.Whole enc P f.params.toList s.vars apart W args.toList ds gs before)
    (hres : ∀ (b : Nat) (sp : Nat → Bool) (hd : Bool), DataW.TrodAll enc P W' b sp hd f.resultTypes.toList (v.resultList f.resultTypes.size) (s.fn H (ds ++ gs)).results [])
    (hargs : ∀ sp : Nat → Bool, (∀ p ∈ before, sp p.block = true) → DataW.TrodAll enc P W' 0 sp true f.params.toList args.toList (s.fn H (ds ++ gs)).args pa)
    (hvars : ∀ sp : Nat → Bool, (∀ p ∈ before, sp p.block = true) → DataW.TrodVars enc P W' sp s.vars (s.fn H (ds ++ gs)).vars pv)
    (hps : before = pa ++ pv) (hb : Below W.heap.size W W')
    (hok : ∀ (j : Nat) (t : TypeId) (r : Value), f.resultTypes[j]? = some t → (v.resultList f.resultTypes.size)[j]? = some r → Value.okWide P W' .any 0 t r) :
    s.post enc P f apart fresh handsOn again W args v W' := by
  have hlt : ∀ p ∈ before, p.block < W.heap.size := fun p hp => hW.lt p hp
  have hold : ∀ p ∈ before, (fun b => decide (b < W.heap.size)) p.block = true := fun p hp => by simpa using hlt p hp
  refine ⟨ds, gs, before, [], pa, pv, hW, hres _ _ _, hargs _ hold, hvars _ hold, World.keptBut_mono (fun p hp => ⟨hp, ?_⟩) (hb.frame (· ∈ before)), fun _ => ?_⟩
  · rw [hps, List.mem_append] at hp
    exact Or.inr hp
  · obtain ⟨_, _, _, _, _, hz, hn⟩ := hW
    refine ⟨hok, _, _, ([] ++ pa) ++ pv, ⟨[] ++ pa, pv, trodAll_append (hargs _ (fun _ _ => rfl)) (hres _ _ _), hvars _ (fun _ _ => rfl), rfl, ?_, ?_⟩, ?_⟩
    · intro b off hp
      have hin : MemPlace.cell b off ∈ before := by rw [hps]; simpa using hp
      rw [hb.frozen (hlt _ hin)]
      exact hz b off hin
    · intro ha
      have := hn ha
      rw [hps] at this
      simpa using this
    · intro p hp _
      rw [hps]
      simpa using hp
theorem trod_keeps {t : TypeId} (hl : laidOutB P = true) (hr : P.readableRec t = true) (hrow : t < P.types.size) {W W' : World} {v : Value} {d : DataW H} {ps : List MemPlace}
    (h : DataW.Trod enc P W 0 (fun _ => true) true t v d ps) (hb : Below W.heap.size W W') (hlt : ∀ x ∈ ps, x.block < W.heap.size) (sp : Nat → Bool) (hsp : ∀ p ∈ ps, sp p.block = true) : DataW.Trod enc P W' 0 sp true t v d ps :=
  WideElems.Trod_stays hl hr hrow h (fun x hx => hb.same (hlt x hx)) hsp
end
theorem addr_split {a : Addr} (h : a.spot = none) (j : Nat) : a.add j = ⟨a.block, a.off + j, none⟩ := by
  cases a with
  | mk b o s =>
    simp only at h
    subst h
    unfold Addr.add
    split <;> simp_all
theorem spot_of_cell {W : World} {a : Addr} {v : Value} (h : W.cell? a = some v) : a.spot = none := by
  unfold World.cell? at h
  split at h
  · split at h
    · cases h
    · rename_i hs; simpa using hs
  · cases h
theorem open_nums {H : Type} {enc : TypeId × Value → H} {P : Program} {W : World} {t e : TypeId} {k : IntKind} {v : Value} {d : DataW H} {ps : List MemPlace} (ht : P.underlying t = some (.slice e)) (he : P.underlying e = some (.int k)) (hc : P.cellsOf e = 1)
    (hval : Value.okWide P W .any 0 t v) (h : DataW.Trod enc P W 0 (fun _ => true) true t v d ps) :
    ∃ (A : Option Addr) (g o n cap : Nat) (xs : List Int), v = .slice A n cap ∧ Rd W A g o n 1 (ivals k xs) ∧ xs.length = n ∧ n ≤ cap ∧ cap ≤ maxLen ∧ (∀ x ∈ xs, (Lit.int k x).wf = true) := by
  obtain ⟨a, len, cap, rfl⟩ := okWide_slice ht hval
  obtain ⟨fuel, hf⟩ := h
  have hcells : (Value.slice a len cap).cells.toList = [.slice a len cap] := rfl
  rw [hcells] at hf
  rcases open_ints ht he hc hf with ⟨h1, _⟩ | ⟨ad, len', cap', zs, h1, _, hle, hm, hlen, _, hcell, hwf⟩
  · simp only [List.cons.injEq, Value.slice.injEq, and_true] at h1
    obtain ⟨rfl, rfl, rfl⟩ := h1
    exact ⟨none, 0, 0, 0, 0, [], rfl, ⟨rfl, fun h => by omega, fun j v hj => by simp [ivals] at hj⟩, rfl, Nat.le_refl _, by unfold maxLen; omega, fun x hx => by cases hx⟩
  · simp only [List.cons.injEq, Value.slice.injEq, and_true] at h1
    obtain ⟨rfl, rfl, rfl⟩ := h1
    simp only [if_true] at hlen
    have hsp : 0 < len → ad.spot = none := fun hp => by
      have := hcell 0 (by omega)
      have h0 : ad.add 0 = ad := by simp [Addr.add]
      rw [h0] at this
      exact spot_of_cell this
    refine ⟨some ad, ad.block, ad.off, len, cap, zs.take len, rfl, ⟨by simp [ivals]; omega, fun hp => ?_, fun j v hj => ?_⟩, by simp; omega, hle, hm, fun x hx => hwf x (List.mem_of_mem_take hx)⟩
    · have := hsp hp
      cases ad with
      | mk b o s => simp only at this; subst this; rfl
    · have hjl : j < (ivals k (zs.take len)).length := (List.getElem?_eq_some_iff.1 hj).1
      rw [ivals_length, List.length_take] at hjl
      have hg := ivals_get (k := k) (xs := zs.take len) (j := j) (by rw [List.length_take]; exact hjl)
      rw [hg] at hj
      cases hj
      have hc1 := hcell j (by omega)
      rw [addr_split (hsp (by omega))] at hc1
      rw [hc1]
      congr 2
      simp only [List.getD_eq_getElem?_getD]
      rw [List.getElem?_take, if_pos (by omega)]
theorem trod_sub {H : Type} {enc : TypeId × Value → H} {P : Program} {W : World} {t ty : TypeId} {fs : Array Field} {i fuel : Nat} {f : Field} {cs cs' : List Value} {x : DataW H × List MemPlace} (ht : P.underlying t = some (.struct fs))
    (h : DataW.trod enc P W 0 (fun _ => true) true fuel t cs = some x) (hf : fs[i]? = some f) (hty : f.type = ty) (e : (cs.drop f.offset).take (P.cellsOf f.type) = cs') : ∃ (n : Nat) (y : DataW H × List MemPlace), DataW.trod enc P W 0 (fun _ => true) true n ty cs' = some y := by
  obtain ⟨xs, n, _, _, _, hlen, hg⟩ := DataW.trod_struct ht h
  have h1 := hg i f hf
  rw [e, hty] at h1
  have hi : i < xs.length := by rw [hlen]; exact (Array.getElem?_eq_some_iff.1 hf).1
  rw [List.getElem?_eq_getElem hi] at h1
  exact ⟨n, _, h1⟩
theorem open_intC {H : Type} {enc : TypeId × Value → H} {P : Program} {W : World} {t : TypeId} {k : IntKind} {c : Value} {n : Nat} {x : DataW H × List MemPlace} (ht : P.underlying t = some (.int k)) (h : DataW.trod enc P W 0 (fun _ => true) true n t [c] = some x) : ∃ a : Int, c = .int k a ∧ (Lit.int k a).wf = true := by
  obtain ⟨a, e, _, w⟩ := DataW.trod_int ht h
  exact ⟨a, by simpa using e, w⟩
theorem open_boolC {H : Type} {enc : TypeId × Value → H} {P : Program} {W : World} {t : TypeId} {c : Value} {n : Nat} {x : DataW H × List MemPlace} (ht : P.underlying t = some .bool) (h : DataW.trod enc P W 0 (fun _ => true) true n t [c] = some x) : ∃ b : Bool, c = .bool b := by
  obtain ⟨b, e, _⟩ := DataW.trod_bool ht h
  exact ⟨b, by simpa using e⟩
theorem open_numsC {H : Type} {enc : TypeId × Value → H} {P : Program} {W : World} {t e : TypeId} {k : IntKind} {c : Value} {fuel : Nat} {x : DataW H × List MemPlace} (ht : P.underlying t = some (.slice e)) (he : P.underlying e = some (.int k)) (hc : P.cellsOf e = 1)
    (hf : DataW.trod enc P W 0 (fun _ => true) true fuel t [c] = some x) :
    ∃ (A : Option Addr) (g o n cap : Nat) (xs : List Int), c = .slice A n cap ∧ Rd W A g o n 1 (ivals k xs) ∧ xs.length = n ∧ n ≤ cap ∧ cap ≤ maxLen ∧ (∀ x ∈ xs, (Lit.int k x).wf = true) := by
  rcases open_ints ht he hc hf with ⟨h1, _⟩ | ⟨ad, len', cap', zs, h1, _, hle, hm, hlen, _, hcell, hwf⟩
  · simp only [List.cons.injEq, and_true] at h1
    exact ⟨none, 0, 0, 0, 0, [], h1, ⟨rfl, fun h => by omega, fun j v hj => by simp [ivals] at hj⟩, rfl, Nat.le_refl _, by unfold maxLen; omega, fun x hx => by cases hx⟩
  · simp only [List.cons.injEq, and_true] at h1
    simp only [if_true] at hlen
    have hsp : 0 < len' → ad.spot = none := fun hp => by
      have := hcell 0 (by omega)
      have h0 : ad.add 0 = ad := by simp [Addr.add]
      rw [h0] at this
      exact spot_of_cell this
    refine ⟨some ad, ad.block, ad.off, len', cap', zs.take len', h1, ⟨by simp [ivals]; omega, fun hp => ?_, fun j v hj => ?_⟩, by simp; omega, hle, hm, fun x hx => hwf x (List.mem_of_mem_take hx)⟩
    · have := hsp hp
      cases ad with
      | mk b o s => simp only at this; subst this; rfl
    · have hjl : j < (ivals k (zs.take len')).length := (List.getElem?_eq_some_iff.1 hj).1
      rw [ivals_length, List.length_take] at hjl
      have hg := ivals_get (k := k) (xs := zs.take len') (j := j) (by rw [List.length_take]; exact hjl)
      rw [hg] at hj
      cases hj
      have hc1 := hcell j (by omega)
      rw [addr_split (hsp (by omega))] at hc1
      rw [hc1]
      congr 2
      simp only [List.getD_eq_getElem?_getD]
      rw [List.getElem?_take, if_pos (by omega)]
end Go.Proofs.Ytlfahohbkgdabaa
namespace Go.Proofs.Ytlfahohbkgdabaa
open Go Go.ChangeShapes Go.WideShapes Go.ChangeAt Go.RowKit Go.Deep
structure R64 (r : Rect) : Prop where
  x0 : -9223372036854775808 ≤ r.x0 ∧ r.x0 ≤ 9223372036854775807
  y0 : -9223372036854775808 ≤ r.y0 ∧ r.y0 ≤ 9223372036854775807
  x1 : -9223372036854775808 ≤ r.x1 ∧ r.x1 ≤ 9223372036854775807
  y1 : -9223372036854775808 ≤ r.y1 ∧ r.y1 ≤ 9223372036854775807
theorem open_rectC {H : Type} {enc : TypeId × Value → H} {P : Program} {W : World} {t ti : TypeId} {f0 f1 f2 f3 : Field} {cs : List Value} {n : Nat} {x : DataW H × List MemPlace} (hs : P.underlying t = some (.struct #[f0, f1, f2, f3])) (h0 : f0.type = ti) (h1 : f1.type = ti) (h2 : f2.type = ti) (h3 : f3.type = ti)
    (o0 : f0.offset = 0) (o1 : f1.offset = 1) (o2 : f2.offset = 2) (o3 : f3.offset = 3) (hi : P.underlying ti = some (.int .i64)) (hci : P.cellsOf ti = 1) (hl : cs.length = 4) (h : DataW.trod enc P W 0 (fun _ => true) true n t cs = some x) : ∃ r : Rect, cs = rcells r ∧ R64 r := by
  match cs, hl with
  | [c0, c1, c2, c3], _ =>
    obtain ⟨n0, y0, g0⟩ := trod_sub hs h (i := 0) (f := f0) rfl h0 (cs' := [c0]) (by rw [o0, h0, hci]; rfl)
    obtain ⟨n1, y1, g1⟩ := trod_sub hs h (i := 1) (f := f1) rfl h1 (cs' := [c1]) (by rw [o1, h1, hci]; rfl)
    obtain ⟨n2, y2, g2⟩ := trod_sub hs h (i := 2) (f := f2) rfl h2 (cs' := [c2]) (by rw [o2, h2, hci]; rfl)
    obtain ⟨n3, y3, g3⟩ := trod_sub hs h (i := 3) (f := f3) rfl h3 (cs' := [c3]) (by rw [o3, h3, hci]; rfl)
    obtain ⟨a0, rfl, w0⟩ := open_intC hi g0
    obtain ⟨a1, rfl, w1⟩ := open_intC hi g1
    obtain ⟨a2, rfl, w2⟩ := open_intC hi g2
    obtain ⟨a3, rfl, w3⟩ := open_intC hi g3
    exact ⟨⟨a0, a1, a2, a3⟩, rfl, ⟨wf64 w0, wf64 w1, wf64 w2, wf64 w3⟩⟩
theorem rget_map {F : Nat → Rect} {n i : Nat} (h : i < n) : rget ((List.range n).map F) i = F i := by
  simp [rget, List.getD_eq_getElem?_getD, h]
theorem open_rectsC {H : Type} {enc : TypeId × Value → H} {P : Program} {W : World} {ts t ti : TypeId} {f0 f1 f2 f3 : Field} {c : Value} {n : Nat} {x : DataW H × List MemPlace} (ht : P.underlying ts = some (.slice t)) (hs : P.underlying t = some (.struct #[f0, f1, f2, f3])) (h0 : f0.type = ti) (h1 : f1.type = ti) (h2 : f2.type = ti) (h3 : f3.type = ti)
    (o0 : f0.offset = 0) (o1 : f1.offset = 1) (o2 : f2.offset = 2) (o3 : f3.offset = 3) (hi : P.underlying ti = some (.int .i64)) (hci : P.cellsOf ti = 1) (hct : P.cellsOf t = 4) (h : DataW.trod enc P W 0 (fun _ => true) true n ts [c] = some x) :
    ∃ (A : Option Addr) (g o n cap : Nat) (xs : List Rect), c = .slice A n cap ∧ Rd W A g o n 4 (rvals xs) ∧ xs.length = n ∧ n ≤ cap ∧ cap ≤ maxLen ∧ (∀ r ∈ xs, R64 r) := by
  rcases open_slice ht h with ⟨e, _⟩ | ⟨a, len, cap, m, k, D, Pl, e, _, hle, hm, hmm, _, hx⟩
  · simp only [List.cons.injEq, and_true] at e
    exact ⟨none, 0, 0, 0, 0, [], e, ⟨rfl, fun h => by omega, fun j v hj => by simp [rvals] at hj⟩, rfl, Nat.le_refl _, by unfold maxLen; omega, fun x hx => by cases hx⟩
  · simp only [List.cons.injEq, and_true] at e
    simp only [if_true] at hmm
    have each : ∀ i, i < len → ∃ r : Rect, (∀ j v, (rcells r)[j]? = some v → W.cell? ((a.add (i * 4)).add j) = some v) ∧ R64 r := by
      intro i hil
      obtain ⟨cs', g1, g2⟩ := hx i (by omega)
      rw [hct] at g1
      obtain ⟨_, hlen, hcell⟩ := World.cells?_some g1
      obtain ⟨r, rfl, hr⟩ := open_rectC hs h0 h1 h2 h3 o0 o1 o2 o3 hi hci (by simpa using hlen) g2
      refine ⟨r, fun j v hj => ?_, hr⟩
      have hjl := (List.getElem?_eq_some_iff.1 hj).1
      have := hcell j (by simpa [rcells] using hjl)
      rw [this]
      simpa using hj
    have hF : ∃ F : Nat → Rect, ∀ i, i < len → (∀ j v, (rcells (F i))[j]? = some v → W.cell? ((a.add (i * 4)).add j) = some v) ∧ R64 (F i) :=
      ⟨fun i => if h : i < len then Classical.choose (each i h) else ⟨0, 0, 0, 0⟩, fun i h => by simp only [dif_pos h]; exact Classical.choose_spec (each i h)⟩
    obtain ⟨F, hF⟩ := hF
    have hsp : 0 < len → a.spot = none := fun hp => by
      have := (hF 0 hp).1 0 _ rfl
      have z : (a.add (0 * 4)).add 0 = a := by simp [Addr.add]
      rw [z] at this
      exact spot_of_cell this
    refine ⟨some a, a.block, a.off, len, cap, (List.range len).map F, e, ⟨by rw [rvals_length]; simp, fun hp => ?_, fun j v hj => ?_⟩, by simp, hle, hm, fun r hr => ?_⟩
    · have := hsp hp
      cases a with
      | mk b o s => simp only at this; subst this; rfl
    · have hjl := (List.getElem?_eq_some_iff.1 hj).1
      rw [rvals_length, List.length_map, List.length_range] at hjl
      have hq : j / 4 < len := by omega
      have hk := List.getElem?_eq_getElem (l := rcells (F (j / 4))) (i := j % 4) (by simp [rcells]; omega)
      have h2 := rvals_get (l := (List.range len).map F) (i := j / 4) (k := j % 4) (by simpa using hq) (by rw [rget_map hq]; exact hk)
      rw [show j / 4 * 4 + j % 4 = j by omega, hj] at h2
      have h3 := (hF _ hq).1 (j % 4) v (by rw [hk]; exact h2.symm)
      have hs2 := hsp (by omega)
      rw [addr_split hs2, addr_split rfl] at h3
      simp only at h3
      rw [show a.off + j / 4 * 4 + j % 4 = a.off + j by omega] at h3
      exact h3
    · obtain ⟨i, hi, rfl⟩ := List.mem_map.1 hr
      exact (hF i (List.mem_range.1 hi)).2
end Go.Proofs.Ytlfahohbkgdabaa
