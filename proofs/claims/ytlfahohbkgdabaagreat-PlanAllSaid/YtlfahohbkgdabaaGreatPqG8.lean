/- Texts of this proof's own, put together: what each holds is told ahead of it. -/
import Derived.Test.YtlfahohbkgdabaaGreatPqG7
import Derived.Test.YtlfahohbkgdabaaGreatProg
import Derived.Test.YtlfahohbkgdabaaGreatPqG5
set_option linter.unusedSimpArgs false
set_option linter.unusedVariables false
namespace Go.Proofs.YtlfahohbkgdabaaGreat
open Go Go.RowKit
set_option maxRecDepth 100000
set_option maxHeartbeats 8000000
theorem backIter0 (kb : Nat) (A : Option Addr) (g o n cap : Nat) (its : List IT) (hn : n ≤ 100) (hra : 0 < n → A = some ⟨g, o, none⟩) (hrl : its.length = n) (w0 : World) {β : Type} (Inv : List Nat → β → Prop) (Tr : β → List Ent) (Jx : World → Prop) (l_ : Nat) (e1 e2 : Ent) (w : World) (b0 : β) (hJx : ∀ w w', Jx w → Below w.heap.size w w' → Jx w') (hY : ∀ (pre : List Nat) (x : Nat) (b : β) W1 z, (z.wr = true → z.own = true) → Inv pre b → BackP n (pre ++ [x]) → Tab w0 W1 (z :: e1 :: e2 :: (.ro kb [.slice A n cap] 26) :: (rD (A) g o n 14 (dvals IT.cells its)) :: (Tr b)) → YieldAt Fence.wide 0 Tryz.prog l_ #[iQ (x : Int), .agg #[iQ 0, iQ 0, .pointer (some ⟨(dget its x).b, 0, none⟩), iQ ((dget its x).t.X), iQ ((dget its x).t.Y), iQ ((dget its x).t.s), iQ ((dget its x).t.al), iQ ((dget its x).t.ca), iQ ((dget its x).t.cb), iQ ((dget its x).t.cc), iQ ((dget its x).t.cd), .slice ((dget its x).t.A) ((dget its x).t.k) ((dget its x).t.cp), .string ⟨#[]⟩, iQ 0]] W1 fun e W' => (e = .returned (.bool true) ∧ ∃ b', Inv (pre ++ [x]) b' ∧ Tab w0 W' (z :: e1 :: e2 :: (.ro kb [.slice A n cap] 26) :: (rD (A) g o n 14 (dvals IT.cells its)) :: (Tr b'))) ∨ (e = .returned (.bool false) ∧ Jx W')) (h0 : Inv [] b0) (hT0 : Tab w0 w (e1 :: e2 :: (.ro kb [.slice A n cap] 26) :: (rD (A) g o n 14 (dvals IT.cells its)) :: (Tr b0))) :
    Calls Tryz.prog 95 #[.func (.yield l_) #[] #[], pT kb] w fun e W' => (∃ v, e = .returned v) ∧ ((∃ xs_ b', (BackP n xs_ ∧ xs_.length = n) ∧ Inv xs_ b' ∧ Tab w0 W' (e1 :: e2 :: (.ro kb [.slice A n cap] 26) :: (rD (A) g o n 14 (dvals IT.cells its)) :: (Tr b'))) ∨ Jx W') := by
  refine enterI 19 [(0, .func (.yield l_) #[] #[]), (1, pT kb)] (e1 :: e2 :: (.ro kb [.slice A n cap] 26) :: (rD (A) g o n 14 (dvals IT.cells its)) :: (Tr b0)) Tryz.func95 rfl Tryz.ntmps95 rfl (by kernel_rfl) hT0 (fun _ h_ => by simp at h_) ?_
  refine mcont_seq ?_
  refine mcont_region 4 rfl (by kernel_rfl) ?_
  refine bD [2, 0, 0] 3 1 [(6, iQ (IntKind.i64.wrap ((n : Int) - 1)))] [4, 5] <| wI 6 ((n : Int) - 1) <| bD [0] 4 0 [(3, iQ ((n : Int) - 1))] [] <| zDN <| mcont_block ?_
  refine cont_nilrow 52 1 ?_
  refine cM ?_
  refine rC 3 (iQ ((n : Int) - 1 - ((([] : List Nat).length : Nat) : Int))) rfl (congrArg (Value.int .i64) (by simp)) <| mcont_loop (α := List Nat × β) (fun x_ : List Nat × β => BackP n x_.1 ∧ Inv x_.1 x_.2) (fun x_ : List Nat × β => [(0, .func (.yield l_) #[] #[]), (1, pT kb), (3, iQ ((n : Int) - 1 - ((x_.1.length : Nat) : Int)))]) (fun x_ : List Nat × β => ((.gen (rowE (none) 0 0 0 52 1 (ivals .u32 []) true)) :: e1 :: e2 :: (.ro kb [.slice A n cap] 26) :: (rD (A) g o n 14 (dvals IT.cells its)) :: (Tr x_.2))) (fun x_ : List Nat × β => n - x_.1.length) ([], b0) (show BackP n ([]) ∧ Inv ([]) (b0) from ⟨BackP.nil _, h0⟩) (by kernel_rfl) (by kernel_rfl) ?_
  rintro ⟨pre, b⟩ hinv2_
  replace hinv2_ : BackP n pre ∧ Inv pre b := hinv2_
  refine cM ?_
  obtain ⟨hP, hI⟩ := hinv2_
  have hpl := hP.2
  refine mcont_seq ?_
  refine mcont_seq ?_
  refine mcont_region 2 rfl (by kernel_rfl) ?_
  refine bD [0, 0] 2 0 [(8, .bool (decide (((n : Int) - 1 - ((pre.length : Nat) : Int)) ≥ 0)))] [7] <| zDN <| sD 8 rfl (fun c3_ => ?_) fun c3_ => ?_
  ·
    refine mcont_true rfl ?_
    refine mcont_skip ?_
    refine zN <| mcont_seq ?_
    refine mcont_block ?_
    refine mcont_seq ?_
    refine icont_region 8 rfl ?_
    refine pli_ops 6 2 6 rfl rfl (by kernel_rfl) ?_
    obtain ⟨x, hx⟩ : ∃ y_ : Nat, (y_ : Int) = (n : Int) - 1 - ((pre.length : Nat) : Int) := ⟨n - 1 - pre.length, by omega⟩
    refine rC 3 (iQ (x : Int)) rfl (congrArg (Value.int .i64) hx.symm) ?_
    have hP2 : BackP n (pre ++ [x]) := hP.step hx
    refine bD [0, 0, 3, 0] 4 2 [(11, .func (.yield l_) #[] #[]), (12, iQ (x : Int)), (13, .slice A n cap), (14, iQ (x : Int))] [] <| pS 5 1 <| rC 13 (.slice (some ⟨g, o, none⟩) n cap) rfl (by rw [hra (by omega)]) <| sS 15 (Instr.indexAt 26 (.slice (some ⟨g, o, none⟩) n cap) (iQ (x : Int))) (.pointer (some ⟨g, o + x * 14, none⟩)) (fun w hT => rI 94 14 w) <| pS 6 0 <| sS 16 (Instr.loadAt 94 (.pointer (some ⟨g, o + x * 14, none⟩))) (.agg #[iQ 0, iQ 0, .pointer (some ⟨(dget its x).b, 0, none⟩), iQ ((dget its x).t.X), iQ ((dget its x).t.Y), iQ ((dget its x).t.s), iQ ((dget its x).t.al), iQ ((dget its x).t.ca), iQ ((dget its x).t.cb), iQ ((dget its x).t.cc), iQ ((dget its x).t.cd), .slice ((dget its x).t.A) ((dget its x).t.k) ((dget its x).t.cp), .string ⟨#[]⟩, iQ 0]) (fun w hT => rM 14 ([iQ 0, iQ 0, .pointer (some ⟨(dget its x).b, 0, none⟩), iQ ((dget its x).t.X), iQ ((dget its x).t.Y), iQ ((dget its x).t.s), iQ ((dget its x).t.al), iQ ((dget its x).t.ca), iQ ((dget its x).t.cb), iQ ((dget its x).t.cc), iQ ((dget its x).t.cd), .slice ((dget its x).t.A) ((dget its x).t.k) ((dget its x).t.cp), .string ⟨#[]⟩, iQ 0]) (Rd.dcell IT.size (hT.ok 4 _ rfl) (by omega))) <| zDN <| pli_yield 17 7 1 rfl rfl (by kernel_rfl) (by kernel_rfl) (R := fun v_ w_ => (v_ = .bool true ∧ ∃ b_, Inv (pre ++ [x]) b_ ∧ Tab w0 w_ ((.gen (rowE (none) 0 0 0 52 1 (ivals .u32 []) true)) :: e1 :: e2 :: (.ro kb [.slice A n cap] 26) :: (rD (A) g o n 14 (dvals IT.cells its)) :: (Tr b_))) ∨ (v_ = .bool false ∧ Jx w_)) (fun w_ hT_ => YieldAt.weaken (hY pre x b w_ _ (fun _ => rfl) hI hP2 hT_) (fun e_ w_ h_ => by rcases h_ with ⟨rfl, hh_⟩ | ⟨rfl, hh_⟩; exact ⟨_, rfl, .inl ⟨rfl, hh_⟩⟩; exact ⟨_, rfl, .inr ⟨rfl, hh_⟩⟩)) ?_
    rintro a_ w_ v_ ha_ hf_ (⟨rfl, b, hI, hT_⟩ | ⟨rfl, hJ⟩)
    ·
      refine Cont.go ?_ ha_ hf_ hT_
      refine cM ?_
      refine pli_ops 1 0 8 rfl rfl (by kernel_rfl) ?_
      refine bD [0] 8 0 [(18, .bool false)] [] <| zDN <| pli_done ?_
      refine zN <| mcont_false rfl ?_
      refine mcont_skip ?_
      refine blk_normal <| zN <| mcont_region 3 rfl (by kernel_rfl) ?_
      refine bD [0, 0] 2 1 [(10, iQ (IntKind.i64.wrap ((x : Int) - 1)))] [9] <| wI 10 ((x : Int) - 1) <| bD [0] 3 0 [(3, iQ ((x : Int) - 1))] [] <| zDN <| rC 3 (iQ ((n : Int) - 1 - (((pre ++ [x]).length : Nat) : Int))) rfl (congrArg (Value.int .i64) (by rw [List.length_append, List.length_singleton]; omega)) <| cA (pre ++ [x], b) (show BackP n (pre ++ [x]) ∧ Inv (pre ++ [x]) (b) from ⟨hP2, hI⟩) (show n - (pre ++ [x]).length < n - pre.length from by rw [List.length_append, List.length_singleton]; omega)
    ·
      refine Cont.go ?_ ha_ hf_ (Tab.start w_)
      refine cM ?_
      refine pli_ops 1 0 8 rfl rfl (by kernel_rfl) ?_
      refine bD [0] 8 0 [(18, .bool true)] [] <| zDN <| pli_done ?_
      refine zN <| mcont_true rfl ?_
      refine mcont_ret ?_
      refine blk_ret <| then_ret <| then_ret <| blk_ret ?_
      refine ret_none (.inl rfl) rfl (fun w hT => ?_)
      exact ⟨⟨_, rfl⟩, .inr (hJx _ _ hJ (hT.toBelow (fun i e h => by simp at h)))⟩
  refine mcont_false rfl ?_
  refine mcont_exit ?_
  refine then_exit <| then_exit <| blk_exit ?_
  refine ret_none (.inr rfl) rfl (fun w hT => ?_)
  exact ⟨⟨_, rfl⟩, .inl ⟨pre, b, ⟨hP, by omega⟩, hI, hT.drop (fun _ => rfl)⟩⟩
theorem backIter (kb : Nat) (A : Option Addr) (g o n cap : Nat) (its : List IT) (hn : n ≤ 100) (hra : 0 < n → A = some ⟨g, o, none⟩) (hrl : its.length = n) (w0 : World) : IterC Tryz.prog 95 #[pT kb] (fun z_ : Nat => #[iQ (z_ : Int), .agg #[iQ 0, iQ 0, .pointer (some ⟨(dget its z_).b, 0, none⟩), iQ ((dget its z_).t.X), iQ ((dget its z_).t.Y), iQ ((dget its z_).t.s), iQ ((dget its z_).t.al), iQ ((dget its z_).t.ca), iQ ((dget its z_).t.cb), iQ ((dget its z_).t.cc), iQ ((dget its z_).t.cd), .slice ((dget its z_).t.A) ((dget its z_).t.k) ((dget its z_).t.cp), .string ⟨#[]⟩, iQ 0]]) w0 [.ro kb [.slice A n cap] 26, rD (A) g o n 14 (dvals IT.cells its)] (fun _ => []) (fun xs_ => BackP n xs_ ∧ xs_.length = n) (fun p_ => BackP n p_) :=
  fun Inv Tr Jx l e1 e2 W1 b0 hJx hY h0 hT => backIter0 kb A g o n cap its hn hra hrl w0 Inv Tr Jx l e1 e2 W1 b0 hJx hY h0 hT
theorem backOf (A : Option Addr) (n cap : Nat) (w : World) :
    Calls Tryz.prog 68 #[.slice A n cap] w fun e w' => ∃ kb : Nat, e = .returned (.func (.func 95) #[] #[pT kb]) ∧ Tab w w' [.cells kb [.slice A n cap] 26 true] := by
 refine eN [(0, .slice A n cap)] Tryz.func68 Tryz.ntmps68 rfl (Tab.start w) ?_
 refine zSR 2 <| bW [0, 0] 2 0 (fun b1 => [(1, .pointer (pB b1))]) (fun b1 => [.cells b1 [.slice A n cap] 26 true]) [1] fun b1 => ?_
 refine zDNSR 2 <| bS [0, 0] 2 0 [(2, .func (.func 95) #[] #[.pointer (pB b1)])] <| zDNr <| rA rfl 0 (.func (.func 95) #[] #[.pointer (pB b1)]) fun w hT => ?_
 exact ⟨_, rfl, hT⟩
theorem planjobs0 (A : Option Addr) (g o n cap : Nat) (xs : List Rect) (q : Int) (w : World) (hT0 : Tab w w [rD (A) g o n 4 (rvals xs)]) (hn : n ≤ 274877906944) :
    Calls Tryz.prog 39 #[.slice none 0 0, iQ q, .slice A n cap] w fun e w' => ∃ (A_ : Option Addr) (g_ cp_ : Nat), e = .returned (.slice A_ n cp_) ∧ Tab w w' [.gen (rowE (A_) g_ n cp_ 68 5 (dvals JS.cells (xs.map (JS.of q))) true)] := by
  obtain ⟨hra, hrl⟩ := Rd.factsR (hT0.ok 0 _ rfl)
  refine eN [(0, .slice none 0 0), (1, iQ q), (2, .slice A n cap)] Tryz.func39 Tryz.ntmps39 rfl hT0 ?_
  refine zSR 1 <| bD [0] 1 0 [] [6] <| zDNSSR 3 <| bD [0, 0, 0] 3 0 [(9, .slice A n cap), (10, iQ (n : Int)), (11, iQ 0)] [] <| zDNB <| cont_nilrow 68 5 ?_
  refine cM ?_
  refine cont_rowEqD (cel := JS.cells) (z := 5) 0 ([]) (((xs.take 0).map (JS.of q))) rfl rfl ?_
  refine cL (α := Nat × Option Addr × Nat × Nat) (fun x_ : Nat × Option Addr × Nat × Nat => x_.1 ≤ n) (fun x_ : Nat × Option Addr × Nat × Nat => [(0, .slice x_.2.1 x_.1 x_.2.2.2), (1, iQ q), (9, .slice A n cap), (10, iQ (n : Int)), (11, iQ (x_.1 : Int))]) (fun x_ : Nat × Option Addr × Nat × Nat => [.gen (rowE (x_.2.1) x_.2.2.1 x_.1 x_.2.2.2 68 5 (dvals JS.cells ((xs.take x_.1).map (JS.of q))) true), rD (A) g o n 4 (rvals xs)]) (fun x_ : Nat × Option Addr × Nat × Nat => n - x_.1) (0, none, 0, 0) (show (0) ≤ n from (by omega)) ?_
  rintro ⟨i, Ao, gw, co⟩ hinv2_
  replace hinv2_ : i ≤ n := hinv2_
  refine cM ?_
  have hi := hinv2_
  refine zSR 1 <| bD [0] 1 0 [(12, .bool (decide ((i : Int) < (n : Int))))] [] <| zDNS <| sD 12 rfl (fun c3_ => ?_) fun c3_ => ?_
  ·
    refine zTKNSBSR 4 <| pS 1 3 <| rC 9 (.slice (some ⟨g, o, none⟩) n cap) rfl (by rw [hra (by omega)]) <| sS 13 (Instr.indexAt 23 (.slice (some ⟨g, o, none⟩) n cap) (iQ (i : Int))) (.pointer (some ⟨g, o + i * 4, none⟩)) (fun w hT => rI 32 4 w) <| pS 2 2 <| sS 14 (Instr.loadAt 32 (.pointer (some ⟨g, o + i * 4, none⟩))) (.agg #[iQ ((rget xs i).x0), iQ ((rget xs i).y0), iQ ((rget xs i).x1), iQ ((rget xs i).y1)]) (fun w hT => rM 4 (rcells (rget xs i)) (Rd.rect (hT.ok 1 _ rfl) (by omega))) <| bW [0, 0] 4 0 (fun b4 => [(0, .slice Ao i co), (1, iQ q), (8, pT b4), (9, .slice (some ⟨g, o, none⟩) n cap), (10, iQ (n : Int)), (11, iQ (i : Int))]) (fun b4 => [.cells b4 [iQ ((rget xs i).x0), iQ ((rget xs i).y0), iQ ((rget xs i).x1), iQ ((rget xs i).y1)] 32 true, .gen (rowE (Ao) gw i co 68 5 (dvals JS.cells ((xs.take i).map (JS.of q))) true), rD (A) g o n 4 (rvals xs)]) [0, 1, 8, 9, 10, 11] fun b4 => ?_
    refine zDNR 7 <| bW [0, 0, 0, 0, 0] 5 2 (fun b5 => [(1, iQ q), (9, .slice (some ⟨g, o, none⟩) n cap), (10, iQ (n : Int)), (11, iQ (i : Int)), (15, .slice Ao i co), (19, sL b5 1 1)]) (fun b5 => [.cells b5 [iQ q, iQ ((rget xs i).x0), iQ ((rget xs i).y0), iQ ((rget xs i).x1), iQ ((rget xs i).y1)] 68 true, .cells b4 [iQ ((rget xs i).x0), iQ ((rget xs i).y0), iQ ((rget xs i).x1), iQ ((rget xs i).y1)] 32 true, .gen (rowE (Ao) gw i co 68 5 (dvals JS.cells ((xs.take i).map (JS.of q))) true), rD (A) g o n 4 (rvals xs)]) [1, 9, 10, 11, 15, 19] fun b5 => ?_
    refine fG 1 <| pS 6 1 <| sSW (α := Option Addr × Nat × Nat) 20 (Builtin.append_ #[36, 36] 36 #[.slice Ao i co, sL b5 1 1]) (fun x_ => .slice x_.1 (i + 1) x_.2.2) (fun x_ => [.cells b5 [iQ q, iQ ((rget xs i).x0), iQ ((rget xs i).y0), iQ ((rget xs i).x1), iQ ((rget xs i).y1)] 68 true, .gen (rowE (x_.1) x_.2.1 (i + 1) x_.2.2 68 5 (dvals JS.cells (((xs.take i).map (JS.of q)) ++ [(⟨q, (rget xs i).x0, (rget xs i).y0, (rget xs i).x1, (rget xs i).y1⟩ : JS)])) true), rD (A) g o n 4 (rvals xs)]) (fun _ => True) (by kernel_rfl) (fun w hT => append_own (n' := (i + 1)) (z := .agg #[iQ 0, iQ 0, iQ 0, iQ 0, iQ 0]) hT (i := 1) (bytes := 40) rfl (by kernel_rfl) (by kernel_rfl) rfl (by decide) (by decide) (Rd.ofCells (vals := dvals JS.cells [(⟨q, (rget xs i).x0, (rget xs i).y0, (rget xs i).x1, (rget xs i).y1⟩ : JS)]) (hT.ok 0 _ rfl) rfl rfl) (dvals_one JS.one [(⟨q, (rget xs i).x0, (rget xs i).y0, (rget xs i).x1, (rget xs i).y1⟩ : JS)]) (by omega) (dvals_append ((xs.take i).map (JS.of q)) [(⟨q, (rget xs i).x0, (rget xs i).y0, (rget xs i).x1, (rget xs i).y1⟩ : JS)]) rfl) ?_
    rintro ⟨A6, g6, cp6⟩ -
    refine cM ?_
    refine cont_fact (F := (0 < (i + 1) → (A6 : Option Addr) = some ⟨g6, 0, none⟩) ∧ (((xs.take i).map (JS.of q)) ++ [(⟨q, (rget xs i).x0, (rget xs i).y0, (rget xs i).x1, (rget xs i).y1⟩ : JS)]).length = (i + 1) ∧ (i + 1) ≤ cp6 ∧ cp6 ≤ maxLen) (fun w hT => Row.factsD JS.size (by decide) (hT.ok 1 _ rfl)) (fun hr7_ => ?_)
    obtain ⟨hr7_a, hr7_l, hr7_c, hr7_m⟩ := hr7_
    unfold maxLen at hr7_m
    refine bD [0] 7 0 [(0, .slice A6 (i + 1) cp6)] [] <| fG 0 <| zDbNR 2 <| bD [0] 1 1 [(21, iQ (IntKind.i64.wrap ((i : Int) + 1)))] [] <| wI 21 ((i : Int) + 1) <| bD [0] 2 0 [(11, iQ ((i : Int) + 1))] [] <| zDN <| rC 9 (.slice A n cap) rfl (by rw [hra (by omega)]) <| cont_rowEqD (cel := JS.cells) (z := 5) 0 (((xs.take i).map (JS.of q)) ++ [(⟨q, (rget xs i).x0, (rget xs i).y0, (rget xs i).x1, (rget xs i).y1⟩ : JS)]) (((xs.take (i + 1)).map (JS.of q))) rfl (jobs_step (by omega) q) ?_
    refine cA (i + 1, A6, g6, cp6) (show (i + 1) ≤ n from (by omega))
  refine zFXxxeNSR 2 <| bS [0, 0] 2 0 [(6, .slice Ao i co)] <| zDNr <| rA rfl 0 (.slice Ao i co) fun w hT => ?_
  replace hT := hT.erase 1 (fun e h hw => by cases h; first | rfl | cases hw)
  obtain rfl : i = n := by omega
  rw [List.take_of_length_le (by omega)] at hT
  exact ⟨_, _, _, rfl, hT⟩
theorem splitE (a b c d : Int) (w : World) :
    Calls Tryz.prog 38 #[.agg #[iQ 0, .slice none 0 0], .agg #[iQ a, iQ b, iQ c, iQ d]] w fun e w' => ∃ (r_ : Nat) (A_ : Option Addr) (g_ k_ cp_ : Nat), e = .returned (.tuple #[sL r_ 0 0, .slice A_ k_ cp_]) ∧ Tab w w' [.gen (rowE (A_) g_ k_ cp_ 32 4 (rvals (canR [(⟨a, b, c, d⟩ : Rect)])) true), oE r_ 0 0 23 1 (dvals RS.cells ([] : List RS))] := by
  refine enterM 39 [(0, .agg #[iQ 0, .slice none 0 0]), (1, .agg #[iQ a, iQ b, iQ c, iQ d])] [] Tryz.func38 rfl Tryz.ntmps38 rfl (by kernel_rfl) (Tab.start w) ?_
  refine zSR 4 <| batch2 [0, 0, 0, 0] 4 0 (fun b1 b2 => [(2, pT b1), (3, pT b2)]) (fun b1 b2 => [.cells b2 [iQ a, iQ b, iQ c, iQ d] 32 true, .cells b1 [iQ 0, .slice none 0 0] 28 true]) rfl rfl [2, 3] (fun _ _ => rfl) (fun b1 b2 => by kernel_rfl) (fun b1 b2 => by kernel_rfl) (fun b1 b2 => ?_)
  refine zDNSR 6 <| bD [0, 1, 0] 3 3 [(12, iQ 0)] [10, 11] <| pS 4 2 <| sSW 13 (Instr.makeSlice 44 (iQ 0) (iQ 0)) (fun r3 => sL r3 0 0) (fun r3 => [oE r3 0 0 23 1 (dvals RS.cells (List.replicate 0 RS.nil)), .cells b2 [iQ a, iQ b, iQ c, iQ d] 32 true, .cells b1 [iQ 0, .slice none 0 0] 28 true]) (fun _ => True) (by kernel_rfl) (fun w hT => make_rowS hT (bytes := 24) 0 (by kernel_rfl) (by kernel_rfl) (by omega) (by omega)) (fun r3 _ => ?_)
  refine bW [0, 0] 6 0 (fun b4 => [(2, pT b1), (3, pT b2), (6, pT b4)]) (fun b4 => [.cells b4 [sL r3 0 0] 44 true, oE r3 0 0 23 1 (dvals RS.cells (List.replicate 0 RS.nil)), .cells b2 [iQ a, iQ b, iQ c, iQ d] 32 true, .cells b1 [iQ 0, .slice none 0 0] 28 true]) [2, 3, 6] fun b4 => ?_
  refine zDNSR 5 <| bW [2, 0] 2 3 (fun b5 => [(2, pT b1), (6, pT b4), (15, sL b5 1 1)]) (fun b5 => [.cells b5 [iQ a, iQ b, iQ c, iQ d] 32 true, .cells b4 [sL r3 0 0] 44 true, oE r3 0 0 23 1 (dvals RS.cells (List.replicate 0 RS.nil)), .cells b2 [iQ a, iQ b, iQ c, iQ d] 32 true, .cells b1 [iQ 0, .slice none 0 0] 28 true]) [2, 6, 15] fun b5 => ?_
  refine fG 3 <| pS 3 2 <| cont_asRow 0 1 4 rfl (vals := rvals [(⟨a, b, c, d⟩ : Rect)]) rfl rfl (by decide) ?_
  refine cG (d := 16) (α := Option Addr × Nat × Nat × Nat) (fun x_ => .slice x_.1 x_.2.2.1 x_.2.2.2) (fun x_ => [.gen (rowE (x_.1) x_.2.1 x_.2.2.1 x_.2.2.2 32 4 (rvals (canR [(⟨a, b, c, d⟩ : Rect)])) true), oE b5 1 1 32 4 (rvals [(⟨a, b, c, d⟩ : Rect)]), .cells b4 [sL r3 0 0] 44 true, oE r3 0 0 23 1 (dvals RS.cells (List.replicate 0 RS.nil)), .cells b1 [iQ 0, .slice none 0 0] 28 true]) (fun x_ => True) (fun w hT => (regOf (some ⟨b5, 0, none⟩) b5 0 1 1 [(⟨a, b, c, d⟩ : Rect)] w (hT.viewRo (.cons (i := 0) rfl Vw.rowRd .nil) rfl) (by omega)).mono fun e w' ⟨A6, g7, k8, cp9, he_, ht_⟩ => ⟨(A6, g7, k8, cp9), he_, trivial, hT.news ht_ rfl⟩) ?_
  rintro ⟨A6, g7, k8, cp9⟩ hf10_
  refine cM ?_
  refine fR 0 k8 A6 g7 cp9 (canR [(⟨a, b, c, d⟩ : Rect)]) rfl fun hr11_a hr11_l hr11_c hr11_m => ?_
  refine bW [0, 0] 5 0 (fun b12 => [(2, pT b1), (6, pT b4), (7, pT b12)]) (fun b12 => [.cells b12 [.slice A6 k8 cp9] 23 true, .gen (rowE (A6) g7 k8 cp9 32 4 (rvals (canR [(⟨a, b, c, d⟩ : Rect)])) true), oE b5 1 1 32 4 (rvals [(⟨a, b, c, d⟩ : Rect)]), .cells b4 [sL r3 0 0] 44 true, oE r3 0 0 23 1 (dvals RS.cells (List.replicate 0 RS.nil)), .cells b1 [iQ 0, .slice none 0 0] 28 true]) [2, 6, 7] fun b12 => ?_
  refine zDNSSR 3 <| bD [0, 5] 2 1 [(18, .slice none 0 0)] [17] <| fG 5 <| pS 3 0 <| cG (d := 19) (α := Nat) (fun x_ => .func (.func 95) #[] #[pT x_]) (fun x_ => [.cells x_ [.slice none 0 0] 26 true, .cells b12 [.slice A6 k8 cp9] 23 true, .gen (rowE (A6) g7 k8 cp9 32 4 (rvals (canR [(⟨a, b, c, d⟩ : Rect)])) true), oE b5 1 1 32 4 (rvals [(⟨a, b, c, d⟩ : Rect)]), .cells b4 [sL r3 0 0] 44 true, oE r3 0 0 23 1 (dvals RS.cells (List.replicate 0 RS.nil))]) (fun x_ => True) (fun w hT => (backOf none 0 0 w).mono fun e w' ⟨kb13, he_, ht_⟩ => ⟨kb13, he_, trivial, hT.news ht_ rfl⟩) ?_
  rintro kb13 hf14_
  refine cM ?_
  refine zDNB <| cont_nilrow 94 14 ?_
  refine cM ?_
  refine cont_rowEqD (cel := IT.cells) (z := 14) 0 ([]) (([] : List IT)) rfl rfl ?_
  refine cont_weaken 1 (.ro kb13 [.slice none 0 0] 26) rfl rfl Vw.roc rfl ?_
  refine cM ?_
  refine cont_weaken 0 (rD (none) 0 0 0 14 (dvals IT.cells ([] : List IT))) rfl rfl Vw.rowRd rfl ?_
  refine cM ?_
  refine cont_pick [1, 0, 2, 3, 4, 5, 6] [.ro kb13 [.slice none 0 0] 26, rD (none) 0 0 0 14 (dvals IT.cells ([] : List IT)), .cells b12 [.slice A6 k8 cp9] 23 true, .gen (rowE (A6) g7 k8 cp9 32 4 (rvals (canR [(⟨a, b, c, d⟩ : Rect)])) true), oE b5 1 1 32 4 (rvals [(⟨a, b, c, d⟩ : Rect)]), .cells b4 [sL r3 0 0] 44 true, oE r3 0 0 23 1 (dvals RS.cells (List.replicate 0 RS.nil))] (by decide) rfl rfl ?_
  refine cont_rangeFunc (X := Nat) (β := Unit) (γ := Unit) (gf := 95) (lb := #[pT kb13]) (fun z_ : Nat => #[iQ (z_ : Int), .agg #[iQ 0, iQ 0, .pointer (some ⟨(dget ([] : List IT) z_).b, 0, none⟩), iQ ((dget ([] : List IT) z_).t.X), iQ ((dget ([] : List IT) z_).t.Y), iQ ((dget ([] : List IT) z_).t.s), iQ ((dget ([] : List IT) z_).t.al), iQ ((dget ([] : List IT) z_).t.ca), iQ ((dget ([] : List IT) z_).t.cb), iQ ((dget ([] : List IT) z_).t.cc), iQ ((dget ([] : List IT) z_).t.cd), .slice ((dget ([] : List IT) z_).t.A) ((dget ([] : List IT) z_).t.k) ((dget ([] : List IT) z_).t.cp), .string ⟨#[]⟩, iQ 0]]) [.ro kb13 [.slice none 0 0] 26, rD (none) 0 0 0 14 (dvals IT.cells ([] : List IT))] (fun z_ : Nat => []) (fun xs_ => BackP 0 xs_ ∧ xs_.length = 0) (fun xs_ => BackP 0 xs_) (fun (pre : List (Nat)) (x_ : Unit) => True) (fun x_ : Unit => [.cells b12 [.slice A6 k8 cp9] 23 true, .gen (rowE (A6) g7 k8 cp9 32 4 (rvals (canR [(⟨a, b, c, d⟩ : Rect)])) true), oE b5 1 1 32 4 (rvals [(⟨a, b, c, d⟩ : Rect)]), .cells b4 [sL r3 0 0] 44 true, oE r3 0 0 23 1 (dvals RS.cells (List.replicate 0 RS.nil))]) (fun (_ : Code) (_ : Unit) => False) (fun x_ : Unit => []) () rfl (fun _ _ => rfl) (fun _ => rfl) (by kernel_rfl) (backIter kb13 none 0 0 0 0 ([] : List IT) (by omega) (fun h_ => absurd h_ (by decide)) rfl _) trivial rfl ?_ ?_ ?_ ?_
  ·
    rintro l_ z16_ e16_ e16b_ e16q_ pre x ⟨⟩ B_ hz_ hinv17_ hsp_ hB_
    replace hinv17_ : True := hinv17_
    replace hsp_ : BackP 0 (pre ++ [(x)]) := hsp_
    exact absurd hsp_.last.2 (Nat.not_lt_zero _)
  ·
    rintro D19_ xs_ ⟨⟩ hS_ hinv18_
    replace hinv18_ : True := hinv18_
    replace hS_ : BackP 0 xs_ ∧ xs_.length = 0 := hS_
    refine cM ?_
    refine blk_normal <| zN <| cSq <| drawn_enter 4 [] rfl (by kernel_rfl) ?_
    refine tD 0 [] [(0, 6), (1, 3), (2, 0), (3, 0)] 0 [3, 2, 1, 0] [(4, sL r3 0 0), (5, .slice A6 k8 cp9)] [37, 38] ?_ (hpo := (pok_then pok_np))
    refine dD <| zNr <| mark_end 0 rfl (.inl rfl) ?_
    refine cM ?_
    refine rB rfl 0 0 (sL r3 0 0) (.slice A6 k8 cp9) fun w hT => ?_
    replace hT := hT.erase 6 (fun e h hw => by cases h; first | rfl | cases hw)
    replace hT := hT.erase 5 (fun e h hw => by cases h; first | rfl | cases hw)
    replace hT := hT.erase 3 (fun e h hw => by cases h; first | rfl | cases hw)
    replace hT := hT.erase 2 (fun e h hw => by cases h; first | rfl | cases hw)
    replace hT := hT.erase 1 (fun e h hw => by cases h; first | rfl | cases hw)
    replace hT := hT.erase 0 (fun e h hw => by cases h; first | rfl | cases hw)
    exact ⟨_, _, _, _, _, rfl, hT⟩
  ·
    intro D_  c_ h_; exact h_.elim
  ·
    intro D_ id_ c_ h_; exact h_.elim
theorem planJobsE (A : Option Addr) (g o n cap : Nat) (xs : List Rect) (a b c d : Int) (w : World) (hT0 : Tab w w [rD (A) g o n 4 (rvals xs)]) (hn : n ≤ 65536) :
    Calls Tryz.prog 13 #[.agg #[iQ 0, .slice none 0 0], .agg #[iQ a, iQ b, iQ c, iQ d], .slice A n cap] w fun e w' => ∃ (A_ : Option Addr) (g_ k_ cp_ : Nat), e = .returned (.slice A_ k_ cp_) ∧ Tab w w' [.gen (rowE (A_) g_ k_ cp_ 68 5 (dvals JS.cells ((regM andB (canR [(⟨a, b, c, d⟩ : Rect)]) xs).map (JS.of (-1)))) true)] := by
  obtain ⟨hra, hrl⟩ := Rd.factsR (hT0.ok 0 _ rfl)
  refine eN [(0, .agg #[iQ 0, .slice none 0 0]), (1, .agg #[iQ a, iQ b, iQ c, iQ d]), (2, .slice A n cap)] Tryz.func13 Tryz.ntmps13 rfl hT0 ?_
  refine zSR 3 <| batch2 [0, 0, 0] 3 0 (fun b1 b2 => [(2, .slice A n cap), (3, pT b1), (4, pT b2)]) (fun b1 b2 => [.cells b2 [iQ a, iQ b, iQ c, iQ d] 32 true, .cells b1 [iQ 0, .slice none 0 0] 28 true, rD (A) g o n 4 (rvals xs)]) rfl rfl [2, 3, 4] (fun _ _ => rfl) (fun b1 b2 => by kernel_rfl) (fun b1 b2 => by kernel_rfl) (fun b1 b2 => ?_)
  refine zDNSR 8 <| bD [1, 0] 2 6 [(13, .agg #[iQ 0, .slice none 0 0]), (14, .agg #[iQ a, iQ b, iQ c, iQ d])] [] <| fG 0 <| fG 0 <| pS 3 5 <| cG (d := 15) (α := Nat × Option Addr × Nat × Nat × Nat) (fun x_ => .tuple #[sL x_.1 0 0, .slice x_.2.1 x_.2.2.2.1 x_.2.2.2.2]) (fun x_ => [.gen (rowE (x_.2.1) x_.2.2.1 x_.2.2.2.1 x_.2.2.2.2 32 4 (rvals (canR [(⟨a, b, c, d⟩ : Rect)])) true), .gen (rowE (some ⟨x_.1, 0, none⟩) x_.1 0 0 23 1 (dvals RS.cells ([] : List RS)) true), rD (A) g o n 4 (rvals xs)]) (fun x_ => True) (fun w hT => (splitE a b c d w).mono fun e w' ⟨r3, A4, g5, k6, cp7, he_, ht_⟩ => ⟨(r3, A4, g5, k6, cp7), he_, trivial, hT.news ht_ rfl⟩) ?_
  rintro ⟨r3, A4, g5, k6, cp7⟩ hf8_
  refine cM ?_
  refine fR 0 k6 A4 g5 cp7 (canR [(⟨a, b, c, d⟩ : Rect)]) rfl fun hr9_a hr9_l hr9_c hr9_m => ?_
  have hcs_ : (canR [(⟨a, b, c, d⟩ : Rect)]).length ≤ 784 := canR_small (by simp)
  refine bD [0, 0, 0, 0, 0] 8 0 [(7, sL r3 0 0), (8, .slice A4 k6 cp7)] [12, 16, 17] <| zDNSR 5 <| bD [0, 0] 2 3 [(18, .slice A4 k6 cp7), (19, .slice A n cap)] [] <| pS 3 2 <| cG (d := 20) (α := Option Addr × Nat × Nat × Nat) (fun x_ => .slice x_.1 x_.2.2.1 x_.2.2.2) (fun x_ => [.gen (rowE (x_.1) x_.2.1 x_.2.2.1 x_.2.2.2 32 4 (rvals (regM andB (canR [(⟨a, b, c, d⟩ : Rect)]) xs)) true), .gen (rowE (A4) g5 k6 cp7 32 4 (rvals (canR [(⟨a, b, c, d⟩ : Rect)])) true), oE r3 0 0 23 1 (dvals RS.cells ([] : List RS)), rD (A) g o n 4 (rvals xs)]) (fun x_ => True) (fun w hT => (regCut A4 g5 0 k6 cp7 (canR [(⟨a, b, c, d⟩ : Rect)]) A g o n cap xs w (hT.viewRo (.cons (i := 0) rfl Vw.rowRd (.cons (i := 2) rfl Vw.rd .nil)) rfl) (by omega)).mono fun e w' ⟨A10, g11, k12, cp13, he_, ht_⟩ => ⟨(A10, g11, k12, cp13), he_, trivial, hT.news ht_ rfl⟩) ?_
  rintro ⟨A10, g11, k12, cp13⟩ hf14_
  refine cM ?_
  refine fR 0 k12 A10 g11 cp13 (regM andB (canR [(⟨a, b, c, d⟩ : Rect)]) xs) rfl fun hr15_a hr15_l hr15_c hr15_m => ?_
  have hrl9_ := regM_length (kf := andB) (a := (canR [(⟨a, b, c, d⟩ : Rect)])) (b := xs) (by omega)
  refine pS 4 1 <| cG (d := 21) (α := Option Addr × Nat × Nat) (fun x_ => .slice x_.1 k12 x_.2.2) (fun x_ => [.gen (rowE (x_.1) x_.2.1 k12 x_.2.2 68 5 (dvals JS.cells ((regM andB (canR [(⟨a, b, c, d⟩ : Rect)]) xs).map (JS.of (-1)))) true), .gen (rowE (A10) g11 k12 cp13 32 4 (rvals (regM andB (canR [(⟨a, b, c, d⟩ : Rect)]) xs)) true), .gen (rowE (A4) g5 k6 cp7 32 4 (rvals (canR [(⟨a, b, c, d⟩ : Rect)])) true), oE r3 0 0 23 1 (dvals RS.cells ([] : List RS)), rD (A) g o n 4 (rvals xs)]) (fun x_ => True) (fun w hT => (planjobs0 A10 g11 0 k12 cp13 (regM andB (canR [(⟨a, b, c, d⟩ : Rect)]) xs) (-1) w (hT.viewRo (.cons (i := 0) rfl Vw.rowRd .nil) rfl) (by omega)).mono fun e w' ⟨A16, g17, cp18, he_, ht_⟩ => ⟨(A16, g17, cp18), he_, trivial, hT.news ht_ rfl⟩) ?_
  rintro ⟨A16, g17, cp18⟩ hf19_
  refine cM ?_
  refine cont_fact (F := (0 < k12 → (A16 : Option Addr) = some ⟨g17, 0, none⟩) ∧ ((regM andB (canR [(⟨a, b, c, d⟩ : Rect)]) xs).map (JS.of (-1))).length = k12 ∧ k12 ≤ cp18 ∧ cp18 ≤ maxLen) (fun w hT => Row.factsD JS.size (by decide) (hT.ok 0 _ rfl)) (fun hr20_ => ?_)
  obtain ⟨hr20_a, hr20_l, hr20_c, hr20_m⟩ := hr20_
  unfold maxLen at hr20_m
  refine bD [0] 5 0 [(9, .slice A16 k12 cp18)] [] <| zDNSSR 3 <| bD [0, 0, 0] 3 0 [(22, sL r3 0 0), (23, iQ 0), (24, iQ 0)] [] <| zDNB <| cont_rounds 1 ?_
  refine cont_round 1 0 rfl ?_
  refine zSR 1 <| bD [0] 1 0 [(25, .bool false)] [] <| zDNSFXxxeNSR 2 <| bS [0, 0] 2 0 [(6, .slice A16 k12 cp18)] <| zDNr <| rA rfl 0 (.slice A16 k12 cp18) fun w hT => ?_
  replace hT := hT.erase 4 (fun e h hw => by cases h; first | rfl | cases hw)
  replace hT := hT.erase 3 (fun e h hw => by cases h; first | rfl | cases hw)
  replace hT := hT.erase 2 (fun e h hw => by cases h; first | rfl | cases hw)
  replace hT := hT.erase 1 (fun e h hw => by cases h; first | rfl | cases hw)
  exact ⟨_, _, _, _, rfl, hT⟩
theorem lives17 (w : World) :
    Calls Tryz.prog 17 #[] w fun e w' => e = .returned (.bool true) ∧ Below w.heap.size w w' := by
  refine eN [] Tryz.func17 Tryz.ntmps17 rfl (Tab.start w) ?_
  refine zSR 1 <| bS [0] 1 0 [] <| zDNSR 3 <| bW [0, 0, 0] 3 0 (fun b1 => [(1, sL b1 1 1)]) (fun b1 => [.cells b1 [iQ 0, iQ 0, iQ 4, iQ 4] 32 true]) [1] fun b1 => ?_
  refine zDNSR 7 <| bD [0, 0, 0, 0, 0] 5 2 [(5, .agg #[iQ 0, .slice none 0 0]), (8, .agg #[iQ 0, iQ 0, iQ 4, iQ 4]), (9, sL b1 1 1)] [6, 7] <| pS 6 1 <| cont_asRow 0 1 4 rfl (vals := rvals [(⟨0, 0, 4, 4⟩ : Rect)]) rfl rfl (by decide) ?_
  refine cG (d := 10) (α := Option Addr × Nat × Nat × Nat) (fun x_ => .slice x_.1 x_.2.2.1 x_.2.2.2) (fun x_ => [.gen (rowE (x_.1) x_.2.1 x_.2.2.1 x_.2.2.2 68 5 (dvals JS.cells ((regM andB (canR [(⟨0, 0, 4, 4⟩ : Rect)]) [(⟨0, 0, 4, 4⟩ : Rect)]).map (JS.of (-1)))) true), oE b1 1 1 32 4 (rvals [(⟨0, 0, 4, 4⟩ : Rect)])]) (fun x_ => True) (fun w hT => (planJobsE (some ⟨b1, 0, none⟩) b1 0 1 1 [(⟨0, 0, 4, 4⟩ : Rect)] 0 0 4 4 w (hT.viewRo (.cons (i := 0) rfl Vw.rowRd .nil) rfl) (by omega)).mono fun e w' ⟨A2, g3, k4, cp5, he_, ht_⟩ => ⟨(A2, g3, k4, cp5), he_, trivial, hT.news ht_ rfl⟩) ?_
  rintro ⟨A2, g3, k4, cp5⟩ hf6_
  refine cM ?_
  refine cont_fact (F := (0 < k4 → (A2 : Option Addr) = some ⟨g3, 0, none⟩) ∧ ((regM andB (canR [(⟨0, 0, 4, 4⟩ : Rect)]) [(⟨0, 0, 4, 4⟩ : Rect)]).map (JS.of (-1))).length = k4 ∧ k4 ≤ cp5 ∧ cp5 ≤ maxLen) (fun w hT => Row.factsD JS.size (by decide) (hT.ok 0 _ rfl)) (fun hr7_ => ?_)
  obtain ⟨hr7_a, hr7_l, hr7_c, hr7_m⟩ := hr7_
  unfold maxLen at hr7_m
  refine bD [0] 7 0 [(2, .slice A2 k4 cp5)] [] <| zDNSSR 3 ?_
  have hLL : ((regM andB (canR [(⟨0, 0, 4, 4⟩ : Rect)]) [(⟨0, 0, 4, 4⟩ : Rect)]).map (JS.of (-1))) = [(⟨-1, 0, 0, 4, 4⟩ : JS)] := by rw [lives17_eq]; rfl
  obtain ⟨LJ, hLJ⟩ : ∃ y_ : List JS, y_ = [(⟨-1, 0, 0, 4, 4⟩ : JS)] := ⟨_, rfl⟩
  have hk9 : k4 = 1 := by rw [← hr7_l, hLL]; rfl
  have hlj : LJ.length = 1 := by rw [hLJ]; rfl
  refine cont_rowEqD (cel := JS.cells) (z := 5) 0 (((regM andB (canR [(⟨0, 0, 4, 4⟩ : Rect)]) [(⟨0, 0, 4, 4⟩ : Rect)]).map (JS.of (-1)))) (LJ) rfl (hLL.trans hLJ.symm) ?_
  refine bD [0, 0, 0] 3 0 [(13, .bool ((k4 : Int) != 1))] [11, 12] <| zDN <| rC 13 (.bool false) rfl (congrArg Value.bool (by rw [hk9]; decide)) <| cFa rfl <| cont_skip <| zN <| cSq <| drawn_enter 16 [] rfl (by kernel_rfl) ?_
  refine tD 0 [] [(0, 0)] 15 [0] [(14, .slice A2 k4 cp5)] [] <| rC 14 (sL g3 k4 cp5) rfl (by rw [hr7_a (by omega)]) <| sT 0 [] 1 14 15 (Instr.indexAt 36 (sL g3 k4 cp5) (iQ 0)) (.pointer (some ⟨g3, 0 * 5, none⟩)) (fun w hT => rI 68 5 w) <| tD 0 [] [(2, 0)] 13 [2, 1, 0] [(16, .pointer (some ⟨g3, 0 * 5, none⟩))] [] <| sT 0 [] 3 12 17 (Instr.loadAt 3 (.pointer (some ⟨g3, 0 * 5, none⟩))) (iQ ((dget LJ 0).i)) (fun w hT => rL (Rd.dcell1 JS.size (Row.rd (hT 0 _ rfl)) (by first | (show 0 < LJ.length; omega) | (show 0 < [(⟨0, 0, 4, 4⟩ : Rect)].length; decide)) 0 rfl)) <| tD 0 [] [(4, 0), (5, 0)] 10 [5, 4, 3, 2, 1, 0] [(19, .bool (((dget LJ 0).i) == (-1)))] [18] <| rC 19 (.bool true) rfl (congrArg Value.bool (by rw [hLJ]; decide)) <| tD 0 [] [(6, 0), (10, 0)] 8 [10, 6, 5, 4, 3, 2, 1, 0] [(20, .slice A2 k4 cp5), (24, sL b1 1 1)] [] <| rC 20 (sL g3 k4 cp5) rfl (by rw [hr7_a (by omega)]) <| sT 0 [] 7 7 21 (Instr.indexAt 36 (sL g3 k4 cp5) (iQ 0)) (.pointer (some ⟨g3, 0 * 5, none⟩)) (fun w hT => rI 68 5 w) <| tD 0 [] [(8, 0)] 6 [8, 7, 10, 6, 5, 4, 3, 2, 1, 0] [(22, .pointer (some ⟨g3, 0 * 5 + 1, none⟩))] [] <| sT 0 [] 9 5 23 (Instr.loadAt 32 (.pointer (some ⟨g3, 0 * 5 + 1, none⟩))) (.agg #[iQ ((dget LJ 0).a), iQ ((dget LJ 0).b), iQ ((dget LJ 0).c), iQ ((dget LJ 0).d)]) (fun w hT => rM 4 ([iQ ((dget LJ 0).a), iQ ((dget LJ 0).b), iQ ((dget LJ 0).c), iQ ((dget LJ 0).d)]) (Rd.dsub JS.size (Row.rd (hT 0 _ rfl)) (by first | (show 0 < LJ.length; omega) | (show 0 < [(⟨0, 0, 4, 4⟩ : Rect)].length; decide)) 1 4 rfl)) <| sT 0 [] 11 4 25 (Instr.indexAt 23 (sL b1 1 1) (iQ 0)) (.pointer (some ⟨b1, 0 * 4, none⟩)) (fun w hT => rI 32 4 w) <| sT 0 [] 12 3 26 (Instr.loadAt 32 (.pointer (some ⟨b1, 0 * 4, none⟩))) (.agg #[iQ ((rget [(⟨0, 0, 4, 4⟩ : Rect)] 0).x0), iQ ((rget [(⟨0, 0, 4, 4⟩ : Rect)] 0).y0), iQ ((rget [(⟨0, 0, 4, 4⟩ : Rect)] 0).x1), iQ ((rget [(⟨0, 0, 4, 4⟩ : Rect)] 0).y1)]) (fun w hT => rM 4 (rcells (rget [(⟨0, 0, 4, 4⟩ : Rect)] 0)) (Rd.rect0 (Row.rd (hT 1 _ rfl)) (by first | (show 0 < LJ.length; omega) | (show 0 < [(⟨0, 0, 4, 4⟩ : Rect)].length; decide)))) <| sT 0 [] 13 2 27 (bopS .eql 32 (.tmp 23) (.tmp 26) (.agg #[iQ ((dget LJ 0).a), iQ ((dget LJ 0).b), iQ ((dget LJ 0).c), iQ ((dget LJ 0).d)]) (.agg #[iQ ((rget [(⟨0, 0, 4, 4⟩ : Rect)] 0).x0), iQ ((rget [(⟨0, 0, 4, 4⟩ : Rect)] 0).y0), iQ ((rget [(⟨0, 0, 4, 4⟩ : Rect)] 0).x1), iQ ((rget [(⟨0, 0, 4, 4⟩ : Rect)] 0).y1)])) (.bool (eqInts [(dget LJ 0).a, (dget LJ 0).b, (dget LJ 0).c, (dget LJ 0).d] [(rget [(⟨0, 0, 4, 4⟩ : Rect)] 0).x0, (rget [(⟨0, 0, 4, 4⟩ : Rect)] 0).y0, (rget [(⟨0, 0, 4, 4⟩ : Rect)] 0).x1, (rget [(⟨0, 0, 4, 4⟩ : Rect)] 0).y1])) (fun w hT => run_eqS [(dget LJ 0).a, (dget LJ 0).b, (dget LJ 0).c, (dget LJ 0).d] [(rget [(⟨0, 0, 4, 4⟩ : Rect)] 0).x0, (rget [(⟨0, 0, 4, 4⟩ : Rect)] 0).y0, (rget [(⟨0, 0, 4, 4⟩ : Rect)] 0).x1, (rget [(⟨0, 0, 4, 4⟩ : Rect)] 0).y1] (by kernel_rfl) (by kernel_rfl) (by kernel_rfl) (by kernel_rfl) rfl rfl w) <| tD 0 [] [(14, 0), (15, 0)] 0 [15, 14, 13, 12, 11, 9, 8, 7, 10, 6, 5, 4, 3, 2, 1, 0] [(0, .bool (eqInts [(dget LJ 0).a, (dget LJ 0).b, (dget LJ 0).c, (dget LJ 0).d] [(rget [(⟨0, 0, 4, 4⟩ : Rect)] 0).x0, (rget [(⟨0, 0, 4, 4⟩ : Rect)] 0).y0, (rget [(⟨0, 0, 4, 4⟩ : Rect)] 0).x1, (rget [(⟨0, 0, 4, 4⟩ : Rect)] 0).y1]))] [28] <| dD <| zNr <| rA rfl 0 (.bool (eqInts [(dget LJ 0).a, (dget LJ 0).b, (dget LJ 0).c, (dget LJ 0).d] [(rget [(⟨0, 0, 4, 4⟩ : Rect)] 0).x0, (rget [(⟨0, 0, 4, 4⟩ : Rect)] 0).y0, (rget [(⟨0, 0, 4, 4⟩ : Rect)] 0).x1, (rget [(⟨0, 0, 4, 4⟩ : Rect)] 0).y1])) fun w hT => ?_
  exact ⟨ret_bool (by rw [hLJ]; decide +kernel), hT.post rfl⟩
end Go.Proofs.YtlfahohbkgdabaaGreat
namespace Go.Proofs.YtlfahohbkgdabaaGreat
open Go Go.RowKit
theorem bands_inG {lo hi : Int} {bs : Bands} (h : BandsOk bs) (hb : ∀ x y, memB bs x y = true → lo ≤ x ∧ x < hi ∧ lo ≤ y ∧ y < hi) : ∀ b ∈ bs, (lo ≤ b.1 ∧ b.2.1 ≤ hi) ∧ ∀ s ∈ b.2.2, lo ≤ s.1 ∧ s.2.1 ≤ hi := by
  intro b hm
  obtain ⟨h1, h2⟩ := h.each b hm
  have hlt := h.runs.lt b hm
  have pt : ∀ s ∈ b.2.2, ∀ x y, b.1 ≤ y → y < b.2.1 → s.1 ≤ x → x < s.2.1 → lo ≤ x ∧ x < hi ∧ lo ≤ y ∧ y < hi := by
    intro s hs x y y0 y1 x0 x1
    refine hb x y ?_
    unfold memB
    rw [look_at h.runs b hm y y0 y1]
    simp only
    rw [look_at h1 s hs x x0 x1]; rfl
  have hspan : ∀ s ∈ b.2.2, lo ≤ s.1 ∧ s.2.1 ≤ hi := by
    intro s hs
    have hs1 := h1.lt s hs
    have a1 := pt s hs s.1 b.1 (by omega) hlt (by omega) hs1
    have a2 := pt s hs (s.2.1 - 1) b.1 (by omega) hlt (by omega) (by omega)
    omega
  refine ⟨?_, hspan⟩
  cases e : b.2.2 with
  | nil => exact absurd e h2
  | cons s t =>
    have hs : s ∈ b.2.2 := by rw [e]; simp
    have hs1 := h1.lt s hs
    have a1 := pt s hs s.1 b.1 (by omega) hlt (by omega) hs1
    have a2 := pt s hs s.1 (b.2.1 - 1) (by omega) (by omega) (by omega) hs1
    omega
theorem square_len {l : List Rect} {F : Int → Int → Bool} (h : IsReg l F) (hb : ∀ x y, hasL l x y = true → -8 ≤ x ∧ x < 72 ∧ -8 ≤ y ∧ y < 72) : l.length ≤ 6400 := by
  obtain ⟨bs, h1, rfl, h2⟩ := h
  have hin := bands_inG h1 (fun x y hm => hb x y (by rw [hasL_flat h1.runs]; exact hm))
  have e1 := runs_length (lo := -8) (hi := 72) h1.runs (fun r hr => (hin r hr).1) (by omega)
  have e2 : ∀ b ∈ bs, b.2.2.length ≤ 80 := fun b hm => by
    have := runs_length (lo := -8) (hi := 72) (h1.each b hm).1 (fun r hr => (hin b hm).2 r hr) (by omega)
    omega
  have e3 := flatR_length e2
  have e4 : bs.length * 80 ≤ 80 * 80 := Nat.mul_le_mul_right _ (by omega)
  omega
def hidP (W H X Y s al : Int) (op : List Rect) (r : Rect) : List Rect := if al = 255 then placeP W H X Y s op r else []
theorem hidP_yes {W H X Y s al : Int} {op : List Rect} {r : Rect} (h : al = 255) : hidP W H X Y s al op r = placeP W H X Y s op r := if_pos h
theorem hidP_no {W H X Y s al : Int} {op : List Rect} {r : Rect} (h : al ≠ 255) : hidP W H X Y s al op r = [] := if_neg h
def TS.hid (t : TS) : List Rect := hidP t.W t.H t.X t.Y t.s t.al t.op ⟨t.ca, t.cb, t.cc, t.cd⟩
def TS.bx (t : TS) : Rect := shwR t.W t.H t.X t.Y t.s t.ca t.cb t.cc t.cd
theorem div_in {W X s p : Int} (hs : 1 ≤ s ∧ s ≤ 3) (hX : -6 ≤ X ∧ X ≤ 17) (hW : W ≤ 16) (h : 0 ≤ (p - X) / s ∧ (p - X) / s < W) : -8 ≤ p ∧ p < 72 := by
  have : s = 1 ∨ s = 2 ∨ s = 3 := by omega
  rcases this with rfl | rfl | rfl <;> omega
theorem hid_len {t : TS} (h : TS.Ok t) : t.hid.length ≤ 6400 := by
  unfold TS.hid
  by_cases ha : t.al = 255
  · rw [hidP_yes ha]
    refine square_len (F := _) (canR_isReg _) (fun x y hh => ?_)
    have hw := h.img.w1; have hw2 := h.w16; have hh1 := h.img.h1; have hh2 := h.h16; have hx := h.x_; have hy := h.y_; have hs := h.s_
    have h9 : hasL (placeP t.W t.H t.X t.Y t.s t.op ⟨t.ca, t.cb, t.cc, t.cd⟩) x y = true := hh
    rw [hasL_place (by omega) (by omega) (by omega) (by omega) (by omega)] at h9
    have h2 := hasB_true.1 (Bool.and_eq_true_iff.1 h9).1
    have e1 := div_in (W := t.W) (X := t.X) (p := x) hs hx hw2 (by omega)
    have e2 := div_in (W := t.H) (X := t.Y) (p := y) hs hy hh2 (by omega)
    omega
  · rw [hidP_no ha]; simp
theorem op_len {t : TS} (h : TS.Ok t) : t.op.length ≤ 200000 ∧ (canR t.op).length ≤ 200000 ∧ (regM andB (canR t.op) (canR [(⟨t.ca, t.cb, t.cc, t.cd⟩ : Rect)])).length ≤ 200000 := by
  obtain ⟨l, ho, hl, hs⟩ := h.opq
  have hw := h.img.w1; have hh := h.img.h1; have hw2 := h.w16; have hh2 := h.h16; have hn := h.img.num; have hpl := h.img.len; have hnle := h.img.le
  have on0 : OnImg t.W t.H l := fun x y hx => by
    obtain ⟨r, hr, h1⟩ := hasL_true.1 hx
    obtain ⟨i, hi, rfl, _⟩ := hs r hr
    simp only at h1
    have h3 := hasB_true.1 (in_box hw hn (i := i) (by omega))
    omega
  have on1 : OnImg t.W t.H t.op := by rw [ho]; exact onImg_can on0
  have l1 : t.op.length ≤ t.n := by rw [ho]; exact reg_len_img (canR_isReg _) (onImg_can on0) hw hn
  have l2 := reg_len_img (canR_isReg t.op) (onImg_can on1) hw hn
  have l3 := reg_len_img (R := regM andB (canR t.op) (canR [(⟨t.ca, t.cb, t.cc, t.cd⟩ : Rect)])) (regM_isReg rfl _ _) (onImg_andl _ (onImg_can on1)) hw hn
  omega
def leftL (b : Rect) (l : List TS) : List Rect := l.foldr (fun t o => regM lessB o t.hid) (canR [b])
def seenL (b : Rect) (ts : List TS) (i : Nat) : List Rect := regM andB (leftL b (ts.drop (i + 1))) (canR [(dget ts i).bx])
theorem leftL_step {b : Rect} {ts : List TS} {i : Nat} (h : i < ts.length) : leftL b (ts.drop i) = regM lessB (leftL b (ts.drop (i + 1))) (dget ts i).hid := by
  rw [List.drop_eq_getElem_cons h]
  have : dget ts i = ts[i] := by unfold dget; rw [List.getD_eq_getElem?_getD, List.getElem?_eq_getElem h]; rfl
  rw [this]; rfl
theorem leftL_reg (b : Rect) (l : List TS) : IsReg (leftL b l) (hasL (leftL b l)) := by
  cases l with
  | nil => exact (canR_isReg [b]).self
  | cons t l => exact (regM_isReg (kf := lessB) rfl (leftL b l) t.hid).self
theorem leftL_has (b : Rect) (x y : Int) : ∀ l : List TS, hasL (leftL b l) x y = (hasB b.x0 b.y0 b.x1 b.y1 x y && !(l.any fun t => hasL t.hid x y)) := by
  intro l
  induction l with
  | nil => show hasL (canR [b]) x y = _; rw [hasL_can, hasL_one]; simp
  | cons t l ih => show hasL (regM lessB (leftL b l) t.hid) x y = _; rw [hasL_less, ih, List.any_cons]; cases hasL t.hid x y <;> cases hasB b.x0 b.y0 b.x1 b.y1 x y <;> simp
theorem leftL_on {W H : Int} (l : List TS) : OnImg W H (leftL ⟨0, 0, W, H⟩ l) := fun x y h => by
  rw [leftL_has] at h
  have := hasB_true.1 (Bool.and_eq_true_iff.1 h).1
  simp only at this
  omega
theorem leftL_len {W H : Int} (hW : 1 ≤ W ∧ W ≤ 256) (hH : 1 ≤ H ∧ H ≤ 256) (l : List TS) : (leftL ⟨0, 0, W, H⟩ l).length ≤ 65536 := by
  have h1 : W * H ≤ 256 * 256 := mul_le_of (by omega) (by omega) (by omega) (by omega)
  have h0 : 0 ≤ W * H := Int.mul_nonneg (by omega) (by omega)
  have := reg_len_img (n := (W * H).toNat) (leftL_reg ⟨0, 0, W, H⟩ l) (leftL_on l) hW.1 (by omega)
  omega
theorem seenL_len {W H : Int} (hW : 1 ≤ W ∧ W ≤ 256) (hH : 1 ≤ H ∧ H ≤ 256) (ts : List TS) (i : Nat) : (seenL ⟨0, 0, W, H⟩ ts i).length ≤ 65536 := by
  have h1 : W * H ≤ 256 * 256 := mul_le_of (by omega) (by omega) (by omega) (by omega)
  have h0 : 0 ≤ W * H := Int.mul_nonneg (by omega) (by omega)
  have := reg_len_img (R := seenL ⟨0, 0, W, H⟩ ts i) (n := (W * H).toNat) (regM_isReg rfl _ _) (onImg_andl _ (leftL_on _)) hW.1 (by omega)
  omega
def RS.rwG (t : RS) : GenEnt := rdE t.A t.g 0 t.n 4 (rvals t.xs)
def RS.rws (l : List RS) (i : Nat) : GenEnt := (dget l i).rwG
theorem RS.rws_app {l : List RS} {t : RS} {m : Nat} (h : l.length = m) : (∀ k, k < m → RS.rws (l ++ [t]) k = RS.rws l k) ∧ RS.rws (l ++ [t]) m = t.rwG :=
  ⟨fun k hk => by unfold RS.rws; rw [dget_app (by omega)], by unfold RS.rws; rw [dget_end h]⟩
def SeenOk (b : Rect) (ts : List TS) (n : Nat) (rs : List RS) : Prop := ∀ j, j < rs.length → (dget rs j).xs = seenL b ts (n - 1 - j)
theorem SeenOk.nil (b : Rect) (ts : List TS) (n : Nat) : SeenOk b ts n [] := fun j h => absurd h (Nat.not_lt_zero _)
theorem SeenOk.step {b : Rect} {ts : List TS} {n x : Nat} {rs : List RS} {r : RS} (h : SeenOk b ts n rs) (hx : x + 1 + rs.length = n) (hr : r.xs = seenL b ts x) : SeenOk b ts n (rs ++ [r]) := fun j hj => by
  rw [List.length_append, List.length_singleton] at hj
  by_cases hl : j < rs.length
  · rw [dget_app hl]; exact h j hl
  · have : j = rs.length := by omega
    subst this
    rw [dget_end rfl, hr, show n - 1 - rs.length = x by omega]
def seenR (n : Nat) (rs : List RS) : List RS := List.replicate (n - rs.length) RS.nil ++ rs.reverse
theorem seenR_nil (n : Nat) : seenR n [] = List.replicate n RS.nil := by simp [seenR]
theorem seenR_len {n : Nat} {rs : List RS} (h : rs.length ≤ n) : (seenR n rs).length = n := by simp [seenR]; omega
theorem seenR_all {n : Nat} {rs : List RS} (h : rs.length = n) : seenR n rs = rs.reverse := by simp [seenR, h]
theorem seenR_set {n x : Nat} {rs : List RS} {r : RS} (hx : x + 1 + rs.length = n) : (seenR n rs).set x r = seenR n (rs ++ [r]) := by
  unfold seenR
  rw [List.length_append, List.length_singleton, show n - rs.length = x + 1 by omega, show n - (rs.length + 1) = x by omega, List.reverse_append, List.replicate_succ', List.append_assoc, List.set_append_right _ _ (by simp)]
  simp
theorem dget_rev {rs : List RS} {i : Nat} (h : i < rs.length) : dget rs.reverse i = dget rs (rs.length - 1 - i) := by
  unfold dget
  rw [List.getD_eq_getElem?_getD, List.getD_eq_getElem?_getD, List.getElem?_reverse h]
theorem store_rowS {P : Program} {w0 w : World} {T : List Ent} (hT : Tab w0 w T) {t e : TypeId} {A : Option Addr} {i g n cap J : Nat} {xs : List RS} {own : Bool} (v : RS) (hi : T[i]? = some (.gen (rowE A g n cap e 1 (dvals RS.cells xs) own))) (hsz : (P.info? t).map (·.size) = some 1) (hJ : J < xs.length) :
    ∃ (x : Unit) (w' : World), (Instr.storeAt t (.pointer (some ⟨g, J, none⟩)) (.slice v.A v.n v.cap)).run P w = .ok () w' ∧ True ∧ Tab w0 w' (T.set i (.gen (rowE A g n cap e 1 (dvals RS.cells (xs.set J v)) own))) := by
  have hrow : Row w A g n cap e 1 (dvals RS.cells xs) := hT.ok i _ hi
  have hd : ∀ l : List RS, dvals RS.cells l = l.map (fun v => .slice v.A v.n v.cap) := fun l => by
    induction l with
    | nil => rfl
    | cons a l ih => rw [dvals, ih]; rfl
  have hlen : xs.length = n := by have := hrow.own.1; rw [hd, List.length_map] at this; omega
  have hn : 0 < n := by omega
  refine ⟨(), _, run_store1 hsz rfl (hrow.cell J (.slice xs[J].A xs[J].n xs[J].cap) (by rw [hd, List.getElem?_map, List.getElem?_eq_getElem hJ]; rfl)) (hrow.free hn J), trivial, ?_⟩
  have := hT.rowSet hi hn J (.slice v.A v.n v.cap)
  rw [hd, ← List.map_set (f := fun v : RS => Value.slice v.A v.n v.cap), ← hd] at this
  exact this
def BackI (its : List IT) (n : Nat) (p : List (Nat × IT)) : Prop := p = (List.range p.length).map (fun k => (n - 1 - k, dget its (n - 1 - k))) ∧ p.length ≤ n
theorem BackI.nil (its : List IT) (n : Nat) : BackI its n [] := ⟨rfl, Nat.zero_le _⟩
theorem BackI.step {its : List IT} {n : Nat} {p : List (Nat × IT)} (hp : BackI its n p) {x : Nat} (hx : (x : Int) = (n : Int) - 1 - ((p.length : Nat) : Int)) : BackI its n (p ++ [(x, dget its x)]) := by
  refine ⟨?_, by rw [List.length_append, List.length_singleton]; omega⟩
  rw [List.length_append, List.length_singleton, List.range_succ, List.map_append, ← hp.1]
  have : x = n - 1 - p.length := by omega
  rw [this]; rfl
theorem BackI.last {its : List IT} {n : Nat} {p : List (Nat × IT)} {x : Nat} {it : IT} (hp : BackI its n (p ++ [(x, it)])) : x + 1 + p.length = n ∧ it = dget its x := by
  obtain ⟨h1, h2⟩ := hp
  rw [List.length_append, List.length_singleton] at h1 h2
  rw [List.range_succ, List.map_append] at h1
  have := List.append_inj_right h1 (by simp)
  simp only [List.map_cons, List.map_nil, List.cons.injEq, Prod.mk.injEq, and_true] at this
  obtain ⟨e1, e2⟩ := this
  subst e1
  exact ⟨by omega, e2⟩
theorem Rd.dcell1z {α : Type} [Inhabited α] {w : World} {A : Option Addr} {g n : Nat} {cel : α → List Value} {l : List α} (hz : ∀ a, (cel a).length = 1) (h : Rd w A g 0 n 1 (dvals cel l)) {i : Nat} (hi : i < l.length) {v : Value} (hv : (cel (dget l i))[0]? = some v) : w.cell? ⟨g, i, none⟩ = some v := by
  have h2 := Rd.dcell1 hz h hi 0 hv
  rw [show 0 + i * 1 + 0 = i by omega] at h2
  exact h2
end Go.Proofs.YtlfahohbkgdabaaGreat
namespace Go.Proofs.YtlfahohbkgdabaaGreat
open Go Go.RowKit
set_option maxRecDepth 100000
set_option maxHeartbeats 8000000
theorem surfBox (m : Nat) (W H : Int) (r n cap : Nat) (px : List Int) (X Y s al ca cb cc cd : Int) (A : Option Addr) (k cp : Nat) (w : World) (hT0 : Tab w w [.ro m [iQ W, iQ H, sL r n cap] 116, rD (some ⟨r, 0, none⟩) r 0 n 1 (cV px)]) (hcap : n ≤ cap) (hok : ImgOk W H n px) (hs : 1 ≤ s ∧ s ≤ 8) (hX : -1000000 ≤ X ∧ X ≤ 1000000) (hY : -1000000 ≤ Y ∧ Y ≤ 1000000) :
    Calls Tryz.prog 44 #[.agg #[pT m, iQ X, iQ Y, iQ s, iQ al, iQ ca, iQ cb, iQ cc, iQ cd, .slice A k cp, .string ⟨#[]⟩]] w fun e w' => e = .returned (.agg #[iQ ((shwR W H X Y s ca cb cc cd).x0), iQ ((shwR W H X Y s ca cb cc cd).y0), iQ ((shwR W H X Y s ca cb cc cd).x1), iQ ((shwR W H X Y s ca cb cc cd).y1)]) ∧ Below w.heap.size w w' := by
  have hw1 := hok.w1
  have hw2 := hok.w2
  have hh1 := hok.h1
  have hh2 := hok.h2
  have hnum := hok.num
  have hlen := hok.len
  have hle := hok.le
  refine eN [(0, .agg #[pT m, iQ X, iQ Y, iQ s, iQ al, iQ ca, iQ cb, iQ cc, iQ cd, .slice A k cp, .string ⟨#[]⟩])] Tryz.func44 Tryz.ntmps44 rfl hT0 ?_
  refine zSR 2 <| batch2 [0, 0] 2 0 (fun b1 b2 => [(1, pT b1), (2, pT b2)]) (fun b1 b2 => [.cells b2 [iQ 0, iQ 0, iQ 0, iQ 0] 32 true, .cells b1 [pT m, iQ X, iQ Y, iQ s, iQ al, iQ ca, iQ cb, iQ cc, iQ cd, .slice A k cp, .string ⟨#[]⟩] 90 true, .ro m [iQ W, iQ H, sL r n cap] 116, rD (some ⟨r, 0, none⟩) r 0 n 1 (cV px)]) rfl rfl [1, 2] (fun _ _ => rfl) (fun b1 b2 => by kernel_rfl) (fun b1 b2 => by kernel_rfl) (fun b1 b2 => ?_)
  refine zDNSSR 3 <| bD [0, 1, 0] 3 0 [(5, .bool false)] [3, 4] <| zDNFKNSR 4 <| bD [1] 1 3 [(7, .agg #[pT m, iQ X, iQ Y, iQ s, iQ al, iQ ca, iQ cb, iQ cc, iQ cd, .slice A k cp, .string ⟨#[]⟩])] [] <| fG 1 <| pS 2 2 <| cP 8 (.agg #[pT m, iQ X, iQ Y, iQ s, iQ al, iQ ca, iQ cb, iQ cc, iQ cd]) (fun w hT => surfLayer m X Y s al ca cb cc cd A k cp w) <| pS 3 1 <| cP 9 (.agg #[iQ ((shwR W H X Y s ca cb cc cd).x0), iQ ((shwR W H X Y s ca cb cc cd).y0), iQ ((shwR W H X Y s ca cb cc cd).x1), iQ ((shwR W H X Y s ca cb cc cd).y1)]) (fun w hT => layBox m W H r n cap px X Y s al ca cb cc cd w ⟨hT.ok 1 _ rfl, hT.ok 2 _ rfl, by omega⟩ hok) <| bZ [0] 4 0 [(2, pT b2)] [.cells b2 [iQ ((shwR W H X Y s ca cb cc cd).x0), iQ ((shwR W H X Y s ca cb cc cd).y0), iQ ((shwR W H X Y s ca cb cc cd).x1), iQ ((shwR W H X Y s ca cb cc cd).y1)] 32 true, .ro m [iQ W, iQ H, sL r n cap] 116, rD (some ⟨r, 0, none⟩) r 0 n 1 (cV px)] <| zDNr <| rA rfl 0 (.agg #[iQ ((shwR W H X Y s ca cb cc cd).x0), iQ ((shwR W H X Y s ca cb cc cd).y0), iQ ((shwR W H X Y s ca cb cc cd).x1), iQ ((shwR W H X Y s ca cb cc cd).y1)]) fun w hT => ?_
  exact ⟨rfl, hT.post rfl⟩
theorem surfHides (m : Nat) (W H : Int) (r n cap : Nat) (px : List Int) (X Y s al ca cb cc cd : Int) (Az : Option Addr) (gz oz nz capz : Nat) (xsz : List Rect) (w : World) (hT0 : Tab w w [.ro m [iQ W, iQ H, sL r n cap] 116, rD (some ⟨r, 0, none⟩) r 0 n 1 (cV px), rD (Az) gz oz nz 4 (rvals xsz)]) (hcap : n ≤ cap) (hok : ImgOk W H n px) (hs : 1 ≤ s ∧ s ≤ 8) (hX : -1000000 ≤ X ∧ X ≤ 1000000) (hY : -1000000 ≤ Y ∧ Y ≤ 1000000) (hop : xsz.length ≤ 200000 ∧ (canR xsz).length ≤ 200000 ∧ (regM andB (canR xsz) (canR [(⟨ca, cb, cc, cd⟩ : Rect)])).length ≤ 200000) :
    Calls Tryz.prog 70 #[.agg #[pT m, iQ X, iQ Y, iQ s, iQ al, iQ ca, iQ cb, iQ cc, iQ cd, .slice Az nz capz, .string ⟨#[]⟩]] w fun e w' => ∃ (A_ : Option Addr) (g_ k_ cp_ : Nat), e = .returned (.slice A_ k_ cp_) ∧ Tab w w' [.gen (rowE (A_) g_ k_ cp_ 32 4 (rvals (hidP W H X Y s al xsz ⟨ca, cb, cc, cd⟩)) true)] := by
  have hw1 := hok.w1
  have hw2 := hok.w2
  have hh1 := hok.h1
  have hh2 := hok.h2
  have hnum := hok.num
  have hlen := hok.len
  have hle := hok.le
  obtain ⟨hraz, hrlz⟩ := Rd.factsR (hT0.ok 2 _ rfl)
  obtain ⟨hop1, hop2, hop3⟩ := hop
  refine eN [(0, .agg #[pT m, iQ X, iQ Y, iQ s, iQ al, iQ ca, iQ cb, iQ cc, iQ cd, .slice Az nz capz, .string ⟨#[]⟩])] Tryz.func70 Tryz.ntmps70 rfl hT0 ?_
  refine zSR 2 <| bW [0, 0] 2 0 (fun b1 => [(1, pT b1)]) (fun b1 => [.cells b1 [pT m, iQ X, iQ Y, iQ s, iQ al, iQ ca, iQ cb, iQ cc, iQ cd, .slice Az nz capz, .string ⟨#[]⟩] 90 true, .ro m [iQ W, iQ H, sL r n cap] 116, rD (some ⟨r, 0, none⟩) r 0 n 1 (cV px), rD (Az) gz oz nz 4 (rvals xsz)]) [1] fun b1 => ?_
  refine zDNSSR 8 <| bD [0, 0, 0, 0, 0, 0, 0, 0] 8 0 [(10, .bool (al != 255))] [3, 4, 5, 6, 7, 8, 9] <| zDN <| sN 10 rfl (fun c2_ => ?_) fun c2_ => ?_
  ·
    refine zTSR 1 <| bS [0] 1 0 [(2, .slice none 0 0)] <| fG 0 <| zDNrt <| rA rfl 0 (.slice none 0 0) fun w hT => ?_
    replace hT := hT.erase 2 (fun e h hw => by cases h; first | rfl | cases hw)
    replace hT := hT.erase 1 (fun e h hw => by cases h; first | rfl | cases hw)
    replace hT := hT.erase 0 (fun e h hw => by cases h; first | rfl | cases hw)
    have hT9 := hT.nilR 32 4
    rw [hidP_no (by omega)]
    exact ⟨none, 0, 0, 0, rfl, hT9⟩
  refine cFa rfl <| cont_skip <| zN <| cSq <| drawn_enter 6 [] rfl (by kernel_rfl) ?_
  refine tD 0 [] [(0, 0), (2, 0), (3, 0)] 3 [3, 2, 0] [(11, .agg #[pT m, iQ X, iQ Y, iQ s, iQ al, iQ ca, iQ cb, iQ cc, iQ cd, .slice Az nz capz, .string ⟨#[]⟩]), (14, .slice Az nz capz)] [13] <| dO 1 2 <| cP 12 (.agg #[pT m, iQ X, iQ Y, iQ s, iQ al, iQ ca, iQ cb, iQ cc, iQ cd]) (fun w hT => surfLayer m X Y s al ca cb cc cd Az nz capz w) <| dX 0 [] <| dO 4 1 <| cG (d := 15) (α := Option Addr × Nat × Nat × Nat) (fun x_ => .slice x_.1 x_.2.2.1 x_.2.2.2) (fun x_ => [.gen (rowE (x_.1) x_.2.1 x_.2.2.1 x_.2.2.2 32 4 (rvals (placeP W H X Y s xsz ⟨ca, cb, cc, cd⟩)) true), .cells b1 [pT m, iQ X, iQ Y, iQ s, iQ al, iQ ca, iQ cb, iQ cc, iQ cd, .slice Az nz capz, .string ⟨#[]⟩] 90 true, .ro m [iQ W, iQ H, sL r n cap] 116, rD (some ⟨r, 0, none⟩) r 0 n 1 (cV px), rD (Az) gz oz nz 4 (rvals xsz)]) (fun x_ => True) (fun w hT => (payPlace m W H r n cap px X Y s al ca cb cc cd Az gz oz nz capz xsz w (hT.viewRo (.cons (i := 1) rfl Vw.ro (.cons (i := 2) rfl Vw.rd (.cons (i := 3) rfl Vw.rd .nil))) rfl) _ rfl (by omega) hok (by omega) (by omega) (by omega) (by omega) hop2 hop3).mono fun e w' ⟨A3, g4, k5, cp6, he_, ht_⟩ => ⟨(A3, g4, k5, cp6), he_, trivial, hT.news ht_ rfl⟩) ?_
  rintro ⟨A3, g4, k5, cp6⟩ hf7_
  refine cM ?_
  refine fR 0 k5 A3 g4 cp6 (placeP W H X Y s xsz ⟨ca, cb, cc, cd⟩) rfl fun hr8_a hr8_l hr8_c hr8_m => ?_
  refine dX 1 [] <| tD 1 [] [(5, 0)] 0 [5, 4, 1, 3, 2, 0] [(2, .slice A3 k5 cp6)] [] <| dD <| zNr <| rA rfl 0 (.slice A3 k5 cp6) fun w hT => ?_
  replace hT := hT.erase 4 (fun e h hw => by cases h; first | rfl | cases hw)
  replace hT := hT.erase 3 (fun e h hw => by cases h; first | rfl | cases hw)
  replace hT := hT.erase 2 (fun e h hw => by cases h; first | rfl | cases hw)
  replace hT := hT.erase 1 (fun e h hw => by cases h; first | rfl | cases hw)
  rw [hidP_yes (by omega)]
  exact ⟨_, _, _, _, rfl, hT⟩
theorem backItem0 (kb : Nat) (A : Option Addr) (g o n cap : Nat) (its : List IT) (hn : n ≤ 100) (hra : 0 < n → A = some ⟨g, o, none⟩) (hrl : its.length = n) (w0 : World) {β : Type} (Inv : List (Nat × IT) → β → Prop) (Tr : β → List Ent) (Jx : World → Prop) (l_ : Nat) (e1 e2 : Ent) (w : World) (b0 : β) (hJx : ∀ w w', Jx w → Below w.heap.size w w' → Jx w') (hY : ∀ (pre : List (Nat × IT)) (x : Nat × IT) (b : β) W1 z, (z.wr = true → z.own = true) → Inv pre b → BackI its n (pre ++ [x]) → Tab w0 W1 (z :: e1 :: e2 :: (.ro kb [.slice A n cap] 26) :: (rD (A) g o n 14 (dvals IT.cells its)) :: (Tr b)) → YieldAt Fence.wide 0 Tryz.prog l_ #[iQ (x.1 : Int), .agg #[iQ 0, iQ 0, pT x.2.b, iQ x.2.t.X, iQ x.2.t.Y, iQ x.2.t.s, iQ x.2.t.al, iQ x.2.t.ca, iQ x.2.t.cb, iQ x.2.t.cc, iQ x.2.t.cd, .slice x.2.t.A x.2.t.k x.2.t.cp, .string ⟨#[]⟩, iQ 0]] W1 fun e W' => (e = .returned (.bool true) ∧ ∃ b', Inv (pre ++ [x]) b' ∧ Tab w0 W' (z :: e1 :: e2 :: (.ro kb [.slice A n cap] 26) :: (rD (A) g o n 14 (dvals IT.cells its)) :: (Tr b'))) ∨ (e = .returned (.bool false) ∧ Jx W')) (h0 : Inv [] b0) (hT0 : Tab w0 w (e1 :: e2 :: (.ro kb [.slice A n cap] 26) :: (rD (A) g o n 14 (dvals IT.cells its)) :: (Tr b0))) :
    Calls Tryz.prog 95 #[.func (.yield l_) #[] #[], pT kb] w fun e W' => (∃ v, e = .returned v) ∧ ((∃ xs_ b', (BackI its n xs_ ∧ xs_.length = n) ∧ Inv xs_ b' ∧ Tab w0 W' (e1 :: e2 :: (.ro kb [.slice A n cap] 26) :: (rD (A) g o n 14 (dvals IT.cells its)) :: (Tr b'))) ∨ Jx W') := by
  refine enterI 19 [(0, .func (.yield l_) #[] #[]), (1, pT kb)] (e1 :: e2 :: (.ro kb [.slice A n cap] 26) :: (rD (A) g o n 14 (dvals IT.cells its)) :: (Tr b0)) Tryz.func95 rfl Tryz.ntmps95 rfl (by kernel_rfl) hT0 (fun _ h_ => by simp at h_) ?_
  refine mcont_seq ?_
  refine mcont_region 4 rfl (by kernel_rfl) ?_
  refine bD [2, 0, 0] 3 1 [(6, iQ (IntKind.i64.wrap ((n : Int) - 1)))] [4, 5] <| wI 6 ((n : Int) - 1) <| bD [0] 4 0 [(3, iQ ((n : Int) - 1))] [] <| zDN <| mcont_block ?_
  refine cont_nilrow 52 1 ?_
  refine cM ?_
  refine rC 3 (iQ ((n : Int) - 1 - ((([] : List (Nat × IT)).length : Nat) : Int))) rfl (congrArg (Value.int .i64) (by simp)) <| mcont_loop (α := List (Nat × IT) × β) (fun x_ : List (Nat × IT) × β => BackI its n x_.1 ∧ Inv x_.1 x_.2) (fun x_ : List (Nat × IT) × β => [(0, .func (.yield l_) #[] #[]), (1, pT kb), (3, iQ ((n : Int) - 1 - ((x_.1.length : Nat) : Int)))]) (fun x_ : List (Nat × IT) × β => ((.gen (rowE (none) 0 0 0 52 1 (ivals .u32 []) true)) :: e1 :: e2 :: (.ro kb [.slice A n cap] 26) :: (rD (A) g o n 14 (dvals IT.cells its)) :: (Tr x_.2))) (fun x_ : List (Nat × IT) × β => n - x_.1.length) ([], b0) (show BackI its n ([]) ∧ Inv ([]) (b0) from ⟨BackI.nil _ _, h0⟩) (by kernel_rfl) (by kernel_rfl) ?_
  rintro ⟨pre, b⟩ hinv2_
  replace hinv2_ : BackI its n pre ∧ Inv pre b := hinv2_
  refine cM ?_
  obtain ⟨hP, hI⟩ := hinv2_
  have hpl := hP.2
  refine mcont_seq ?_
  refine mcont_seq ?_
  refine mcont_region 2 rfl (by kernel_rfl) ?_
  refine bD [0, 0] 2 0 [(8, .bool (decide (((n : Int) - 1 - ((pre.length : Nat) : Int)) ≥ 0)))] [7] <| zDN <| sD 8 rfl (fun c3_ => ?_) fun c3_ => ?_
  ·
    refine mcont_true rfl ?_
    refine mcont_skip ?_
    refine zN <| mcont_seq ?_
    refine mcont_block ?_
    refine mcont_seq ?_
    refine icont_region 8 rfl ?_
    refine pli_ops 6 2 6 rfl rfl (by kernel_rfl) ?_
    obtain ⟨x, hx⟩ : ∃ y_ : Nat, (y_ : Int) = (n : Int) - 1 - ((pre.length : Nat) : Int) := ⟨n - 1 - pre.length, by omega⟩
    refine rC 3 (iQ (x : Int)) rfl (congrArg (Value.int .i64) hx.symm) ?_
    have hP2 : BackI its n (pre ++ [(x, dget its x)]) := hP.step hx
    refine bD [0, 0, 3, 0] 4 2 [(11, .func (.yield l_) #[] #[]), (12, iQ (x : Int)), (13, .slice A n cap), (14, iQ (x : Int))] [] <| pS 5 1 <| rC 13 (.slice (some ⟨g, o, none⟩) n cap) rfl (by rw [hra (by omega)]) <| sS 15 (Instr.indexAt 26 (.slice (some ⟨g, o, none⟩) n cap) (iQ (x : Int))) (.pointer (some ⟨g, o + x * 14, none⟩)) (fun w hT => rI 94 14 w) <| pS 6 0 <| sS 16 (Instr.loadAt 94 (.pointer (some ⟨g, o + x * 14, none⟩))) (.agg #[iQ 0, iQ 0, .pointer (some ⟨(dget its x).b, 0, none⟩), iQ ((dget its x).t.X), iQ ((dget its x).t.Y), iQ ((dget its x).t.s), iQ ((dget its x).t.al), iQ ((dget its x).t.ca), iQ ((dget its x).t.cb), iQ ((dget its x).t.cc), iQ ((dget its x).t.cd), .slice ((dget its x).t.A) ((dget its x).t.k) ((dget its x).t.cp), .string ⟨#[]⟩, iQ 0]) (fun w hT => rM 14 ([iQ 0, iQ 0, .pointer (some ⟨(dget its x).b, 0, none⟩), iQ ((dget its x).t.X), iQ ((dget its x).t.Y), iQ ((dget its x).t.s), iQ ((dget its x).t.al), iQ ((dget its x).t.ca), iQ ((dget its x).t.cb), iQ ((dget its x).t.cc), iQ ((dget its x).t.cd), .slice ((dget its x).t.A) ((dget its x).t.k) ((dget its x).t.cp), .string ⟨#[]⟩, iQ 0]) (Rd.dcell IT.size (hT.ok 4 _ rfl) (by omega))) <| zDN <| pli_yield 17 7 1 rfl rfl (by kernel_rfl) (by kernel_rfl) (R := fun v_ w_ => (v_ = .bool true ∧ ∃ b_, Inv (pre ++ [(x, dget its x)]) b_ ∧ Tab w0 w_ ((.gen (rowE (none) 0 0 0 52 1 (ivals .u32 []) true)) :: e1 :: e2 :: (.ro kb [.slice A n cap] 26) :: (rD (A) g o n 14 (dvals IT.cells its)) :: (Tr b_))) ∨ (v_ = .bool false ∧ Jx w_)) (fun w_ hT_ => YieldAt.weaken (hY pre (x, dget its x) b w_ _ (fun _ => rfl) hI hP2 hT_) (fun e_ w_ h_ => by rcases h_ with ⟨rfl, hh_⟩ | ⟨rfl, hh_⟩; exact ⟨_, rfl, .inl ⟨rfl, hh_⟩⟩; exact ⟨_, rfl, .inr ⟨rfl, hh_⟩⟩)) ?_
    rintro a_ w_ v_ ha_ hf_ (⟨rfl, b, hI, hT_⟩ | ⟨rfl, hJ⟩)
    ·
      refine Cont.go ?_ ha_ hf_ hT_
      refine cM ?_
      refine pli_ops 1 0 8 rfl rfl (by kernel_rfl) ?_
      refine bD [0] 8 0 [(18, .bool false)] [] <| zDN <| pli_done ?_
      refine zN <| mcont_false rfl ?_
      refine mcont_skip ?_
      refine blk_normal <| zN <| mcont_region 3 rfl (by kernel_rfl) ?_
      refine bD [0, 0] 2 1 [(10, iQ (IntKind.i64.wrap ((x : Int) - 1)))] [9] <| wI 10 ((x : Int) - 1) <| bD [0] 3 0 [(3, iQ ((x : Int) - 1))] [] <| zDN <| rC 3 (iQ ((n : Int) - 1 - (((pre ++ [(x, dget its x)]).length : Nat) : Int))) rfl (congrArg (Value.int .i64) (by rw [List.length_append, List.length_singleton]; omega)) <| cA (pre ++ [(x, dget its x)], b) (show BackI its n (pre ++ [(x, dget its x)]) ∧ Inv (pre ++ [(x, dget its x)]) (b) from ⟨hP2, hI⟩) (show n - (pre ++ [(x, dget its x)]).length < n - pre.length from by rw [List.length_append, List.length_singleton]; omega)
    ·
      refine Cont.go ?_ ha_ hf_ (Tab.start w_)
      refine cM ?_
      refine pli_ops 1 0 8 rfl rfl (by kernel_rfl) ?_
      refine bD [0] 8 0 [(18, .bool true)] [] <| zDN <| pli_done ?_
      refine zN <| mcont_true rfl ?_
      refine mcont_ret ?_
      refine blk_ret <| then_ret <| then_ret <| blk_ret ?_
      refine ret_none (.inl rfl) rfl (fun w hT => ?_)
      exact ⟨⟨_, rfl⟩, .inr (hJx _ _ hJ (hT.toBelow (fun i e h => by simp at h)))⟩
  refine mcont_false rfl ?_
  refine mcont_exit ?_
  refine then_exit <| then_exit <| blk_exit ?_
  refine ret_none (.inr rfl) rfl (fun w hT => ?_)
  exact ⟨⟨_, rfl⟩, .inl ⟨pre, b, ⟨hP, by omega⟩, hI, hT.drop (fun _ => rfl)⟩⟩
theorem backItem (kb : Nat) (A : Option Addr) (g o n cap : Nat) (its : List IT) (hn : n ≤ 100) (hra : 0 < n → A = some ⟨g, o, none⟩) (hrl : its.length = n) (w0 : World) : IterC Tryz.prog 95 #[pT kb] (fun z_ : Nat × IT => #[iQ (z_.1 : Int), .agg #[iQ 0, iQ 0, pT z_.2.b, iQ z_.2.t.X, iQ z_.2.t.Y, iQ z_.2.t.s, iQ z_.2.t.al, iQ z_.2.t.ca, iQ z_.2.t.cb, iQ z_.2.t.cc, iQ z_.2.t.cd, .slice z_.2.t.A z_.2.t.k z_.2.t.cp, .string ⟨#[]⟩, iQ 0]]) w0 [.ro kb [.slice A n cap] 26, rD (A) g o n 14 (dvals IT.cells its)] (fun _ => []) (fun xs_ => BackI its n xs_ ∧ xs_.length = n) (fun p_ => BackI its n p_) :=
  fun Inv Tr Jx l e1 e2 W1 b0 hJx hY h0 hT => backItem0 kb A g o n cap its hn hra hrl w0 Inv Tr Jx l e1 e2 W1 b0 hJx hY h0 hT
theorem planSplit (K : Int) (A : Option Addr) (g o n cap : Nat) (its : List IT) (ts : List TS) (W H : Int) (w : World) (hT0 : Tab w w [rD (A) g o n 14 (dvals IT.cells its), .gen (subE n (IT.hds 116 its)), .gen (subE n (IT.pxs its)), .gen (subE n (TS.ops ts))]) (hmap : its.map (·.t) = ts) (hts : ∀ t ∈ ts, TS.Ok t) (hn : n ≤ 100) (hW : 1 ≤ W ∧ W ≤ 256) (hH : 1 ≤ H ∧ H ≤ 256) :
    Calls Tryz.prog 38 #[.agg #[iQ K, .slice A n cap], .agg #[iQ 0, iQ 0, iQ W, iQ H]] w fun e w' => ∃ (rs_ : List RS) (r_ : Nat) (A_ : Option Addr) (g_ k_ cp_ : Nat), e = .returned (.tuple #[sL r_ n n, .slice A_ k_ cp_]) ∧ (rs_.length = n ∧ SeenOk (⟨0, 0, W, H⟩ : Rect) ts n rs_) ∧ Tab w w' [.gen (bunO n (RS.rws rs_)), .gen (rowE (A_) g_ k_ cp_ 32 4 (rvals (leftL (⟨0, 0, W, H⟩ : Rect) ts)) true), oE r_ n n 23 1 (dvals RS.cells rs_.reverse)] := by
  obtain ⟨hra, hrl⟩ := Rd.factsD IT.size (by decide) (hT0.ok 0 _ rfl)
  have hits := okIT hmap hts
  have htl : ts.length = n := by rw [← hmap, List.length_map]; exact hrl
  refine enterM 39 [(0, .agg #[iQ K, .slice A n cap]), (1, .agg #[iQ 0, iQ 0, iQ W, iQ H])] [rD (A) g o n 14 (dvals IT.cells its), .gen (subE n (IT.hds 116 its)), .gen (subE n (IT.pxs its)), .gen (subE n (TS.ops ts))] Tryz.func38 rfl Tryz.ntmps38 rfl (by kernel_rfl) hT0 ?_
  refine zSR 4 <| batch2 [0, 0, 0, 0] 4 0 (fun b1 b2 => [(2, pT b1), (3, pT b2)]) (fun b1 b2 => [.cells b2 [iQ 0, iQ 0, iQ W, iQ H] 32 true, .cells b1 [iQ K, .slice A n cap] 28 true, rD (A) g o n 14 (dvals IT.cells its), .gen (subE n (IT.hds 116 its)), .gen (subE n (IT.pxs its)), .gen (subE n (TS.ops ts))]) rfl rfl [2, 3] (fun _ _ => rfl) (fun b1 b2 => by kernel_rfl) (fun b1 b2 => by kernel_rfl) (fun b1 b2 => ?_)
  refine zDNSR 6 <| bD [0, 1, 0] 3 3 [(12, iQ (n : Int))] [10, 11] <| pS 4 2 <| sSW 13 (Instr.makeSlice 44 (iQ (n : Int)) (iQ (n : Int))) (fun r3 => sL r3 n n) (fun r3 => [oE r3 n n 23 1 (dvals RS.cells (List.replicate n RS.nil)), .cells b2 [iQ 0, iQ 0, iQ W, iQ H] 32 true, .cells b1 [iQ K, .slice A n cap] 28 true, rD (A) g o n 14 (dvals IT.cells its), .gen (subE n (IT.hds 116 its)), .gen (subE n (IT.pxs its)), .gen (subE n (TS.ops ts))]) (fun _ => True) (by kernel_rfl) (fun w hT => make_rowS hT (bytes := 24) n (by kernel_rfl) (by kernel_rfl) (by omega) (by omega)) (fun r3 _ => ?_)
  refine bW [0, 0] 6 0 (fun b4 => [(2, pT b1), (3, pT b2), (6, pT b4)]) (fun b4 => [.cells b4 [sL r3 n n] 44 true, oE r3 n n 23 1 (dvals RS.cells (List.replicate n RS.nil)), .cells b2 [iQ 0, iQ 0, iQ W, iQ H] 32 true, .cells b1 [iQ K, .slice A n cap] 28 true, rD (A) g o n 14 (dvals IT.cells its), .gen (subE n (IT.hds 116 its)), .gen (subE n (IT.pxs its)), .gen (subE n (TS.ops ts))]) [2, 3, 6] fun b4 => ?_
  refine zDNSR 5 <| bW [2, 0] 2 3 (fun b5 => [(2, pT b1), (6, pT b4), (15, sL b5 1 1)]) (fun b5 => [.cells b5 [iQ 0, iQ 0, iQ W, iQ H] 32 true, .cells b4 [sL r3 n n] 44 true, oE r3 n n 23 1 (dvals RS.cells (List.replicate n RS.nil)), .cells b2 [iQ 0, iQ 0, iQ W, iQ H] 32 true, .cells b1 [iQ K, .slice A n cap] 28 true, rD (A) g o n 14 (dvals IT.cells its), .gen (subE n (IT.hds 116 its)), .gen (subE n (IT.pxs its)), .gen (subE n (TS.ops ts))]) [2, 6, 15] fun b5 => ?_
  refine fG 3 <| pS 3 2 <| cont_asRow 0 1 4 rfl (vals := rvals [(⟨0, 0, W, H⟩ : Rect)]) rfl rfl (by decide) ?_
  refine cG (d := 16) (α := Option Addr × Nat × Nat × Nat) (fun x_ => .slice x_.1 x_.2.2.1 x_.2.2.2) (fun x_ => [.gen (rowE (x_.1) x_.2.1 x_.2.2.1 x_.2.2.2 32 4 (rvals (canR [(⟨0, 0, W, H⟩ : Rect)])) true), oE b5 1 1 32 4 (rvals [(⟨0, 0, W, H⟩ : Rect)]), .cells b4 [sL r3 n n] 44 true, oE r3 n n 23 1 (dvals RS.cells (List.replicate n RS.nil)), .cells b1 [iQ K, .slice A n cap] 28 true, rD (A) g o n 14 (dvals IT.cells its), .gen (subE n (IT.hds 116 its)), .gen (subE n (IT.pxs its)), .gen (subE n (TS.ops ts))]) (fun x_ => True) (fun w hT => (regOf (some ⟨b5, 0, none⟩) b5 0 1 1 [(⟨0, 0, W, H⟩ : Rect)] w (hT.viewRo (.cons (i := 0) rfl Vw.rowRd .nil) rfl) (by omega)).mono fun e w' ⟨A6, g7, k8, cp9, he_, ht_⟩ => ⟨(A6, g7, k8, cp9), he_, trivial, hT.news ht_ rfl⟩) ?_
  rintro ⟨A6, g7, k8, cp9⟩ hf10_
  refine cM ?_
  refine fR 0 k8 A6 g7 cp9 (canR [(⟨0, 0, W, H⟩ : Rect)]) rfl fun hr11_a hr11_l hr11_c hr11_m => ?_
  have hcs12_ := canR_small (l := [(⟨0, 0, W, H⟩ : Rect)]) (by simp)
  refine bW [0, 0] 5 0 (fun b13 => [(2, pT b1), (6, pT b4), (7, pT b13)]) (fun b13 => [.cells b13 [.slice A6 k8 cp9] 23 true, .gen (rowE (A6) g7 k8 cp9 32 4 (rvals (canR [(⟨0, 0, W, H⟩ : Rect)])) true), oE b5 1 1 32 4 (rvals [(⟨0, 0, W, H⟩ : Rect)]), .cells b4 [sL r3 n n] 44 true, oE r3 n n 23 1 (dvals RS.cells (List.replicate n RS.nil)), .cells b1 [iQ K, .slice A n cap] 28 true, rD (A) g o n 14 (dvals IT.cells its), .gen (subE n (IT.hds 116 its)), .gen (subE n (IT.pxs its)), .gen (subE n (TS.ops ts))]) [2, 6, 7] fun b13 => ?_
  refine zDNSSR 3 <| bD [0, 5] 2 1 [(18, .slice A n cap)] [17] <| fG 5 <| pS 3 0 <| cG (d := 19) (α := Nat) (fun x_ => .func (.func 95) #[] #[pT x_]) (fun x_ => [.cells x_ [.slice A n cap] 26 true, .cells b13 [.slice A6 k8 cp9] 23 true, .gen (rowE (A6) g7 k8 cp9 32 4 (rvals (canR [(⟨0, 0, W, H⟩ : Rect)])) true), oE b5 1 1 32 4 (rvals [(⟨0, 0, W, H⟩ : Rect)]), .cells b4 [sL r3 n n] 44 true, oE r3 n n 23 1 (dvals RS.cells (List.replicate n RS.nil)), rD (A) g o n 14 (dvals IT.cells its), .gen (subE n (IT.hds 116 its)), .gen (subE n (IT.pxs its)), .gen (subE n (TS.ops ts))]) (fun x_ => True) (fun w hT => (backOf A n cap w).mono fun e w' ⟨kb14, he_, ht_⟩ => ⟨kb14, he_, trivial, hT.news ht_ rfl⟩) ?_
  rintro kb14 hf15_
  refine cM ?_
  refine zDNB <| cont_rowEqD (cel := RS.cells) (z := 1) 5 (List.replicate n RS.nil) (seenR n []) rfl ((seenR_nil n).symm) ?_
  refine cont_rowEqR 2 (canR [(⟨0, 0, W, H⟩ : Rect)]) (leftL (⟨0, 0, W, H⟩ : Rect) (ts.drop (n - 0))) rfl (by rw [Nat.sub_zero, List.drop_of_length_le (by omega)]; rfl) ?_
  refine cont_nilbun (RS.rws ([] : List RS)) ?_
  refine cM ?_
  refine cont_weaken 1 (.ro kb14 [.slice A n cap] 26) rfl rfl Vw.roc rfl ?_
  refine cM ?_
  refine cont_pick [1, 7, 0, 2, 3, 4, 5, 6, 8, 9, 10] [.ro kb14 [.slice A n cap] 26, rD (A) g o n 14 (dvals IT.cells its), .gen (bunO 0 (RS.rws ([] : List RS))), .cells b13 [.slice A6 k8 cp9] 23 true, .gen (rowE (A6) g7 k8 cp9 32 4 (rvals (leftL (⟨0, 0, W, H⟩ : Rect) (ts.drop (n - 0)))) true), oE b5 1 1 32 4 (rvals [(⟨0, 0, W, H⟩ : Rect)]), .cells b4 [sL r3 n n] 44 true, oE r3 n n 23 1 (dvals RS.cells (seenR n [])), .gen (subE n (IT.hds 116 its)), .gen (subE n (IT.pxs its)), .gen (subE n (TS.ops ts))] (by decide) rfl rfl ?_
  refine cont_rangeFunc (X := Nat × IT) (β := Nat × List RS × Option Addr × Nat × Nat × Nat) (γ := Unit) (gf := 95) (lb := #[pT kb14]) (fun z_ : Nat × IT => #[iQ (z_.1 : Int), .agg #[iQ 0, iQ 0, pT z_.2.b, iQ z_.2.t.X, iQ z_.2.t.Y, iQ z_.2.t.s, iQ z_.2.t.al, iQ z_.2.t.ca, iQ z_.2.t.cb, iQ z_.2.t.cc, iQ z_.2.t.cd, .slice z_.2.t.A z_.2.t.k z_.2.t.cp, .string ⟨#[]⟩, iQ 0]]) [.ro kb14 [.slice A n cap] 26, rD (A) g o n 14 (dvals IT.cells its)] (fun z_ : Nat × IT => []) (fun xs_ => BackI its n xs_ ∧ xs_.length = n) (fun xs_ => BackI its n xs_) (fun (pre : List (Nat × IT)) (x_ : Nat × List RS × Option Addr × Nat × Nat × Nat) => x_.2.1.length = x_.1 ∧ x_.1 = pre.length ∧ SeenOk (⟨0, 0, W, H⟩ : Rect) ts n x_.2.1) (fun x_ : Nat × List RS × Option Addr × Nat × Nat × Nat => [.gen (bunO x_.1 (RS.rws x_.2.1)), .cells b13 [.slice x_.2.2.1 x_.2.2.2.2.1 x_.2.2.2.2.2] 23 true, .gen (rowE (x_.2.2.1) x_.2.2.2.1 x_.2.2.2.2.1 x_.2.2.2.2.2 32 4 (rvals (leftL (⟨0, 0, W, H⟩ : Rect) (ts.drop (n - x_.1)))) true), oE b5 1 1 32 4 (rvals [(⟨0, 0, W, H⟩ : Rect)]), .cells b4 [sL r3 n n] 44 true, oE r3 n n 23 1 (dvals RS.cells (seenR n x_.2.1)), .gen (subE n (IT.hds 116 its)), .gen (subE n (IT.pxs its)), .gen (subE n (TS.ops ts))]) (fun (_ : Code) (_ : Unit) => False) (fun x_ : Unit => []) (0, ([] : List RS), A6, g7, k8, cp9) rfl (fun _ _ => rfl) (fun _ => rfl) (by kernel_rfl) (backItem kb14 A g o n cap its (by omega) hra hrl _) (⟨rfl, rfl, SeenOk.nil _ _ _⟩) rfl ?_ ?_ ?_ ?_
  ·
    rintro l_ z16_ e16_ e16b_ e16q_ pre ⟨x, it⟩ ⟨k, rs, Al, gl, kl, cl⟩ B_ hz_ hinv17_ hsp_ hB_
    replace hinv17_ : rs.length = k ∧ k = pre.length ∧ SeenOk (⟨0, 0, W, H⟩ : Rect) ts n rs := hinv17_
    replace hsp_ : BackI its n (pre ++ [(x, it)]) := hsp_
    refine cM ?_
    refine mcont_seq ?_
    refine mcont_region 1 rfl (by kernel_rfl) ?_
    refine bD [0] 1 0 [(8, iQ (x : Int))] [] <| zDN <| mcont_region 2 rfl (by kernel_rfl) ?_
    refine bW [0, 0] 2 0 (fun b18 => [(6, pT b4), (7, pT b13), (8, iQ (x : Int)), (9, pT b18)]) (fun b18 => [.cells b18 [iQ 0, iQ 0, pT it.b, iQ it.t.X, iQ it.t.Y, iQ it.t.s, iQ it.t.al, iQ it.t.ca, iQ it.t.cb, iQ it.t.cc, iQ it.t.cd, .slice it.t.A it.t.k it.t.cp, .string ⟨#[]⟩, iQ 0] 94 true, z16_, e16_, e16q_, .ro kb14 [.slice A n cap] 26, rD (A) g o n 14 (dvals IT.cells its), .gen (bunO k (RS.rws rs)), .cells b13 [.slice Al kl cl] 23 true, .gen (rowE (Al) gl kl cl 32 4 (rvals (leftL (⟨0, 0, W, H⟩ : Rect) (ts.drop (n - k)))) true), oE b5 1 1 32 4 (rvals [(⟨0, 0, W, H⟩ : Rect)]), .cells b4 [sL r3 n n] 44 true, oE r3 n n 23 1 (dvals RS.cells (seenR n rs)), .gen (subE n (IT.hds 116 its)), .gen (subE n (IT.pxs its)), .gen (subE n (TS.ops ts))]) [6, 7, 8, 9] fun b18 => ?_
    refine zDN <| hB_ _ [.cells b18 [iQ 0, iQ 0, pT it.b, iQ it.t.X, iQ it.t.Y, iQ it.t.s, iQ it.t.al, iQ it.t.ca, iQ it.t.cb, iQ it.t.cc, iQ it.t.cd, .slice it.t.A it.t.k it.t.cp, .string ⟨#[]⟩, iQ 0] 94 true, z16_] [e16q_, .ro kb14 [.slice A n cap] 26, rD (A) g o n 14 (dvals IT.cells its), .gen (bunO k (RS.rws rs)), .cells b13 [.slice Al kl cl] 23 true, .gen (rowE (Al) gl kl cl 32 4 (rvals (leftL (⟨0, 0, W, H⟩ : Rect) (ts.drop (n - k)))) true), oE b5 1 1 32 4 (rvals [(⟨0, 0, W, H⟩ : Rect)]), .cells b4 [sL r3 n n] 44 true, oE r3 n n 23 1 (dvals RS.cells (seenR n rs)), .gen (subE n (IT.hds 116 its)), .gen (subE n (IT.pxs its)), .gen (subE n (TS.ops ts))] ?_
    refine cM ?_
    obtain ⟨hk, hkp, hrs⟩ := hinv17_
    obtain ⟨hx, hit⟩ := hsp_.last
    refine mcont_block ?_
    refine mcont_seq ?_
    refine fR 8 kl Al gl cl (leftL (⟨0, 0, W, H⟩ : Rect) (ts.drop (n - k))) rfl fun hr19_a hr19_l hr19_c hr19_m => ?_
    have hral := hr19_a
    have hll := leftL_len hW hH (ts.drop (n - k))
    have hitk : TS.Ok it.t := by rw [hit]; exact hits _ (dget_mem (l := its) (i := x) (by omega))
    obtain ⟨hitw1, hitw2⟩ : 1 ≤ it.t.W ∧ it.t.W ≤ 16 := ⟨hitk.img.w1, hitk.w16⟩
    obtain ⟨hith1, hith2⟩ : 1 ≤ it.t.H ∧ it.t.H ≤ 16 := ⟨hitk.img.h1, hitk.h16⟩
    obtain ⟨hits1, hits2⟩ := hitk.s_
    obtain ⟨hitx1, hitx2⟩ := hitk.x_
    obtain ⟨hity1, hity2⟩ := hitk.y_
    obtain ⟨hita1, hita2⟩ := hitk.a_
    have hitl := hitk.img.le
    have hite : dget its x = it := hit.symm
    refine cont_see 13 (rD (some ⟨it.q, 0, none⟩) it.q 0 it.t.n 1 (cV it.t.px)) rfl rfl (by rw [← hite]; exact Vw.subAt x (by omega) rfl rfl) rfl ?_
    refine cM ?_
    refine cont_see 13 (.ro it.b [iQ it.t.W, iQ it.t.H, sL it.q it.t.n it.t.n] 116) rfl rfl (by rw [← hite]; exact Vw.subAtRo x (by omega) rfl) rfl ?_
    refine cM ?_
    have hto : dget ts x = it.t := by rw [hit]; exact (dget_mapT hmap (by omega)).symm
    refine cont_see 16 (rD (it.t.A) it.t.g 0 it.t.k 4 (rvals it.t.op)) rfl rfl (by rw [← hto]; exact Vw.subAt x (by omega) rfl rfl) rfl ?_
    refine cM ?_
    have hhl : (hidP it.t.W it.t.H it.t.X it.t.Y it.t.s it.t.al it.t.op ⟨it.t.ca, it.t.cb, it.t.cc, it.t.cd⟩).length ≤ 6400 := hid_len hitk
    refine cM ?_
    refine mdrawn_enter 11 [14] rfl (by kernel_rfl) (by kernel_rfl) ?_
    refine tD 0 [14] [(0, 13), (1, 0), (2, 10), (3, 0), (4, 3)] 6 [4, 3, 2, 1, 0] [(22, sL r3 n n), (23, iQ (x : Int)), (24, .slice Al kl cl), (26, .agg #[pT it.b, iQ it.t.X, iQ it.t.Y, iQ it.t.s, iQ it.t.al, iQ it.t.ca, iQ it.t.cb, iQ it.t.cc, iQ it.t.cd, .slice it.t.A it.t.k it.t.cp, .string ⟨#[]⟩])] [25] ?_ (hpo := (pok_then (pok_blk pok_rq)))
    refine dO 5 5 <| cP 27 (.agg #[iQ ((shwR it.t.W it.t.H it.t.X it.t.Y it.t.s it.t.ca it.t.cb it.t.cc it.t.cd).x0), iQ ((shwR it.t.W it.t.H it.t.X it.t.Y it.t.s it.t.ca it.t.cb it.t.cc it.t.cd).y0), iQ ((shwR it.t.W it.t.H it.t.X it.t.Y it.t.s it.t.ca it.t.cb it.t.cc it.t.cd).x1), iQ ((shwR it.t.W it.t.H it.t.X it.t.Y it.t.s it.t.ca it.t.cb it.t.cc it.t.cd).y1)]) (fun w hT => surfBox it.b it.t.W it.t.H it.q it.t.n it.t.n it.t.px it.t.X it.t.Y it.t.s it.t.al it.t.ca it.t.cb it.t.cc it.t.cd it.t.A it.t.k it.t.cp w (hT.viewRo (.cons (i := 1) rfl Vw.ro (.cons (i := 2) rfl Vw.rd .nil)) rfl) (by omega) hitk.img (by omega) (by omega) (by omega)) <| dX 0 [14] <| dO 6 4 <| one_step1 0 (fun b20 => [(7, pT b13), (9, pT b18), (22, sL r3 n n), (23, iQ (x : Int)), (24, .slice Al kl cl), (28, sL b20 1 1)]) (fun b20 => [.cells b20 [iQ ((shwR it.t.W it.t.H it.t.X it.t.Y it.t.s it.t.ca it.t.cb it.t.cc it.t.cd).x0), iQ ((shwR it.t.W it.t.H it.t.X it.t.Y it.t.s it.t.ca it.t.cb it.t.cc it.t.cd).y0), iQ ((shwR it.t.W it.t.H it.t.X it.t.Y it.t.s it.t.ca it.t.cb it.t.cc it.t.cd).x1), iQ ((shwR it.t.W it.t.H it.t.X it.t.Y it.t.s it.t.ca it.t.cb it.t.cc it.t.cd).y1)] 32 true, rD (it.t.A) it.t.g 0 it.t.k 4 (rvals it.t.op), .ro it.b [iQ it.t.W, iQ it.t.H, sL it.q it.t.n it.t.n] 116, rD (some ⟨it.q, 0, none⟩) it.q 0 it.t.n 1 (cV it.t.px), .cells b18 [iQ 0, iQ 0, pT it.b, iQ it.t.X, iQ it.t.Y, iQ it.t.s, iQ it.t.al, iQ it.t.ca, iQ it.t.cb, iQ it.t.cc, iQ it.t.cd, .slice it.t.A it.t.k it.t.cp, .string ⟨#[]⟩, iQ 0] 94 true, z16_, e16b_, e16q_, .ro kb14 [.slice A n cap] 26, rD (A) g o n 14 (dvals IT.cells its), .gen (bunO k (RS.rws rs)), .cells b13 [.slice Al kl cl] 23 true, .gen (rowE (Al) gl kl cl 32 4 (rvals (leftL (⟨0, 0, W, H⟩ : Rect) (ts.drop (n - k)))) true), oE b5 1 1 32 4 (rvals [(⟨0, 0, W, H⟩ : Rect)]), .cells b4 [sL r3 n n] 44 true, oE r3 n n 23 1 (dvals RS.cells (seenR n rs)), .gen (subE n (IT.hds 116 its)), .gen (subE n (IT.pxs its)), .gen (subE n (TS.ops ts))]) (fun b20 => by kernel_rfl) (fun b20 => by kernel_rfl) (fun b20 => ?_)
    refine dX 1 [14] <| dO 7 3 <| cont_asRow 0 1 4 rfl (vals := rvals [(⟨(shwR it.t.W it.t.H it.t.X it.t.Y it.t.s it.t.ca it.t.cb it.t.cc it.t.cd).x0, (shwR it.t.W it.t.H it.t.X it.t.Y it.t.s it.t.ca it.t.cb it.t.cc it.t.cd).y0, (shwR it.t.W it.t.H it.t.X it.t.Y it.t.s it.t.ca it.t.cb it.t.cc it.t.cd).x1, (shwR it.t.W it.t.H it.t.X it.t.Y it.t.s it.t.ca it.t.cb it.t.cc it.t.cd).y1⟩ : Rect)]) rfl rfl (by decide) ?_
    refine cG (d := 29) (α := Option Addr × Nat × Nat × Nat) (fun x_ => .slice x_.1 x_.2.2.1 x_.2.2.2) (fun x_ => [.gen (rowE (x_.1) x_.2.1 x_.2.2.1 x_.2.2.2 32 4 (rvals (canR [(⟨(shwR it.t.W it.t.H it.t.X it.t.Y it.t.s it.t.ca it.t.cb it.t.cc it.t.cd).x0, (shwR it.t.W it.t.H it.t.X it.t.Y it.t.s it.t.ca it.t.cb it.t.cc it.t.cd).y0, (shwR it.t.W it.t.H it.t.X it.t.Y it.t.s it.t.ca it.t.cb it.t.cc it.t.cd).x1, (shwR it.t.W it.t.H it.t.X it.t.Y it.t.s it.t.ca it.t.cb it.t.cc it.t.cd).y1⟩ : Rect)])) true), oE b20 1 1 32 4 (rvals [(⟨(shwR it.t.W it.t.H it.t.X it.t.Y it.t.s it.t.ca it.t.cb it.t.cc it.t.cd).x0, (shwR it.t.W it.t.H it.t.X it.t.Y it.t.s it.t.ca it.t.cb it.t.cc it.t.cd).y0, (shwR it.t.W it.t.H it.t.X it.t.Y it.t.s it.t.ca it.t.cb it.t.cc it.t.cd).x1, (shwR it.t.W it.t.H it.t.X it.t.Y it.t.s it.t.ca it.t.cb it.t.cc it.t.cd).y1⟩ : Rect)]), rD (it.t.A) it.t.g 0 it.t.k 4 (rvals it.t.op), .ro it.b [iQ it.t.W, iQ it.t.H, sL it.q it.t.n it.t.n] 116, rD (some ⟨it.q, 0, none⟩) it.q 0 it.t.n 1 (cV it.t.px), .cells b18 [iQ 0, iQ 0, pT it.b, iQ it.t.X, iQ it.t.Y, iQ it.t.s, iQ it.t.al, iQ it.t.ca, iQ it.t.cb, iQ it.t.cc, iQ it.t.cd, .slice it.t.A it.t.k it.t.cp, .string ⟨#[]⟩, iQ 0] 94 true, z16_, e16b_, e16q_, .ro kb14 [.slice A n cap] 26, rD (A) g o n 14 (dvals IT.cells its), .gen (bunO k (RS.rws rs)), .cells b13 [.slice Al kl cl] 23 true, .gen (rowE (Al) gl kl cl 32 4 (rvals (leftL (⟨0, 0, W, H⟩ : Rect) (ts.drop (n - k)))) true), oE b5 1 1 32 4 (rvals [(⟨0, 0, W, H⟩ : Rect)]), .cells b4 [sL r3 n n] 44 true, oE r3 n n 23 1 (dvals RS.cells (seenR n rs)), .gen (subE n (IT.hds 116 its)), .gen (subE n (IT.pxs its)), .gen (subE n (TS.ops ts))]) (fun x_ => True) (fun w hT => (regOf (some ⟨b20, 0, none⟩) b20 0 1 1 [(⟨(shwR it.t.W it.t.H it.t.X it.t.Y it.t.s it.t.ca it.t.cb it.t.cc it.t.cd).x0, (shwR it.t.W it.t.H it.t.X it.t.Y it.t.s it.t.ca it.t.cb it.t.cc it.t.cd).y0, (shwR it.t.W it.t.H it.t.X it.t.Y it.t.s it.t.ca it.t.cb it.t.cc it.t.cd).x1, (shwR it.t.W it.t.H it.t.X it.t.Y it.t.s it.t.ca it.t.cb it.t.cc it.t.cd).y1⟩ : Rect)] w (hT.viewRo (.cons (i := 0) rfl Vw.rowRd .nil) rfl) (by omega)).mono fun e w' ⟨A21, g22, k23, cp24, he_, ht_⟩ => ⟨(A21, g22, k23, cp24), he_, trivial, hT.news ht_ rfl⟩) ?_
    rintro ⟨A21, g22, k23, cp24⟩ hf25_
    refine cM ?_
    refine fR 0 k23 A21 g22 cp24 (canR [(⟨(shwR it.t.W it.t.H it.t.X it.t.Y it.t.s it.t.ca it.t.cb it.t.cc it.t.cd).x0, (shwR it.t.W it.t.H it.t.X it.t.Y it.t.s it.t.ca it.t.cb it.t.cc it.t.cd).y0, (shwR it.t.W it.t.H it.t.X it.t.Y it.t.s it.t.ca it.t.cb it.t.cc it.t.cd).x1, (shwR it.t.W it.t.H it.t.X it.t.Y it.t.s it.t.ca it.t.cb it.t.cc it.t.cd).y1⟩ : Rect)]) rfl fun hr26_a hr26_l hr26_c hr26_m => ?_
    have hcs27_ := canR_small (l := [(⟨(shwR it.t.W it.t.H it.t.X it.t.Y it.t.s it.t.ca it.t.cb it.t.cc it.t.cd).x0, (shwR it.t.W it.t.H it.t.X it.t.Y it.t.s it.t.ca it.t.cb it.t.cc it.t.cd).y0, (shwR it.t.W it.t.H it.t.X it.t.Y it.t.s it.t.ca it.t.cb it.t.cc it.t.cd).x1, (shwR it.t.W it.t.H it.t.X it.t.Y it.t.s it.t.ca it.t.cb it.t.cc it.t.cd).y1⟩ : Rect)]) (by simp)
    refine dX 2 [14] <| dO 8 2 <| cG (d := 30) (α := Option Addr × Nat × Nat × Nat) (fun x_ => .slice x_.1 x_.2.2.1 x_.2.2.2) (fun x_ => [.gen (rowE (x_.1) x_.2.1 x_.2.2.1 x_.2.2.2 32 4 (rvals (regM andB (leftL (⟨0, 0, W, H⟩ : Rect) (ts.drop (n - k))) (canR [(⟨(shwR it.t.W it.t.H it.t.X it.t.Y it.t.s it.t.ca it.t.cb it.t.cc it.t.cd).x0, (shwR it.t.W it.t.H it.t.X it.t.Y it.t.s it.t.ca it.t.cb it.t.cc it.t.cd).y0, (shwR it.t.W it.t.H it.t.X it.t.Y it.t.s it.t.ca it.t.cb it.t.cc it.t.cd).x1, (shwR it.t.W it.t.H it.t.X it.t.Y it.t.s it.t.ca it.t.cb it.t.cc it.t.cd).y1⟩ : Rect)]))) true), .gen (rowE (A21) g22 k23 cp24 32 4 (rvals (canR [(⟨(shwR it.t.W it.t.H it.t.X it.t.Y it.t.s it.t.ca it.t.cb it.t.cc it.t.cd).x0, (shwR it.t.W it.t.H it.t.X it.t.Y it.t.s it.t.ca it.t.cb it.t.cc it.t.cd).y0, (shwR it.t.W it.t.H it.t.X it.t.Y it.t.s it.t.ca it.t.cb it.t.cc it.t.cd).x1, (shwR it.t.W it.t.H it.t.X it.t.Y it.t.s it.t.ca it.t.cb it.t.cc it.t.cd).y1⟩ : Rect)])) true), oE b20 1 1 32 4 (rvals [(⟨(shwR it.t.W it.t.H it.t.X it.t.Y it.t.s it.t.ca it.t.cb it.t.cc it.t.cd).x0, (shwR it.t.W it.t.H it.t.X it.t.Y it.t.s it.t.ca it.t.cb it.t.cc it.t.cd).y0, (shwR it.t.W it.t.H it.t.X it.t.Y it.t.s it.t.ca it.t.cb it.t.cc it.t.cd).x1, (shwR it.t.W it.t.H it.t.X it.t.Y it.t.s it.t.ca it.t.cb it.t.cc it.t.cd).y1⟩ : Rect)]), rD (it.t.A) it.t.g 0 it.t.k 4 (rvals it.t.op), .ro it.b [iQ it.t.W, iQ it.t.H, sL it.q it.t.n it.t.n] 116, rD (some ⟨it.q, 0, none⟩) it.q 0 it.t.n 1 (cV it.t.px), .cells b18 [iQ 0, iQ 0, pT it.b, iQ it.t.X, iQ it.t.Y, iQ it.t.s, iQ it.t.al, iQ it.t.ca, iQ it.t.cb, iQ it.t.cc, iQ it.t.cd, .slice it.t.A it.t.k it.t.cp, .string ⟨#[]⟩, iQ 0] 94 true, z16_, e16b_, e16q_, .ro kb14 [.slice A n cap] 26, rD (A) g o n 14 (dvals IT.cells its), .gen (bunO k (RS.rws rs)), .cells b13 [.slice Al kl cl] 23 true, .gen (rowE (Al) gl kl cl 32 4 (rvals (leftL (⟨0, 0, W, H⟩ : Rect) (ts.drop (n - k)))) true), oE b5 1 1 32 4 (rvals [(⟨0, 0, W, H⟩ : Rect)]), .cells b4 [sL r3 n n] 44 true, oE r3 n n 23 1 (dvals RS.cells (seenR n rs)), .gen (subE n (IT.hds 116 its)), .gen (subE n (IT.pxs its)), .gen (subE n (TS.ops ts))]) (fun x_ => True) (fun w hT => (regCut Al gl 0 kl cl (leftL (⟨0, 0, W, H⟩ : Rect) (ts.drop (n - k))) A21 g22 0 k23 cp24 (canR [(⟨(shwR it.t.W it.t.H it.t.X it.t.Y it.t.s it.t.ca it.t.cb it.t.cc it.t.cd).x0, (shwR it.t.W it.t.H it.t.X it.t.Y it.t.s it.t.ca it.t.cb it.t.cc it.t.cd).y0, (shwR it.t.W it.t.H it.t.X it.t.Y it.t.s it.t.ca it.t.cb it.t.cc it.t.cd).x1, (shwR it.t.W it.t.H it.t.X it.t.Y it.t.s it.t.ca it.t.cb it.t.cc it.t.cd).y1⟩ : Rect)]) w (hT.viewRo (.cons (i := 13) rfl Vw.rowRd (.cons (i := 0) rfl Vw.rowRd .nil)) rfl) (by omega)).mono fun e w' ⟨A28, g29, k30, cp31, he_, ht_⟩ => ⟨(A28, g29, k30, cp31), he_, trivial, hT.news ht_ rfl⟩) ?_
    rintro ⟨A28, g29, k30, cp31⟩ hf32_
    refine cM ?_
    refine fR 0 k30 A28 g29 cp31 (regM andB (leftL (⟨0, 0, W, H⟩ : Rect) (ts.drop (n - k))) (canR [(⟨(shwR it.t.W it.t.H it.t.X it.t.Y it.t.s it.t.ca it.t.cb it.t.cc it.t.cd).x0, (shwR it.t.W it.t.H it.t.X it.t.Y it.t.s it.t.ca it.t.cb it.t.cc it.t.cd).y0, (shwR it.t.W it.t.H it.t.X it.t.Y it.t.s it.t.ca it.t.cb it.t.cc it.t.cd).x1, (shwR it.t.W it.t.H it.t.X it.t.Y it.t.s it.t.ca it.t.cb it.t.cc it.t.cd).y1⟩ : Rect)])) rfl fun hr33_a hr33_l hr33_c hr33_m => ?_
    refine dX 3 [14] <| sem_take 3 [14] 9 1 31 (Instr.indexAt 44 (sL r3 n n) (iQ (x : Int))) (.pointer (some ⟨r3, x, none⟩)) (by kernel_rfl) (pok_then (pok_blk pok_rq)) (by kernel_rfl) rfl (by kernel_rfl) (by kernel_rfl) (fun w hT => rI 23 1 w) ?_
    refine dO 10 0 ?_
    obtain ⟨rr34, hrr34⟩ : ∃ y_ : RS, y_ = (⟨A28, g29, k30, cp31, regM andB (leftL (⟨0, 0, W, H⟩ : Rect) (ts.drop (n - k))) (canR [(⟨(shwR it.t.W it.t.H it.t.X it.t.Y it.t.s it.t.ca it.t.cb it.t.cc it.t.cd).x0, (shwR it.t.W it.t.H it.t.X it.t.Y it.t.s it.t.ca it.t.cb it.t.cc it.t.cd).y0, (shwR it.t.W it.t.H it.t.X it.t.Y it.t.s it.t.ca it.t.cb it.t.cc it.t.cd).x1, (shwR it.t.W it.t.H it.t.X it.t.Y it.t.s it.t.ca it.t.cb it.t.cc it.t.cd).y1⟩ : Rect)])⟩ : RS) := ⟨_, rfl⟩
    refine sem_stepU (Instr.storeAt 23 (.pointer (some ⟨r3, x, none⟩)) (.slice A28 k30 cp31)) (fun _ => [.gen (rowE (A28) g29 k30 cp31 32 4 (rvals (regM andB (leftL (⟨0, 0, W, H⟩ : Rect) (ts.drop (n - k))) (canR [(⟨(shwR it.t.W it.t.H it.t.X it.t.Y it.t.s it.t.ca it.t.cb it.t.cc it.t.cd).x0, (shwR it.t.W it.t.H it.t.X it.t.Y it.t.s it.t.ca it.t.cb it.t.cc it.t.cd).y0, (shwR it.t.W it.t.H it.t.X it.t.Y it.t.s it.t.ca it.t.cb it.t.cc it.t.cd).x1, (shwR it.t.W it.t.H it.t.X it.t.Y it.t.s it.t.ca it.t.cb it.t.cc it.t.cd).y1⟩ : Rect)]))) true), .gen (rowE (A21) g22 k23 cp24 32 4 (rvals (canR [(⟨(shwR it.t.W it.t.H it.t.X it.t.Y it.t.s it.t.ca it.t.cb it.t.cc it.t.cd).x0, (shwR it.t.W it.t.H it.t.X it.t.Y it.t.s it.t.ca it.t.cb it.t.cc it.t.cd).y0, (shwR it.t.W it.t.H it.t.X it.t.Y it.t.s it.t.ca it.t.cb it.t.cc it.t.cd).x1, (shwR it.t.W it.t.H it.t.X it.t.Y it.t.s it.t.ca it.t.cb it.t.cc it.t.cd).y1⟩ : Rect)])) true), oE b20 1 1 32 4 (rvals [(⟨(shwR it.t.W it.t.H it.t.X it.t.Y it.t.s it.t.ca it.t.cb it.t.cc it.t.cd).x0, (shwR it.t.W it.t.H it.t.X it.t.Y it.t.s it.t.ca it.t.cb it.t.cc it.t.cd).y0, (shwR it.t.W it.t.H it.t.X it.t.Y it.t.s it.t.ca it.t.cb it.t.cc it.t.cd).x1, (shwR it.t.W it.t.H it.t.X it.t.Y it.t.s it.t.ca it.t.cb it.t.cc it.t.cd).y1⟩ : Rect)]), rD (it.t.A) it.t.g 0 it.t.k 4 (rvals it.t.op), .ro it.b [iQ it.t.W, iQ it.t.H, sL it.q it.t.n it.t.n] 116, rD (some ⟨it.q, 0, none⟩) it.q 0 it.t.n 1 (cV it.t.px), .cells b18 [iQ 0, iQ 0, pT it.b, iQ it.t.X, iQ it.t.Y, iQ it.t.s, iQ it.t.al, iQ it.t.ca, iQ it.t.cb, iQ it.t.cc, iQ it.t.cd, .slice it.t.A it.t.k it.t.cp, .string ⟨#[]⟩, iQ 0] 94 true, z16_, e16b_, e16q_, .ro kb14 [.slice A n cap] 26, rD (A) g o n 14 (dvals IT.cells its), .gen (bunO k (RS.rws rs)), .cells b13 [.slice Al kl cl] 23 true, .gen (rowE (Al) gl kl cl 32 4 (rvals (leftL (⟨0, 0, W, H⟩ : Rect) (ts.drop (n - k)))) true), oE b5 1 1 32 4 (rvals [(⟨0, 0, W, H⟩ : Rect)]), .cells b4 [sL r3 n n] 44 true, oE r3 n n 23 1 (dvals RS.cells ((seenR n rs).set x (⟨A28, g29, k30, cp31, regM andB (leftL (⟨0, 0, W, H⟩ : Rect) (ts.drop (n - k))) (canR [(⟨(shwR it.t.W it.t.H it.t.X it.t.Y it.t.s it.t.ca it.t.cb it.t.cc it.t.cd).x0, (shwR it.t.W it.t.H it.t.X it.t.Y it.t.s it.t.ca it.t.cb it.t.cc it.t.cd).y0, (shwR it.t.W it.t.H it.t.X it.t.Y it.t.s it.t.ca it.t.cb it.t.cc it.t.cd).x1, (shwR it.t.W it.t.H it.t.X it.t.Y it.t.s it.t.ca it.t.cb it.t.cc it.t.cd).y1⟩ : Rect)])⟩ : RS))), .gen (subE n (IT.hds 116 its)), .gen (subE n (IT.pxs its)), .gen (subE n (TS.ops ts))]) (fun _ => True) (by kernel_rfl) (fun w hT => store_rowS hT (i := 17) (J := x) (⟨A28, g29, k30, cp31, regM andB (leftL (⟨0, 0, W, H⟩ : Rect) (ts.drop (n - k))) (canR [(⟨(shwR it.t.W it.t.H it.t.X it.t.Y it.t.s it.t.ca it.t.cb it.t.cc it.t.cd).x0, (shwR it.t.W it.t.H it.t.X it.t.Y it.t.s it.t.ca it.t.cb it.t.cc it.t.cd).y0, (shwR it.t.W it.t.H it.t.X it.t.Y it.t.s it.t.ca it.t.cb it.t.cc it.t.cd).x1, (shwR it.t.W it.t.H it.t.X it.t.Y it.t.s it.t.ca it.t.cb it.t.cc it.t.cd).y1⟩ : Rect)])⟩ : RS) rfl (by kernel_rfl) (by (rw [seenR_len (by omega)]; omega))) (fun _ _ => ?_)
    refine dX 3 [14] <| dD <| zN <| mdrawn_enter 6 [13] rfl (by kernel_rfl) (by kernel_rfl) ?_
    refine tD 0 [13] [(1, 0), (2, 6)] 4 [2, 1] [(34, .agg #[pT it.b, iQ it.t.X, iQ it.t.Y, iQ it.t.s, iQ it.t.al, iQ it.t.ca, iQ it.t.cb, iQ it.t.cc, iQ it.t.cd, .slice it.t.A it.t.k it.t.cp, .string ⟨#[]⟩])] [33] ?_ (hpo := (pok_blk pok_rq))
    refine drawn_two 0 3 3 rfl (by kernel_rfl) ?_ ?_
    ·
      refine oS 13 [(7, pT b13), (32, .slice Al kl cl), (34, .agg #[pT it.b, iQ it.t.X, iQ it.t.Y, iQ it.t.s, iQ it.t.al, iQ it.t.ca, iQ it.t.cb, iQ it.t.cc, iQ it.t.cd, .slice it.t.A it.t.k it.t.cp, .string ⟨#[]⟩])] [.gen (rowE (A28) g29 k30 cp31 32 4 (rvals (regM andB (leftL (⟨0, 0, W, H⟩ : Rect) (ts.drop (n - k))) (canR [(⟨(shwR it.t.W it.t.H it.t.X it.t.Y it.t.s it.t.ca it.t.cb it.t.cc it.t.cd).x0, (shwR it.t.W it.t.H it.t.X it.t.Y it.t.s it.t.ca it.t.cb it.t.cc it.t.cd).y0, (shwR it.t.W it.t.H it.t.X it.t.Y it.t.s it.t.ca it.t.cb it.t.cc it.t.cd).x1, (shwR it.t.W it.t.H it.t.X it.t.Y it.t.s it.t.ca it.t.cb it.t.cc it.t.cd).y1⟩ : Rect)]))) true), .gen (rowE (A21) g22 k23 cp24 32 4 (rvals (canR [(⟨(shwR it.t.W it.t.H it.t.X it.t.Y it.t.s it.t.ca it.t.cb it.t.cc it.t.cd).x0, (shwR it.t.W it.t.H it.t.X it.t.Y it.t.s it.t.ca it.t.cb it.t.cc it.t.cd).y0, (shwR it.t.W it.t.H it.t.X it.t.Y it.t.s it.t.ca it.t.cb it.t.cc it.t.cd).x1, (shwR it.t.W it.t.H it.t.X it.t.Y it.t.s it.t.ca it.t.cb it.t.cc it.t.cd).y1⟩ : Rect)])) true), oE b20 1 1 32 4 (rvals [(⟨(shwR it.t.W it.t.H it.t.X it.t.Y it.t.s it.t.ca it.t.cb it.t.cc it.t.cd).x0, (shwR it.t.W it.t.H it.t.X it.t.Y it.t.s it.t.ca it.t.cb it.t.cc it.t.cd).y0, (shwR it.t.W it.t.H it.t.X it.t.Y it.t.s it.t.ca it.t.cb it.t.cc it.t.cd).x1, (shwR it.t.W it.t.H it.t.X it.t.Y it.t.s it.t.ca it.t.cb it.t.cc it.t.cd).y1⟩ : Rect)]), rD (it.t.A) it.t.g 0 it.t.k 4 (rvals it.t.op), .ro it.b [iQ it.t.W, iQ it.t.H, sL it.q it.t.n it.t.n] 116, rD (some ⟨it.q, 0, none⟩) it.q 0 it.t.n 1 (cV it.t.px), .cells b18 [iQ 0, iQ 0, pT it.b, iQ it.t.X, iQ it.t.Y, iQ it.t.s, iQ it.t.al, iQ it.t.ca, iQ it.t.cb, iQ it.t.cc, iQ it.t.cd, .slice it.t.A it.t.k it.t.cp, .string ⟨#[]⟩, iQ 0] 94 true, z16_, e16b_, e16q_, .ro kb14 [.slice A n cap] 26, rD (A) g o n 14 (dvals IT.cells its), .gen (bunO k (RS.rws rs)), .cells b13 [.slice Al kl cl] 23 true, .gen (rowE (Al) gl kl cl 32 4 (rvals (leftL (⟨0, 0, W, H⟩ : Rect) (ts.drop (n - k)))) true), oE b5 1 1 32 4 (rvals [(⟨0, 0, W, H⟩ : Rect)]), .cells b4 [sL r3 n n] 44 true, oE r3 n n 23 1 (dvals RS.cells ((seenR n rs).set x (⟨A28, g29, k30, cp31, regM andB (leftL (⟨0, 0, W, H⟩ : Rect) (ts.drop (n - k))) (canR [(⟨(shwR it.t.W it.t.H it.t.X it.t.Y it.t.s it.t.ca it.t.cb it.t.cc it.t.cd).x0, (shwR it.t.W it.t.H it.t.X it.t.Y it.t.s it.t.ca it.t.cb it.t.cc it.t.cd).y0, (shwR it.t.W it.t.H it.t.X it.t.Y it.t.s it.t.ca it.t.cb it.t.cc it.t.cd).x1, (shwR it.t.W it.t.H it.t.X it.t.Y it.t.s it.t.ca it.t.cb it.t.cc it.t.cd).y1⟩ : Rect)])⟩ : RS))), .gen (subE n (IT.hds 116 its)), .gen (subE n (IT.pxs its)), .gen (subE n (TS.ops ts))] <| dX 0 [13] <| dO 3 2 <| cG (d := 35) (α := Option Addr × Nat × Nat × Nat) (fun x_ => .slice x_.1 x_.2.2.1 x_.2.2.2) (fun x_ => [.gen (rowE (x_.1) x_.2.1 x_.2.2.1 x_.2.2.2 32 4 (rvals (hidP it.t.W it.t.H it.t.X it.t.Y it.t.s it.t.al it.t.op ⟨it.t.ca, it.t.cb, it.t.cc, it.t.cd⟩)) true), .gen (rowE (A28) g29 k30 cp31 32 4 (rvals (regM andB (leftL (⟨0, 0, W, H⟩ : Rect) (ts.drop (n - k))) (canR [(⟨(shwR it.t.W it.t.H it.t.X it.t.Y it.t.s it.t.ca it.t.cb it.t.cc it.t.cd).x0, (shwR it.t.W it.t.H it.t.X it.t.Y it.t.s it.t.ca it.t.cb it.t.cc it.t.cd).y0, (shwR it.t.W it.t.H it.t.X it.t.Y it.t.s it.t.ca it.t.cb it.t.cc it.t.cd).x1, (shwR it.t.W it.t.H it.t.X it.t.Y it.t.s it.t.ca it.t.cb it.t.cc it.t.cd).y1⟩ : Rect)]))) true), .gen (rowE (A21) g22 k23 cp24 32 4 (rvals (canR [(⟨(shwR it.t.W it.t.H it.t.X it.t.Y it.t.s it.t.ca it.t.cb it.t.cc it.t.cd).x0, (shwR it.t.W it.t.H it.t.X it.t.Y it.t.s it.t.ca it.t.cb it.t.cc it.t.cd).y0, (shwR it.t.W it.t.H it.t.X it.t.Y it.t.s it.t.ca it.t.cb it.t.cc it.t.cd).x1, (shwR it.t.W it.t.H it.t.X it.t.Y it.t.s it.t.ca it.t.cb it.t.cc it.t.cd).y1⟩ : Rect)])) true), oE b20 1 1 32 4 (rvals [(⟨(shwR it.t.W it.t.H it.t.X it.t.Y it.t.s it.t.ca it.t.cb it.t.cc it.t.cd).x0, (shwR it.t.W it.t.H it.t.X it.t.Y it.t.s it.t.ca it.t.cb it.t.cc it.t.cd).y0, (shwR it.t.W it.t.H it.t.X it.t.Y it.t.s it.t.ca it.t.cb it.t.cc it.t.cd).x1, (shwR it.t.W it.t.H it.t.X it.t.Y it.t.s it.t.ca it.t.cb it.t.cc it.t.cd).y1⟩ : Rect)]), rD (it.t.A) it.t.g 0 it.t.k 4 (rvals it.t.op), .ro it.b [iQ it.t.W, iQ it.t.H, sL it.q it.t.n it.t.n] 116, rD (some ⟨it.q, 0, none⟩) it.q 0 it.t.n 1 (cV it.t.px), .cells b18 [iQ 0, iQ 0, pT it.b, iQ it.t.X, iQ it.t.Y, iQ it.t.s, iQ it.t.al, iQ it.t.ca, iQ it.t.cb, iQ it.t.cc, iQ it.t.cd, .slice it.t.A it.t.k it.t.cp, .string ⟨#[]⟩, iQ 0] 94 true, z16_, e16b_, e16q_, .ro kb14 [.slice A n cap] 26, rD (A) g o n 14 (dvals IT.cells its), .gen (bunO k (RS.rws rs)), .cells b13 [.slice Al kl cl] 23 true, .gen (rowE (Al) gl kl cl 32 4 (rvals (leftL (⟨0, 0, W, H⟩ : Rect) (ts.drop (n - k)))) true), oE b5 1 1 32 4 (rvals [(⟨0, 0, W, H⟩ : Rect)]), .cells b4 [sL r3 n n] 44 true, oE r3 n n 23 1 (dvals RS.cells ((seenR n rs).set x (⟨A28, g29, k30, cp31, regM andB (leftL (⟨0, 0, W, H⟩ : Rect) (ts.drop (n - k))) (canR [(⟨(shwR it.t.W it.t.H it.t.X it.t.Y it.t.s it.t.ca it.t.cb it.t.cc it.t.cd).x0, (shwR it.t.W it.t.H it.t.X it.t.Y it.t.s it.t.ca it.t.cb it.t.cc it.t.cd).y0, (shwR it.t.W it.t.H it.t.X it.t.Y it.t.s it.t.ca it.t.cb it.t.cc it.t.cd).x1, (shwR it.t.W it.t.H it.t.X it.t.Y it.t.s it.t.ca it.t.cb it.t.cc it.t.cd).y1⟩ : Rect)])⟩ : RS))), .gen (subE n (IT.hds 116 its)), .gen (subE n (IT.pxs its)), .gen (subE n (TS.ops ts))]) (fun x_ => True) (fun w hT => (surfHides it.b it.t.W it.t.H it.q it.t.n it.t.n it.t.px it.t.X it.t.Y it.t.s it.t.al it.t.ca it.t.cb it.t.cc it.t.cd it.t.A it.t.g 0 it.t.k it.t.cp it.t.op w (hT.viewRo (.cons (i := 4) rfl Vw.ro (.cons (i := 5) rfl Vw.rd (.cons (i := 3) rfl Vw.rd .nil))) rfl) (by omega) hitk.img (by omega) (by omega) (by omega) (op_len hitk)).mono fun e w' ⟨A35, g36, k37, cp38, he_, ht_⟩ => ⟨(A35, g36, k37, cp38), he_, trivial, hT.news ht_ rfl⟩) ?_
      rintro ⟨A35, g36, k37, cp38⟩ hf39_
      refine cM ?_
      refine fR 0 k37 A35 g36 cp38 (hidP it.t.W it.t.H it.t.X it.t.Y it.t.s it.t.al it.t.op ⟨it.t.ca, it.t.cb, it.t.cc, it.t.cd⟩) rfl fun hr40_a hr40_l hr40_c hr40_m => ?_
      refine dX 1 [13] <| dO 4 1 <| cG (d := 36) (α := Option Addr × Nat × Nat × Nat) (fun x_ => .slice x_.1 x_.2.2.1 x_.2.2.2) (fun x_ => [.gen (rowE (x_.1) x_.2.1 x_.2.2.1 x_.2.2.2 32 4 (rvals (regM lessB (leftL (⟨0, 0, W, H⟩ : Rect) (ts.drop (n - k))) (hidP it.t.W it.t.H it.t.X it.t.Y it.t.s it.t.al it.t.op ⟨it.t.ca, it.t.cb, it.t.cc, it.t.cd⟩))) true), .gen (rowE (A35) g36 k37 cp38 32 4 (rvals (hidP it.t.W it.t.H it.t.X it.t.Y it.t.s it.t.al it.t.op ⟨it.t.ca, it.t.cb, it.t.cc, it.t.cd⟩)) true), .gen (rowE (A28) g29 k30 cp31 32 4 (rvals (regM andB (leftL (⟨0, 0, W, H⟩ : Rect) (ts.drop (n - k))) (canR [(⟨(shwR it.t.W it.t.H it.t.X it.t.Y it.t.s it.t.ca it.t.cb it.t.cc it.t.cd).x0, (shwR it.t.W it.t.H it.t.X it.t.Y it.t.s it.t.ca it.t.cb it.t.cc it.t.cd).y0, (shwR it.t.W it.t.H it.t.X it.t.Y it.t.s it.t.ca it.t.cb it.t.cc it.t.cd).x1, (shwR it.t.W it.t.H it.t.X it.t.Y it.t.s it.t.ca it.t.cb it.t.cc it.t.cd).y1⟩ : Rect)]))) true), .gen (rowE (A21) g22 k23 cp24 32 4 (rvals (canR [(⟨(shwR it.t.W it.t.H it.t.X it.t.Y it.t.s it.t.ca it.t.cb it.t.cc it.t.cd).x0, (shwR it.t.W it.t.H it.t.X it.t.Y it.t.s it.t.ca it.t.cb it.t.cc it.t.cd).y0, (shwR it.t.W it.t.H it.t.X it.t.Y it.t.s it.t.ca it.t.cb it.t.cc it.t.cd).x1, (shwR it.t.W it.t.H it.t.X it.t.Y it.t.s it.t.ca it.t.cb it.t.cc it.t.cd).y1⟩ : Rect)])) true), oE b20 1 1 32 4 (rvals [(⟨(shwR it.t.W it.t.H it.t.X it.t.Y it.t.s it.t.ca it.t.cb it.t.cc it.t.cd).x0, (shwR it.t.W it.t.H it.t.X it.t.Y it.t.s it.t.ca it.t.cb it.t.cc it.t.cd).y0, (shwR it.t.W it.t.H it.t.X it.t.Y it.t.s it.t.ca it.t.cb it.t.cc it.t.cd).x1, (shwR it.t.W it.t.H it.t.X it.t.Y it.t.s it.t.ca it.t.cb it.t.cc it.t.cd).y1⟩ : Rect)]), rD (it.t.A) it.t.g 0 it.t.k 4 (rvals it.t.op), .ro it.b [iQ it.t.W, iQ it.t.H, sL it.q it.t.n it.t.n] 116, rD (some ⟨it.q, 0, none⟩) it.q 0 it.t.n 1 (cV it.t.px), .cells b18 [iQ 0, iQ 0, pT it.b, iQ it.t.X, iQ it.t.Y, iQ it.t.s, iQ it.t.al, iQ it.t.ca, iQ it.t.cb, iQ it.t.cc, iQ it.t.cd, .slice it.t.A it.t.k it.t.cp, .string ⟨#[]⟩, iQ 0] 94 true, z16_, e16b_, e16q_, .ro kb14 [.slice A n cap] 26, rD (A) g o n 14 (dvals IT.cells its), .gen (bunO k (RS.rws rs)), .cells b13 [.slice Al kl cl] 23 true, .gen (rowE (Al) gl kl cl 32 4 (rvals (leftL (⟨0, 0, W, H⟩ : Rect) (ts.drop (n - k)))) true), oE b5 1 1 32 4 (rvals [(⟨0, 0, W, H⟩ : Rect)]), .cells b4 [sL r3 n n] 44 true, oE r3 n n 23 1 (dvals RS.cells ((seenR n rs).set x (⟨A28, g29, k30, cp31, regM andB (leftL (⟨0, 0, W, H⟩ : Rect) (ts.drop (n - k))) (canR [(⟨(shwR it.t.W it.t.H it.t.X it.t.Y it.t.s it.t.ca it.t.cb it.t.cc it.t.cd).x0, (shwR it.t.W it.t.H it.t.X it.t.Y it.t.s it.t.ca it.t.cb it.t.cc it.t.cd).y0, (shwR it.t.W it.t.H it.t.X it.t.Y it.t.s it.t.ca it.t.cb it.t.cc it.t.cd).x1, (shwR it.t.W it.t.H it.t.X it.t.Y it.t.s it.t.ca it.t.cb it.t.cc it.t.cd).y1⟩ : Rect)])⟩ : RS))), .gen (subE n (IT.hds 116 its)), .gen (subE n (IT.pxs its)), .gen (subE n (TS.ops ts))]) (fun x_ => True) (fun w hT => (regLess Al gl 0 kl cl (leftL (⟨0, 0, W, H⟩ : Rect) (ts.drop (n - k))) A35 g36 0 k37 cp38 (hidP it.t.W it.t.H it.t.X it.t.Y it.t.s it.t.al it.t.op ⟨it.t.ca, it.t.cb, it.t.cc, it.t.cd⟩) w (hT.viewRo (.cons (i := 15) rfl Vw.rowRd (.cons (i := 0) rfl Vw.rowRd .nil)) rfl) (by omega)).mono fun e w' ⟨A41, g42, k43, cp44, he_, ht_⟩ => ⟨(A41, g42, k43, cp44), he_, trivial, hT.news ht_ rfl⟩) ?_
      rintro ⟨A41, g42, k43, cp44⟩ hf45_
      refine cM ?_
      refine fR 0 k43 A41 g42 cp44 (regM lessB (leftL (⟨0, 0, W, H⟩ : Rect) (ts.drop (n - k))) (hidP it.t.W it.t.H it.t.X it.t.Y it.t.s it.t.al it.t.op ⟨it.t.ca, it.t.cb, it.t.cc, it.t.cd⟩)) rfl fun hr46_a hr46_l hr46_c hr46_m => ?_
      refine dX 2 [13] <| dO 5 0 <| oS 15 [] [.gen (rowE (A41) g42 k43 cp44 32 4 (rvals (regM lessB (leftL (⟨0, 0, W, H⟩ : Rect) (ts.drop (n - k))) (hidP it.t.W it.t.H it.t.X it.t.Y it.t.s it.t.al it.t.op ⟨it.t.ca, it.t.cb, it.t.cc, it.t.cd⟩))) true), .gen (rowE (A35) g36 k37 cp38 32 4 (rvals (hidP it.t.W it.t.H it.t.X it.t.Y it.t.s it.t.al it.t.op ⟨it.t.ca, it.t.cb, it.t.cc, it.t.cd⟩)) true), .gen (rowE (A28) g29 k30 cp31 32 4 (rvals (regM andB (leftL (⟨0, 0, W, H⟩ : Rect) (ts.drop (n - k))) (canR [(⟨(shwR it.t.W it.t.H it.t.X it.t.Y it.t.s it.t.ca it.t.cb it.t.cc it.t.cd).x0, (shwR it.t.W it.t.H it.t.X it.t.Y it.t.s it.t.ca it.t.cb it.t.cc it.t.cd).y0, (shwR it.t.W it.t.H it.t.X it.t.Y it.t.s it.t.ca it.t.cb it.t.cc it.t.cd).x1, (shwR it.t.W it.t.H it.t.X it.t.Y it.t.s it.t.ca it.t.cb it.t.cc it.t.cd).y1⟩ : Rect)]))) true), .gen (rowE (A21) g22 k23 cp24 32 4 (rvals (canR [(⟨(shwR it.t.W it.t.H it.t.X it.t.Y it.t.s it.t.ca it.t.cb it.t.cc it.t.cd).x0, (shwR it.t.W it.t.H it.t.X it.t.Y it.t.s it.t.ca it.t.cb it.t.cc it.t.cd).y0, (shwR it.t.W it.t.H it.t.X it.t.Y it.t.s it.t.ca it.t.cb it.t.cc it.t.cd).x1, (shwR it.t.W it.t.H it.t.X it.t.Y it.t.s it.t.ca it.t.cb it.t.cc it.t.cd).y1⟩ : Rect)])) true), oE b20 1 1 32 4 (rvals [(⟨(shwR it.t.W it.t.H it.t.X it.t.Y it.t.s it.t.ca it.t.cb it.t.cc it.t.cd).x0, (shwR it.t.W it.t.H it.t.X it.t.Y it.t.s it.t.ca it.t.cb it.t.cc it.t.cd).y0, (shwR it.t.W it.t.H it.t.X it.t.Y it.t.s it.t.ca it.t.cb it.t.cc it.t.cd).x1, (shwR it.t.W it.t.H it.t.X it.t.Y it.t.s it.t.ca it.t.cb it.t.cc it.t.cd).y1⟩ : Rect)]), rD (it.t.A) it.t.g 0 it.t.k 4 (rvals it.t.op), .ro it.b [iQ it.t.W, iQ it.t.H, sL it.q it.t.n it.t.n] 116, rD (some ⟨it.q, 0, none⟩) it.q 0 it.t.n 1 (cV it.t.px), .cells b18 [iQ 0, iQ 0, pT it.b, iQ it.t.X, iQ it.t.Y, iQ it.t.s, iQ it.t.al, iQ it.t.ca, iQ it.t.cb, iQ it.t.cc, iQ it.t.cd, .slice it.t.A it.t.k it.t.cp, .string ⟨#[]⟩, iQ 0] 94 true, z16_, e16b_, e16q_, .ro kb14 [.slice A n cap] 26, rD (A) g o n 14 (dvals IT.cells its), .gen (bunO k (RS.rws rs)), .cells b13 [.slice A41 k43 cp44] 23 true, .gen (rowE (Al) gl kl cl 32 4 (rvals (leftL (⟨0, 0, W, H⟩ : Rect) (ts.drop (n - k)))) true), oE b5 1 1 32 4 (rvals [(⟨0, 0, W, H⟩ : Rect)]), .cells b4 [sL r3 n n] 44 true, oE r3 n n 23 1 (dvals RS.cells ((seenR n rs).set x (⟨A28, g29, k30, cp31, regM andB (leftL (⟨0, 0, W, H⟩ : Rect) (ts.drop (n - k))) (canR [(⟨(shwR it.t.W it.t.H it.t.X it.t.Y it.t.s it.t.ca it.t.cb it.t.cc it.t.cd).x0, (shwR it.t.W it.t.H it.t.X it.t.Y it.t.s it.t.ca it.t.cb it.t.cc it.t.cd).y0, (shwR it.t.W it.t.H it.t.X it.t.Y it.t.s it.t.ca it.t.cb it.t.cc it.t.cd).x1, (shwR it.t.W it.t.H it.t.X it.t.Y it.t.s it.t.ca it.t.cb it.t.cc it.t.cd).y1⟩ : Rect)])⟩ : RS))), .gen (subE n (IT.hds 116 its)), .gen (subE n (IT.pxs its)), .gen (subE n (TS.ops ts))] <| dX 2 [13] <| dD <| blk_normal <| cont_rowEqD (cel := RS.cells) (z := 1) 19 ((seenR n rs).set x (⟨A28, g29, k30, cp31, regM andB (leftL (⟨0, 0, W, H⟩ : Rect) (ts.drop (n - k))) (canR [(⟨(shwR it.t.W it.t.H it.t.X it.t.Y it.t.s it.t.ca it.t.cb it.t.cc it.t.cd).x0, (shwR it.t.W it.t.H it.t.X it.t.Y it.t.s it.t.ca it.t.cb it.t.cc it.t.cd).y0, (shwR it.t.W it.t.H it.t.X it.t.Y it.t.s it.t.ca it.t.cb it.t.cc it.t.cd).x1, (shwR it.t.W it.t.H it.t.X it.t.Y it.t.s it.t.ca it.t.cb it.t.cc it.t.cd).y1⟩ : Rect)])⟩ : RS)) (seenR n (rs ++ [rr34])) rfl (by rw [hrr34]; exact seenR_set (by omega)) ?_
      refine cM ?_
      have hpa := RS.rws_app (t := rr34) hk
      refine cont_bun 2 14 k (RS.rws rs) (RS.rws (rs ++ [rr34])) rr34.rwG rfl rfl (by rw [hrr34]; exact Vw.rowRd) rfl (by decide) hpa.1 hpa.2 ?_
      refine nL [] ?_
      refine fG 15 <| cont_rowEqR 0 (regM lessB (leftL (⟨0, 0, W, H⟩ : Rect) (ts.drop (n - k))) (hidP it.t.W it.t.H it.t.X it.t.Y it.t.s it.t.al it.t.op ⟨it.t.ca, it.t.cb, it.t.cc, it.t.cd⟩)) (leftL (⟨0, 0, W, H⟩ : Rect) (ts.drop (n - (k + 1)))) rfl (by rw [show n - k = x + 1 by omega, show n - (k + 1) = x by omega, leftL_step (ts := ts) (i := x) (by omega), hto]; rfl) ?_
      refine fG 7 <| fG 6 <| fG 5 <| fG 4 <| fG 3 <| fG 2 <| fG 1 <| cont_pick [1, 2, 3, 4, 5, 6, 7, 0, 8, 9, 10, 11, 12, 13] [z16_, e16b_, e16q_, .ro kb14 [.slice A n cap] 26, rD (A) g o n 14 (dvals IT.cells its), .gen (bunO (k + 1) (RS.rws (rs ++ [rr34]))), .cells b13 [.slice A41 k43 cp44] 23 true, .gen (rowE (A41) g42 k43 cp44 32 4 (rvals (leftL (⟨0, 0, W, H⟩ : Rect) (ts.drop (n - (k + 1))))) true), oE b5 1 1 32 4 (rvals [(⟨0, 0, W, H⟩ : Rect)]), .cells b4 [sL r3 n n] 44 true, oE r3 n n 23 1 (dvals RS.cells (seenR n (rs ++ [rr34]))), .gen (subE n (IT.hds 116 its)), .gen (subE n (IT.pxs its)), .gen (subE n (TS.ops ts))] (by decide) rfl rfl ?_
      refine rq_next (k + 1, rs ++ [rr34], A41, g42, k43, cp44) (show (rs ++ [rr34]).length = (k + 1) ∧ (k + 1) = (pre ++ [(x, it)]).length ∧ SeenOk (⟨0, 0, W, H⟩ : Rect) ts n (rs ++ [rr34]) from ⟨by rw [List.length_append, List.length_singleton, hk], by rw [List.length_append, List.length_singleton]; omega, hrs.step (x := x) (by omega) (by rw [hrr34, show n - k = x + 1 by omega]; show _ = regM andB _ (canR [(dget ts x).bx]); rw [hto]; rfl)⟩) rfl
    refine cG (d := 35) (α := Option Addr × Nat × Nat × Nat) (fun x_ => .slice x_.1 x_.2.2.1 x_.2.2.2) (fun x_ => [.gen (rowE (x_.1) x_.2.1 x_.2.2.1 x_.2.2.2 32 4 (rvals (hidP it.t.W it.t.H it.t.X it.t.Y it.t.s it.t.al it.t.op ⟨it.t.ca, it.t.cb, it.t.cc, it.t.cd⟩)) true), .gen (rowE (A28) g29 k30 cp31 32 4 (rvals (regM andB (leftL (⟨0, 0, W, H⟩ : Rect) (ts.drop (n - k))) (canR [(⟨(shwR it.t.W it.t.H it.t.X it.t.Y it.t.s it.t.ca it.t.cb it.t.cc it.t.cd).x0, (shwR it.t.W it.t.H it.t.X it.t.Y it.t.s it.t.ca it.t.cb it.t.cc it.t.cd).y0, (shwR it.t.W it.t.H it.t.X it.t.Y it.t.s it.t.ca it.t.cb it.t.cc it.t.cd).x1, (shwR it.t.W it.t.H it.t.X it.t.Y it.t.s it.t.ca it.t.cb it.t.cc it.t.cd).y1⟩ : Rect)]))) true), .gen (rowE (A21) g22 k23 cp24 32 4 (rvals (canR [(⟨(shwR it.t.W it.t.H it.t.X it.t.Y it.t.s it.t.ca it.t.cb it.t.cc it.t.cd).x0, (shwR it.t.W it.t.H it.t.X it.t.Y it.t.s it.t.ca it.t.cb it.t.cc it.t.cd).y0, (shwR it.t.W it.t.H it.t.X it.t.Y it.t.s it.t.ca it.t.cb it.t.cc it.t.cd).x1, (shwR it.t.W it.t.H it.t.X it.t.Y it.t.s it.t.ca it.t.cb it.t.cc it.t.cd).y1⟩ : Rect)])) true), oE b20 1 1 32 4 (rvals [(⟨(shwR it.t.W it.t.H it.t.X it.t.Y it.t.s it.t.ca it.t.cb it.t.cc it.t.cd).x0, (shwR it.t.W it.t.H it.t.X it.t.Y it.t.s it.t.ca it.t.cb it.t.cc it.t.cd).y0, (shwR it.t.W it.t.H it.t.X it.t.Y it.t.s it.t.ca it.t.cb it.t.cc it.t.cd).x1, (shwR it.t.W it.t.H it.t.X it.t.Y it.t.s it.t.ca it.t.cb it.t.cc it.t.cd).y1⟩ : Rect)]), rD (it.t.A) it.t.g 0 it.t.k 4 (rvals it.t.op), .ro it.b [iQ it.t.W, iQ it.t.H, sL it.q it.t.n it.t.n] 116, rD (some ⟨it.q, 0, none⟩) it.q 0 it.t.n 1 (cV it.t.px), .cells b18 [iQ 0, iQ 0, pT it.b, iQ it.t.X, iQ it.t.Y, iQ it.t.s, iQ it.t.al, iQ it.t.ca, iQ it.t.cb, iQ it.t.cc, iQ it.t.cd, .slice it.t.A it.t.k it.t.cp, .string ⟨#[]⟩, iQ 0] 94 true, z16_, e16b_, e16q_, .ro kb14 [.slice A n cap] 26, rD (A) g o n 14 (dvals IT.cells its), .gen (bunO k (RS.rws rs)), .cells b13 [.slice Al kl cl] 23 true, .gen (rowE (Al) gl kl cl 32 4 (rvals (leftL (⟨0, 0, W, H⟩ : Rect) (ts.drop (n - k)))) true), oE b5 1 1 32 4 (rvals [(⟨0, 0, W, H⟩ : Rect)]), .cells b4 [sL r3 n n] 44 true, oE r3 n n 23 1 (dvals RS.cells ((seenR n rs).set x (⟨A28, g29, k30, cp31, regM andB (leftL (⟨0, 0, W, H⟩ : Rect) (ts.drop (n - k))) (canR [(⟨(shwR it.t.W it.t.H it.t.X it.t.Y it.t.s it.t.ca it.t.cb it.t.cc it.t.cd).x0, (shwR it.t.W it.t.H it.t.X it.t.Y it.t.s it.t.ca it.t.cb it.t.cc it.t.cd).y0, (shwR it.t.W it.t.H it.t.X it.t.Y it.t.s it.t.ca it.t.cb it.t.cc it.t.cd).x1, (shwR it.t.W it.t.H it.t.X it.t.Y it.t.s it.t.ca it.t.cb it.t.cc it.t.cd).y1⟩ : Rect)])⟩ : RS))), .gen (subE n (IT.hds 116 its)), .gen (subE n (IT.pxs its)), .gen (subE n (TS.ops ts))]) (fun x_ => True) (fun w hT => (surfHides it.b it.t.W it.t.H it.q it.t.n it.t.n it.t.px it.t.X it.t.Y it.t.s it.t.al it.t.ca it.t.cb it.t.cc it.t.cd it.t.A it.t.g 0 it.t.k it.t.cp it.t.op w (hT.viewRo (.cons (i := 4) rfl Vw.ro (.cons (i := 5) rfl Vw.rd (.cons (i := 3) rfl Vw.rd .nil))) rfl) (by omega) hitk.img (by omega) (by omega) (by omega) (op_len hitk)).mono fun e w' ⟨A47, g48, k49, cp50, he_, ht_⟩ => ⟨(A47, g48, k49, cp50), he_, trivial, hT.news ht_ rfl⟩) ?_
    rintro ⟨A47, g48, k49, cp50⟩ hf51_
    refine cM ?_
    refine fR 0 k49 A47 g48 cp50 (hidP it.t.W it.t.H it.t.X it.t.Y it.t.s it.t.al it.t.op ⟨it.t.ca, it.t.cb, it.t.cc, it.t.cd⟩) rfl fun hr52_a hr52_l hr52_c hr52_m => ?_
    refine dX 1 [13] <| dO 0 2 <| oS 14 [(7, pT b13), (32, .slice Al kl cl), (35, .slice A47 k49 cp50)] [.gen (rowE (A47) g48 k49 cp50 32 4 (rvals (hidP it.t.W it.t.H it.t.X it.t.Y it.t.s it.t.al it.t.op ⟨it.t.ca, it.t.cb, it.t.cc, it.t.cd⟩)) true), .gen (rowE (A28) g29 k30 cp31 32 4 (rvals (regM andB (leftL (⟨0, 0, W, H⟩ : Rect) (ts.drop (n - k))) (canR [(⟨(shwR it.t.W it.t.H it.t.X it.t.Y it.t.s it.t.ca it.t.cb it.t.cc it.t.cd).x0, (shwR it.t.W it.t.H it.t.X it.t.Y it.t.s it.t.ca it.t.cb it.t.cc it.t.cd).y0, (shwR it.t.W it.t.H it.t.X it.t.Y it.t.s it.t.ca it.t.cb it.t.cc it.t.cd).x1, (shwR it.t.W it.t.H it.t.X it.t.Y it.t.s it.t.ca it.t.cb it.t.cc it.t.cd).y1⟩ : Rect)]))) true), .gen (rowE (A21) g22 k23 cp24 32 4 (rvals (canR [(⟨(shwR it.t.W it.t.H it.t.X it.t.Y it.t.s it.t.ca it.t.cb it.t.cc it.t.cd).x0, (shwR it.t.W it.t.H it.t.X it.t.Y it.t.s it.t.ca it.t.cb it.t.cc it.t.cd).y0, (shwR it.t.W it.t.H it.t.X it.t.Y it.t.s it.t.ca it.t.cb it.t.cc it.t.cd).x1, (shwR it.t.W it.t.H it.t.X it.t.Y it.t.s it.t.ca it.t.cb it.t.cc it.t.cd).y1⟩ : Rect)])) true), oE b20 1 1 32 4 (rvals [(⟨(shwR it.t.W it.t.H it.t.X it.t.Y it.t.s it.t.ca it.t.cb it.t.cc it.t.cd).x0, (shwR it.t.W it.t.H it.t.X it.t.Y it.t.s it.t.ca it.t.cb it.t.cc it.t.cd).y0, (shwR it.t.W it.t.H it.t.X it.t.Y it.t.s it.t.ca it.t.cb it.t.cc it.t.cd).x1, (shwR it.t.W it.t.H it.t.X it.t.Y it.t.s it.t.ca it.t.cb it.t.cc it.t.cd).y1⟩ : Rect)]), rD (it.t.A) it.t.g 0 it.t.k 4 (rvals it.t.op), .ro it.b [iQ it.t.W, iQ it.t.H, sL it.q it.t.n it.t.n] 116, rD (some ⟨it.q, 0, none⟩) it.q 0 it.t.n 1 (cV it.t.px), .cells b18 [iQ 0, iQ 0, pT it.b, iQ it.t.X, iQ it.t.Y, iQ it.t.s, iQ it.t.al, iQ it.t.ca, iQ it.t.cb, iQ it.t.cc, iQ it.t.cd, .slice it.t.A it.t.k it.t.cp, .string ⟨#[]⟩, iQ 0] 94 true, z16_, e16b_, e16q_, .ro kb14 [.slice A n cap] 26, rD (A) g o n 14 (dvals IT.cells its), .gen (bunO k (RS.rws rs)), .cells b13 [.slice Al kl cl] 23 true, .gen (rowE (Al) gl kl cl 32 4 (rvals (leftL (⟨0, 0, W, H⟩ : Rect) (ts.drop (n - k)))) true), oE b5 1 1 32 4 (rvals [(⟨0, 0, W, H⟩ : Rect)]), .cells b4 [sL r3 n n] 44 true, oE r3 n n 23 1 (dvals RS.cells ((seenR n rs).set x (⟨A28, g29, k30, cp31, regM andB (leftL (⟨0, 0, W, H⟩ : Rect) (ts.drop (n - k))) (canR [(⟨(shwR it.t.W it.t.H it.t.X it.t.Y it.t.s it.t.ca it.t.cb it.t.cc it.t.cd).x0, (shwR it.t.W it.t.H it.t.X it.t.Y it.t.s it.t.ca it.t.cb it.t.cc it.t.cd).y0, (shwR it.t.W it.t.H it.t.X it.t.Y it.t.s it.t.ca it.t.cb it.t.cc it.t.cd).x1, (shwR it.t.W it.t.H it.t.X it.t.Y it.t.s it.t.ca it.t.cb it.t.cc it.t.cd).y1⟩ : Rect)])⟩ : RS))), .gen (subE n (IT.hds 116 its)), .gen (subE n (IT.pxs its)), .gen (subE n (TS.ops ts))] <| dX 1 [13] <| dO 4 1 <| cG (d := 36) (α := Option Addr × Nat × Nat × Nat) (fun x_ => .slice x_.1 x_.2.2.1 x_.2.2.2) (fun x_ => [.gen (rowE (x_.1) x_.2.1 x_.2.2.1 x_.2.2.2 32 4 (rvals (regM lessB (leftL (⟨0, 0, W, H⟩ : Rect) (ts.drop (n - k))) (hidP it.t.W it.t.H it.t.X it.t.Y it.t.s it.t.al it.t.op ⟨it.t.ca, it.t.cb, it.t.cc, it.t.cd⟩))) true), .gen (rowE (A47) g48 k49 cp50 32 4 (rvals (hidP it.t.W it.t.H it.t.X it.t.Y it.t.s it.t.al it.t.op ⟨it.t.ca, it.t.cb, it.t.cc, it.t.cd⟩)) true), .gen (rowE (A28) g29 k30 cp31 32 4 (rvals (regM andB (leftL (⟨0, 0, W, H⟩ : Rect) (ts.drop (n - k))) (canR [(⟨(shwR it.t.W it.t.H it.t.X it.t.Y it.t.s it.t.ca it.t.cb it.t.cc it.t.cd).x0, (shwR it.t.W it.t.H it.t.X it.t.Y it.t.s it.t.ca it.t.cb it.t.cc it.t.cd).y0, (shwR it.t.W it.t.H it.t.X it.t.Y it.t.s it.t.ca it.t.cb it.t.cc it.t.cd).x1, (shwR it.t.W it.t.H it.t.X it.t.Y it.t.s it.t.ca it.t.cb it.t.cc it.t.cd).y1⟩ : Rect)]))) true), .gen (rowE (A21) g22 k23 cp24 32 4 (rvals (canR [(⟨(shwR it.t.W it.t.H it.t.X it.t.Y it.t.s it.t.ca it.t.cb it.t.cc it.t.cd).x0, (shwR it.t.W it.t.H it.t.X it.t.Y it.t.s it.t.ca it.t.cb it.t.cc it.t.cd).y0, (shwR it.t.W it.t.H it.t.X it.t.Y it.t.s it.t.ca it.t.cb it.t.cc it.t.cd).x1, (shwR it.t.W it.t.H it.t.X it.t.Y it.t.s it.t.ca it.t.cb it.t.cc it.t.cd).y1⟩ : Rect)])) true), oE b20 1 1 32 4 (rvals [(⟨(shwR it.t.W it.t.H it.t.X it.t.Y it.t.s it.t.ca it.t.cb it.t.cc it.t.cd).x0, (shwR it.t.W it.t.H it.t.X it.t.Y it.t.s it.t.ca it.t.cb it.t.cc it.t.cd).y0, (shwR it.t.W it.t.H it.t.X it.t.Y it.t.s it.t.ca it.t.cb it.t.cc it.t.cd).x1, (shwR it.t.W it.t.H it.t.X it.t.Y it.t.s it.t.ca it.t.cb it.t.cc it.t.cd).y1⟩ : Rect)]), rD (it.t.A) it.t.g 0 it.t.k 4 (rvals it.t.op), .ro it.b [iQ it.t.W, iQ it.t.H, sL it.q it.t.n it.t.n] 116, rD (some ⟨it.q, 0, none⟩) it.q 0 it.t.n 1 (cV it.t.px), .cells b18 [iQ 0, iQ 0, pT it.b, iQ it.t.X, iQ it.t.Y, iQ it.t.s, iQ it.t.al, iQ it.t.ca, iQ it.t.cb, iQ it.t.cc, iQ it.t.cd, .slice it.t.A it.t.k it.t.cp, .string ⟨#[]⟩, iQ 0] 94 true, z16_, e16b_, e16q_, .ro kb14 [.slice A n cap] 26, rD (A) g o n 14 (dvals IT.cells its), .gen (bunO k (RS.rws rs)), .cells b13 [.slice Al kl cl] 23 true, .gen (rowE (Al) gl kl cl 32 4 (rvals (leftL (⟨0, 0, W, H⟩ : Rect) (ts.drop (n - k)))) true), oE b5 1 1 32 4 (rvals [(⟨0, 0, W, H⟩ : Rect)]), .cells b4 [sL r3 n n] 44 true, oE r3 n n 23 1 (dvals RS.cells ((seenR n rs).set x (⟨A28, g29, k30, cp31, regM andB (leftL (⟨0, 0, W, H⟩ : Rect) (ts.drop (n - k))) (canR [(⟨(shwR it.t.W it.t.H it.t.X it.t.Y it.t.s it.t.ca it.t.cb it.t.cc it.t.cd).x0, (shwR it.t.W it.t.H it.t.X it.t.Y it.t.s it.t.ca it.t.cb it.t.cc it.t.cd).y0, (shwR it.t.W it.t.H it.t.X it.t.Y it.t.s it.t.ca it.t.cb it.t.cc it.t.cd).x1, (shwR it.t.W it.t.H it.t.X it.t.Y it.t.s it.t.ca it.t.cb it.t.cc it.t.cd).y1⟩ : Rect)])⟩ : RS))), .gen (subE n (IT.hds 116 its)), .gen (subE n (IT.pxs its)), .gen (subE n (TS.ops ts))]) (fun x_ => True) (fun w hT => (regLess Al gl 0 kl cl (leftL (⟨0, 0, W, H⟩ : Rect) (ts.drop (n - k))) A47 g48 0 k49 cp50 (hidP it.t.W it.t.H it.t.X it.t.Y it.t.s it.t.al it.t.op ⟨it.t.ca, it.t.cb, it.t.cc, it.t.cd⟩) w (hT.viewRo (.cons (i := 15) rfl Vw.rowRd (.cons (i := 0) rfl Vw.rowRd .nil)) rfl) (by omega)).mono fun e w' ⟨A53, g54, k55, cp56, he_, ht_⟩ => ⟨(A53, g54, k55, cp56), he_, trivial, hT.news ht_ rfl⟩) ?_
    rintro ⟨A53, g54, k55, cp56⟩ hf57_
    refine cM ?_
    refine fR 0 k55 A53 g54 cp56 (regM lessB (leftL (⟨0, 0, W, H⟩ : Rect) (ts.drop (n - k))) (hidP it.t.W it.t.H it.t.X it.t.Y it.t.s it.t.al it.t.op ⟨it.t.ca, it.t.cb, it.t.cc, it.t.cd⟩)) rfl fun hr58_a hr58_l hr58_c hr58_m => ?_
    refine dX 2 [13] <| dO 5 0 <| oS 15 [] [.gen (rowE (A53) g54 k55 cp56 32 4 (rvals (regM lessB (leftL (⟨0, 0, W, H⟩ : Rect) (ts.drop (n - k))) (hidP it.t.W it.t.H it.t.X it.t.Y it.t.s it.t.al it.t.op ⟨it.t.ca, it.t.cb, it.t.cc, it.t.cd⟩))) true), .gen (rowE (A47) g48 k49 cp50 32 4 (rvals (hidP it.t.W it.t.H it.t.X it.t.Y it.t.s it.t.al it.t.op ⟨it.t.ca, it.t.cb, it.t.cc, it.t.cd⟩)) true), .gen (rowE (A28) g29 k30 cp31 32 4 (rvals (regM andB (leftL (⟨0, 0, W, H⟩ : Rect) (ts.drop (n - k))) (canR [(⟨(shwR it.t.W it.t.H it.t.X it.t.Y it.t.s it.t.ca it.t.cb it.t.cc it.t.cd).x0, (shwR it.t.W it.t.H it.t.X it.t.Y it.t.s it.t.ca it.t.cb it.t.cc it.t.cd).y0, (shwR it.t.W it.t.H it.t.X it.t.Y it.t.s it.t.ca it.t.cb it.t.cc it.t.cd).x1, (shwR it.t.W it.t.H it.t.X it.t.Y it.t.s it.t.ca it.t.cb it.t.cc it.t.cd).y1⟩ : Rect)]))) true), .gen (rowE (A21) g22 k23 cp24 32 4 (rvals (canR [(⟨(shwR it.t.W it.t.H it.t.X it.t.Y it.t.s it.t.ca it.t.cb it.t.cc it.t.cd).x0, (shwR it.t.W it.t.H it.t.X it.t.Y it.t.s it.t.ca it.t.cb it.t.cc it.t.cd).y0, (shwR it.t.W it.t.H it.t.X it.t.Y it.t.s it.t.ca it.t.cb it.t.cc it.t.cd).x1, (shwR it.t.W it.t.H it.t.X it.t.Y it.t.s it.t.ca it.t.cb it.t.cc it.t.cd).y1⟩ : Rect)])) true), oE b20 1 1 32 4 (rvals [(⟨(shwR it.t.W it.t.H it.t.X it.t.Y it.t.s it.t.ca it.t.cb it.t.cc it.t.cd).x0, (shwR it.t.W it.t.H it.t.X it.t.Y it.t.s it.t.ca it.t.cb it.t.cc it.t.cd).y0, (shwR it.t.W it.t.H it.t.X it.t.Y it.t.s it.t.ca it.t.cb it.t.cc it.t.cd).x1, (shwR it.t.W it.t.H it.t.X it.t.Y it.t.s it.t.ca it.t.cb it.t.cc it.t.cd).y1⟩ : Rect)]), rD (it.t.A) it.t.g 0 it.t.k 4 (rvals it.t.op), .ro it.b [iQ it.t.W, iQ it.t.H, sL it.q it.t.n it.t.n] 116, rD (some ⟨it.q, 0, none⟩) it.q 0 it.t.n 1 (cV it.t.px), .cells b18 [iQ 0, iQ 0, pT it.b, iQ it.t.X, iQ it.t.Y, iQ it.t.s, iQ it.t.al, iQ it.t.ca, iQ it.t.cb, iQ it.t.cc, iQ it.t.cd, .slice it.t.A it.t.k it.t.cp, .string ⟨#[]⟩, iQ 0] 94 true, z16_, e16b_, e16q_, .ro kb14 [.slice A n cap] 26, rD (A) g o n 14 (dvals IT.cells its), .gen (bunO k (RS.rws rs)), .cells b13 [.slice A53 k55 cp56] 23 true, .gen (rowE (Al) gl kl cl 32 4 (rvals (leftL (⟨0, 0, W, H⟩ : Rect) (ts.drop (n - k)))) true), oE b5 1 1 32 4 (rvals [(⟨0, 0, W, H⟩ : Rect)]), .cells b4 [sL r3 n n] 44 true, oE r3 n n 23 1 (dvals RS.cells ((seenR n rs).set x (⟨A28, g29, k30, cp31, regM andB (leftL (⟨0, 0, W, H⟩ : Rect) (ts.drop (n - k))) (canR [(⟨(shwR it.t.W it.t.H it.t.X it.t.Y it.t.s it.t.ca it.t.cb it.t.cc it.t.cd).x0, (shwR it.t.W it.t.H it.t.X it.t.Y it.t.s it.t.ca it.t.cb it.t.cc it.t.cd).y0, (shwR it.t.W it.t.H it.t.X it.t.Y it.t.s it.t.ca it.t.cb it.t.cc it.t.cd).x1, (shwR it.t.W it.t.H it.t.X it.t.Y it.t.s it.t.ca it.t.cb it.t.cc it.t.cd).y1⟩ : Rect)])⟩ : RS))), .gen (subE n (IT.hds 116 its)), .gen (subE n (IT.pxs its)), .gen (subE n (TS.ops ts))] <| dX 2 [13] <| dD <| blk_normal <| cont_rowEqD (cel := RS.cells) (z := 1) 19 ((seenR n rs).set x (⟨A28, g29, k30, cp31, regM andB (leftL (⟨0, 0, W, H⟩ : Rect) (ts.drop (n - k))) (canR [(⟨(shwR it.t.W it.t.H it.t.X it.t.Y it.t.s it.t.ca it.t.cb it.t.cc it.t.cd).x0, (shwR it.t.W it.t.H it.t.X it.t.Y it.t.s it.t.ca it.t.cb it.t.cc it.t.cd).y0, (shwR it.t.W it.t.H it.t.X it.t.Y it.t.s it.t.ca it.t.cb it.t.cc it.t.cd).x1, (shwR it.t.W it.t.H it.t.X it.t.Y it.t.s it.t.ca it.t.cb it.t.cc it.t.cd).y1⟩ : Rect)])⟩ : RS)) (seenR n (rs ++ [rr34])) rfl (by rw [hrr34]; exact seenR_set (by omega)) ?_
    refine cM ?_
    have hpa := RS.rws_app (t := rr34) hk
    refine cont_bun 2 14 k (RS.rws rs) (RS.rws (rs ++ [rr34])) rr34.rwG rfl rfl (by rw [hrr34]; exact Vw.rowRd) rfl (by decide) hpa.1 hpa.2 ?_
    refine nL [] ?_
    refine fG 15 <| cont_rowEqR 0 (regM lessB (leftL (⟨0, 0, W, H⟩ : Rect) (ts.drop (n - k))) (hidP it.t.W it.t.H it.t.X it.t.Y it.t.s it.t.al it.t.op ⟨it.t.ca, it.t.cb, it.t.cc, it.t.cd⟩)) (leftL (⟨0, 0, W, H⟩ : Rect) (ts.drop (n - (k + 1)))) rfl (by rw [show n - k = x + 1 by omega, show n - (k + 1) = x by omega, leftL_step (ts := ts) (i := x) (by omega), hto]; rfl) ?_
    refine fG 7 <| fG 6 <| fG 5 <| fG 4 <| fG 3 <| fG 2 <| fG 1 <| cont_pick [1, 2, 3, 4, 5, 6, 7, 0, 8, 9, 10, 11, 12, 13] [z16_, e16b_, e16q_, .ro kb14 [.slice A n cap] 26, rD (A) g o n 14 (dvals IT.cells its), .gen (bunO (k + 1) (RS.rws (rs ++ [rr34]))), .cells b13 [.slice A53 k55 cp56] 23 true, .gen (rowE (A53) g54 k55 cp56 32 4 (rvals (leftL (⟨0, 0, W, H⟩ : Rect) (ts.drop (n - (k + 1))))) true), oE b5 1 1 32 4 (rvals [(⟨0, 0, W, H⟩ : Rect)]), .cells b4 [sL r3 n n] 44 true, oE r3 n n 23 1 (dvals RS.cells (seenR n (rs ++ [rr34]))), .gen (subE n (IT.hds 116 its)), .gen (subE n (IT.pxs its)), .gen (subE n (TS.ops ts))] (by decide) rfl rfl ?_
    refine rq_next (k + 1, rs ++ [rr34], A53, g54, k55, cp56) (show (rs ++ [rr34]).length = (k + 1) ∧ (k + 1) = (pre ++ [(x, it)]).length ∧ SeenOk (⟨0, 0, W, H⟩ : Rect) ts n (rs ++ [rr34]) from ⟨by rw [List.length_append, List.length_singleton, hk], by rw [List.length_append, List.length_singleton]; omega, hrs.step (x := x) (by omega) (by rw [hrr34, show n - k = x + 1 by omega]; show _ = regM andB _ (canR [(dget ts x).bx]); rw [hto]; rfl)⟩) rfl
  ·
    rintro D60_ xs_ ⟨k, rs, Al, gl, kl, cl⟩ hS_ hinv59_
    replace hinv59_ : rs.length = k ∧ k = xs_.length ∧ SeenOk (⟨0, 0, W, H⟩ : Rect) ts n rs := hinv59_
    replace hS_ : BackI its n xs_ ∧ xs_.length = n := hS_
    refine cM ?_
    obtain ⟨hk, hkp, hrs⟩ := hinv59_
    have hkn : k = n := by rw [hkp]; exact hS_.2
    refine cont_rowEqD (cel := RS.cells) (z := 1) 8 (seenR n rs) (rs.reverse) rfl (seenR_all (by omega)) ?_
    refine cont_rowEqR 5 (leftL (⟨0, 0, W, H⟩ : Rect) (ts.drop (n - k))) (leftL (⟨0, 0, W, H⟩ : Rect) ts) rfl (by rw [show n - k = 0 by omega]; rfl) ?_
    refine blk_normal <| zN <| cSq <| drawn_enter 4 [] rfl (by kernel_rfl) ?_
    refine tD 0 [] [(0, 7), (1, 4), (2, 0), (3, 0)] 0 [3, 2, 1, 0] [(4, sL r3 n n), (5, .slice Al kl cl)] [37, 38] ?_ (hpo := (pok_then pok_np))
    refine dD <| zNr <| mark_end 0 rfl (.inl rfl) ?_
    refine cM ?_
    refine rB rfl 0 0 (sL r3 n n) (.slice Al kl cl) fun w hT => ?_
    replace hT := hT.erase 11 (fun e h hw => by cases h; first | rfl | cases hw)
    replace hT := hT.erase 10 (fun e h hw => by cases h; first | rfl | cases hw)
    replace hT := hT.erase 9 (fun e h hw => by cases h; first | rfl | cases hw)
    replace hT := hT.erase 7 (fun e h hw => by cases h; first | rfl | cases hw)
    replace hT := hT.erase 6 (fun e h hw => by cases h; first | rfl | cases hw)
    replace hT := hT.erase 4 (fun e h hw => by cases h; first | rfl | cases hw)
    replace hT := hT.erase 2 (fun e h hw => by cases h; first | rfl | cases hw)
    replace hT := hT.erase 1 (fun e h hw => by cases h; first | rfl | cases hw)
    replace hT := hT.erase 0 (fun e h hw => by cases h; first | rfl | cases hw)
    subst hkn
    exact ⟨rs, _, _, _, _, _, rfl, ⟨hk, hrs⟩, hT⟩
  ·
    intro D_  c_ h_; exact h_.elim
  ·
    intro D_ id_ c_ h_; exact h_.elim
end Go.Proofs.YtlfahohbkgdabaaGreat
namespace Go.Proofs.YtlfahohbkgdabaaGreat
open Go Go.RowKit
set_option maxRecDepth 100000
set_option maxHeartbeats 8000000
end Go.Proofs.YtlfahohbkgdabaaGreat
namespace Go.Proofs.YtlfahohbkgdabaaGreat
open Go Go.RowKit
set_option maxRecDepth 100000
set_option maxHeartbeats 8000000
theorem refBox17 (a b : Int) (w : World) (ha : -9223372036854775808 ≤ a ∧ a ≤ 9223372036854775807) (hb : -9223372036854775808 ≤ b ∧ b ≤ 9223372036854775807) :
    Calls Tryz.prog 10 #[iQ a, iQ b] w fun e w' => e = .returned (.agg #[iQ 0, iQ 0, iQ (1 + aroundI a 16), iQ (1 + aroundI b 16)]) ∧ Below w.heap.size w w' := by
 refine eN [(0, iq a), (1, iq b)] Tryz.func10 Tryz.ntmps10 rfl (Tab.start w) ?_
 refine zSR 1 <| bW [0] 1 0 (fun b1 => [(0, iq a), (1, iq b), (4, .pointer (pB b1))]) (fun b1 => [.cells b1 [iq 0, iq 0, iq 0, iq 0] 32 true]) [0, 1, 4] fun b1 => ?_
 refine zDNSR 8 <| bD [0] 1 7 [(5, iq a)] [] <| pS 2 6 <| cP 6 (iq (aroundI a 16)) (fun w hT => refAround a 16 w (by omega) (by omega)) ?_
 have hq2_ := aroundI_range a (m := 16) (by omega)
 refine bD [0] 3 5 [(7, iq (IntKind.i64.wrap (1 + (aroundI a 16))))] [] <| wI 7 (1 + (aroundI a 16)) <| bD [0] 4 4 [(8, iq b)] [] <| pS 5 3 <| cP 9 (iq (aroundI b 16)) (fun w hT => refAround b 16 w (by omega) (by omega)) ?_
 have hq3_ := aroundI_range b (m := 16) (by omega)
 refine bD [0] 6 2 [(10, iq (IntKind.i64.wrap (1 + (aroundI b 16))))] [] <| wI 10 (1 + (aroundI b 16)) <| bZ [0, 0] 8 0 [(4, .pointer (pB b1))] [.cells b1 [iq 0, iq 0, iq (1 + (aroundI a 16)), iq (1 + (aroundI b 16))] 32 true] <| zDNr <| rA rfl 0 (.agg #[iq 0, iq 0, iq (1 + (aroundI a 16)), iq (1 + (aroundI b 16))]) fun w hT => ?_
 exact ⟨rfl, hT.post rfl⟩
end Go.Proofs.YtlfahohbkgdabaaGreat
namespace Go.Proofs.YtlfahohbkgdabaaGreat
open Go Go.RowKit
theorem enterB {P : Program} {f : FuncId} {fn : Func} {c : Code} {args : Array Value} {w w0 : World} {R : Ending → World → Prop} (n : Nat) (L : List (Nat × Value)) (T : List Ent) (hf : P.funcs[f]? = some fn) (hb : fn.body = some c) (hn : fn.ntmps = n) (hsz : Nat.ble args.size n = true)
    (hL : (L.map fun p => args[p.1]?) = (L.map fun p => some p.2)) (hT : Tab w0 w T) (h : Cont [] (c.wp P (bodyPost P fn R)) n w0 L T) : Calls P f args w R := by
  subst hn
  refine calls_of_wp hf hb (h _ _ rfl ⟨?_, ?_⟩ hT)
  · have := Nat.le_of_ble_eq_true hsz
    simp; omega
  · exact enter_lk hL
def jobsL (b : Rect) (ts : List TS) (W : List Rect) (k : Nat) : List JS := (regM andB (leftL b ts) W).map (JS.of (-1)) ++ (List.range k).flatMap fun i => (regM andB (seenL b ts i) W).map (JS.of (i : Int))
theorem jobsL_zero (b : Rect) (ts : List TS) (W : List Rect) : jobsL b ts W 0 = (regM andB (leftL b ts) W).map (JS.of (-1)) := by simp [jobsL]
theorem flat_succ {α : Type} (f : Nat → List α) (k : Nat) : (List.range (k + 1)).flatMap f = (List.range k).flatMap f ++ f k := by
  rw [List.range_succ, List.flatMap_append]; simp
theorem jobsL_succ (b : Rect) (ts : List TS) (W : List Rect) (k : Nat) : jobsL b ts W (k + 1) = jobsL b ts W k ++ (regM andB (seenL b ts k) W).map (JS.of (k : Int)) := by
  unfold jobsL; rw [flat_succ, List.append_assoc]
def allL (b : Rect) (ts : List TS) (k : Nat) : List JS := (canR [b]).map (JS.of (-1)) ++ (List.range k).flatMap fun i => (canR [cutR (dget ts i).bx.x0 (dget ts i).bx.y0 (dget ts i).bx.x1 (dget ts i).bx.y1 b.x0 b.y0 b.x1 b.y1]).map (JS.of (i : Int))
theorem allL_zero (b : Rect) (ts : List TS) : allL b ts 0 = (canR [b]).map (JS.of (-1)) := by simp [allL]
theorem allL_succ (b : Rect) (ts : List TS) (k : Nat) : allL b ts (k + 1) = allL b ts k ++ (canR [cutR (dget ts k).bx.x0 (dget ts k).bx.y0 (dget ts k).bx.x1 (dget ts k).bx.y1 b.x0 b.y0 b.x1 b.y1]).map (JS.of (k : Int)) := by
  unfold allL; rw [flat_succ, List.append_assoc]
theorem cutW_len {W H : Int} (hW : 1 ≤ W ∧ W ≤ 256) (hH : 1 ≤ H ∧ H ≤ 256) {a : List Rect} (ha : OnImg W H a) (b : List Rect) : (regM andB a b).length ≤ 65536 := by
  have h1 : W * H ≤ 256 * 256 := mul_le_of (by omega) (by omega) (by omega) (by omega)
  have h0 : 0 ≤ W * H := Int.mul_nonneg (by omega) (by omega)
  have := reg_len_img (R := regM andB a b) (n := (W * H).toNat) (regM_isReg rfl a b) (onImg_andl _ ha) hW.1 (by omega)
  omega
theorem seenL_on {W H : Int} (ts : List TS) (i : Nat) : OnImg W H (seenL ⟨0, 0, W, H⟩ ts i) := onImg_andl _ (leftL_on _)
theorem jobsL_len {W H : Int} (hW : 1 ≤ W ∧ W ≤ 256) (hH : 1 ≤ H ∧ H ≤ 256) (ts : List TS) (R : List Rect) : ∀ k, (jobsL ⟨0, 0, W, H⟩ ts R k).length ≤ 65536 * (k + 1) := by
  intro k
  induction k with
  | zero => rw [jobsL_zero, List.length_map]; have := cutW_len hW hH (leftL_on ts) R; omega
  | succ k ih =>
    rw [jobsL_succ, List.length_append, List.length_map]
    have := cutW_len hW hH (seenL_on ts k) R
    omega
theorem can_if (r : Rect) : canR [r] = bif emptyR r then [] else [r] := by
  cases h : emptyR r with
  | false => exact can_one h
  | true =>
    refine reg_ext (canR_isReg [r]) nil_isReg (fun x y => ?_)
    rw [hasL_one]
    have h1 := emptyB_true.1 h
    cases hb : hasB r.x0 r.y0 r.x1 r.y1 x y with
    | false => rfl
    | true => have := hasB_true.1 hb; omega
theorem can_one_len (r : Rect) : (canR [r]).length ≤ 1 := by rw [can_if]; cases emptyR r <;> simp
theorem allL_len (b : Rect) (ts : List TS) : ∀ k, (allL b ts k).length ≤ k + 1 := by
  intro k
  induction k with
  | zero => rw [allL_zero, List.length_map]; exact can_one_len b
  | succ k ih => rw [allL_succ, List.length_append, List.length_map]; have := can_one_len (cutR (dget ts k).bx.x0 (dget ts k).bx.y0 (dget ts k).bx.x1 (dget ts k).bx.y1 b.x0 b.y0 b.x1 b.y1); omega
def JS.r (j : JS) : Rect := ⟨j.a, j.b, j.c, j.d⟩
def Apart (r s : Rect) : Prop := ∀ x y, (hasL [r] x y && hasL [s] x y) = false
theorem band_apart {y y' : Int} : ∀ {sp : Spans}, RunsOk sp → (bandR y y' sp).Pairwise Apart := by
  intro sp
  induction sp with
  | nil => intro _; exact List.Pairwise.nil
  | cons s t ih =>
    intro h
    rw [bandR_cons, List.pairwise_append]
    refine ⟨ih h.tail, List.pairwise_singleton _ _, fun r hr q hq x z => ?_⟩
    have e := List.mem_singleton.1 hq; subst e
    obtain ⟨_, _, u, hu, rfl⟩ := bandR_mem hr
    have hb := h.below u hu
    rw [hasL_one, hasL_one]
    cases e1 : hasB (spR y y' u).x0 (spR y y' u).y0 (spR y y' u).x1 (spR y y' u).y1 x z with
    | false => rfl
    | true =>
      cases e2 : hasB (spR y y' s).x0 (spR y y' s).y0 (spR y y' s).x1 (spR y y' s).y1 x z with
      | false => rfl
      | true =>
        have g1 := hasB_true.1 e1; have g2 := hasB_true.1 e2
        simp only [spR] at g1 g2
        omega
theorem flat_apart : ∀ {bs : Bands}, BandsOk bs → (flatR bs).Pairwise Apart := by
  intro bs
  induction bs with
  | nil => intro _; exact List.Pairwise.nil
  | cons b t ih =>
    intro h
    have ht : BandsOk t := ⟨h.runs.tail, fun c hc => h.each c (List.mem_cons_of_mem _ hc)⟩
    show (flatR t ++ bandR b.1 b.2.1 b.2.2).Pairwise Apart
    rw [List.pairwise_append]
    refine ⟨ih ht, band_apart (h.each b (by simp)).1, fun r hr q hq x z => ?_⟩
    obtain ⟨c, hc, s, hs, rfl⟩ := flatR_mem hr
    obtain ⟨q1, q2, u, hu, rfl⟩ := bandR_mem hq
    have hb := h.runs.below c hc
    rw [hasL_one, hasL_one]
    cases e1 : hasB s.1 c.1 s.2.1 c.2.1 x z with
    | false => rfl
    | true =>
      cases e2 : hasB (spR b.1 b.2.1 u).x0 (spR b.1 b.2.1 u).y0 (spR b.1 b.2.1 u).x1 (spR b.1 b.2.1 u).y1 x z with
      | false => simp
      | true =>
        have g1 := hasB_true.1 e1; have g2 := hasB_true.1 e2
        simp only [spR] at g2
        omega
theorem IsReg.apart {l : List Rect} {F : Int → Int → Bool} (h : IsReg l F) : l.Pairwise Apart := by
  obtain ⟨bs, h1, rfl, _⟩ := h
  exact flat_apart h1
theorem hasL_in {l : List Rect} {r : Rect} (h : r ∈ l) {x y : Int} (hr : hasL [r] x y = true) : hasL l x y = true := by
  rw [hasL_one] at hr
  exact hasL_true.2 ⟨r, h, hasB_true.1 hr⟩
structure JobIn (b : Rect) (W : List Rect) (k : Nat) (j : JS) : Prop where
  lo : -1 ≤ j.i
  hi : j.i < (k : Int)
  inW : ∀ x y, hasL [j.r] x y = true → hasL W x y = true
  inB : ∀ x y, hasL [j.r] x y = true → hasL [b] x y = true
theorem JobIn.up {b : Rect} {W : List Rect} {k m : Nat} {j : JS} (h : JobIn b W k j) (hm : k ≤ m) : JobIn b W m j := ⟨h.lo, by have := h.hi; omega, h.inW, h.inB⟩
theorem jobIn_of {b : Rect} {A W : List Rect} {k : Nat} {q : Int} (hq : -1 ≤ q ∧ q < (k : Int)) (hA : ∀ x y, hasL A x y = true → hasL [b] x y = true) : ∀ j ∈ (regM andB A W).map (JS.of q), JobIn b W k j := by
  intro j hj
  obtain ⟨r, hr, rfl⟩ := List.mem_map.1 hj
  have hp : ∀ x y, hasL [(JS.of q r).r] x y = true → hasL A x y = true ∧ hasL W x y = true := fun x y h => by
    have := hasL_in hr (x := x) (y := y) h
    rw [hasL_and] at this
    simpa using this
  exact ⟨hq.1, hq.2, fun x y h => (hp x y h).2, fun x y h => hA x y (hp x y h).1⟩
theorem left_in (b : Rect) (l : List TS) : ∀ x y, hasL (leftL b l) x y = true → hasL [b] x y = true := fun x y h => by
  rw [leftL_has] at h; rw [hasL_one]; exact (Bool.and_eq_true_iff.1 h).1
theorem seen_in (b : Rect) (l : List TS) (i : Nat) : ∀ x y, hasL (seenL b l i) x y = true → hasL [b] x y = true := fun x y h => by
  unfold seenL at h; rw [hasL_and] at h; exact left_in b _ x y (Bool.and_eq_true_iff.1 h).1
theorem jobsL_in (b : Rect) (ts : List TS) (W : List Rect) : ∀ k, ∀ j ∈ jobsL b ts W k, JobIn b W k j := by
  intro k
  induction k with
  | zero => rw [jobsL_zero]; exact jobIn_of ⟨by omega, by omega⟩ (left_in b ts)
  | succ k ih =>
    rw [jobsL_succ]
    intro j hj
    rcases List.mem_append.1 hj with h | h
    · exact (ih j h).up (by omega)
    · exact jobIn_of ⟨by omega, by omega⟩ (seen_in b ts k) j h
def hidA (ts : List TS) (k : Nat) (x y : Int) : Bool := (ts.drop k).any fun t => hasL t.hid x y
theorem hidA_end (ts : List TS) (x y : Int) : hidA ts ts.length x y = false := by simp [hidA]
theorem hidA_step {ts : List TS} {k : Nat} (h : k < ts.length) (x y : Int) : hidA ts k x y = (hasL (dget ts k).hid x y || hidA ts (k + 1) x y) := by
  unfold hidA
  rw [List.drop_eq_getElem_cons h, List.any_cons]
  have : dget ts k = ts[k] := by unfold dget; rw [List.getD_eq_getElem?_getD, List.getElem?_eq_getElem h]; rfl
  rw [this]
theorem left_hidA {W H : Int} (ts : List TS) {x y : Int} (hb : 0 ≤ x ∧ x < W ∧ 0 ≤ y ∧ y < H) (k : Nat) : hasL (leftL ⟨0, 0, W, H⟩ (ts.drop k)) x y = !hidA ts k x y := by
  rw [leftL_has, show hasB 0 0 W H x y = true from hasB_true.2 (by omega)]; rfl
theorem left_hid0 {W H : Int} (ts : List TS) {x y : Int} (hb : 0 ≤ x ∧ x < W ∧ 0 ≤ y ∧ y < H) : hasL (leftL ⟨0, 0, W, H⟩ ts) x y = !hidA ts 0 x y := left_hidA ts hb 0
theorem seen_hidA {W H : Int} {ts : List TS} {x y : Int} (hb : 0 ≤ x ∧ x < W ∧ 0 ≤ y ∧ y < H) (k : Nat) : hasL (seenL ⟨0, 0, W, H⟩ ts k) x y = (!hidA ts (k + 1) x y && hasL [(dget ts k).bx] x y) := by
  unfold seenL; rw [hasL_and, left_hidA ts hb, hasL_can]
end Go.Proofs.YtlfahohbkgdabaaGreat
