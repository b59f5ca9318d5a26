/- Texts of this proof's own, put together: what each holds is told ahead of it. -/
import Derived.Test.YtlfahohbkgdabaaGreatPeG6
import Derived.Test.YtlfahohbkgdabaaGreatProg
import Derived.Test.YtlfahohbkgdabaaGreatPeG0
import Derived.RangeFuncSeq
import Derived.Test.YtlfahohbkgdabaaGreatPeG2
import Derived.Test.YtlfahohbkgdabaaGreatPeG4
import Derived.LaidEqlPtr
import Derived.Test.YtlfahohbkgdabaaGreatPeG1
import Derived.Maps.RangeRun
set_option linter.unusedSimpArgs false
set_option linter.unusedVariables false
namespace Go.Proofs.YtlfahohbkgdabaaGreat
open Go Go.RowKit
set_option maxRecDepth 100000
set_option maxHeartbeats 8000000
theorem surfLayer (b : Nat) (X Y s al ca cb cc cd : Int) (A : Option Addr) (k cp : Nat) (w : World) :
    Calls Tryz.prog 61 #[.agg #[pT b, iQ X, iQ Y, iQ s, iQ al, iQ ca, iQ cb, iQ cc, iQ cd, .slice A k cp, .string ⟨#[]⟩]] w fun e w' => e = .returned (.agg #[pT b, iQ X, iQ Y, iQ s, iQ al, iQ ca, iQ cb, iQ cc, iQ cd]) ∧ Below w.heap.size w w' := by
 refine enter 14 [(0, .agg #[.pointer (pB b), iq X, iq Y, iq s, iq al, iq ca, iq cb, iq cc, iq cd, .slice A k cp, .string ⟨#[]⟩])] [] Tryz.func61 rfl Tryz.ntmps61 rfl (by kernel_rfl) (Tab.start w) ?_
 refine cSq <| cRg 2 rfl ?_
 refine batch2 [0, 0] 2 0 (fun b1 b2 => [(1, .pointer (pB b1)), (2, .pointer (pB b2))]) (fun b1 b2 => [.cells b2 [.pointer none, iq 0, iq 0, iq 0, iq 0, iq 0, iq 0, iq 0, iq 0] 120 true, .cells b1 [.pointer (pB b), iq X, iq Y, iq s, iq al, iq ca, iq cb, iq cc, iq cd, .slice A k cp, .string ⟨#[]⟩] 90 true]) rfl rfl [1, 2] (fun _ _ => rfl) (fun b1 b2 => by kernel_rfl) (fun b1 b2 => by kernel_rfl) (fun b1 b2 => ?_)
 refine cDn <| tNo <| cSq <| cRg 12 rfl <| batch0 [0, 1, 0, 1, 0, 1, 0, 1, 0, 1, 0, 0] 12 0 [(2, .pointer (pB b2))] [.cells b2 [.pointer (pB b), iq X, iq Y, iq s, iq al, iq ca, iq cb, iq cc, iq cd] 120 true, .cells b1 [.pointer (pB b), iq X, iq Y, iq s, iq al, iq ca, iq cb, iq cc, iq cd, .slice A k cp, .string ⟨#[]⟩] 90 true] rfl rfl (by kernel_rfl) (by kernel_rfl) ?_
 refine cFg 1 rfl <| cDn <| tNo <| cont_ret ?_
 refine ret_one (.inl rfl) rfl 0 (.agg #[.pointer (pB b), iq X, iq Y, iq s, iq al, iq ca, iq cb, iq cc, iq cd]) (by kernel_rfl) (by kernel_rfl) (fun w hT => ?_)
 exact ⟨rfl, hT.post rfl⟩
theorem refLayer13 (W H : Int) (r n cap : Nat) (X Y s al ca cb cc cd : Int) (A : Option Addr) (k cp : Nat) (w : World) :
    Calls Tryz.prog 53 #[.agg #[.bool true, iQ W, iQ H, sL r n cap, iQ X, iQ Y, iQ s, iQ al, iQ ca, iQ cb, iQ cc, iQ cd, .slice A k cp, .string ⟨#[]⟩]] w fun e w' => e = .returned (.agg #[.bool true, iQ W, iQ H, sL r n cap, iQ X, iQ Y, iQ s, iQ al, iQ ca, iQ cb, iQ cc, iQ cd]) ∧ Below w.heap.size w w' := by
 refine enter 16 [(0, .agg #[.bool true, iq W, iq H, .slice (pB r) n cap, iq X, iq Y, iq s, iq al, iq ca, iq cb, iq cc, iq cd, .slice A k cp, .string ⟨#[]⟩])] [] Tryz.func53 rfl Tryz.ntmps53 rfl (by kernel_rfl) (Tab.start w) ?_
 refine cSq <| cRg 2 rfl ?_
 refine batch2 [0, 0] 2 0 (fun b1 b2 => [(1, .pointer (pB b1)), (2, .pointer (pB b2))]) (fun b1 b2 => [.cells b2 [.bool false, iq 0, iq 0, .slice none 0 0, iq 0, iq 0, iq 0, iq 0, iq 0, iq 0, iq 0, iq 0] 82 true, .cells b1 [.bool true, iq W, iq H, .slice (pB r) n cap, iq X, iq Y, iq s, iq al, iq ca, iq cb, iq cc, iq cd, .slice A k cp, .string ⟨#[]⟩] 87 true]) rfl rfl [1, 2] (fun _ _ => rfl) (fun b1 b2 => by kernel_rfl) (fun b1 b2 => by kernel_rfl) (fun b1 b2 => ?_)
 refine cDn <| tNo <| cSq <| cRg 14 rfl <| batch0 [0, 1, 0, 1, 0, 1, 0, 1, 0, 1, 0, 1, 0, 0] 14 0 [(2, .pointer (pB b2))] [.cells b2 [.bool true, iq W, iq H, .slice (pB r) n cap, iq X, iq Y, iq s, iq al, iq ca, iq cb, iq cc, iq cd] 82 true, .cells b1 [.bool true, iq W, iq H, .slice (pB r) n cap, iq X, iq Y, iq s, iq al, iq ca, iq cb, iq cc, iq cd, .slice A k cp, .string ⟨#[]⟩] 87 true] rfl rfl (by kernel_rfl) (by kernel_rfl) ?_
 refine cFg 1 rfl <| cDn <| tNo <| cont_ret ?_
 refine ret_one (.inl rfl) rfl 0 (.agg #[.bool true, iq W, iq H, .slice (pB r) n cap, iq X, iq Y, iq s, iq al, iq ca, iq cb, iq cc, iq cd]) (by kernel_rfl) (by kernel_rfl) (fun w hT => ?_)
 exact ⟨rfl, hT.post rfl⟩
theorem shot (A : Option Addr) (g o n cap : Nat) (ts : List TS) (w : World) (hT0 : Tab w w [rD (A) g o n 14 (dvals TS.cells ts), .gen (subE n (TS.pxs ts))]) (hts : ∀ t ∈ ts, TS.Ok t) (hn : n ≤ 100) :
    Calls Tryz.prog 9 #[.slice A n cap] w fun e w' => ∃ (A_ : Option Addr) (g_ cp_ : Nat) (its : List IT), e = .returned (.tuple #[.agg #[iQ 0, .slice A_ n cp_], .bool true]) ∧ its.map (·.t) = ts ∧ Tab w w' [.gen (bunO n (IT.pxs its)), .gen (bunO n (IT.hds 116 its)), .gen (rowE (A_) g_ n cp_ 94 14 (dvals IT.cells its) true)] := by
  obtain ⟨hra, hrl⟩ := Rd.factsD TS.size (by decide) (hT0.ok 0 _ rfl)
  refine enter 43 [(0, .slice A n cap)] [rD (A) g o n 14 (dvals TS.cells ts), .gen (subE n (TS.pxs ts))] Tryz.func9 rfl Tryz.ntmps9 rfl (by kernel_rfl) hT0 ?_
  refine cSq <| cRg 2 rfl ?_
  refine batch1 [0, 0] 2 0 (fun b1 => [(0, .slice A n cap), (2, pT b1)]) (fun b1 => [.cells b1 [iQ 0, .slice none 0 0] 28 true, rD (A) g o n 14 (dvals TS.cells ts), .gen (subE n (TS.pxs ts))]) rfl rfl [0, 2] (fun _ => rfl) (fun b1 => by kernel_rfl) (fun b1 => by kernel_rfl) (fun b1 => ?_)
  refine cDn <| tNo <| cSq <| cRg 1 rfl ?_
  refine batch1 [0] 1 0 (fun b2 => [(0, .slice A n cap), (2, pT b1), (4, pT b2)]) (fun b2 => [.cells b2 [iQ 0, .slice none 0 0] 28 true, .cells b1 [iQ 0, .slice none 0 0] 28 true, rD (A) g o n 14 (dvals TS.cells ts), .gen (subE n (TS.pxs ts))]) rfl rfl [0, 2, 4] (fun _ => rfl) (fun b2 => by kernel_rfl) (fun b2 => by kernel_rfl) (fun b2 => ?_)
  refine cDn <| tNo <| cSq <| cSq <| cRg 1 rfl <| bD [0] 1 0 [(5, iQ 0)] [] ?_
  refine cDn <| tNo <| cont_block <| cont_nilrow 94 14 ?_
  refine cN [.gen (rowE (none) 0 0 0 94 14 (dvals IT.cells []) true), .cells b2 [iQ 0, .slice none 0 0] 28 true, .cells b1 [iQ 0, .slice none 0 0] 28 true, rD (A) g o n 14 (dvals TS.cells ts), .gen (subE n (TS.pxs ts))] ?_
  refine cont_rowEqD (cel := IT.cells) (z := 14) 0 ([]) (([] : List IT)) rfl rfl ?_
  refine cont_nilbun (IT.hds 116 ([] : List IT)) ?_
  refine cN [.gen (bunO 0 (IT.hds 116 ([] : List IT))), .gen (rowE (none) 0 0 0 94 14 (dvals IT.cells ([] : List IT)) true), .cells b2 [iQ 0, .slice none 0 0] 28 true, .cells b1 [iQ 0, .slice none 0 0] 28 true, rD (A) g o n 14 (dvals TS.cells ts), .gen (subE n (TS.pxs ts))] ?_
  refine cont_nilbun (IT.pxs ([] : List IT)) ?_
  refine cN [.gen (bunO 0 (IT.pxs ([] : List IT))), .gen (bunO 0 (IT.hds 116 ([] : List IT))), .gen (rowE (none) 0 0 0 94 14 (dvals IT.cells ([] : List IT)) true), .cells b2 [iQ 0, .slice none 0 0] 28 true, .cells b1 [iQ 0, .slice none 0 0] 28 true, rD (A) g o n 14 (dvals TS.cells ts), .gen (subE n (TS.pxs ts))] ?_
  refine cont_loop (α := Nat × List IT × Option Addr × Nat × Nat) (fun x_ : Nat × List IT × Option Addr × Nat × Nat => x_.1 ≤ n ∧ x_.2.1.map (·.t) = ts.take x_.1) (fun x_ : Nat × List IT × Option Addr × Nat × Nat => [(0, .slice A n cap), (2, pT b1), (4, pT b2), (5, iQ (x_.1 : Int))]) (fun x_ : Nat × List IT × Option Addr × Nat × Nat => [.gen (bunO x_.1 (IT.pxs x_.2.1)), .gen (bunO x_.1 (IT.hds 116 x_.2.1)), .gen (rowE (x_.2.2.1) x_.2.2.2.1 x_.1 x_.2.2.2.2 94 14 (dvals IT.cells x_.2.1) true), .cells b2 [iQ 0, .slice x_.2.2.1 x_.1 x_.2.2.2.2] 28 true, .cells b1 [iQ 0, .slice none 0 0] 28 true, rD (A) g o n 14 (dvals TS.cells ts), .gen (subE n (TS.pxs ts))]) (fun x_ : Nat × List IT × Option Addr × Nat × Nat => n - x_.1) (0, ([] : List IT), none, 0, 0) (show (0) ≤ n ∧ (([] : List IT)).map (·.t) = ts.take (0) from ⟨by omega, rfl⟩) (by kernel_rfl) (by kernel_rfl) ?_
  rintro ⟨i, its, Ao, gw, co⟩ hinv4_
  replace hinv4_ : i ≤ n ∧ its.map (·.t) = ts.take i := hinv4_
  refine cN [.gen (bunO i (IT.pxs its)), .gen (bunO i (IT.hds 116 its)), .gen (rowE (Ao) gw i co 94 14 (dvals IT.cells its) true), .cells b2 [iQ 0, .slice Ao i co] 28 true, .cells b1 [iQ 0, .slice none 0 0] 28 true, rD (A) g o n 14 (dvals TS.cells ts), .gen (subE n (TS.pxs ts))] ?_
  obtain ⟨hi, hmap⟩ := hinv4_
  have hlen := map_len hmap (by omega)
  refine cSq <| cSq <| cRg 4 rfl <| bD [0, 0, 0, 0] 4 0 [(11, .bool (decide ((i : Int) < (n : Int))))] [8, 9, 10] ?_
  refine cDn <| tNo ?_
  refine cSp 11 (decide ((i : Int) < (n : Int))) rfl (fun c5_ => ?_) (fun c5_ => ?_)
  ·
    replace c5_ := of_decide_eq_true c5_
    refine cTr rfl <| cont_skip <| tNo <| cSq <| cont_block <| cSq <| cRg 6 rfl ?_
    have htk := hts _ (dget_mem (l := ts) (i := i) (by omega))
    generalize ht : dget ts i = t at *
    obtain ⟨htw1, htw2⟩ : 1 ≤ t.W ∧ t.W ≤ 16 := ⟨htk.img.w1, htk.w16⟩
    obtain ⟨hth1, hth2⟩ : 1 ≤ t.H ∧ t.H ≤ 16 := ⟨htk.img.h1, htk.h16⟩
    obtain ⟨hts1, hts2⟩ := htk.s_
    obtain ⟨htx1, htx2⟩ := htk.x_
    obtain ⟨hty1, hty2⟩ := htk.y_
    obtain ⟨hta1, hta2⟩ := htk.a_
    have htl := htk.img.le
    refine cont_see 6 (rD (some ⟨t.r, 0, none⟩) t.r 0 t.n 1 (cV t.px)) rfl rfl (by rw [← ht]; exact Vw.subAt i (by omega) rfl rfl) rfl ?_
    refine cN [rD (some ⟨t.r, 0, none⟩) t.r 0 t.n 1 (cV t.px), .gen (bunO i (IT.pxs its)), .gen (bunO i (IT.hds 116 its)), .gen (rowE (Ao) gw i co 94 14 (dvals IT.cells its) true), .cells b2 [iQ 0, .slice Ao i co] 28 true, .cells b1 [iQ 0, .slice none 0 0] 28 true, rD (A) g o n 14 (dvals TS.cells ts), .gen (subE n (TS.pxs ts))] ?_
    refine bD [0, 0] 2 4 [(14, .slice A n cap), (15, iQ (i : Int))] [] ?_
    refine pSt 3 3 rfl rfl <| cRc 14 (.slice A n cap) (.slice (some ⟨g, o, none⟩) n cap) rfl (by rw [hra (by omega)]) ?_
    refine sem_step 16 (Instr.indexAt 24 (.slice (some ⟨g, o, none⟩) n cap) (iQ (i : Int))) (.pointer (some ⟨g, o + i * 14, none⟩)) (by kernel_rfl) (fun w hT => run_indexAt (e := 87) (sz := 14) _ (by kernel_rfl) (by kernel_rfl) (by omega) (by omega) (by omega) w) ?_
    refine pSt 4 2 rfl rfl <| sem_step 17 (Instr.loadAt 87 (.pointer (some ⟨g, o + i * 14, none⟩))) (.agg #[.bool true, iQ t.W, iQ t.H, sL t.r t.n t.cap, iQ t.X, iQ t.Y, iQ t.s, iQ t.al, iQ t.ca, iQ t.cb, iQ t.cc, iQ t.cd, .slice t.A t.k t.cp, .string ⟨#[]⟩]) (by kernel_rfl) (fun w hT => run_loadN (m := 14) (cs := [.bool true, iQ t.W, iQ t.H, sL t.r t.n t.cap, iQ t.X, iQ t.Y, iQ t.s, iQ t.al, iQ t.ca, iQ t.cb, iQ t.cc, iQ t.cd, .slice t.A t.k t.cp, .string ⟨#[]⟩]) (by kernel_rfl) (by kernel_rfl) rfl (by have h_ := Rd.dcell TS.size (hT.ok 6 _ rfl) (i := i) (by omega); rw [ht] at h_; exact h_)) ?_
    refine batch1 [0, 0] 6 0 (fun b6 => [(0, .slice A n cap), (2, pT b1), (4, pT b2), (5, iQ (i : Int)), (6, pT b6)]) (fun b6 => [.cells b6 [.bool true, iQ t.W, iQ t.H, sL t.r t.n t.cap, iQ t.X, iQ t.Y, iQ t.s, iQ t.al, iQ t.ca, iQ t.cb, iQ t.cc, iQ t.cd, .slice t.A t.k t.cp, .string ⟨#[]⟩] 87 true, rD (some ⟨t.r, 0, none⟩) t.r 0 t.n 1 (cV t.px), .gen (bunO i (IT.pxs its)), .gen (bunO i (IT.hds 116 its)), .gen (rowE (Ao) gw i co 94 14 (dvals IT.cells its) true), .cells b2 [iQ 0, .slice Ao i co] 28 true, .cells b1 [iQ 0, .slice none 0 0] 28 true, rD (A) g o n 14 (dvals TS.cells ts), .gen (subE n (TS.pxs ts))]) rfl rfl [0, 2, 4, 5, 6] (fun _ => rfl) (fun b6 => by kernel_rfl) (fun b6 => by kernel_rfl) (fun b6 => ?_)
    refine cDn <| tNo <| cSq <| cRg 4 rfl <| bD [0, 0] 2 2 [(19, .agg #[iQ t.W, iQ t.H, sL t.r t.n t.cap])] [18] ?_
    refine pSt 3 1 rfl rfl <| call_gen (d := 20) (α := Nat × Nat) (fun x_ => pT x_.1) (fun x_ => [.cells x_.1 [iQ t.W, iQ t.H, sL x_.2 t.n t.n] 116 true, .gen (rowE (some ⟨x_.2, 0, none⟩) x_.2 t.n t.n 52 1 (cV t.px) true), .cells b6 [.bool true, iQ t.W, iQ t.H, sL t.r t.n t.cap, iQ t.X, iQ t.Y, iQ t.s, iQ t.al, iQ t.ca, iQ t.cb, iQ t.cc, iQ t.cd, .slice t.A t.k t.cp, .string ⟨#[]⟩] 87 true, rD (some ⟨t.r, 0, none⟩) t.r 0 t.n 1 (cV t.px), .gen (bunO i (IT.pxs its)), .gen (bunO i (IT.hds 116 its)), .gen (rowE (Ao) gw i co 94 14 (dvals IT.cells its) true), .cells b2 [iQ 0, .slice Ao i co] 28 true, .cells b1 [iQ 0, .slice none 0 0] 28 true, rD (A) g o n 14 (dvals TS.cells ts), .gen (subE n (TS.pxs ts))]) (fun _ => True) (by kernel_rfl) (fun w hT => (bld t.W t.H t.r t.n t.cap t.px w (hT.view (.cons (i := 1) rfl Vw.rd .nil) (by decide)) htk.img htk.may).mono fun e w' ⟨b_, q_, he_, hi_⟩ => ⟨(b_, q_), he_, trivial, hT.addImg hi_⟩) ?_
    rintro ⟨bl7, bq7⟩ -
    refine cN [.cells bl7 [iQ t.W, iQ t.H, sL bq7 t.n t.n] 116 true, oE bq7 t.n t.n 52 1 (cV t.px), .cells b6 [.bool true, iQ t.W, iQ t.H, sL t.r t.n t.cap, iQ t.X, iQ t.Y, iQ t.s, iQ t.al, iQ t.ca, iQ t.cb, iQ t.cc, iQ t.cd, .slice t.A t.k t.cp, .string ⟨#[]⟩] 87 true, rD (some ⟨t.r, 0, none⟩) t.r 0 t.n 1 (cV t.px), .gen (bunO i (IT.pxs its)), .gen (bunO i (IT.hds 116 its)), .gen (rowE (Ao) gw i co 94 14 (dvals IT.cells its) true), .cells b2 [iQ 0, .slice Ao i co] 28 true, .cells b1 [iQ 0, .slice none 0 0] 28 true, rD (A) g o n 14 (dvals TS.cells ts), .gen (subE n (TS.pxs ts))] ?_
    refine bD [0] 4 0 [(7, pT bl7)] [] ?_
    refine cDn <| tNo <| cSq <| cSq <| cRg 2 rfl <| bD [0, 0] 2 0 [(22, .bool false)] [21] ?_
    refine cDn <| tNo <| cFa rfl <| cont_skip <| tNo <| cRg 19 rfl ?_
    refine batch1 [0, 7, 0, 0, 2, 0, 2, 0, 2, 0, 2, 0, 2, 0, 0, 0] 16 3 (fun b8 => [(0, .slice A n cap), (2, pT b1), (4, pT b2), (5, iQ (i : Int)), (25, .slice Ao i co), (39, sL b8 1 1)]) (fun b8 => [.cells b8 [iQ 0, iQ 0, pT bl7, iQ t.X, iQ t.Y, iQ t.s, iQ t.al, iQ t.ca, iQ t.cb, iQ t.cc, iQ t.cd, .slice t.A t.k t.cp, .string ⟨#[]⟩, iQ 0] 94 true, .cells bl7 [iQ t.W, iQ t.H, sL bq7 t.n t.n] 116 true, oE bq7 t.n t.n 52 1 (cV t.px), .cells b6 [.bool true, iQ t.W, iQ t.H, sL t.r t.n t.cap, iQ t.X, iQ t.Y, iQ t.s, iQ t.al, iQ t.ca, iQ t.cb, iQ t.cc, iQ t.cd, .slice t.A t.k t.cp, .string ⟨#[]⟩] 87 true, rD (some ⟨t.r, 0, none⟩) t.r 0 t.n 1 (cV t.px), .gen (bunO i (IT.pxs its)), .gen (bunO i (IT.hds 116 its)), .gen (rowE (Ao) gw i co 94 14 (dvals IT.cells its) true), .cells b2 [iQ 0, .slice Ao i co] 28 true, .cells b1 [iQ 0, .slice none 0 0] 28 true, rD (A) g o n 14 (dvals TS.cells ts), .gen (subE n (TS.pxs ts))]) rfl rfl [0, 2, 4, 5, 25, 39] (fun _ => rfl) (fun b8 => by kernel_rfl) (fun b8 => by kernel_rfl) (fun b8 => ?_)
    refine cFg 3 rfl <| pSt 17 2 rfl rfl <| sSW (α := Option Addr × Nat × Nat) 40 (Builtin.append_ #[26, 26] 26 #[.slice Ao i co, sL b8 1 1]) (fun x_ => .slice x_.1 (i + 1) x_.2.2) (fun x_ => [.cells b8 [iQ 0, iQ 0, pT bl7, iQ t.X, iQ t.Y, iQ t.s, iQ t.al, iQ t.ca, iQ t.cb, iQ t.cc, iQ t.cd, .slice t.A t.k t.cp, .string ⟨#[]⟩, iQ 0] 94 true, .cells bl7 [iQ t.W, iQ t.H, sL bq7 t.n t.n] 116 true, oE bq7 t.n t.n 52 1 (cV t.px), rD (some ⟨t.r, 0, none⟩) t.r 0 t.n 1 (cV t.px), .gen (bunO i (IT.pxs its)), .gen (bunO i (IT.hds 116 its)), .gen (rowE (x_.1) x_.2.1 (i + 1) x_.2.2 94 14 (dvals IT.cells (its ++ [(⟨bl7, bq7, t⟩ : IT)])) true), .cells b2 [iQ 0, .slice Ao i co] 28 true, .cells b1 [iQ 0, .slice none 0 0] 28 true, rD (A) g o n 14 (dvals TS.cells ts), .gen (subE n (TS.pxs ts))]) (fun _ => True) (by kernel_rfl) (fun w hT => append_own (n' := (i + 1)) (z := .agg #[iQ 0, iQ 0, .pointer none, iQ 0, iQ 0, iQ 0, iQ 0, iQ 0, iQ 0, iQ 0, iQ 0, .slice none 0 0, .string ⟨#[]⟩, iQ 0]) hT (i := 6) (bytes := 136) rfl (by kernel_rfl) (by kernel_rfl) rfl (by decide) (by decide) (Rd.ofCells (vals := dvals IT.cells [(⟨bl7, bq7, t⟩ : IT)]) (hT.ok 0 _ rfl) rfl rfl) (dvals_one IT.one [(⟨bl7, bq7, t⟩ : IT)]) (by omega) (dvals_append its [(⟨bl7, bq7, t⟩ : IT)]) rfl) ?_
    rintro ⟨A9, g9, cp9⟩ -
    refine cN [.cells b8 [iQ 0, iQ 0, pT bl7, iQ t.X, iQ t.Y, iQ t.s, iQ t.al, iQ t.ca, iQ t.cb, iQ t.cc, iQ t.cd, .slice t.A t.k t.cp, .string ⟨#[]⟩, iQ 0] 94 true, .cells bl7 [iQ t.W, iQ t.H, sL bq7 t.n t.n] 116 true, oE bq7 t.n t.n 52 1 (cV t.px), rD (some ⟨t.r, 0, none⟩) t.r 0 t.n 1 (cV t.px), .gen (bunO i (IT.pxs its)), .gen (bunO i (IT.hds 116 its)), .gen (rowE (A9) g9 (i + 1) cp9 94 14 (dvals IT.cells (its ++ [(⟨bl7, bq7, t⟩ : IT)])) true), .cells b2 [iQ 0, .slice Ao i co] 28 true, .cells b1 [iQ 0, .slice none 0 0] 28 true, rD (A) g o n 14 (dvals TS.cells ts), .gen (subE n (TS.pxs ts))] ?_
    refine cont_fact (F := (0 < (i + 1) → (A9 : Option Addr) = some ⟨g9, 0, none⟩) ∧ (its ++ [(⟨bl7, bq7, t⟩ : IT)]).length = (i + 1) ∧ (i + 1) ≤ cp9 ∧ cp9 ≤ maxLen) (fun w hT => Row.factsD IT.size (by decide) (hT.ok 6 _ rfl)) (fun hr10_ => ?_)
    obtain ⟨hr10_a, hr10_l, hr10_c, hr10_m⟩ := hr10_
    unfold maxLen at hr10_m
    refine batch0 [0, 7] 19 0 [(0, .slice A n cap), (2, pT b1), (4, pT b2), (5, iQ (i : Int))] [.cells b8 [iQ 0, iQ 0, pT bl7, iQ t.X, iQ t.Y, iQ t.s, iQ t.al, iQ t.ca, iQ t.cb, iQ t.cc, iQ t.cd, .slice t.A t.k t.cp, .string ⟨#[]⟩, iQ 0] 94 true, .cells bl7 [iQ t.W, iQ t.H, sL bq7 t.n t.n] 116 true, oE bq7 t.n t.n 52 1 (cV t.px), rD (some ⟨t.r, 0, none⟩) t.r 0 t.n 1 (cV t.px), .gen (bunO i (IT.pxs its)), .gen (bunO i (IT.hds 116 its)), .gen (rowE (A9) g9 (i + 1) cp9 94 14 (dvals IT.cells (its ++ [(⟨bl7, bq7, t⟩ : IT)])) true), .cells b2 [iQ 0, .slice A9 (i + 1) cp9] 28 true, .cells b1 [iQ 0, .slice none 0 0] 28 true, rD (A) g o n 14 (dvals TS.cells ts), .gen (subE n (TS.pxs ts))] rfl rfl (by kernel_rfl) (by kernel_rfl) ?_
    refine cFg 0 rfl <| cDn <| blk_normal <| tNo <| cRg 3 rfl <| bD [0, 0] 2 1 [(13, iQ (IntKind.i64.wrap ((i : Int) + 1)))] [12] ?_
    refine cRc 13 (iQ (IntKind.i64.wrap ((i : Int) + 1))) (iQ ((i : Int) + 1)) rfl (wrapI (by omega) (by omega)) ?_
    refine bD [0] 3 0 [(5, iQ ((i : Int) + 1))] [] ?_
    refine cDn <| tNo ?_
    obtain ⟨x, hx⟩ : ∃ x_ : IT, x_ = (⟨bl7, bq7, t⟩ : IT) := ⟨_, rfl⟩
    refine cont_rowEqD (cel := IT.cells) (z := 14) 5 (its ++ [(⟨bl7, bq7, t⟩ : IT)]) (its ++ [x]) rfl (by rw [hx]) ?_
    refine cN [.cells bl7 [iQ t.W, iQ t.H, sL bq7 t.n t.n] 116 true, oE bq7 t.n t.n 52 1 (cV t.px), rD (some ⟨t.r, 0, none⟩) t.r 0 t.n 1 (cV t.px), .gen (bunO i (IT.pxs its)), .gen (bunO i (IT.hds 116 its)), .gen (rowE (A9) g9 (i + 1) cp9 94 14 (dvals IT.cells (its ++ [x])) true), .cells b2 [iQ 0, .slice A9 (i + 1) cp9] 28 true, .cells b1 [iQ 0, .slice none 0 0] 28 true, rD (A) g o n 14 (dvals TS.cells ts), .gen (subE n (TS.pxs ts))] ?_
    have hpa := IT.pxs_app (t := x) hlen
    have hha := IT.hds_app (tI := 116) (t := x) hlen
    refine cont_bun 1 3 i (IT.pxs its) (IT.pxs (its ++ [x])) x.pxG rfl rfl (by rw [hx]; exact Vw.rowRd) rfl (by decide) hpa.1 hpa.2 ?_
    refine cN [.cells bl7 [iQ t.W, iQ t.H, sL bq7 t.n t.n] 116 true, rD (some ⟨t.r, 0, none⟩) t.r 0 t.n 1 (cV t.px), .gen (bunO (i + 1) (IT.pxs (its ++ [x]))), .gen (bunO i (IT.hds 116 its)), .gen (rowE (A9) g9 (i + 1) cp9 94 14 (dvals IT.cells (its ++ [x])) true), .cells b2 [iQ 0, .slice A9 (i + 1) cp9] 28 true, .cells b1 [iQ 0, .slice none 0 0] 28 true, rD (A) g o n 14 (dvals TS.cells ts), .gen (subE n (TS.pxs ts))] ?_
    refine cont_bun 0 3 i (IT.hds 116 its) (IT.hds 116 (its ++ [x])) (x.hdG 116) rfl rfl (by rw [hx]; exact Vw.cellsRo) rfl (by decide) hha.1 hha.2 ?_
    refine cN [rD (some ⟨t.r, 0, none⟩) t.r 0 t.n 1 (cV t.px), .gen (bunO (i + 1) (IT.pxs (its ++ [x]))), .gen (bunO (i + 1) (IT.hds 116 (its ++ [x]))), .gen (rowE (A9) g9 (i + 1) cp9 94 14 (dvals IT.cells (its ++ [x])) true), .cells b2 [iQ 0, .slice A9 (i + 1) cp9] 28 true, .cells b1 [iQ 0, .slice none 0 0] 28 true, rD (A) g o n 14 (dvals TS.cells ts), .gen (subE n (TS.pxs ts))] ?_
    refine cFg 0 rfl ?_
    refine cont_again (i + 1, its ++ [x], A9, g9, cp9) (show (i + 1) ≤ n ∧ (its ++ [x]).map (·.t) = ts.take (i + 1) from ⟨by omega, map_take hmap (by omega) (by rw [hx, ht])⟩) (show n - (i + 1) < n - i from by omega) (by kernel_rfl) (by kernel_rfl)
  replace c5_ := of_decide_eq_false c5_
  refine cFa rfl <| cont_exit <| then_exit <| then_exit <| blk_exit <| tNo <| cSq <| cRg 3 rfl <| batch0 [3, 4, 0] 3 0 [(2, pT b1), (3, .bool true)] [.gen (bunO i (IT.pxs its)), .gen (bunO i (IT.hds 116 its)), .gen (rowE (Ao) gw i co 94 14 (dvals IT.cells its) true), .cells b2 [iQ 0, .slice Ao i co] 28 true, .cells b1 [iQ 0, .slice Ao i co] 28 true, rD (A) g o n 14 (dvals TS.cells ts), .gen (subE n (TS.pxs ts))] rfl rfl (by kernel_rfl) (by kernel_rfl) ?_
  refine cFg 3 rfl <| cDn <| tNo <| cont_ret ?_
  refine ret_two (.inl rfl) rfl 3 0 (.agg #[iQ 0, .slice Ao i co]) (.bool true) (by kernel_rfl) (by kernel_rfl) (by kernel_rfl) (by kernel_rfl) (fun w hT => ?_)
  replace hT := hT.erase 5 (fun e h hw => by cases h; first | rfl | cases hw)
  replace hT := hT.erase 4 (fun e h hw => by cases h; first | rfl | cases hw)
  replace hT := hT.erase 3 (fun e h hw => by cases h; first | rfl | cases hw)
  have hin : i = n := by omega
  subst hin
  rw [List.take_of_length_le (by omega)] at hmap
  exact ⟨_, _, _, its, rfl, hmap, hT⟩
end Go.Proofs.YtlfahohbkgdabaaGreat
namespace Go.Proofs.YtlfahohbkgdabaaGreat
open Go Go.RowKit
def noDef (ops : Array Oper) : Bool := ops.toList.all fun o => match o.op with | .defer _ => false | _ => true
theorem noDef_at {ops : Array Oper} (h : noDef ops = true) {i : Nat} {o : Oper} (ho : ops[i]? = some o) : ∀ c, o.op ≠ .defer c := by
  intro c hc
  have hm : o ∈ ops.toList := Array.mem_toList_iff.2 (Array.mem_of_getElem? ho)
  have := List.all_eq_true.1 h o hm
  rw [hc] at this
  cases this
structure Open (F : Fence) : Prop where
  fn : ∀ f, F.fn f
  depth : F.depth = none
  alive : F.alive = false
theorem open_wide : Open Fence.wide := ⟨fun _ => trivial, rfl, rfl⟩
theorem open_round (l : Nat) : Open (Fence.wide.inRound l) := ⟨fun _ => trivial, rfl, rfl⟩
theorem fenced_open {F : Fence} (h : Open F) (P : Program) (m : Machine) : m.fenced P F := by
  intro g _
  refine ⟨fun ha => ?_, Or.inl (h.fn _), fun _ _ => h.fn _, fun d hd => ?_⟩
  · rw [h.alive] at ha; cases ha
  · rw [h.depth] at hd; cases hd
theorem steps_open {F : Fence} (h : Open F) {P : Program} {m m' : Machine} (s : Steps P m m') : StepsIn (Machine.fenced P F) P m m' :=
  (StepsIn.of_steps s).mono fun m _ => fenced_open h P m
theorem calls_open {F : Fence} (h : Open F) {n : Nat} {P : Program} {f : FuncId} {args : Array Value} {w : World} {R : Ending → World → Prop} (c : Calls P f args w R) : CallsIn F n P f args w R :=
  ⟨h.fn f, fun cs _ => by
    obtain ⟨e, w', fr, r, s, x⟩ := c cs
    refine ⟨e, w', fr, r, ?_, x⟩
    cases e with
    | returned v => exact steps_open h s
    | panicked ch => exact steps_open h s
    | outgrown => exact s⟩
theorem rows_open {F : Fence} (h : Open F) {n : Nat} {P : Program} {row : String} {args : Array Value} {w : World} {R : Value → World → Prop} (c : Rows P row args w R) : RowsIn F n P row args w R :=
  fun fr cs _ => let ⟨v, w', r, s⟩ := c fr cs; ⟨v, w', r, steps_open h s⟩
section
variable {P : Program}
theorem oper_in {F : Fence} (hF : Open F) {o : Oper} {a : Act} {w : World} {K K' : Act → World → Prop} {Q Q' : Exit → Act → World → Prop} (ho : ∀ c, o.op ≠ .defer c) (hlo : ¬ LetsOut Q) (hK : ∀ a' w', K a' w' → K' a' w') (hQ : ∀ c w, Q (.panic c) a w → Q' (.panic c) a w)
    (h : o.wp P a w K Q) : o.wpIn F 0 P a w K' Q' := by
  refine ⟨fun f _ => hF.fn f, ?_⟩
  rw [Oper.semAt_eq _ _ _ ho]
  unfold Oper.wp at h
  generalize (execOp a.eval o).run P w = r at h ⊢
  have hdep : F.depth.isSome = true → 1 ≤ 0 := by rw [hF.depth]; intro hh; cases hh
  unfold Oper.upon at h
  split at h
  · exact hK _ _ h
  · exact hK _ _ h
  · exact hK _ _ h
  · refine ⟨hdep, calls_open hF (h.mono ?_)⟩
    intro e w'' hh
    cases e with
    | returned v => exact hK _ _ hh
    | panicked ch => exact hQ _ _ hh
    | outgrown => exact (hlo hh).elim
  · exact ⟨hdep, rows_open hF (h.mono fun v w'' hh => hK _ _ hh)⟩
  · exact hQ _ _ h
  · exact h.elim
theorem ops_in {F : Fence} (hF : Open F) {ops : Array Oper} (hops : noDef ops = true) {K : Act → World → Prop} {Q : Exit → Act → World → Prop} (hlo : ¬ LetsOut Q) (l2 : List Nat) (hK : ∀ a w, K a w → wpOpsIn F 0 P ops Q l2 a w) :
    ∀ (l : List Nat) (a : Act) (w : World), wpOps P ops (Exit.then K Q) l a w → wpOpsIn F 0 P ops Q (l ++ l2) a w := by
  intro l
  induction l with
  | nil => intro a w h; exact hK a w h
  | cons i l ih =>
    intro a w h
    rw [List.cons_append]
    simp only [wpOps, wpOpsIn] at h ⊢
    cases ho : ops[i]? with
    | none => simp only [ho] at h ⊢; exact ih _ _ h
    | some o =>
      simp only [ho] at h ⊢
      by_cases hw : Region.wanted o (yielded ops a.tmps) = true
      · simp only [hw, if_true] at h ⊢
        rcases h with h | ⟨_, a0, w0, h⟩
        · exact oper_in hF (noDef_at hops ho) (Q := Exit.then K Q) (fun ⟨a', w', hq⟩ => hlo ⟨a', w', hq⟩) (fun a' w' hh => ih a' w' hh) (fun c w' hh => hh) h
        · exact (hlo ⟨a0, w0, h⟩).elim
      · simp only [hw, Bool.false_eq_true, if_false] at h ⊢
        exact ⟨fun f _ => hF.fn f, ih _ _ h⟩
structure Mode (P : Program) where
  F : Fence
  hF : Open F
def Mode.wp (M : Mode P) (c : Code) (Q : Exit → Act → World → Prop) (a : Act) (w : World) : Prop := ¬ LetsOut Q → c.wpIn M.F 0 P Q a w
def Mode.round (P : Program) (l : Nat) : Mode P := ⟨Fence.wide.inRound l, open_round l⟩
def Mode.fence (P : Program) : Mode P := ⟨Fence.wide, open_wide⟩
theorem lo_then {K : Act → World → Prop} {Q : Exit → Act → World → Prop} (h : ¬ LetsOut Q) : ¬ LetsOut (Exit.then K Q) := fun ⟨a, w, hq⟩ => h ⟨a, w, hq⟩
theorem lo_blk {id : Nat} {Q : Exit → Act → World → Prop} (h : ¬ LetsOut Q) : ¬ LetsOut (Exit.inBlock id Q) := fun ⟨a, w, hq⟩ => h ⟨a, w, hq⟩
variable {dfs : List Deferred} {M : Mode P} {Q : Exit → Act → World → Prop} {n : Nat} {w0 : World} {L : List (Nat × Value)} {T : List Ent}
theorem mcont_seq {x y : Code} (h : Cont dfs (M.wp x (Exit.then (M.wp y Q) Q)) n w0 L T) : Cont dfs (M.wp (Code.seq x y) Q) n w0 L T :=
  fun a w ha hf hT hlo => wpIn_seq (wpIn_mono (h a w ha hf hT (lo_then hlo)) fun e a' w' hq => by
    cases e with
    | normal => exact hq hlo
    | _ => exact hq)
theorem mcont_region {id : Nat} {ops : Array Oper} (k : Nat) (hk : ops.size = k) (hops : noDef ops = true) (h : Cont dfs (PL P ops Q 0 k) n w0 L T) : Cont dfs (M.wp (Code.region id ops false) Q) n w0 L T := by
  intro a w ha hf hT hlo
  refine wpIn_region ?_
  have := h a w ha hf hT
  unfold PL at this
  rw [List.range_eq_range', hk]
  have e := ops_in M.hF hops (K := Q .normal) hlo [] (fun a w hh => by simpa [wpOpsIn] using hh) (List.range' 0 k) a w (by
    have hQ : Exit.then (Q .normal) Q = Q := by funext e; cases e <;> rfl
    rw [hQ]; exact this)
  simpa using e
theorem mdrawn_enter {id : Nat} {ops : Array Oper} (m : Nat) (ds : List Nat) (hm : ops.size = m) (hmix : P.follows .mixedOrders = true) (hops : noDef ops = true) (h : Cont dfs (AH P ops Q (fun w => Known w (dropT ds T)) m m []) n w0 L T) : Cont dfs (M.wp (Code.region id ops true) Q) n w0 L T := by
  intro a w ha hf hT hlo
  refine wpIn_region_draw fun t => ?_
  simp only [Region.schedule, hmix, Bool.true_or, if_true]
  have := h a w.drew ha hf hT.drew
  unfold AH marked at this
  subst hm
  have e := wpAny_sound ops.size t _ a _ (wpAny_of_held _ _ _ _ this)
  have hQ : Exit.then (Q .normal) Q = Q := by funext e; cases e <;> rfl
  have e2 := ops_in M.hF hops (K := Q .normal) hlo [] (fun a w hh => by simpa [wpOpsIn] using hh) _ a _ (by rw [hQ]; exact e)
  rw [List.append_nil] at e2
  exact e2
theorem mcont_skip (h : Cont dfs (Q .normal) n w0 L T) : Cont dfs (M.wp Code.skip Q) n w0 L T := fun a w ha hf hT _ => wpIn_skip (h a w ha hf hT)
theorem mcont_ret (h : Cont dfs (Q .ret) n w0 L T) : Cont dfs (M.wp Code.ret Q) n w0 L T := fun a w ha hf hT _ => wpIn_ret (h a w ha hf hT)
theorem mcont_exit {id : Nat} (h : Cont dfs (Q (.exit id)) n w0 L T) : Cont dfs (M.wp (Code.exit id) Q) n w0 L T := fun a w ha hf hT _ => wpIn_exit (h a w ha hf hT)
theorem mcont_block {id : Nat} {c : Code} (h : Cont dfs (M.wp c (Exit.inBlock id Q)) n w0 L T) : Cont dfs (M.wp (Code.block id c) Q) n w0 L T := fun a w ha hf hT hlo => wpIn_block (h a w ha hf hT (lo_blk hlo))
theorem mcont_true {c : Operand} {x y : Code} (hc : knownB L c = some (.bool true)) (h : Cont dfs (M.wp x Q) n w0 L T) : Cont dfs (M.wp (Code.cond c x y) Q) n w0 L T :=
  fun a w ha hf hT hlo => wpIn_cond_true (knownB_eval hf hc) (h a w ha hf hT hlo)
theorem mcont_false {c : Operand} {x y : Code} (hc : knownB L c = some (.bool false)) (h : Cont dfs (M.wp y Q) n w0 L T) : Cont dfs (M.wp (Code.cond c x y) Q) n w0 L T :=
  fun a w ha hf hT hlo => wpIn_cond_false (knownB_eval hf hc) (h a w ha hf hT hlo)
theorem wpIn_loop_ghost {F : Fence} {m : Nat} {a : Act} {w : World} {c : Code} (I : Nat → Act → World → Prop) (n₀ : Nat) (h₀ : I n₀ a w)
    (round : ∀ n a w, I n a w → c.wpIn F m P (Exit.then (fun a' w' => ∃ n', n' < n ∧ I n' a' w') Q) a w) : (Code.loop c).wpIn F m P Q a w := by
  refine wpIn_loop (fun a w => ∃ n, I n a w) (fun a w => leastOf (fun n => I n a w)) ⟨n₀, h₀⟩ ?_
  intro a w hI
  refine wpIn_mono (round _ a w (leastOf_spec hI).1) ?_
  intro e a' w' hq
  cases e with
  | normal =>
    obtain ⟨n', hlt, hI'⟩ := hq
    exact show (∃ n, I n a' w') ∧ leastOf (fun n => I n a' w') < leastOf (fun n => I n a w) from ⟨⟨n', hI'⟩, Nat.lt_of_le_of_lt ((leastOf_spec ⟨n', hI'⟩).2 n' hI') hlt⟩
  | _ => exact hq
theorem mcont_loop {α : Type} {body : Code} (Inv : α → Prop) (Lf : α → List (Nat × Value)) (Tf : α → List Ent) (m : α → Nat) (x0 : α) (hinv : Inv x0)
    (hL : ((Lf x0).map fun p => lk L p.1) = ((Lf x0).map fun p => some p.2)) (hTf : Tf x0 = T)
    (round : ∀ x, Inv x → Cont dfs (M.wp body (Exit.then (Again dfs Inv Lf Tf m n w0 x) Q)) n w0 (Lf x) (Tf x)) : Cont dfs (M.wp (Code.loop body) Q) n w0 L T := by
  subst hTf
  intro a w ha hf hT hlo
  refine wpIn_loop_ghost (fun k a' w' => ∃ x, m x = k ∧ Inv x ∧ a'.defers = dfs ∧ FrOk n a'.tmps (Lf x) ∧ Tab w0 w' (Tf x)) (m x0) ⟨x0, rfl, hinv, ha, hf.prune hL, hT⟩ ?_
  rintro k a' w' ⟨x, rfl, hx, ha', hf', hT'⟩
  refine wpIn_mono (round x hx a' w' ha' hf' hT' (lo_then hlo)) (fun e a'' w'' h => ?_)
  cases e with
  | normal =>
    obtain ⟨y, h1, h2, h3, h4, h5⟩ := h
    exact ⟨m y, h2, y, rfl, h1, h3, h4, h5⟩
  | _ => exact h
def objE (b : Nat) (o : Obj) : Ent := .gen { blk := (· = b), wr := true, own := true, ok := fun w => w.heap[b]? = some o, stable := fun w w' h hk => (h b rfl).trans hk, inb := fun w k hk hb => by cases hb; exact (Array.getElem?_eq_some_iff.1 hk).1 }
def markE (D : Nat) : Ent := objE D (.deferred (some []))
theorem Tab.putObj {w : World} (hT : Tab w0 w T) {i b : Nat} {o : Obj} (h : T[i]? = some (objE b o)) (o' : Obj) : Tab w0 (w.putObj b o') (T.set i (objE b o')) := by
  have hk : w.heap[b]? = some o := hT.ok i _ h
  refine hT.replace (e := objE b o) (e' := objE b o') h rfl rfl id (fun k hk => .inl hk) (fun k _ hk _ => hk) rfl rfl rfl (by simp) (fun k _ hk => World.putObj_heap_other (fun e => hk e)) ?_
  exact World.putObj_heap_same (Array.getElem?_eq_some_iff.1 hk).1
theorem Tab.allocObj {w : World} (hT : Tab w0 w T) (o : Obj) : Tab w0 (w.alloc o) (objE w.heap.size o :: T) := by
  refine hT.push (e := objE w.heap.size o) rfl rfl rfl (by simp) (fun k hk => Below.heap_alloc w _ k hk) (World.alloc_heap_new w o) (fun k hk => by have : k = w.heap.size := hk; omega)
theorem Cont.go {K : Act → World → Prop} (h : Cont dfs K n w0 L T) {a : Act} {w : World} (ha : a.defers = dfs) (hf : FrOk n a.tmps L) (hT : Tab w0 w T) : K a w := h a w ha hf hT
def NP (Q : Exit → Act → World → Prop) : Exit → Act → World → Prop
  | .panic _, _, _ => False
  | e, a, w => Q e a w
theorem NP.le {Q : Exit → Act → World → Prop} (e : Exit) (a : Act) (w : World) (h : NP Q e a w) : Q e a w := by cases e <;> first | exact h.elim | exact h
theorem pok_np {Q : Exit → Act → World → Prop} : PanicOk (NP Q) := fun c a d v w h => h
theorem enterM {f : FuncId} {fn : Func} {c : Code} {args : Array Value} {w : World} {R : Ending → World → Prop} (n : Nat) (L : List (Nat × Value)) (T : List Ent) (hf : P.funcs[f]? = some fn) (hb : fn.body = some c) (hn : fn.ntmps = n) (hsz : Nat.ble args.size n = true)
    (hL : (L.map fun p => args[p.1]?) = (L.map fun p => some p.2)) (hT : Tab w w T) (h : Cont [] (c.wp P (NP (bodyPostM Fence.wide 0 P fn R))) n w L T) : Calls P f args w R := by
  subst hn
  refine callsIn_wide.1 (callsIn_of_wp_marks hf hb trivial (wpIn_wide.2 (wp_mono (h _ _ rfl ⟨?_, ?_⟩ hT) fun e a w hq => hq.le)) rfl)
  · have := Nat.le_of_ble_eq_true hsz
    simp; omega
  · exact enter_lk hL
def coll (D : Nat) : Deferred := { target := .collected D, args := #[] }
theorem mark_end {fn : Func} {R : Ending → World → Prop} {e : Exit} {D : Nat} (i : Nat) (hi : T[i]? = some (markE D)) (he : e = .ret ∨ e = .normal) (h : Cont [] (bodyPost P fn R e) n w0 L (T.set i (objE D (.deferred none)))) : Cont [coll D] (NP (bodyPostM Fence.wide 0 P fn R) e) n w0 L T := by
  intro a w ha hf hT
  have hk : w.heap[D]? = some (.deferred (some [])) := hT.ok i _ hi
  have := h { a with defers := [] } (w.putObj D (.deferred none)) rfl hf (hT.putObj hi _)
  rcases he with rfl | rfl
  all_goals
    obtain ⟨_, v, h1, h2⟩ := this
    show LeavesInM Fence.wide 0 P fn a.tmps R a.defers .returning w
    rw [ha]
    exact ⟨by simp, .inl ⟨D, _, rfl, run_takeDeferred hk, v, h1, h2⟩⟩
def IterC {X : Type} (P : Program) (gf : Nat) (lb : Array Value) (encs : X → Array Value) (w0 : World) (Es : List Ent) (Ex : X → List Ent) (S Sp : List X → Prop) : Prop :=
  ∀ {β : Type} (Inv : List X → β → Prop) (Tr : β → List Ent) (Jx : World → Prop) (l : Nat) (e1 e2 : Ent) (W : World) (b0 : β), (∀ w w', Jx w → Below w.heap.size w w' → Jx w') →
    (∀ pre x b W1 z, (z.wr = true → z.own = true) → Inv pre b → Sp (pre ++ [x]) → Tab w0 W1 (Ex x ++ z :: e1 :: e2 :: (Es ++ Tr b)) →
      YieldAt Fence.wide 0 P l (encs x) W1 fun e W' => (e = .returned (.bool true) ∧ ∃ b', Inv (pre ++ [x]) b' ∧ Tab w0 W' (z :: e1 :: e2 :: (Es ++ Tr b'))) ∨ (e = .returned (.bool false) ∧ Jx W')) →
    Inv [] b0 → Tab w0 W (e1 :: e2 :: (Es ++ Tr b0)) →
    Calls P gf (#[.func (.yield l) #[] #[]] ++ lb) W fun e W' => (∃ v, e = .returned v) ∧ ((∃ xs b', S xs ∧ Inv xs b' ∧ Tab w0 W' (e1 :: e2 :: (Es ++ Tr b'))) ∨ Jx W')
theorem enterI {f : FuncId} {fn : Func} {c : Code} {args : Array Value} {w : World} {R : Ending → World → Prop} (n : Nat) (L : List (Nat × Value)) (T : List Ent) (hf : P.funcs[f]? = some fn) (hb : fn.body = some c) (hn : fn.ntmps = n) (hsz : Nat.ble args.size n = true)
    (hL : (L.map fun p => args[p.1]?) = (L.map fun p => some p.2)) (hT : Tab w0 w T) (hlo : ∀ w, ¬ R .outgrown w) (h : Cont [] ((Mode.fence P).wp c (bodyPost P fn R)) n w0 L T) : Calls P f args w R := by
  subst hn
  refine callsIn_wide.1 (callsIn_of_wp hf hb trivial (h _ _ rfl ⟨?_, ?_⟩ hT (fun ⟨_, w', hq⟩ => hlo w' hq)) rfl)
  · have := Nat.le_of_ble_eq_true hsz
    simp; omega
  · exact enter_lk hL
def PLI (P : Program) (ops : Array Oper) (Q : Exit → Act → World → Prop) (i k : Nat) (a : Act) (w : World) : Prop := ¬ LetsOut Q → wpOpsIn Fence.wide 0 P ops Q (List.range' i k) a w
theorem icont_region {id : Nat} {ops : Array Oper} (k : Nat) (hk : ops.size = k) (h : Cont dfs (PLI P ops Q 0 k) n w0 L T) : Cont dfs ((Mode.fence P).wp (Code.region id ops false) Q) n w0 L T := by
  intro a w ha hf hT hlo
  refine wpIn_region ?_
  rw [List.range_eq_range', hk]
  exact h a w ha hf hT hlo
theorem pli_ops {ops : Array Oper} {i k : Nat} (j m i' : Nat) (hk : k = j + m) (hi' : i' = i + j) (hops : noDef ops = true) (h : Cont dfs (PL P ops (Exit.then (PLI P ops Q i' m) Q) i j) n w0 L T) : Cont dfs (PLI P ops Q i k) n w0 L T := by
  subst hk; subst hi'
  intro a w ha hf hT hlo
  have := h a w ha hf hT
  have e : List.range' i (j + m) = List.range' i j ++ List.range' (i + j) m := (List.range'_append_1 ..).symm
  rw [e]
  exact ops_in open_wide hops hlo _ (fun a w hh => hh hlo) _ a w this
theorem pli_done {ops : Array Oper} {i : Nat} (h : Cont dfs (Q .normal) n w0 L T) : Cont dfs (PLI P ops Q i 0) n w0 L T :=
  fun a w ha hf hT _ => by
    have := h a w ha hf hT
    simpa [wpOpsIn] using this
theorem YieldAt.weaken {F : Fence} {m l : Nat} {args : Array Value} {W : World} {R R' : Ending → World → Prop} (h : YieldAt F m P l args W R) (hr : ∀ e w', R e w' → R' e w') : YieldAt F m P l args W R' :=
  let ⟨fn, tmps, assign, body, h1, h2⟩ := h; ⟨fn, tmps, assign, body, h1, h2.mono hr⟩
theorem pli_yield {ops : Array Oper} {i k : Nat} {l : Nat} {args : Array Value} (d : Tmp) (i' k' : Nat) (hi : i' = i + 1) (hk : k = k' + 1) (hops : noDef ops = true) (H : opS ops n i L = some (some d, Instr.yield l args))
    {R : Value → World → Prop} (hy : ∀ w, Tab w0 w T → YieldAt Fence.wide 0 P l args w fun e w' => ∃ v, e = .returned v ∧ R v w')
    (hR : ∀ a w v, a.defers = dfs → FrOk n a.tmps ((d, v) :: L) → R v w → PLI P ops Q i' k' a w) : Cont dfs (PLI P ops Q i k) n w0 L T := by
  subst hi; subst hk
  intro a w ha hf hT hlo
  obtain ⟨o, ho, hdst, hd, hw, he⟩ := opS_core H hf
  rw [List.range'_succ]
  simp only [wpOpsIn, ho, hw, if_true]
  refine ⟨fun f _ => trivial, ?_⟩
  rw [Oper.semAt_eq _ _ _ (noDef_at hops ho), he]
  obtain ⟨fn, tmps, assign, body, hrun, hround⟩ := hy w hT
  rw [hrun]
  refine ⟨(fun h => by cases h), hround.mono ?_⟩
  rintro e w' ⟨v, rfl, hr⟩
  exact hR (a.put o.dst v) w' v (by rw [put_defers]; exact ha) (by rw [hdst]; exact hf.put (hd d rfl) v) hr hlo
theorem FrOk.puts {tmps : Array Value} (h : FrOk n tmps L) : ∀ (ps : List Nat) (vs : List Value), (ps.all fun p => Nat.blt p n) = true → FrOk n ((ps.zip vs).foldl (fun t p => t.setIfInBounds p.1 p.2) tmps) ((ps.zip vs).reverse ++ L) := by
  intro ps
  induction ps generalizing tmps L with
  | nil => intro vs _; exact h
  | cons p ps ih =>
    intro vs hp
    cases vs with
    | nil => exact h
    | cons v vs =>
      simp only [List.all_cons, Bool.and_eq_true] at hp
      have := ih (h.put (d := p) (by simpa using hp.1) v) vs hp.2
      simp only [List.zip_cons_cons, List.foldl_cons, List.reverse_cons, List.append_assoc, List.singleton_append]
      exact this
def RQ {X β : Type} (w0 : World) (Inv : List X → β → Prop) (Tr : β → List Ent) (Es : List Ent) {γ : Type} (Jx : Code → γ → Prop) (Tx : γ → List Ent) (z e1 e2 : Ent) (xs : List X) : Exit → Act → World → Prop
  | .normal, _, w => ∃ b, Inv xs b ∧ Tab w0 w (z :: e1 :: e2 :: (Es ++ Tr b))
  | .ret, _, w => ∃ c, Jx .ret c ∧ Tab w0 w (e1 :: e2 :: Tx c)
  | .exit id, _, w => ∃ c, Jx (.exit id) c ∧ Tab w0 w (e1 :: e2 :: Tx c)
  | _, _, _ => False
theorem pok_rq {X β γ : Type} {Inv : List X → β → Prop} {Tr : β → List Ent} {Es : List Ent} {Jx : Code → γ → Prop} {Tx : γ → List Ent} {z e1 e2 : Ent} {xs : List X} : PanicOk (RQ w0 Inv Tr Es Jx Tx z e1 e2 xs) := fun c a d v w h => h
theorem rq_next {X β γ : Type} {Inv : List X → β → Prop} {Tr : β → List Ent} {Es : List Ent} {Jx : Code → γ → Prop} {Tx : γ → List Ent} {z e1 e2 : Ent} {xs : List X} (b : β) (hi : Inv xs b) (hT : z :: e1 :: e2 :: (Es ++ Tr b) = T) : Cont dfs (RQ w0 Inv Tr Es Jx Tx z e1 e2 xs .normal) n w0 L T := by
  subst hT; exact fun a w _ _ h => ⟨b, hi, h⟩
theorem cont_rangeFunc {X β γ : Type} {g : Operand} {ps : Array Tmp} {assign body : Code} {gf : Nat} {lb : Array Value} (encs : X → Array Value) (Es : List Ent) (Ex : X → List Ent) (S Sp : List X → Prop) (Inv : List X → β → Prop) (Tr : β → List Ent) (Jx : Code → γ → Prop) (Tx : γ → List Ent) (b0 : β)
    (hg : knownB L g = some (.func (.func gf) #[] lb)) (eg : ∀ args w, (callFunc gf args).run P w = .ok (.enter gf args) w) (hps : ∀ x, (encs x).size = ps.size) (hpn : (ps.toList.all fun p => Nat.blt p n) = true)
    (hseq : IterC P gf lb encs w0 Es Ex S Sp) (h0 : Inv [] b0) (hT0 : Es ++ Tr b0 = T)
    (hbody : ∀ (l : Nat) (z e1 e1b e2 : Ent) (pre : List X) (x : X) (b : β) (B : Act → World → Prop), (z.wr = true → z.own = true) → Inv pre b → Sp (pre ++ [x]) →
      (∀ L' Xs R, Cont [] ((Mode.round P l).wp body (RQ w0 Inv Tr Es Jx Tx z e1b e2 (pre ++ [x]))) n w0 L' (Xs ++ e1b :: R) → Cont [] B n w0 L' (Xs ++ e1 :: R)) →
      Cont [] ((Mode.round P l).wp assign (Exit.then B (fun _ _ _ => False))) n w0 ((ps.toList.zip (encs x).toList).reverse ++ L) (Ex x ++ z :: e1 :: e2 :: (Es ++ Tr b)))
    (hdone : ∀ (D : Nat) (xs : List X) (b : β), S xs → Inv xs b → Cont [coll D] (Q .normal) n w0 L (markE D :: (Es ++ Tr b)))
    (hret : ∀ (D : Nat) (c : γ), Jx .ret c → Cont [coll D] (Q .ret) n w0 L (markE D :: Tx c))
    (hexit : ∀ (D id : Nat) (c : γ), Jx (.exit id) c → Cont [coll D] (Q (.exit id)) n w0 L (markE D :: Tx c)) :
    Cont [] ((Code.rangeFunc g ps assign body).wp P Q) n w0 L T := by
  subst hT0
  intro a w ha hf hT
  refine (wpIn_wide (n := 0)).1 (wpIn_rangeFunc ?_)
  intro fn _
  obtain ⟨rec, hrec⟩ : ∃ rec : LoopState → Option Code → Loop, rec = fun st pe => { state := st, pending := pe, fn, tmps := a.tmps, params := ps, assign, body, defers := w.heap.size } := ⟨_, rfl⟩
  have hTab := (hT.allocObj (.deferred (some []))).allocObj (.loop (rec .ready none))
  rw [World.size_alloc] at hTab
  obtain ⟨W1, hW1⟩ : ∃ W1, (w.alloc (.deferred (some []))).alloc (.loop (rec .ready none)) = W1 := ⟨_, rfl⟩
  rw [hW1] at hTab
  have hgv : a.eval g = .func (.func gf) #[] lb := knownB_eval hf hg
  refine ⟨w.heap.size + 1, [coll w.heap.size], W1, { target := .fn (.func gf) lb, args := #[.func (.yield (w.heap.size + 1)) #[] #[]] }, W1, gf, #[.func (.yield (w.heap.size + 1)) #[] #[]] ++ lb, W1, by rw [← hW1, hrec]; exact run_enterLoop_outer _ _ _ _ _, ?_, fun _ _ => trivial, ?_, (fun h => by cases h), ?_⟩
  · simp only [resolve, hgv]
    simp [go_sem]
  · simp [invoke, go_sem, eg]
  · have key := hseq Inv Tr (fun W => ∃ c d, Jx c d ∧ (c = .ret ∨ ∃ id, c = .exit id) ∧ Tab w0 W (objE (w.heap.size + 1) (.loop (rec .done (some c))) :: markE w.heap.size :: Tx d)) (w.heap.size + 1) (objE (w.heap.size + 1) (.loop (rec .ready none))) (markE w.heap.size) W1 b0 ?_ ?_ h0 hTab
    · refine calls_open open_wide (key.mono ?_)
      rintro e W ⟨⟨v, rfl⟩, ⟨xs, b, hS, hi, hW⟩ | ⟨c, d, hj, hc, hW⟩⟩
      · have hl : W.heap[w.heap.size + 1]? = some (.loop (rec .ready none)) := hW.ok 0 _ rfl
        refine ⟨none, _, by rw [run_endLoop hl (by rw [hrec]; simp)]; rw [hrec], ?_⟩
        have hW2 := (hW.putObj (i := 0) rfl (.loop { rec .ready none with state := .exhausted })).drop (fun _ => rfl)
        refine hdone w.heap.size xs b hS hi _ _ (by simp [ha, coll]) hf (by rw [hrec] at hW2; exact hW2)
      · have hl : W.heap[w.heap.size + 1]? = some (.loop (rec .done (some c))) := hW.ok 0 _ rfl
        refine ⟨some c, _, by rw [run_endLoop hl (by rw [hrec]; simp)]; rw [hrec], ?_⟩
        have hW2 := (hW.putObj (i := 0) rfl (.loop { rec .done (some c) with state := .exhausted })).drop (fun _ => rfl)
        refine wpIn_wide.2 ?_
        rcases hc with rfl | ⟨id, rfl⟩
        · exact wp_ret (hret w.heap.size d hj _ _ (by simp [ha, coll]) hf (by rw [hrec] at hW2; exact hW2))
        · exact wp_exit (hexit w.heap.size id d hj _ _ (by simp [ha, coll]) hf (by rw [hrec] at hW2; exact hW2))
    · rintro wa wb ⟨c, d, h1, h2, h3⟩ hb
      exact ⟨c, d, h1, h2, h3.below hb⟩
    · -- one round
      intro pre x b W1 z hz hi hsp hW
      have hfr : FrOk n ((ps.zip (encs x)).foldl (fun tmps (t, v) => tmps.setIfInBounds t v) a.tmps) ((ps.toList.zip (encs x).toList).reverse ++ L) := by
        have := hf.puts ps.toList (encs x).toList hpn
        rw [← Array.foldl_toList, Array.toList_zip]
        exact this
      have hidx : (Ex x ++ z :: objE (w.heap.size + 1) (.loop (rec .ready none)) :: markE w.heap.size :: (Es ++ Tr b))[(Ex x).length + 1]? = some (objE (w.heap.size + 1) (.loop (rec .ready none))) := by simp [List.getElem?_append_right]
      have hl : W1.heap[w.heap.size + 1]? = some (.loop (rec .ready none)) := hW.ok _ _ hidx
      have hy := run_yield (P := P) (args := encs x) hl (by rw [hrec]; exact hps x)
      rw [hrec] at hy
      refine ⟨fn, _, assign, body, hy, roundIn_of_wpIn (F := Fence.wide) trivial ?_⟩
      refine hbody (w.heap.size + 1) z (objE (w.heap.size + 1) (.loop (rec .ready none))) (objE (w.heap.size + 1) (.loop { rec .ready none with state := .busy })) (markE w.heap.size) pre x b _ hz hi hsp ?_ _ W1 rfl hfr hW ?_
      rotate_left
      · rintro ⟨a', w', hq⟩; exact hq
      intro L' Xs R hB a' W2 ha' hf' hW2
      have hidx2 : (Xs ++ objE (w.heap.size + 1) (.loop (rec .ready none)) :: R)[Xs.length]? = some (objE (w.heap.size + 1) (.loop (rec .ready none))) := by simp
      have hl2 : W2.heap[w.heap.size + 1]? = some (.loop (rec .ready none)) := hW2.ok _ _ hidx2
      have hW3 := hW2.putObj hidx2 (.loop { rec .ready none with state := .busy })
      have hset : (Xs ++ objE (w.heap.size + 1) (.loop (rec .ready none)) :: R).set Xs.length (objE (w.heap.size + 1) (.loop { rec .ready none with state := .busy })) = Xs ++ objE (w.heap.size + 1) (.loop { rec .ready none with state := .busy }) :: R := by simp
      rw [hset] at hW3
      refine ⟨_, run_beginRound hl2 (by rw [hrec]), wpIn_mono (hB a' _ ha' hf' hW3 ?_) ?_⟩
      · rintro ⟨a', w', hq⟩; exact hq
      · intro e a'' W3 hq
        have fin : ∀ (jump : Option Code) (i : Nat) (T' : List Ent), T'[i]? = some (objE (w.heap.size + 1) (.loop { rec .ready none with state := .busy })) → Tab w0 W3 T' →
            (Instr.endRound (w.heap.size + 1) jump).run P W3 = .ok (.bool jump.isNone) (W3.putObj (w.heap.size + 1) (.loop (rec (if jump.isNone then .ready else .done) jump))) ∧ Tab w0 (W3.putObj (w.heap.size + 1) (.loop (rec (if jump.isNone then .ready else .done) jump))) (T'.set i (objE (w.heap.size + 1) (.loop (rec (if jump.isNone then .ready else .done) jump)))) := by
          intro jump i T' hi3 hW3
          have hl3 : W3.heap[w.heap.size + 1]? = some (.loop { rec .ready none with state := .busy }) := hW3.ok i _ hi3
          refine ⟨?_, hW3.putObj hi3 _⟩
          rw [run_endRound jump hl3, hrec]
        cases e with
        | normal =>
          obtain ⟨b', hi', hW3⟩ := hq
          obtain ⟨h1, h2⟩ := fin none 1 _ rfl hW3
          exact ⟨_, _, h1, .inl ⟨rfl, b', hi', h2⟩⟩
        | ret =>
          obtain ⟨c, hj, hW3⟩ := hq
          obtain ⟨h1, h2⟩ := fin (some .ret) 0 _ rfl hW3
          exact ⟨_, _, h1, .inr ⟨rfl, .ret, c, hj, .inl rfl, h2⟩⟩
        | exit id =>
          obtain ⟨c, hj, hW3⟩ := hq
          obtain ⟨h1, h2⟩ := fin (some (.exit id)) 0 _ rfl hW3
          exact ⟨_, _, h1, .inr ⟨rfl, .exit id, c, hj, .inr ⟨id, rfl⟩, h2⟩⟩
        | goto t => exact hq.elim
        | panic ch => exact hq.elim
        | outgrown => exact hq.elim
end
theorem Tab.weaken {w0 w : World} {T : List Ent} (hT : Tab w0 w T) {i : Nat} {e e0 : Ent} (hi : T[i]? = some e) (ho : e.own = true) (hv : Vw e e0) (hw : e0.wr = false) : Tab w0 w (T.set i e0) := by
  have hok := hT.ok i e hi
  refine ⟨hT.os, hT.tape, hT.output, hT.size, ?_, ?_, ?_, ?_⟩
  · intro j x hx
    rcases getElem?_set_cases _ _ _ _ _ hx with ⟨_, rfl⟩ | ⟨_, hx⟩
    · exact hv.ok w hok
    · exact hT.ok j x hx
  · intro k hk hno
    refine hT.frame k hk (fun j x hx hxw hb => ?_)
    by_cases hj : j = i
    · subst hj
      rw [hi] at hx; cases hx
      have := hT.own j e hi ho k hb; omega
    · exact hno j x (by rw [List.getElem?_set_ne (Ne.symm hj)]; exact hx) hxw hb
  · intro j x hx hxo k hk
    rcases getElem?_set_cases _ _ _ _ _ hx with ⟨_, rfl⟩ | ⟨_, hx⟩
    · rw [hv.own] at hxo; cases hxo
    · exact hT.own j x hx hxo k hk
  · intro j l x y hjl hx hy hxy k hk hk'
    rcases getElem?_set_cases _ _ _ _ _ hx with ⟨hji, rfl⟩ | ⟨hj, hx2⟩
    · rcases getElem?_set_cases _ _ _ _ _ hy with ⟨hli, rfl⟩ | ⟨hl, hy⟩
      · omega
      · rw [hw] at hxy
        exact hT.disj i l e y (Ne.symm hl) hi hy (.inr (hxy.resolve_left (by simp))) k (hv.blk w hok k hk) hk'
    · rcases getElem?_set_cases _ _ _ _ _ hy with ⟨hli, rfl⟩ | ⟨hl, hy⟩
      · rw [hw] at hxy
        exact hT.disj j i x e hj hx2 hi (.inl (hxy.resolve_right (by simp))) k hk (hv.blk w hok k hk')
      · exact hT.disj j l x y hjl hx2 hy hxy k hk hk'
theorem cont_weaken {dfs : List Deferred} {K : Act → World → Prop} {n : Nat} {w0 : World} {L : List (Nat × Value)} {T : List Ent} (i : Nat) (e0 : Ent) {e : Ent} (hi : T[i]? = some e) (ho : e.own = true) (hv : Vw e e0) (hw : e0.wr = false) (h : Cont dfs K n w0 L (T.set i e0)) : Cont dfs K n w0 L T :=
  fun a w ha hf hT => h a w ha hf (hT.weaken hi ho hv hw)
end Go.Proofs.YtlfahohbkgdabaaGreat
namespace Go.Proofs.YtlfahohbkgdabaaGreat
open Go Go.RowKit
def sameY (p r : Rect) : Prop := p.y0 = r.y0 ∧ p.y1 = r.y1
instance (p r : Rect) : Decidable (sameY p r) := inferInstanceAs (Decidable (_ ∧ _))
def part (l : List Rect) (a b : Nat) : List Rect := (l.drop a).take (b - a)
theorem bandR_mem {y y' : Int} {sp : Spans} {r : Rect} (h : r ∈ bandR y y' sp) : r.y0 = y ∧ r.y1 = y' ∧ ∃ s ∈ sp, r = spR y y' s := by
  unfold bandR at h
  rw [List.mem_reverse, List.mem_map] at h
  obtain ⟨s, hs, rfl⟩ := h
  exact ⟨rfl, rfl, s, hs, rfl⟩
theorem bandR_cons (y y' : Int) (s : Run Unit) (sp : Spans) : bandR y y' (s :: sp) = bandR y y' sp ++ [spR y y' s] := by simp [bandR]
theorem canR_small {l : List Rect} (h : l.length ≤ 14) : (canR l).length ≤ 784 := by
  have h1 := ysP_length l []
  have h2 := mgSt_length (al := fun a b _ => alikeL a b) (own := fun i => bandP orB l [] ((ysP l []).getD i 0) ((ysP l []).getD (i + 1) 0)) (ys := ysP l []) (m := 2 * (l.length + 0)) (fun i => bandP_length orB l [] _ _) ((ysP l []).length - 1)
  simp only [List.length_nil] at h1
  have h3 : ((ysP l []).length - 1) * (2 * (l.length + 0)) ≤ 28 * 28 := Nat.mul_le_mul (by omega) (by omega)
  unfold canR regM mgL
  rw [List.length_append]
  omega
end Go.Proofs.YtlfahohbkgdabaaGreat
namespace Go.Proofs.YtlfahohbkgdabaaGreat
open Go Go.RowKit
def rowP (y x : Int) (k : Nat) : List (Int × Int) := (List.range k).map fun i => (x + ((i : Nat) : Int), y)
def rectP (r : Rect) (j : Nat) : List (Int × Int) := (List.range j).flatMap fun q => rowP (r.y0 + ((q : Nat) : Int)) r.x0 (Int.toNat (r.x1 - r.x0))
def regP (l : List Rect) : List (Int × Int) := l.flatMap fun r => rectP r (Int.toNat (r.y1 - r.y0))
theorem rectP_succ (r : Rect) (j : Nat) : rectP r (j + 1) = rectP r j ++ rowP (r.y0 + ((j : Nat) : Int)) r.x0 (Int.toNat (r.x1 - r.x0)) := by simp [rectP, List.range_succ, List.flatMap_append]
theorem rowP_mem {y x : Int} {k : Nat} {p : Int × Int} : p ∈ rowP y x k ↔ p.2 = y ∧ x ≤ p.1 ∧ p.1 < x + ((k : Nat) : Int) := by
  unfold rowP
  rw [List.mem_map]
  constructor
  · rintro ⟨i, hi, rfl⟩
    have := List.mem_range.1 hi
    exact ⟨rfl, by simp only; omega, by simp only; omega⟩
  · rintro ⟨h1, h2, h3⟩
    exact ⟨Int.toNat (p.1 - x), List.mem_range.2 (by omega), Prod.ext (by simp only; omega) h1.symm⟩
theorem rectP_mem {r : Rect} {p : Int × Int} : p ∈ rectP r (Int.toNat (r.y1 - r.y0)) ↔ hasB r.x0 r.y0 r.x1 r.y1 p.1 p.2 = true := by
  unfold rectP
  rw [List.mem_flatMap, hasB_true]
  constructor
  · rintro ⟨q, hq, hp⟩
    have h1 := List.mem_range.1 hq
    obtain ⟨h2, h3, h4⟩ := rowP_mem.1 hp
    omega
  · rintro ⟨h1, h2, h3, h4⟩
    exact ⟨Int.toNat (p.2 - r.y0), List.mem_range.2 (by omega), rowP_mem.2 ⟨by omega, by omega, by omega⟩⟩
theorem regP_mem {l : List Rect} {p : Int × Int} : p ∈ regP l ↔ hasL l p.1 p.2 = true := by
  unfold regP hasL
  rw [List.mem_flatMap, List.any_eq_true]
  constructor
  · rintro ⟨r, hr, hp⟩; exact ⟨r, hr, rectP_mem.1 hp⟩
  · rintro ⟨r, hr, hp⟩; exact ⟨r, hr, rectP_mem.2 hp⟩
theorem rowP_nodup (y x : Int) (k : Nat) : (rowP y x k).Nodup := by
  unfold rowP
  refine List.pairwise_map.2 (List.Pairwise.imp ?_ (List.nodup_range (n := k)))
  intro a b hab h
  have := congrArg Prod.fst h
  simp only at this
  omega
theorem rectP_nodup (r : Rect) (j : Nat) : (rectP r j).Nodup := by
  unfold rectP
  refine List.pairwise_flatMap.2 ⟨fun q _ => rowP_nodup _ _ _, List.Pairwise.imp ?_ (List.nodup_range (n := j))⟩
  intro a b hab p hp q hq h
  have h1 := (rowP_mem.1 hp).1
  have h2 := (rowP_mem.1 hq).1
  rw [h] at h1
  omega
def DisR (r s : Rect) : Prop := ∀ x y, ¬ (hasB r.x0 r.y0 r.x1 r.y1 x y = true ∧ hasB s.x0 s.y0 s.x1 s.y1 x y = true)
theorem band_dis {y y' : Int} : ∀ {sp : Spans}, RunsOk sp → (bandR y y' sp).Pairwise DisR := by
  intro sp
  induction sp with
  | nil => intro _; exact List.Pairwise.nil
  | cons s sp ih =>
    intro h
    rw [bandR_cons]
    refine List.pairwise_append.2 ⟨ih h.tail, List.pairwise_singleton _ _, ?_⟩
    intro r hr q hq x z hh
    obtain ⟨_, _, u, hu, rfl⟩ := bandR_mem hr
    have hq : q = spR y y' s := by simpa using hq
    subst hq
    have h1 := hasB_true.1 hh.1
    have h2 := hasB_true.1 hh.2
    have := h.below u hu
    simp only [spR] at h1 h2
    omega
theorem flat_dis : ∀ {bs : Bands}, BandsOk bs → (flatR bs).Pairwise DisR := by
  intro bs h
  have hr := h.runs
  have he := h.each
  clear h
  induction bs with
  | nil => exact List.Pairwise.nil
  | cons b t ih =>
    rw [flatR]
    refine List.pairwise_append.2 ⟨ih hr.tail (fun c hc => he c (List.mem_cons_of_mem _ hc)), band_dis (he b (List.mem_cons_self ..)).1, ?_⟩
    intro r hr' q hq x z hh
    obtain ⟨c, hc, s, _, rfl⟩ := flatR_mem hr'
    obtain ⟨h3, _, _⟩ := bandR_mem hq
    have h1 := hasB_true.1 hh.1
    have h2 := hasB_true.1 hh.2
    have := hr.below c hc
    simp only at h1 h2
    omega
theorem regP_nodup {l : List Rect} {F : Int → Int → Bool} (h : IsReg l F) : (regP l).Nodup := by
  obtain ⟨bs, h1, rfl, _⟩ := h
  unfold regP
  refine List.pairwise_flatMap.2 ⟨fun r _ => rectP_nodup _ _, List.Pairwise.imp ?_ (flat_dis h1)⟩
  intro r s hd p hp q hq e
  subst e
  exact hd p.1 p.2 ⟨rectP_mem.1 hp, rectP_mem.1 hq⟩
end Go.Proofs.YtlfahohbkgdabaaGreat
namespace Go.Proofs.YtlfahohbkgdabaaGreat
open Go Go.RowKit
theorem pt_eq {W : Int} {p : Int × Int} {k : Nat} (h1 : 0 ≤ p.1) (h2 : p.1 < W) (h3 : 0 ≤ p.2) (e : (p.2 * W + p.1).toNat = k) : p = (((k : Nat) : Int) % W, ((k : Nat) : Int) / W) := by
  have h4 : 0 ≤ p.2 * W := Int.mul_nonneg h3 (by omega)
  have h5 : ((k : Nat) : Int) = p.1 + p.2 * W := by omega
  refine Prod.ext ?_ ?_
  · simp only; rw [h5, Int.add_mul_emod_self_right, Int.emod_eq_of_lt h1 h2]
  · simp only; rw [h5, Int.add_mul_ediv_right _ _ (by omega), Int.ediv_eq_zero_of_lt h1 h2]; omega
def OnImg (W H : Int) (R : List Rect) : Prop := ∀ x y, hasL R x y = true → 0 ≤ x ∧ x < W ∧ 0 ≤ y ∧ y < H
def cntL (W : Int) (n : Nat) (R : List Rect) : Nat := ((List.range n).filter fun k => hasL R (((k : Nat) : Int) % W) (((k : Nat) : Int) / W)).length
theorem cntL_le (W : Int) (n : Nat) (R : List Rect) : cntL W n R ≤ n := by
  have := List.length_filter_le (fun k => hasL R (((k : Nat) : Int) % W) (((k : Nat) : Int) / W)) (List.range n)
  simpa [cntL] using this
theorem nodup_len_le {α : Type} [DecidableEq α] : ∀ {a b : List α}, a.Nodup → (∀ x ∈ a, x ∈ b) → a.length ≤ b.length := by
  intro a
  induction a with
  | nil => intro b _ _; simp
  | cons x a ih =>
    intro b hn hs
    have hx : x ∈ b := hs x (List.mem_cons_self ..)
    have h1 := ih (b := b.erase x) (List.nodup_cons.1 hn).2 (fun y hy => by
      refine (List.mem_erase_of_ne ?_).2 (hs y (List.mem_cons_of_mem _ hy))
      intro e; subst e; exact (List.nodup_cons.1 hn).1 hy)
    have h2 := List.length_erase_of_mem hx
    have h3 := List.length_pos_of_mem hx
    simp only [List.length_cons]
    omega
theorem regP_len {W H : Int} {n : Nat} {R : List Rect} {F : Int → Int → Bool} (hR : IsReg R F) (hin : OnImg W H R) (hW : 1 ≤ W) (hn : (n : Int) = W * H) : (regP R).length = cntL W n R := by
  have e : cntL W n R = (((List.range n).filter fun k => hasL R (((k : Nat) : Int) % W) (((k : Nat) : Int) / W)).map fun k : Nat => ((((k : Nat) : Int) % W, ((k : Nat) : Int) / W) : Int × Int)).length := by simp [cntL]
  rw [e]
  refine Nat.le_antisymm (nodup_len_le (regP_nodup hR) ?_) (nodup_len_le ?_ ?_)
  · intro p hp
    have hh := regP_mem.1 hp
    obtain ⟨h1, h2, h3, h4⟩ := hin _ _ hh
    have h5 : 0 ≤ p.2 * W := Int.mul_nonneg h3 (by omega)
    have h6 : (p.2 + 1) * W ≤ H * W := Int.mul_le_mul_of_nonneg_right (by omega) (by omega)
    have h7 : (p.2 + 1) * W = p.2 * W + W := by rw [Int.add_mul]; omega
    have h8 : H * W = (n : Int) := by rw [hn, Int.mul_comm]
    have hp2 := pt_eq (k := (p.2 * W + p.1).toNat) h1 h2 h3 rfl
    refine List.mem_map.2 ⟨(p.2 * W + p.1).toNat, List.mem_filter.2 ⟨List.mem_range.2 (by omega), ?_⟩, hp2.symm⟩
    rw [← show p.1 = ((((p.2 * W + p.1).toNat : Nat) : Int) % W) from congrArg Prod.fst hp2, ← show p.2 = ((((p.2 * W + p.1).toNat : Nat) : Int) / W) from congrArg Prod.snd hp2]
    exact hh
  · refine List.pairwise_map.2 (List.Pairwise.imp ?_ (List.Pairwise.filter _ (List.nodup_range (n := n))))
    intro a b hab h
    have h1 := Int.emod_add_mul_ediv (a : Int) W
    have h2 := Int.emod_add_mul_ediv (b : Int) W
    have h3 := congrArg Prod.fst h
    have h4 := congrArg Prod.snd h
    simp only at h3 h4
    rw [h3, h4] at h1
    omega
  · intro p hp
    obtain ⟨k, hk, rfl⟩ := List.mem_map.1 hp
    exact regP_mem.2 (List.mem_filter.1 hk).2
theorem reg_in {R : List Rect} {F : Int → Int → Bool} {W H : Int} (hR : IsReg R F) (hin : OnImg W H R) : ∀ r ∈ R, 0 ≤ r.x0 ∧ r.x0 < r.x1 ∧ r.x1 ≤ W ∧ 0 ≤ r.y0 ∧ r.y0 < r.y1 ∧ r.y1 ≤ H := by
  intro r hr
  obtain ⟨bs, h1, e, _⟩ := hR
  subst e
  obtain ⟨b, hb, s, hs, rfl⟩ := flatR_mem hr
  have g1 := h1.runs.lt b hb
  have g2 := (h1.each b hb).1.lt s hs
  have k1 := hin s.1 b.1 (List.any_eq_true.2 ⟨_, hr, hasB_true.2 ⟨by simp only; omega, by simp only; omega, by simp only; omega, by simp only; omega⟩⟩)
  have k2 := hin (s.2.1 - 1) (b.2.1 - 1) (List.any_eq_true.2 ⟨_, hr, hasB_true.2 ⟨by simp only; omega, by simp only; omega, by simp only; omega, by simp only; omega⟩⟩)
  simp only
  omega
theorem onImg_can {W H : Int} {b : List Rect} (hb : OnImg W H b) : OnImg W H (canR b) := fun x y h => hb x y (by rw [← hasL_can]; exact h)
end Go.Proofs.YtlfahohbkgdabaaGreat
namespace Go.Proofs.YtlfahohbkgdabaaGreat
open Go Go.RowKit
set_option maxRecDepth 100000
set_option maxHeartbeats 8000000
theorem payWithin (Az : Option Addr) (gz oz nz capz : Nat) (xsz : List Rect) (a b c d : Int) (w : World) (hT0 : Tab w w [rD (Az) gz oz nz 4 (rvals xsz)]) (hnz : nz ≤ 200000) (hcz : (canR xsz).length ≤ 200000) :
    Calls Tryz.prog 85 #[.slice Az nz capz, .agg #[iQ a, iQ b, iQ c, iQ d]] w fun e w' => ∃ (A_ : Option Addr) (g_ k_ cp_ : Nat), e = .returned (.slice A_ k_ cp_) ∧ Tab w w' [.gen (rowE (A_) g_ k_ cp_ 32 4 (rvals (regM andB (canR xsz) (canR [(⟨a, b, c, d⟩ : Rect)]))) true)] := by
 obtain ⟨hraz, hrlz⟩ := Rd.factsR (hT0.ok 0 _ rfl)
 have hcb_ := canR_small (l := [(⟨a, b, c, d⟩ : Rect)]) (by simp)
 refine enter 11 [(0, .slice Az nz capz), (1, .agg #[iq a, iq b, iq c, iq d])] [rD (Az) gz oz nz 4 (rvals xsz)] Tryz.func85 rfl Tryz.ntmps85 rfl (by kernel_rfl) hT0 ?_
 refine cSq <| cRg 2 rfl ?_
 refine batch1 [0, 0] 2 0 (fun b1 => [(0, .slice Az nz capz), (3, .pointer (pB b1))]) (fun b1 => [.cells b1 [iq a, iq b, iq c, iq d] 32 true, rD (Az) gz oz nz 4 (rvals xsz)]) rfl rfl [0, 3] (fun _ => rfl) (fun b1 => by kernel_rfl) (fun b1 => by kernel_rfl) (fun b1 => ?_)
 refine cDn <| tNo <| cSq <| drawn_enter 7 [] rfl (by kernel_rfl) ?_
 refine tD 0 [] [(0, 0), (2, 0)] 5 [2, 0] [(5, .slice Az nz capz), (7, .agg #[iq a, iq b, iq c, iq d])] [] ?_
 refine drawn_two 1 3 4 rfl (by kernel_rfl) ?_ ?_
 ·
  refine call_gen (d := 6) (α := Option Addr × Nat × Nat × Nat) (fun x_ => .slice x_.1 x_.2.2.1 x_.2.2.2) (fun x_ => [.gen (rowE (x_.1) x_.2.1 x_.2.2.1 x_.2.2.2 32 4 (rvals (canR xsz)) true), .cells b1 [iq a, iq b, iq c, iq d] 32 true, rD (Az) gz oz nz 4 (rvals xsz)]) (fun x_ => True) (by kernel_rfl) (fun w hT => (regOf Az gz oz nz capz xsz w (hT.viewRo (.cons (i := 1) rfl Vw.rd .nil) rfl) (by omega)).mono fun e w' ⟨A2, g3, k4, cp5, he_, ht_⟩ => ⟨(A2, g3, k4, cp5), he_, trivial, hT.news ht_ rfl⟩) ?_
  rintro ⟨A2, g3, k4, cp5⟩ hf6_
  refine cont_fact (F := (0 < k4 → (A2 : Option Addr) = pB g3) ∧ (canR xsz).length = k4 ∧ k4 ≤ cp5 ∧ cp5 ≤ maxLen) (fun w hT => Row.factsR (hT.ok 0 _ rfl)) (fun hr7_ => ?_)
  obtain ⟨hr7_a, hr7_l, hr7_c, hr7_m⟩ := hr7_
  unfold maxLen at hr7_m
  refine dNx 1 [] (by kernel_rfl) ?_
  refine dOn 3 3 rfl (by kernel_rfl) ?_
  refine one_step1 0 (fun b8 => [(6, .slice A2 k4 cp5), (8, .slice (pB b8) 1 1)]) (fun b8 => [.cells b8 [iq a, iq b, iq c, iq d] 32 true, .gen (rowE (A2) g3 k4 cp5 32 4 (rvals (canR xsz)) true), .cells b1 [iq a, iq b, iq c, iq d] 32 true, rD (Az) gz oz nz 4 (rvals xsz)]) (fun b8 => by kernel_rfl) (fun b8 => by kernel_rfl) (fun b8 => ?_)
  refine dNx 2 [] (by kernel_rfl) ?_
  refine dOn 4 2 rfl (by kernel_rfl) ?_
  refine cont_asRow 0 1 4 rfl (vals := rvals [(⟨a, b, c, d⟩ : Rect)]) rfl rfl (by decide) ?_
  refine call_gen (d := 9) (α := Option Addr × Nat × Nat × Nat) (fun x_ => .slice x_.1 x_.2.2.1 x_.2.2.2) (fun x_ => [.gen (rowE (x_.1) x_.2.1 x_.2.2.1 x_.2.2.2 32 4 (rvals (canR [(⟨a, b, c, d⟩ : Rect)])) true), .gen (rowE (pB b8) b8 1 1 32 4 (rvals [(⟨a, b, c, d⟩ : Rect)]) true), .gen (rowE (A2) g3 k4 cp5 32 4 (rvals (canR xsz)) true), .cells b1 [iq a, iq b, iq c, iq d] 32 true, rD (Az) gz oz nz 4 (rvals xsz)]) (fun x_ => True) (by kernel_rfl) (fun w hT => (regOf (pB b8) b8 0 1 1 [(⟨a, b, c, d⟩ : Rect)] w (hT.viewRo (.cons (i := 0) rfl Vw.rowRd .nil) rfl) (by omega)).mono fun e w' ⟨A9, g10, k11, cp12, he_, ht_⟩ => ⟨(A9, g10, k11, cp12), he_, trivial, hT.news ht_ rfl⟩) ?_
  rintro ⟨A9, g10, k11, cp12⟩ hf13_
  refine cont_fact (F := (0 < k11 → (A9 : Option Addr) = pB g10) ∧ (canR [(⟨a, b, c, d⟩ : Rect)]).length = k11 ∧ k11 ≤ cp12 ∧ cp12 ≤ maxLen) (fun w hT => Row.factsR (hT.ok 0 _ rfl)) (fun hr14_ => ?_)
  obtain ⟨hr14_a, hr14_l, hr14_c, hr14_m⟩ := hr14_
  unfold maxLen at hr14_m
  refine dNx 3 [] (by kernel_rfl) ?_
  refine dOn 5 1 rfl (by kernel_rfl) ?_
  refine call_gen (d := 10) (α := Option Addr × Nat × Nat × Nat) (fun x_ => .slice x_.1 x_.2.2.1 x_.2.2.2) (fun x_ => [.gen (rowE (x_.1) x_.2.1 x_.2.2.1 x_.2.2.2 32 4 (rvals (regM andB (canR xsz) (canR [(⟨a, b, c, d⟩ : Rect)]))) true), .gen (rowE (A9) g10 k11 cp12 32 4 (rvals (canR [(⟨a, b, c, d⟩ : Rect)])) true), .gen (rowE (pB b8) b8 1 1 32 4 (rvals [(⟨a, b, c, d⟩ : Rect)]) true), .gen (rowE (A2) g3 k4 cp5 32 4 (rvals (canR xsz)) true), .cells b1 [iq a, iq b, iq c, iq d] 32 true, rD (Az) gz oz nz 4 (rvals xsz)]) (fun x_ => True) (by kernel_rfl) (fun w hT => (regCut A2 g3 0 k4 cp5 (canR xsz) A9 g10 0 k11 cp12 (canR [(⟨a, b, c, d⟩ : Rect)]) w (hT.viewRo (.cons (i := 2) rfl Vw.rowRd (.cons (i := 0) rfl Vw.rowRd .nil)) rfl) (by omega)).mono fun e w' ⟨A15, g16, k17, cp18, he_, ht_⟩ => ⟨(A15, g16, k17, cp18), he_, trivial, hT.news ht_ rfl⟩) ?_
  rintro ⟨A15, g16, k17, cp18⟩ hf19_
  refine cont_fact (F := (0 < k17 → (A15 : Option Addr) = pB g16) ∧ (regM andB (canR xsz) (canR [(⟨a, b, c, d⟩ : Rect)])).length = k17 ∧ k17 ≤ cp18 ∧ cp18 ≤ maxLen) (fun w hT => Row.factsR (hT.ok 0 _ rfl)) (fun hr20_ => ?_)
  obtain ⟨hr20_a, hr20_l, hr20_c, hr20_m⟩ := hr20_
  unfold maxLen at hr20_m
  refine dNx 4 [] (by kernel_rfl) ?_
  refine tD 4 [] [(6, 0)] 0 [6, 5, 4, 3, 1, 2, 0] [(4, .slice A15 k17 cp18)] [] ?_
  refine drawn_done (by kernel_rfl) ?_
  refine tNo <| cont_ret ?_
  refine ret_one (.inl rfl) rfl 0 (.slice A15 k17 cp18) (by kernel_rfl) (by kernel_rfl) (fun w hT => ?_)
  replace hT := hT.erase 5 (fun e h hw => by cases h; first | rfl | cases hw)
  replace hT := hT.erase 4 (fun e h hw => by cases h; first | rfl | cases hw)
  replace hT := hT.erase 3 (fun e h hw => by cases h; first | rfl | cases hw)
  replace hT := hT.erase 2 (fun e h hw => by cases h; first | rfl | cases hw)
  replace hT := hT.erase 1 (fun e h hw => by cases h; first | rfl | cases hw)
  exact ⟨_, _, _, _, rfl, hT⟩
 refine one_step1 0 (fun b21 => [(5, .slice Az nz capz), (8, .slice (pB b21) 1 1)]) (fun b21 => [.cells b21 [iq a, iq b, iq c, iq d] 32 true, .cells b1 [iq a, iq b, iq c, iq d] 32 true, rD (Az) gz oz nz 4 (rvals xsz)]) (fun b21 => by kernel_rfl) (fun b21 => by kernel_rfl) (fun b21 => ?_)
 refine dNx 1 [] (by kernel_rfl) ?_
 refine dOn 1 3 rfl (by kernel_rfl) ?_
 refine call_gen (d := 6) (α := Option Addr × Nat × Nat × Nat) (fun x_ => .slice x_.1 x_.2.2.1 x_.2.2.2) (fun x_ => [.gen (rowE (x_.1) x_.2.1 x_.2.2.1 x_.2.2.2 32 4 (rvals (canR xsz)) true), .cells b21 [iq a, iq b, iq c, iq d] 32 true, .cells b1 [iq a, iq b, iq c, iq d] 32 true, rD (Az) gz oz nz 4 (rvals xsz)]) (fun x_ => True) (by kernel_rfl) (fun w hT => (regOf Az gz oz nz capz xsz w (hT.viewRo (.cons (i := 2) rfl Vw.rd .nil) rfl) (by omega)).mono fun e w' ⟨A22, g23, k24, cp25, he_, ht_⟩ => ⟨(A22, g23, k24, cp25), he_, trivial, hT.news ht_ rfl⟩) ?_
 rintro ⟨A22, g23, k24, cp25⟩ hf26_
 refine cont_fact (F := (0 < k24 → (A22 : Option Addr) = pB g23) ∧ (canR xsz).length = k24 ∧ k24 ≤ cp25 ∧ cp25 ≤ maxLen) (fun w hT => Row.factsR (hT.ok 0 _ rfl)) (fun hr27_ => ?_)
 obtain ⟨hr27_a, hr27_l, hr27_c, hr27_m⟩ := hr27_
 unfold maxLen at hr27_m
 refine dNx 2 [] (by kernel_rfl) ?_
 refine dOn 4 2 rfl (by kernel_rfl) ?_
 refine cont_asRow 1 1 4 rfl (vals := rvals [(⟨a, b, c, d⟩ : Rect)]) rfl rfl (by decide) ?_
 refine call_gen (d := 9) (α := Option Addr × Nat × Nat × Nat) (fun x_ => .slice x_.1 x_.2.2.1 x_.2.2.2) (fun x_ => [.gen (rowE (x_.1) x_.2.1 x_.2.2.1 x_.2.2.2 32 4 (rvals (canR [(⟨a, b, c, d⟩ : Rect)])) true), .gen (rowE (A22) g23 k24 cp25 32 4 (rvals (canR xsz)) true), .gen (rowE (pB b21) b21 1 1 32 4 (rvals [(⟨a, b, c, d⟩ : Rect)]) true), .cells b1 [iq a, iq b, iq c, iq d] 32 true, rD (Az) gz oz nz 4 (rvals xsz)]) (fun x_ => True) (by kernel_rfl) (fun w hT => (regOf (pB b21) b21 0 1 1 [(⟨a, b, c, d⟩ : Rect)] w (hT.viewRo (.cons (i := 1) rfl Vw.rowRd .nil) rfl) (by omega)).mono fun e w' ⟨A28, g29, k30, cp31, he_, ht_⟩ => ⟨(A28, g29, k30, cp31), he_, trivial, hT.news ht_ rfl⟩) ?_
 rintro ⟨A28, g29, k30, cp31⟩ hf32_
 refine cont_fact (F := (0 < k30 → (A28 : Option Addr) = pB g29) ∧ (canR [(⟨a, b, c, d⟩ : Rect)]).length = k30 ∧ k30 ≤ cp31 ∧ cp31 ≤ maxLen) (fun w hT => Row.factsR (hT.ok 0 _ rfl)) (fun hr33_ => ?_)
 obtain ⟨hr33_a, hr33_l, hr33_c, hr33_m⟩ := hr33_
 unfold maxLen at hr33_m
 refine dNx 3 [] (by kernel_rfl) ?_
 refine dOn 5 1 rfl (by kernel_rfl) ?_
 refine call_gen (d := 10) (α := Option Addr × Nat × Nat × Nat) (fun x_ => .slice x_.1 x_.2.2.1 x_.2.2.2) (fun x_ => [.gen (rowE (x_.1) x_.2.1 x_.2.2.1 x_.2.2.2 32 4 (rvals (regM andB (canR xsz) (canR [(⟨a, b, c, d⟩ : Rect)]))) true), .gen (rowE (A28) g29 k30 cp31 32 4 (rvals (canR [(⟨a, b, c, d⟩ : Rect)])) true), .gen (rowE (A22) g23 k24 cp25 32 4 (rvals (canR xsz)) true), .gen (rowE (pB b21) b21 1 1 32 4 (rvals [(⟨a, b, c, d⟩ : Rect)]) true), .cells b1 [iq a, iq b, iq c, iq d] 32 true, rD (Az) gz oz nz 4 (rvals xsz)]) (fun x_ => True) (by kernel_rfl) (fun w hT => (regCut A22 g23 0 k24 cp25 (canR xsz) A28 g29 0 k30 cp31 (canR [(⟨a, b, c, d⟩ : Rect)]) w (hT.viewRo (.cons (i := 1) rfl Vw.rowRd (.cons (i := 0) rfl Vw.rowRd .nil)) rfl) (by omega)).mono fun e w' ⟨A34, g35, k36, cp37, he_, ht_⟩ => ⟨(A34, g35, k36, cp37), he_, trivial, hT.news ht_ rfl⟩) ?_
 rintro ⟨A34, g35, k36, cp37⟩ hf38_
 refine cont_fact (F := (0 < k36 → (A34 : Option Addr) = pB g35) ∧ (regM andB (canR xsz) (canR [(⟨a, b, c, d⟩ : Rect)])).length = k36 ∧ k36 ≤ cp37 ∧ cp37 ≤ maxLen) (fun w hT => Row.factsR (hT.ok 0 _ rfl)) (fun hr39_ => ?_)
 obtain ⟨hr39_a, hr39_l, hr39_c, hr39_m⟩ := hr39_
 unfold maxLen at hr39_m
 refine dNx 4 [] (by kernel_rfl) ?_
 refine tD 4 [] [(6, 0)] 0 [6, 5, 4, 1, 3, 2, 0] [(4, .slice A34 k36 cp37)] [] ?_
 refine drawn_done (by kernel_rfl) ?_
 refine tNo <| cont_ret ?_
 refine ret_one (.inl rfl) rfl 0 (.slice A34 k36 cp37) (by kernel_rfl) (by kernel_rfl) (fun w hT => ?_)
 replace hT := hT.erase 5 (fun e h hw => by cases h; first | rfl | cases hw)
 replace hT := hT.erase 4 (fun e h hw => by cases h; first | rfl | cases hw)
 replace hT := hT.erase 3 (fun e h hw => by cases h; first | rfl | cases hw)
 replace hT := hT.erase 2 (fun e h hw => by cases h; first | rfl | cases hw)
 replace hT := hT.erase 1 (fun e h hw => by cases h; first | rfl | cases hw)
 exact ⟨_, _, _, _, rfl, hT⟩
end Go.Proofs.YtlfahohbkgdabaaGreat
namespace Go.Proofs.YtlfahohbkgdabaaGreat
open Go Go.RowKit
end Go.Proofs.YtlfahohbkgdabaaGreat
namespace Go.Proofs.YtlfahohbkgdabaaGreat
open Go Go.RowKit
variable {dfs : List Deferred}
end Go.Proofs.YtlfahohbkgdabaaGreat
namespace Go.Proofs.YtlfahohbkgdabaaGreat
open Go Go.RowKit
theorem ImgOk.get {W H : Int} {n : Nat} {px : List Int} (hok : ImgOk W H n px) {k : Nat} (hk : k < n) : InC (px.getD k 0) := by
  rw [List.getD_eq_getElem?_getD, List.getElem?_eq_getElem (by rw [hok.len]; exact hk)]
  exact hok.rng _ (List.getElem_mem _)
theorem rowP_length (y x : Int) (k : Nat) : (rowP y x k).length = k := by simp [rowP]
theorem rectP_length (r : Rect) (j : Nat) : (rectP r j).length = j * Int.toNat (r.x1 - r.x0) := by
  induction j with
  | zero => simp [rectP]
  | succ j ih => rw [rectP_succ, List.length_append, ih, rowP_length, Nat.succ_mul]
end Go.Proofs.YtlfahohbkgdabaaGreat
namespace Go.Proofs.YtlfahohbkgdabaaGreat
open Go Go.RowKit
theorem regP_area : ∀ {R : List Rect}, (∀ r ∈ R, emptyR r = false) → (((regP R).length : Nat) : Int) = areaL R := by
  intro R
  induction R with
  | nil => intro _; rfl
  | cons r R ih =>
    intro h
    have h1 := emptyB_false.1 (show emptyB r.x0 r.y0 r.x1 r.y1 = false from h r (List.mem_cons_self ..))
    have e : regP (r :: R) = rectP r (Int.toNat (r.y1 - r.y0)) ++ regP R := by simp [regP]
    have e2 : areaL (r :: R) = areaI r.x0 r.y0 r.x1 r.y1 + areaL R := by simp [areaL]
    rw [e, e2, List.length_append, Int.natCast_add, ih (fun q hq => h q (List.mem_cons_of_mem _ hq)), rectP_length]
    unfold areaI
    rw [if_neg (by rw [show emptyB r.x0 r.y0 r.x1 r.y1 = false from h r (List.mem_cons_self ..)]; simp), Int.natCast_mul, Int.toNat_of_nonneg (by omega), Int.toNat_of_nonneg (by omega), Int.mul_comm (r.y1 - r.y0)]
theorem reg_ne {R : List Rect} {F : Int → Int → Bool} {W H : Int} (hR : IsReg R F) (hin : OnImg W H R) : ∀ r ∈ R, emptyR r = false := fun r hr => by
  have := reg_in hR hin r hr
  exact emptyB_false.2 ⟨this.2.1, this.2.2.2.2.1⟩
theorem clear_area {W H : Int} {n : Nat} {R : List Rect} {F : Int → Int → Bool} (hR : IsReg R F) (hin : OnImg W H R) (hW : 1 ≤ W) (hn : (n : Int) = W * H) : areaL R = ((cntL W n R : Nat) : Int) := by
  rw [← regP_len hR hin hW hn, regP_area (reg_ne hR hin)]
end Go.Proofs.YtlfahohbkgdabaaGreat
namespace Go.Proofs.YtlfahohbkgdabaaGreat
open Go Go.RowKit
set_option maxRecDepth 100000
set_option maxHeartbeats 8000000
end Go.Proofs.YtlfahohbkgdabaaGreat
namespace Go.Proofs.YtlfahohbkgdabaaGreat
open Go Go.RowKit
def shQ (W H X Y s : Int) (r : Rect) : Rect := shwR W H X Y s r.x0 r.y0 r.x1 r.y1
theorem map_put {f : Rect → Rect} {R : List Rect} {i : Nat} (h : i < R.length) : (R.take i).map f ++ [(⟨(f (rget R i)).x0, (f (rget R i)).y0, (f (rget R i)).x1, (f (rget R i)).y1⟩ : Rect)] = (R.take (i + 1)).map f := by
  rw [take_succ_rget h, List.map_append]; rfl
theorem hasL_shown {W H X Y s : Int} (hs : 1 ≤ s ∧ s ≤ 8) (hX : -1000000 ≤ X ∧ X ≤ 1000000) (hY : -1000000 ≤ Y ∧ Y ≤ 1000000) (hw : 1 ≤ W ∧ W ≤ 256) (hh : 1 ≤ H ∧ H ≤ 256) (R : List Rect) (p q : Int) :
    hasL (R.map (shQ W H X Y s)) p q = (hasB 0 0 W H ((p - X) / s) ((q - Y) / s) && hasL R ((p - X) / s) ((q - Y) / s)) := by
  induction R with
  | nil => simp [hasL]
  | cons r R ih =>
    have e : hasL ((r :: R).map (shQ W H X Y s)) p q = (hasB (shQ W H X Y s r).x0 (shQ W H X Y s r).y0 (shQ W H X Y s r).x1 (shQ W H X Y s r).y1 p q || hasL (R.map (shQ W H X Y s)) p q) := by simp [hasL]
    have e2 : hasL (r :: R) ((p - X) / s) ((q - Y) / s) = (hasB r.x0 r.y0 r.x1 r.y1 ((p - X) / s) ((q - Y) / s) || hasL R ((p - X) / s) ((q - Y) / s)) := by simp [hasL]
    rw [e, e2, ih]
    unfold shQ
    rw [pcol_box hs hX hY hw hh]
    unfold pcolB
    cases hasB 0 0 W H ((p - X) / s) ((q - Y) / s) <;> simp
def placeP (W H X Y s : Int) (l : List Rect) (r : Rect) : List Rect := canR ((regM andB (canR l) (canR [r])).map (shQ W H X Y s))
theorem hasL_one (r : Rect) (x y : Int) : hasL [r] x y = hasB r.x0 r.y0 r.x1 r.y1 x y := by simp [hasL]
theorem hasL_place {W H X Y s : Int} (hs : 1 ≤ s ∧ s ≤ 8) (hX : -1000000 ≤ X ∧ X ≤ 1000000) (hY : -1000000 ≤ Y ∧ Y ≤ 1000000) (hw : 1 ≤ W ∧ W ≤ 256) (hh : 1 ≤ H ∧ H ≤ 256) (l : List Rect) (r : Rect) (p q : Int) :
    hasL (placeP W H X Y s l r) p q = (hasB 0 0 W H ((p - X) / s) ((q - Y) / s) && (hasB r.x0 r.y0 r.x1 r.y1 ((p - X) / s) ((q - Y) / s) && hasL l ((p - X) / s) ((q - Y) / s))) := by
  unfold placeP
  rw [hasL_can, hasL_shown hs hX hY hw hh, hasL_and, hasL_can, hasL_can, hasL_one]
  congr 1
  exact Bool.and_comm _ _
def plcL (W X Y s : Int) (B : Int → Int → Bool) (i : Nat) : List Rect := (List.range i).flatMap fun k => if B (((k : Nat) : Int) % W) (((k : Nat) : Int) / W) then [(⟨X + ((k : Nat) : Int) % W * s, Y + ((k : Nat) : Int) / W * s, X + ((k : Nat) : Int) % W * s + s, Y + ((k : Nat) : Int) / W * s + s⟩ : Rect)] else []
theorem plcL_zero (W X Y s : Int) (B : Int → Int → Bool) : plcL W X Y s B 0 = [] := rfl
theorem plcL_yes {W X Y s : Int} {B : Int → Int → Bool} {i : Nat} (h : B (((i : Nat) : Int) % W) (((i : Nat) : Int) / W) = true) : plcL W X Y s B i ++ [(⟨X + ((i : Nat) : Int) % W * s, Y + ((i : Nat) : Int) / W * s, X + ((i : Nat) : Int) % W * s + s, Y + ((i : Nat) : Int) / W * s + s⟩ : Rect)] = plcL W X Y s B (i + 1) := by
  simp [plcL, List.range_succ, List.flatMap_append, h]
theorem plcL_no {W X Y s : Int} {B : Int → Int → Bool} {i : Nat} (h : B (((i : Nat) : Int) % W) (((i : Nat) : Int) / W) = false) : plcL W X Y s B i = plcL W X Y s B (i + 1) := by
  simp [plcL, List.range_succ, List.flatMap_append, h]
theorem plcL_len (W X Y s : Int) (B : Int → Int → Bool) : ∀ i, (plcL W X Y s B i).length ≤ i := by
  intro i
  induction i with
  | zero => simp [plcL]
  | succ i ih =>
    cases h : B (((i : Nat) : Int) % W) (((i : Nat) : Int) / W) with
    | true => rw [← plcL_yes h, List.length_append]; simp; omega
    | false => rw [← plcL_no h]; omega
theorem cell_iff {u p X s : Int} (hs : 1 ≤ s) : (X + u * s ≤ p ∧ p < X + u * s + s) ↔ (p - X) / s = u := by
  have h1 := Int.mul_ediv_add_emod (p - X) s
  have h2 := Int.emod_nonneg (p - X) (show s ≠ 0 by omega)
  have h3 := Int.emod_lt_of_pos (p - X) (show 0 < s by omega)
  constructor
  · rintro ⟨a, b⟩
    refine Int.le_antisymm ?_ ?_
    · have := Int.ediv_lt_of_lt_mul (a := p - X) (b := u + 1) (c := s) (by omega) (by rw [Int.add_mul]; omega)
      omega
    · exact Int.le_ediv_of_mul_le (by omega) (by omega)
  · rintro rfl
    rw [Int.mul_comm] at h1
    omega
theorem hasL_plc {W H X Y s : Int} {n : Nat} {B : Int → Int → Bool} (hs : 1 ≤ s) (hW : 1 ≤ W) (hn : (n : Int) = W * H) (p q : Int) :
    hasL (plcL W X Y s B n) p q = (hasB 0 0 W H ((p - X) / s) ((q - Y) / s) && B ((p - X) / s) ((q - Y) / s)) := by
  rw [Bool.eq_iff_iff, Bool.and_eq_true]
  constructor
  · intro h
    obtain ⟨r, hr, hb⟩ := List.any_eq_true.1 h
    obtain ⟨k, hk, hr⟩ := List.mem_flatMap.1 hr
    have hk := List.mem_range.1 hk
    split at hr
    · rename_i hB
      have hr := List.mem_singleton.1 hr
      subst hr
      obtain ⟨h1, h2, h3, h4⟩ := hasB_true.1 hb
      simp only at h1 h2 h3 h4
      rw [(cell_iff hs).1 ⟨h1, h2⟩, (cell_iff hs).1 ⟨h3, h4⟩]
      exact ⟨in_box hW hn hk, hB⟩
    · cases hr
  · rintro ⟨h1, h2⟩
    obtain ⟨a0, a1, b0, b1⟩ := hasB_true.1 h1
    generalize hu : (p - X) / s = u at *
    generalize hv : (q - Y) / s = v at *
    have h5 : 0 ≤ v * W := Int.mul_nonneg b0 (by omega)
    have h6 : (v + 1) * W ≤ H * W := Int.mul_le_mul_of_nonneg_right (by omega) (by omega)
    have h7 : (v + 1) * W = v * W + W := by rw [Int.add_mul]; omega
    have h8 : H * W = (n : Int) := by rw [hn, Int.mul_comm]
    have hp := pt_eq (p := (u, v)) (k := (v * W + u).toNat) a0 a1 b0 rfl
    have e1 : u = (((v * W + u).toNat : Nat) : Int) % W := congrArg Prod.fst hp
    have e2 : v = (((v * W + u).toNat : Nat) : Int) / W := congrArg Prod.snd hp
    refine List.any_eq_true.2 ⟨⟨X + u * s, Y + v * s, X + u * s + s, Y + v * s + s⟩, List.mem_flatMap.2 ⟨(v * W + u).toNat, List.mem_range.2 (by omega), ?_⟩, hasB_true.2 ?_⟩
    · rw [← e1, ← e2, if_pos h2]; simp
    · have k1 := (cell_iff (X := X) hs).2 hu
      have k2 := (cell_iff (X := Y) hs).2 hv
      exact ⟨k1.1, k1.2, k2.1, k2.2⟩
def plcB (a b c d : Int) (l : List Rect) (x y : Int) : Bool := hasB a b c d x y && hasL l x y
theorem place_same {W H X Y s a b c d : Int} {n : Nat} (l : List Rect) (hs : 1 ≤ s ∧ s ≤ 8) (hX : -1000000 ≤ X ∧ X ≤ 1000000) (hY : -1000000 ≤ Y ∧ Y ≤ 1000000) (hw : 1 ≤ W ∧ W ≤ 256) (hh : 1 ≤ H ∧ H ≤ 256) (hn : (n : Int) = W * H) :
    placeP W H X Y s l ⟨a, b, c, d⟩ = canR (plcL W X Y s (plcB a b c d l) n) :=
  reg_ext (canR_isReg _) (canR_isReg _) (fun p q => by
    have h1 := hasL_place hs hX hY hw hh l ⟨a, b, c, d⟩ p q
    rw [show hasL (placeP W H X Y s l ⟨a, b, c, d⟩) p q = hasL ((regM andB (canR l) (canR [⟨a, b, c, d⟩])).map (shQ W H X Y s)) p q from hasL_can _ _ _] at h1
    rw [h1, hasL_plc hs.1 hw.1 hn]; rfl)
theorem areaL_ge : ∀ {R : List Rect}, (∀ r ∈ R, emptyR r = false) → ((R.length : Nat) : Int) ≤ areaL R := by
  intro R
  induction R with
  | nil => intro _; exact Int.le_refl _
  | cons r R ih =>
    intro h
    have h1 := emptyB_false.1 (show emptyB r.x0 r.y0 r.x1 r.y1 = false from h r (List.mem_cons_self ..))
    have e2 : areaL (r :: R) = areaI r.x0 r.y0 r.x1 r.y1 + areaL R := by simp [areaL]
    have := ih (fun q hq => h q (List.mem_cons_of_mem _ hq))
    have h3 : (1 : Int) * 1 ≤ (r.x1 - r.x0) * (r.y1 - r.y0) := Int.mul_le_mul (by omega) (by omega) (by omega) (by omega)
    rw [e2]
    unfold areaI
    rw [if_neg (by rw [show emptyB r.x0 r.y0 r.x1 r.y1 = false from h r (List.mem_cons_self ..)]; simp)]
    simp only [List.length_cons]
    omega
theorem reg_len_img {W H : Int} {n : Nat} {R : List Rect} {F : Int → Int → Bool} (hR : IsReg R F) (hin : OnImg W H R) (hW : 1 ≤ W) (hn : (n : Int) = W * H) : R.length ≤ n := by
  have h1 := areaL_ge (reg_ne hR hin)
  have h2 := clear_area hR hin hW hn
  have h3 := cntL_le W n R
  omega
theorem onImg_andl {W H : Int} {a : List Rect} (b : List Rect) (ha : OnImg W H a) : OnImg W H (regM andB a b) := fun x y h => ha x y (by rw [hasL_and] at h; exact (Bool.and_eq_true_iff.1 h).1)
theorem cell_bd {u s : Int} (h0 : 0 ≤ u) (h1 : u < 256) (hs : 1 ≤ s ∧ s ≤ 8) : 0 ≤ u * s ∧ u * s ≤ 2048 :=
  ⟨Int.mul_nonneg h0 (by omega), by have := Int.mul_le_mul (a := u) (b := s) (c := 256) (d := 8) (by omega) (by omega) (by omega) (by omega); omega⟩
theorem box_bd {W H : Int} {n i : Nat} (hw : 1 ≤ W ∧ W ≤ 256) (hh : 1 ≤ H ∧ H ≤ 256) (hn : (n : Int) = W * H) (hi : i < n) : 0 ≤ (i : Int) % W ∧ (i : Int) % W < 256 ∧ 0 ≤ (i : Int) / W ∧ (i : Int) / W < 256 := by
  obtain ⟨a, b, c, d⟩ := hasB_true.1 (in_box hw.1 hn hi)
  omega
theorem plcB_yes {a b c d : Int} {l : List Rect} {x y : Int} (h1 : hasB a b c d x y = true) (h2 : hasL l x y = true) : plcB a b c d l x y = true := by unfold plcB; rw [h1, h2]; rfl
theorem plcB_no {a b c d : Int} {l : List Rect} {x y : Int} (h : hasB a b c d x y = false ∨ hasL l x y = false) : plcB a b c d l x y = false := by
  unfold plcB
  rcases h with h | h <;> rw [h] <;> simp
theorem canR_lenB {l : List Rect} (h : l.length ≤ 262144) : (canR l).length ≤ 274877906944 := regM_length (a := l) (b := []) (by simpa using h)
theorem plc_lenB (W X Y s : Int) (B : Int → Int → Bool) {n : Nat} (h : n ≤ 262144) : (canR (plcL W X Y s B n)).length ≤ 274877906944 := canR_lenB (Nat.le_trans (plcL_len W X Y s B n) h)
end Go.Proofs.YtlfahohbkgdabaaGreat
namespace Go.Proofs.YtlfahohbkgdabaaGreat
open Go Go.RowKit
set_option maxRecDepth 100000
set_option maxHeartbeats 8000000
theorem payPlace (m : Nat) (W H : Int) (r n cap : Nat) (px : List Int) (X Y s al ca cb cc cd : Int) (Az : Option Addr) (gz oz nz capz : Nat) (xsz : List Rect) (w : World) (hT0 : Tab w w [.ro m [iQ W, iQ H, sL r n cap] 116, rD (some ⟨r, 0, none⟩) r 0 n 1 (cV px), rD (Az) gz oz nz 4 (rvals xsz)]) (R : List Rect) (hR : R = regM andB (canR xsz) (canR [(⟨ca, cb, cc, cd⟩ : Rect)])) (hcap : n ≤ cap) (hok : ImgOk W H n px) (hs : 1 ≤ s ∧ s ≤ 8) (hX : -1000000 ≤ X ∧ X ≤ 1000000) (hY : -1000000 ≤ Y ∧ Y ≤ 1000000) (hnz : nz ≤ 200000) (hcz : (canR xsz).length ≤ 200000) (hRl : R.length ≤ 200000) :
    Calls Tryz.prog 97 #[.agg #[pT m, iQ X, iQ Y, iQ s, iQ al, iQ ca, iQ cb, iQ cc, iQ cd], .slice Az nz capz] w fun e w' => ∃ (A_ : Option Addr) (g_ k_ cp_ : Nat), e = .returned (.slice A_ k_ cp_) ∧ Tab w w' [.gen (rowE (A_) g_ k_ cp_ 32 4 (rvals (canR (R.map (shQ W H X Y s)))) true)] := by
 have hw1 := hok.w1
 have hw2 := hok.w2
 have hh1 := hok.h1
 have hh2 := hok.h2
 have hnum := hok.num
 have hlen := hok.len
 have hle := hok.le
 obtain ⟨hraz, hrlz⟩ := Rd.factsR (hT0.ok 2 _ rfl)
 refine enter 32 [(0, .agg #[.pointer (pB m), iq X, iq Y, iq s, iq al, iq ca, iq cb, iq cc, iq cd]), (1, .slice Az nz capz)] [.ro m [iq W, iq H, .slice (pB r) n cap] 116, rD (pB r) r 0 n 1 (cV px), rD (Az) gz oz nz 4 (rvals xsz)] Tryz.func97 rfl Tryz.ntmps97 rfl (by kernel_rfl) hT0 ?_
 refine cSq <| cRg 2 rfl ?_
 refine batch1 [0, 0] 2 0 (fun b1 => [(1, .slice Az nz capz), (2, .pointer (pB b1))]) (fun b1 => [.cells b1 [.pointer (pB m), iq X, iq Y, iq s, iq al, iq ca, iq cb, iq cc, iq cd] 120 true, .ro m [iq W, iq H, .slice (pB r) n cap] 116, rD (pB r) r 0 n 1 (cV px), rD (Az) gz oz nz 4 (rvals xsz)]) rfl rfl [1, 2] (fun _ => rfl) (fun b1 => by kernel_rfl) (fun b1 => by kernel_rfl) (fun b1 => ?_)
 refine cDn <| tNo <| cSq <| cRg 1 rfl <| bD [0] 1 0 [(5, .slice none 0 0)] [] ?_
 refine cDn <| tNo <| cSq <| cSq <| cRg 6 rfl <| bD [0, 0, 0] 3 3 [(10, .slice Az nz capz), (12, .agg #[iq ca, iq cb, iq cc, iq cd])] [11] ?_
 refine pSt 4 2 rfl rfl <| call_gen (d := 13) (α := Option Addr × Nat × Nat × Nat) (fun x_ => .slice x_.1 x_.2.2.1 x_.2.2.2) (fun x_ => [.gen (rowE (x_.1) x_.2.1 x_.2.2.1 x_.2.2.2 32 4 (rvals (regM andB (canR xsz) (canR [(⟨ca, cb, cc, cd⟩ : Rect)]))) true), .cells b1 [.pointer (pB m), iq X, iq Y, iq s, iq al, iq ca, iq cb, iq cc, iq cd] 120 true, .ro m [iq W, iq H, .slice (pB r) n cap] 116, rD (pB r) r 0 n 1 (cV px), rD (Az) gz oz nz 4 (rvals xsz)]) (fun x_ => True) (by kernel_rfl) (fun w hT => (payWithin Az gz oz nz capz xsz ca cb cc cd w (hT.viewRo (.cons (i := 3) rfl Vw.rd .nil) rfl) hnz hcz).mono fun e w' ⟨A2, g3, k4, cp5, he_, ht_⟩ => ⟨(A2, g3, k4, cp5), he_, trivial, hT.news ht_ rfl⟩) ?_
 rintro ⟨A2, g3, k4, cp5⟩ hf6_
 refine cont_fact (F := (0 < k4 → (A2 : Option Addr) = pB g3) ∧ (regM andB (canR xsz) (canR [(⟨ca, cb, cc, cd⟩ : Rect)])).length = k4 ∧ k4 ≤ cp5 ∧ cp5 ≤ maxLen) (fun w hT => Row.factsR (hT.ok 0 _ rfl)) (fun hr7_ => ?_)
 obtain ⟨hr7_a, hr7_l, hr7_c, hr7_m⟩ := hr7_
 unfold maxLen at hr7_m
 refine bD [0, 0] 6 0 [(14, iq (k4 : Int)), (15, iq 0)] [] ?_
 refine cDn <| tNo <| cont_block <| cont_rowEqR 0 (regM andB (canR xsz) (canR [(⟨ca, cb, cc, cd⟩ : Rect)])) (R) rfl hR.symm ?_
 refine cont_fact (F := (0 < k4 → (A2 : Option Addr) = pB g3) ∧ R.length = k4 ∧ k4 ≤ cp5 ∧ cp5 ≤ maxLen) (fun w hT => Row.factsR (hT.ok 0 _ rfl)) (fun hr8_ => ?_)
 obtain ⟨hr8_a, hr8_l, hr8_c, hr8_m⟩ := hr8_
 unfold maxLen at hr8_m
 refine cont_nilrow 32 4 ?_
 refine cont_rowEqR 0 ([]) ((R.take 0).map (shQ W H X Y s)) rfl rfl ?_
 refine cont_loop (α := Nat × Option Addr × Nat × Nat) (fun x_ : Nat × Option Addr × Nat × Nat => x_.1 ≤ k4) (fun x_ : Nat × Option Addr × Nat × Nat => [(2, .pointer (pB b1)), (5, .slice x_.2.1 x_.1 x_.2.2.2), (13, .slice A2 k4 cp5), (14, iq (k4 : Int)), (15, iq ((x_.1 : Nat) : Int))]) (fun x_ : Nat × Option Addr × Nat × Nat => [.gen (rowE (x_.2.1) x_.2.2.1 x_.1 x_.2.2.2 32 4 (rvals ((R.take x_.1).map (shQ W H X Y s))) true), .gen (rowE (A2) g3 k4 cp5 32 4 (rvals R) true), .cells b1 [.pointer (pB m), iq X, iq Y, iq s, iq al, iq ca, iq cb, iq cc, iq cd] 120 true, .ro m [iq W, iq H, .slice (pB r) n cap] 116, rD (pB r) r 0 n 1 (cV px), rD (Az) gz oz nz 4 (rvals xsz)]) (fun x_ : Nat × Option Addr × Nat × Nat => k4 - x_.1) (0, none, 0, 0) (show (0) ≤ k4 from (by omega)) (by kernel_rfl) (by kernel_rfl) ?_
 rintro ⟨i, Aq, gq, cq⟩ hinv10_
 replace hinv10_ : i ≤ k4 := hinv10_
 have hi := hinv10_
 refine cSq <| cRg 1 rfl <| bD [0] 1 0 [(16, .bool (decide (((i : Nat) : Int) < (k4 : Int))))] [] ?_
 refine cDn <| tNo <| cSq ?_
 refine cSp 16 (decide (((i : Nat) : Int) < (k4 : Int))) rfl (fun c11_ => ?_) (fun c11_ => ?_)
 ·
  replace c11_ := of_decide_eq_true c11_
  refine cTr rfl <| cont_skip <| tNo <| cSq <| cont_block <| cSq <| cRg 4 rfl <| pSt 1 3 rfl rfl <| cRc 13 (.slice A2 k4 cp5) (.slice (pB g3) k4 cp5) rfl (by rw [hr8_a (by omega)]) ?_
  refine sem_step 17 (Instr.indexAt 23 (.slice (pB g3) k4 cp5) (iq ((i : Nat) : Int))) (.pointer (some ⟨g3, (i : Nat) * 4, none⟩)) (by kernel_rfl) (fun w hT => run_indexAt (e := 32) (sz := 4) _ (by kernel_rfl) (by kernel_rfl) (by omega) (by omega) (by omega) w) ?_
  refine pSt 2 2 rfl rfl <| sem_step 18 (Instr.loadAt 32 (.pointer (some ⟨g3, (i : Nat) * 4, none⟩))) (.agg #[iq ((rget R (i : Nat)).x0), iq ((rget R (i : Nat)).y0), iq ((rget R (i : Nat)).x1), iq ((rget R (i : Nat)).y1)]) (by kernel_rfl) (fun w hT => run_loadN (m := 4) (cs := rcells (rget R (i : Nat))) (by kernel_rfl) (by kernel_rfl) rfl (Rd.rect0 (Row.rd (hT.ok 1 _ rfl)) (by omega))) ?_
  refine batch1 [0, 0] 4 0 (fun b12 => [(2, .pointer (pB b1)), (5, .slice Aq i cq), (7, .pointer (pB b12)), (13, .slice (pB g3) k4 cp5), (14, iq (k4 : Int)), (15, iq ((i : Nat) : Int))]) (fun b12 => [.cells b12 [iq ((rget R (i : Nat)).x0), iq ((rget R (i : Nat)).y0), iq ((rget R (i : Nat)).x1), iq ((rget R (i : Nat)).y1)] 32 true, .gen (rowE (Aq) gq i cq 32 4 (rvals ((R.take i).map (shQ W H X Y s))) true), .gen (rowE (A2) g3 k4 cp5 32 4 (rvals R) true), .cells b1 [.pointer (pB m), iq X, iq Y, iq s, iq al, iq ca, iq cb, iq cc, iq cd] 120 true, .ro m [iq W, iq H, .slice (pB r) n cap] 116, rD (pB r) r 0 n 1 (cV px), rD (Az) gz oz nz 4 (rvals xsz)]) rfl rfl [2, 5, 7, 13, 14, 15] (fun _ => rfl) (fun b12 => by kernel_rfl) (fun b12 => by kernel_rfl) (fun b12 => ?_)
  refine cDn <| tNo <| cSq <| cRg 9 rfl <| bD [3, 0] 2 7 [(20, .agg #[.pointer (pB m), iq X, iq Y, iq s, iq al, iq ca, iq cb, iq cc, iq cd]), (21, .agg #[iq ((rget R (i : Nat)).x0), iq ((rget R (i : Nat)).y0), iq ((rget R (i : Nat)).x1), iq ((rget R (i : Nat)).y1)])] [] ?_
  refine cFg 0 rfl <| pSt 3 6 rfl rfl <| call_pure (d := 22) (.tuple #[.agg #[iq ((shwR W H X Y s ((rget R (i : Nat)).x0) ((rget R (i : Nat)).y0) ((rget R (i : Nat)).x1) ((rget R (i : Nat)).y1)).x0), iq ((shwR W H X Y s ((rget R (i : Nat)).x0) ((rget R (i : Nat)).y0) ((rget R (i : Nat)).x1) ((rget R (i : Nat)).y1)).y0), iq ((shwR W H X Y s ((rget R (i : Nat)).x0) ((rget R (i : Nat)).y0) ((rget R (i : Nat)).x1) ((rget R (i : Nat)).y1)).x1), iq ((shwR W H X Y s ((rget R (i : Nat)).x0) ((rget R (i : Nat)).y0) ((rget R (i : Nat)).x1) ((rget R (i : Nat)).y1)).y1)], .bool (shwB W H X Y s ((rget R (i : Nat)).x0) ((rget R (i : Nat)).y0) ((rget R (i : Nat)).x1) ((rget R (i : Nat)).y1))]) (by kernel_rfl) (fun w hT => layShown m W H r n cap px X Y s al ca cb cc cd ((rget R (i : Nat)).x0) ((rget R (i : Nat)).y0) ((rget R (i : Nat)).x1) ((rget R (i : Nat)).y1) w ⟨hT.ok 3 _ rfl, hT.ok 4 _ rfl, by omega⟩ hok) ?_
  refine batch1 [0, 0, 0, 0, 0, 0] 9 0 (fun b13 => [(2, .pointer (pB b1)), (5, .slice Aq i cq), (8, .pointer (pB b13)), (13, .slice (pB g3) k4 cp5), (14, iq (k4 : Int)), (15, iq ((i : Nat) : Int))]) (fun b13 => [.cells b13 [iq ((shwR W H X Y s ((rget R (i : Nat)).x0) ((rget R (i : Nat)).y0) ((rget R (i : Nat)).x1) ((rget R (i : Nat)).y1)).x0), iq ((shwR W H X Y s ((rget R (i : Nat)).x0) ((rget R (i : Nat)).y0) ((rget R (i : Nat)).x1) ((rget R (i : Nat)).y1)).y0), iq ((shwR W H X Y s ((rget R (i : Nat)).x0) ((rget R (i : Nat)).y0) ((rget R (i : Nat)).x1) ((rget R (i : Nat)).y1)).x1), iq ((shwR W H X Y s ((rget R (i : Nat)).x0) ((rget R (i : Nat)).y0) ((rget R (i : Nat)).x1) ((rget R (i : Nat)).y1)).y1)] 32 true, .gen (rowE (Aq) gq i cq 32 4 (rvals ((R.take i).map (shQ W H X Y s))) true), .gen (rowE (A2) g3 k4 cp5 32 4 (rvals R) true), .cells b1 [.pointer (pB m), iq X, iq Y, iq s, iq al, iq ca, iq cb, iq cc, iq cd] 120 true, .ro m [iq W, iq H, .slice (pB r) n cap] 116, rD (pB r) r 0 n 1 (cV px), rD (Az) gz oz nz 4 (rvals xsz)]) rfl rfl [2, 5, 8, 13, 14, 15] (fun _ => rfl) (fun b13 => by kernel_rfl) (fun b13 => by kernel_rfl) (fun b13 => ?_)
  refine cDn <| tNo <| cRg 5 rfl ?_
  refine batch1 [0, 0, 0] 3 2 (fun b14 => [(2, .pointer (pB b1)), (13, .slice (pB g3) k4 cp5), (14, iq (k4 : Int)), (15, iq ((i : Nat) : Int)), (25, .slice Aq i cq), (27, .slice (pB b14) 1 1)]) (fun b14 => [.cells b14 [iq ((shwR W H X Y s ((rget R (i : Nat)).x0) ((rget R (i : Nat)).y0) ((rget R (i : Nat)).x1) ((rget R (i : Nat)).y1)).x0), iq ((shwR W H X Y s ((rget R (i : Nat)).x0) ((rget R (i : Nat)).y0) ((rget R (i : Nat)).x1) ((rget R (i : Nat)).y1)).y0), iq ((shwR W H X Y s ((rget R (i : Nat)).x0) ((rget R (i : Nat)).y0) ((rget R (i : Nat)).x1) ((rget R (i : Nat)).y1)).x1), iq ((shwR W H X Y s ((rget R (i : Nat)).x0) ((rget R (i : Nat)).y0) ((rget R (i : Nat)).x1) ((rget R (i : Nat)).y1)).y1)] 32 true, .cells b13 [iq ((shwR W H X Y s ((rget R (i : Nat)).x0) ((rget R (i : Nat)).y0) ((rget R (i : Nat)).x1) ((rget R (i : Nat)).y1)).x0), iq ((shwR W H X Y s ((rget R (i : Nat)).x0) ((rget R (i : Nat)).y0) ((rget R (i : Nat)).x1) ((rget R (i : Nat)).y1)).y0), iq ((shwR W H X Y s ((rget R (i : Nat)).x0) ((rget R (i : Nat)).y0) ((rget R (i : Nat)).x1) ((rget R (i : Nat)).y1)).x1), iq ((shwR W H X Y s ((rget R (i : Nat)).x0) ((rget R (i : Nat)).y0) ((rget R (i : Nat)).x1) ((rget R (i : Nat)).y1)).y1)] 32 true, .gen (rowE (Aq) gq i cq 32 4 (rvals ((R.take i).map (shQ W H X Y s))) true), .gen (rowE (A2) g3 k4 cp5 32 4 (rvals R) true), .cells b1 [.pointer (pB m), iq X, iq Y, iq s, iq al, iq ca, iq cb, iq cc, iq cd] 120 true, .ro m [iq W, iq H, .slice (pB r) n cap] 116, rD (pB r) r 0 n 1 (cV px), rD (Az) gz oz nz 4 (rvals xsz)]) rfl rfl [2, 13, 14, 15, 25, 27] (fun _ => rfl) (fun b14 => by kernel_rfl) (fun b14 => by kernel_rfl) (fun b14 => ?_)
  refine cFg 1 rfl <| pSt 4 1 rfl rfl <| sSW (α := Option Addr × Nat × Nat) 28 (Builtin.append_ #[23, 23] 23 #[.slice Aq i cq, .slice (pB b14) 1 1]) (fun x_ => .slice x_.1 (i + 1) x_.2.2) (fun x_ => [.cells b14 [iq ((shwR W H X Y s ((rget R (i : Nat)).x0) ((rget R (i : Nat)).y0) ((rget R (i : Nat)).x1) ((rget R (i : Nat)).y1)).x0), iq ((shwR W H X Y s ((rget R (i : Nat)).x0) ((rget R (i : Nat)).y0) ((rget R (i : Nat)).x1) ((rget R (i : Nat)).y1)).y0), iq ((shwR W H X Y s ((rget R (i : Nat)).x0) ((rget R (i : Nat)).y0) ((rget R (i : Nat)).x1) ((rget R (i : Nat)).y1)).x1), iq ((shwR W H X Y s ((rget R (i : Nat)).x0) ((rget R (i : Nat)).y0) ((rget R (i : Nat)).x1) ((rget R (i : Nat)).y1)).y1)] 32 true, .gen (rowE (x_.1) x_.2.1 (i + 1) x_.2.2 32 4 (rvals (((R.take i).map (shQ W H X Y s)) ++ [(⟨(shwR W H X Y s ((rget R (i : Nat)).x0) ((rget R (i : Nat)).y0) ((rget R (i : Nat)).x1) ((rget R (i : Nat)).y1)).x0, (shwR W H X Y s ((rget R (i : Nat)).x0) ((rget R (i : Nat)).y0) ((rget R (i : Nat)).x1) ((rget R (i : Nat)).y1)).y0, (shwR W H X Y s ((rget R (i : Nat)).x0) ((rget R (i : Nat)).y0) ((rget R (i : Nat)).x1) ((rget R (i : Nat)).y1)).x1, (shwR W H X Y s ((rget R (i : Nat)).x0) ((rget R (i : Nat)).y0) ((rget R (i : Nat)).x1) ((rget R (i : Nat)).y1)).y1⟩ : Rect)])) true), .gen (rowE (A2) g3 k4 cp5 32 4 (rvals R) true), .cells b1 [.pointer (pB m), iq X, iq Y, iq s, iq al, iq ca, iq cb, iq cc, iq cd] 120 true, .ro m [iq W, iq H, .slice (pB r) n cap] 116, rD (pB r) r 0 n 1 (cV px), rD (Az) gz oz nz 4 (rvals xsz)]) (fun _ => True) (by kernel_rfl) (fun w hT => append_own (n' := (i + 1)) (z := .agg #[iq 0, iq 0, iq 0, iq 0]) hT (i := 1) (bytes := 32) rfl (by kernel_rfl) (by kernel_rfl) rfl (by decide) (by decide) (Rd.ofCells (vals := rvals [(⟨(shwR W H X Y s ((rget R (i : Nat)).x0) ((rget R (i : Nat)).y0) ((rget R (i : Nat)).x1) ((rget R (i : Nat)).y1)).x0, (shwR W H X Y s ((rget R (i : Nat)).x0) ((rget R (i : Nat)).y0) ((rget R (i : Nat)).x1) ((rget R (i : Nat)).y1)).y0, (shwR W H X Y s ((rget R (i : Nat)).x0) ((rget R (i : Nat)).y0) ((rget R (i : Nat)).x1) ((rget R (i : Nat)).y1)).x1, (shwR W H X Y s ((rget R (i : Nat)).x0) ((rget R (i : Nat)).y0) ((rget R (i : Nat)).x1) ((rget R (i : Nat)).y1)).y1⟩ : Rect)]) (hT.ok 0 _ rfl) rfl rfl) (rvals_one [(⟨(shwR W H X Y s ((rget R (i : Nat)).x0) ((rget R (i : Nat)).y0) ((rget R (i : Nat)).x1) ((rget R (i : Nat)).y1)).x0, (shwR W H X Y s ((rget R (i : Nat)).x0) ((rget R (i : Nat)).y0) ((rget R (i : Nat)).x1) ((rget R (i : Nat)).y1)).y0, (shwR W H X Y s ((rget R (i : Nat)).x0) ((rget R (i : Nat)).y0) ((rget R (i : Nat)).x1) ((rget R (i : Nat)).y1)).x1, (shwR W H X Y s ((rget R (i : Nat)).x0) ((rget R (i : Nat)).y0) ((rget R (i : Nat)).x1) ((rget R (i : Nat)).y1)).y1⟩ : Rect)]) (by omega) (rvals_append ((R.take i).map (shQ W H X Y s)) [(⟨(shwR W H X Y s ((rget R (i : Nat)).x0) ((rget R (i : Nat)).y0) ((rget R (i : Nat)).x1) ((rget R (i : Nat)).y1)).x0, (shwR W H X Y s ((rget R (i : Nat)).x0) ((rget R (i : Nat)).y0) ((rget R (i : Nat)).x1) ((rget R (i : Nat)).y1)).y0, (shwR W H X Y s ((rget R (i : Nat)).x0) ((rget R (i : Nat)).y0) ((rget R (i : Nat)).x1) ((rget R (i : Nat)).y1)).x1, (shwR W H X Y s ((rget R (i : Nat)).x0) ((rget R (i : Nat)).y0) ((rget R (i : Nat)).x1) ((rget R (i : Nat)).y1)).y1⟩ : Rect)]) rfl) ?_
  rintro ⟨A15, g15, cp15⟩ -
  refine cont_fact (F := (0 < (i + 1) → (A15 : Option Addr) = pB g15) ∧ (((R.take i).map (shQ W H X Y s)) ++ [(⟨(shwR W H X Y s ((rget R (i : Nat)).x0) ((rget R (i : Nat)).y0) ((rget R (i : Nat)).x1) ((rget R (i : Nat)).y1)).x0, (shwR W H X Y s ((rget R (i : Nat)).x0) ((rget R (i : Nat)).y0) ((rget R (i : Nat)).x1) ((rget R (i : Nat)).y1)).y0, (shwR W H X Y s ((rget R (i : Nat)).x0) ((rget R (i : Nat)).y0) ((rget R (i : Nat)).x1) ((rget R (i : Nat)).y1)).x1, (shwR W H X Y s ((rget R (i : Nat)).x0) ((rget R (i : Nat)).y0) ((rget R (i : Nat)).x1) ((rget R (i : Nat)).y1)).y1⟩ : Rect)]).length = (i + 1) ∧ (i + 1) ≤ cp15 ∧ cp15 ≤ maxLen) (fun w hT => Row.factsR (hT.ok 1 _ rfl)) (fun hr16_ => ?_)
  obtain ⟨hr16_a, hr16_l, hr16_c, hr16_m⟩ := hr16_
  unfold maxLen at hr16_m
  refine bD [0] 5 0 [(5, .slice A15 (i + 1) cp15)] [] ?_
  refine cFg 0 rfl <| cDn <| blk_normal <| tNo <| cRg 2 rfl <| bD [0] 1 1 [(29, iq (IntKind.i64.wrap (((i : Nat) : Int) + 1)))] [] ?_
  refine cRc 29 (iq (IntKind.i64.wrap (((i : Nat) : Int) + 1))) (iq (((i : Nat) : Int) + 1)) rfl (wrapI (by omega) (by omega)) ?_
  refine bD [0] 2 0 [(15, iq (((i : Nat) : Int) + 1))] [] ?_
  refine cDn <| tNo <| cRc 13 (.slice (pB g3) k4 cp5) (.slice A2 k4 cp5) rfl (by rw [hr8_a (by omega)]) ?_
  refine cont_rowEqR 0 (((R.take i).map (shQ W H X Y s)) ++ [(⟨(shwR W H X Y s ((rget R (i : Nat)).x0) ((rget R (i : Nat)).y0) ((rget R (i : Nat)).x1) ((rget R (i : Nat)).y1)).x0, (shwR W H X Y s ((rget R (i : Nat)).x0) ((rget R (i : Nat)).y0) ((rget R (i : Nat)).x1) ((rget R (i : Nat)).y1)).y0, (shwR W H X Y s ((rget R (i : Nat)).x0) ((rget R (i : Nat)).y0) ((rget R (i : Nat)).x1) ((rget R (i : Nat)).y1)).x1, (shwR W H X Y s ((rget R (i : Nat)).x0) ((rget R (i : Nat)).y0) ((rget R (i : Nat)).x1) ((rget R (i : Nat)).y1)).y1⟩ : Rect)]) ((R.take (i + 1)).map (shQ W H X Y s)) rfl (map_put (f := (shQ W H X Y s)) (by omega)) ?_
  refine cont_again (i + 1, A15, g15, cp15) (show (i + 1) ≤ k4 from (by omega)) (show k4 - (i + 1) < k4 - i from by omega) (by kernel_rfl) (by kernel_rfl)
 replace c11_ := of_decide_eq_false c11_
 refine cFa rfl <| cont_exit <| then_exit <| then_exit <| blk_exit <| tNo <| cSq <| cRg 3 rfl <| bS [0] 1 2 [(30, .slice Aq i cq)] ?_
 refine cFg 2 rfl <| pSt 2 1 rfl rfl <| call_gen (d := 31) (α := Option Addr × Nat × Nat × Nat) (fun x_ => .slice x_.1 x_.2.2.1 x_.2.2.2) (fun x_ => [.gen (rowE (x_.1) x_.2.1 x_.2.2.1 x_.2.2.2 32 4 (rvals (canR ((R.take i).map (shQ W H X Y s)))) true), .gen (rowE (Aq) gq i cq 32 4 (rvals ((R.take i).map (shQ W H X Y s))) true), .gen (rowE (A2) g3 k4 cp5 32 4 (rvals R) true), .ro m [iq W, iq H, .slice (pB r) n cap] 116, rD (pB r) r 0 n 1 (cV px), rD (Az) gz oz nz 4 (rvals xsz)]) (fun x_ => True) (by kernel_rfl) (fun w hT => (regOf Aq gq 0 i cq ((R.take i).map (shQ W H X Y s)) w (hT.viewRo (.cons (i := 0) rfl Vw.rowRd .nil) rfl) (by omega)).mono fun e w' ⟨A17, g18, k19, cp20, he_, ht_⟩ => ⟨(A17, g18, k19, cp20), he_, trivial, hT.news ht_ rfl⟩) ?_
 rintro ⟨A17, g18, k19, cp20⟩ hf21_
 refine cont_fact (F := (0 < k19 → (A17 : Option Addr) = pB g18) ∧ (canR ((R.take i).map (shQ W H X Y s))).length = k19 ∧ k19 ≤ cp20 ∧ cp20 ≤ maxLen) (fun w hT => Row.factsR (hT.ok 0 _ rfl)) (fun hr22_ => ?_)
 obtain ⟨hr22_a, hr22_l, hr22_c, hr22_m⟩ := hr22_
 unfold maxLen at hr22_m
 refine bS [0] 3 0 [(4, .slice A17 k19 cp20)] ?_
 refine cDn <| tNo <| cont_ret ?_
 refine ret_one (.inl rfl) rfl 0 (.slice A17 k19 cp20) (by kernel_rfl) (by kernel_rfl) (fun w hT => ?_)
 replace hT := hT.erase 5 (fun e h hw => by cases h; first | rfl | cases hw)
 replace hT := hT.erase 4 (fun e h hw => by cases h; first | rfl | cases hw)
 replace hT := hT.erase 3 (fun e h hw => by cases h; first | rfl | cases hw)
 replace hT := hT.erase 2 (fun e h hw => by cases h; first | rfl | cases hw)
 replace hT := hT.erase 1 (fun e h hw => by cases h; first | rfl | cases hw)
 have hik : i = R.length := by omega
 subst hik
 rw [List.take_length] at hT
 exact ⟨_, _, _, _, rfl, hT⟩
end Go.Proofs.YtlfahohbkgdabaaGreat
namespace Go.Proofs.YtlfahohbkgdabaaGreat
open Go Go.RowKit
set_option maxRecDepth 100000
set_option maxHeartbeats 8000000
end Go.Proofs.YtlfahohbkgdabaaGreat
namespace Go.Proofs.YtlfahohbkgdabaaGreat
open Go Go.RowKit
end Go.Proofs.YtlfahohbkgdabaaGreat
namespace Go.Proofs.YtlfahohbkgdabaaGreat
open Go Go.RowKit
end Go.Proofs.YtlfahohbkgdabaaGreat
namespace Go.Proofs.YtlfahohbkgdabaaGreat
open Go Go.RowKit
variable {dfs : List Deferred}
section
variable {P : Program}
end
end Go.Proofs.YtlfahohbkgdabaaGreat
namespace Go.Proofs.YtlfahohbkgdabaaGreat
open Go Go.RowKit
variable {P : Program} {dfs : List Deferred} {n : Nat} {w0 : World} {L : List (Tmp × Value)} {T : List Ent} {Q : Exit → Act → World → Prop}
end Go.Proofs.YtlfahohbkgdabaaGreat
namespace Go.Proofs.YtlfahohbkgdabaaGreat
open Go Go.RowKit
section
variable {P : Program}
end
end Go.Proofs.YtlfahohbkgdabaaGreat
namespace Go.Proofs.YtlfahohbkgdabaaGreat
open Go Go.RowKit
variable {P : Program} {dfs : List Deferred} {n : Nat} {w0 : World} {L : List (Tmp × Value)} {T : List Ent} {Q : Exit → Act → World → Prop}
end Go.Proofs.YtlfahohbkgdabaaGreat
namespace Go.Proofs.YtlfahohbkgdabaaGreat
open Go Go.RowKit
variable {dfs : List Deferred}
end Go.Proofs.YtlfahohbkgdabaaGreat
namespace Go.Proofs.YtlfahohbkgdabaaGreat
open Go Go.RowKit
section
variable {P : Program} {dfs : List Deferred} {Q : Exit → Act → World → Prop} {n : Nat} {w0 : World} {L : List (Nat × Value)} {T : List Ent}
end
end Go.Proofs.YtlfahohbkgdabaaGreat
namespace Go.Proofs.YtlfahohbkgdabaaGreat
open Go Go.RowKit
def BackP (n : Nat) (p : List Nat) : Prop := p = (List.range p.length).map (fun k => n - 1 - k) ∧ p.length ≤ n
theorem BackP.nil (n : Nat) : BackP n [] := ⟨rfl, Nat.zero_le _⟩
theorem BackP.step {n : Nat} {p : List Nat} (hp : BackP n p) {x : Nat} (hx : (x : Int) = (n : Int) - 1 - ((p.length : Nat) : Int)) : BackP n (p ++ [x]) := by
  refine ⟨?_, by rw [List.length_append, List.length_singleton]; omega⟩
  rw [List.length_append, List.length_singleton, List.range_succ, List.map_append, ← hp.1]
  have : x = n - 1 - p.length := by omega
  rw [this]; rfl
theorem BackP.last {n : Nat} {p : List Nat} {x : Nat} (hp : BackP n (p ++ [x])) : x = n - 1 - p.length ∧ p.length < n := by
  obtain ⟨h1, h2⟩ := hp
  rw [List.length_append, List.length_singleton] at h1 h2
  rw [List.range_succ, List.map_append] at h1
  have := List.append_inj_right h1 (by simp)
  simp at this
  exact ⟨this, h2⟩
structure RS where
  A : Option Addr
  g : Nat
  n : Nat
  cap : Nat
  xs : List Rect
def RS.nil : RS := ⟨none, 0, 0, 0, []⟩
instance : Inhabited RS := ⟨RS.nil⟩
def RS.cells (t : RS) : List Value := [.slice t.A t.n t.cap]
theorem RS.size (t : RS) : (RS.cells t).length = 1 := rfl
theorem RS.one : ∀ a : RS, ∀ u ∈ RS.cells a, u.oneCell' = true := by
  intro a u hu
  simp only [RS.cells, List.mem_cons, List.not_mem_nil, or_false] at hu
  rcases hu with rfl; rfl
theorem make_rowS {P : Program} {w0 w : World} {T : List Ent} (hT : Tab w0 w T) {t e : TypeId} {kl kc : IntKind} {bytes : Nat} (n : Nat) (ht : P.underlying t = some (.slice e)) (hi : (P.info? e).map (fun i => (i.zero, i.size, i.bytes)) = some (some (.slice none 0 0), 1, bytes)) (hb : bytes * n ≤ 281474976710656) (hn : n ≤ 9223372036854775807) :
    ∃ (x : Nat) (w' : World), (Instr.makeSlice t (.int kl (n : Int)) (.int kc (n : Int))).run P w = .ok (.slice (some ⟨x, 0, none⟩) n n) w' ∧ True ∧ Tab w0 w' (.gen (rowE (some ⟨x, 0, none⟩) x n n e 1 (dvals RS.cells (List.replicate n RS.nil)) true) :: T) := by
  obtain ⟨i, hi1, hi2⟩ := Option.map_eq_some_iff.1 hi
  simp only [Prod.mk.injEq] at hi2
  obtain ⟨hz, hs, hby⟩ := hi2
  obtain ⟨w', hr, hown, hg⟩ := run_make_full (P := P) w 0 t e i (.slice none 0 0) 1 ht hi1 hz hs kl kc n (by rw [hby]; exact hb) (by unfold maxLen; omega) (Nat.zero_le _)
  have hvals : (madeCells (Value.slice none 0 0).cells (n * 1)).toList = dvals RS.cells (List.replicate n RS.nil) := by
    have : (Value.slice none 0 0).cells = #[.slice none 0 0] := rfl
    rw [this, Nat.mul_one, toList_madeCells_one]
    clear hr hown hg hb hn
    induction n with
    | zero => rfl
    | succ n ih => rw [List.replicate_succ, List.replicate_succ, dvals, ← ih]; rfl
  rw [hvals] at hown
  refine ⟨w.heap.size, w', hr, trivial, ?_⟩
  have hbel : Below w.heap.size w w' := ⟨hg.os, hg.tape, hg.output, hg.size, fun k hk => hg.block k hk (by simp)⟩
  exact hT.addRow hbel ⟨hown, fun _ => rfl, fun a ha => by simpa using ha.symm⟩ (fun _ => Nat.le_refl _)
structure JS where
  i : Int
  a : Int
  b : Int
  c : Int
  d : Int
deriving DecidableEq
instance : Inhabited JS := ⟨⟨0, 0, 0, 0, 0⟩⟩
def JS.cells (t : JS) : List Value := [.int .i64 t.i, .int .i64 t.a, .int .i64 t.b, .int .i64 t.c, .int .i64 t.d]
theorem JS.size (t : JS) : (JS.cells t).length = 5 := rfl
theorem JS.one : ∀ a : JS, ∀ u ∈ JS.cells a, u.oneCell' = true := by
  intro a u hu
  simp only [JS.cells, List.mem_cons, List.not_mem_nil, or_false] at hu
  rcases hu with rfl | rfl | rfl | rfl | rfl <;> rfl
def JS.of (i : Int) (r : Rect) : JS := ⟨i, r.x0, r.y0, r.x1, r.y1⟩
theorem jobs_step {xs : List Rect} {i : Nat} (h : i < xs.length) (q : Int) : (xs.take i).map (JS.of q) ++ [(⟨q, (rget xs i).x0, (rget xs i).y0, (rget xs i).x1, (rget xs i).y1⟩ : JS)] = (xs.take (i + 1)).map (JS.of q) := by
  rw [take_succ_rget h, List.map_append]; rfl
theorem lives17_eq : regM andB (canR [(⟨0, 0, 4, 4⟩ : Rect)]) [(⟨0, 0, 4, 4⟩ : Rect)] = [(⟨0, 0, 4, 4⟩ : Rect)] := by
  unfold canR
  rw [← regD_eq (kf := orB) rfl, ← regD_eq (kf := andB) rfl]
  decide +kernel
end Go.Proofs.YtlfahohbkgdabaaGreat
namespace Go.Proofs.YtlfahohbkgdabaaGreat
open Go Go.RowKit
set_option maxRecDepth 100000
set_option maxHeartbeats 8000000
theorem backIter0 (kb : Nat) (A : Option Addr) (g o n cap : Nat) (its : List IT) (hn : n ≤ 100) (hra : 0 < n → A = some ⟨g, o, none⟩) (hrl : its.length = n) (w0 : World) {β : Type} (Inv : List Nat → β → Prop) (Tr : β → List Ent) (Jx : World → Prop) (l_ : Nat) (e1 e2 : Ent) (w : World) (b0 : β) (hJx : ∀ w w', Jx w → Below w.heap.size w w' → Jx w') (hY : ∀ (pre : List Nat) (x : Nat) (b : β) W1 z, (z.wr = true → z.own = true) → Inv pre b → BackP n (pre ++ [x]) → Tab w0 W1 (z :: e1 :: e2 :: (.ro kb [.slice A n cap] 26) :: (rD (A) g o n 14 (dvals IT.cells its)) :: (Tr b)) → YieldAt Fence.wide 0 Tryz.prog l_ #[iQ (x : Int), .agg #[iQ 0, iQ 0, .pointer (some ⟨(dget its x).b, 0, none⟩), iQ ((dget its x).t.X), iQ ((dget its x).t.Y), iQ ((dget its x).t.s), iQ ((dget its x).t.al), iQ ((dget its x).t.ca), iQ ((dget its x).t.cb), iQ ((dget its x).t.cc), iQ ((dget its x).t.cd), .slice ((dget its x).t.A) ((dget its x).t.k) ((dget its x).t.cp), .string ⟨#[]⟩, iQ 0]] W1 fun e W' => (e = .returned (.bool true) ∧ ∃ b', Inv (pre ++ [x]) b' ∧ Tab w0 W' (z :: e1 :: e2 :: (.ro kb [.slice A n cap] 26) :: (rD (A) g o n 14 (dvals IT.cells its)) :: (Tr b'))) ∨ (e = .returned (.bool false) ∧ Jx W')) (h0 : Inv [] b0) (hT0 : Tab w0 w (e1 :: e2 :: (.ro kb [.slice A n cap] 26) :: (rD (A) g o n 14 (dvals IT.cells its)) :: (Tr b0))) :
    Calls Tryz.prog 95 #[.func (.yield l_) #[] #[], pT kb] w fun e W' => (∃ v, e = .returned v) ∧ ((∃ xs_ b', (BackP n xs_ ∧ xs_.length = n) ∧ Inv xs_ b' ∧ Tab w0 W' (e1 :: e2 :: (.ro kb [.slice A n cap] 26) :: (rD (A) g o n 14 (dvals IT.cells its)) :: (Tr b'))) ∨ Jx W') := by
  refine enterI 19 [(0, .func (.yield l_) #[] #[]), (1, pT kb)] (e1 :: e2 :: (.ro kb [.slice A n cap] 26) :: (rD (A) g o n 14 (dvals IT.cells its)) :: (Tr b0)) Tryz.func95 rfl Tryz.ntmps95 rfl (by kernel_rfl) hT0 (fun _ h_ => by simp at h_) ?_
  refine mcont_seq ?_
  refine mcont_region 4 rfl (by kernel_rfl) ?_
  refine bD [2, 0, 0] 3 1 [(6, iQ (IntKind.i64.wrap ((n : Int) - 1)))] [4, 5] ?_
  refine cRc 6 (iQ (IntKind.i64.wrap ((n : Int) - 1))) (iQ ((n : Int) - 1)) rfl (wrapI (by omega) (by omega)) ?_
  refine bD [0] 4 0 [(3, iQ ((n : Int) - 1))] [] ?_
  refine cDn <| tNo <| mcont_block ?_
  refine cont_nilrow 52 1 ?_
  refine cN ((.gen (rowE (none) 0 0 0 52 1 (ivals .u32 []) true)) :: e1 :: e2 :: (.ro kb [.slice A n cap] 26) :: (rD (A) g o n 14 (dvals IT.cells its)) :: (Tr b0)) ?_
  refine cRc 3 (iQ ((n : Int) - 1)) (iQ ((n : Int) - 1 - ((([] : List Nat).length : Nat) : Int))) rfl (congrArg (Value.int .i64) (by simp)) ?_
  refine mcont_loop (α := List Nat × β) (fun x_ : List Nat × β => BackP n x_.1 ∧ Inv x_.1 x_.2) (fun x_ : List Nat × β => [(0, .func (.yield l_) #[] #[]), (1, pT kb), (3, iQ ((n : Int) - 1 - ((x_.1.length : Nat) : Int)))]) (fun x_ : List Nat × β => ((.gen (rowE (none) 0 0 0 52 1 (ivals .u32 []) true)) :: e1 :: e2 :: (.ro kb [.slice A n cap] 26) :: (rD (A) g o n 14 (dvals IT.cells its)) :: (Tr x_.2))) (fun x_ : List Nat × β => n - x_.1.length) ([], b0) (show BackP n ([]) ∧ Inv ([]) (b0) from ⟨BackP.nil _, h0⟩) (by kernel_rfl) (by kernel_rfl) ?_
  rintro ⟨pre, b⟩ hinv2_
  replace hinv2_ : BackP n pre ∧ Inv pre b := hinv2_
  refine cN ((.gen (rowE (none) 0 0 0 52 1 (ivals .u32 []) true)) :: e1 :: e2 :: (.ro kb [.slice A n cap] 26) :: (rD (A) g o n 14 (dvals IT.cells its)) :: (Tr b)) ?_
  obtain ⟨hP, hI⟩ := hinv2_
  have hpl := hP.2
  refine mcont_seq ?_
  refine mcont_seq ?_
  refine mcont_region 2 rfl (by kernel_rfl) ?_
  refine bD [0, 0] 2 0 [(8, .bool (decide (((n : Int) - 1 - ((pre.length : Nat) : Int)) ≥ 0)))] [7] ?_
  refine cDn <| tNo ?_
  refine cSp 8 (decide (((n : Int) - 1 - ((pre.length : Nat) : Int)) ≥ 0)) rfl (fun c3_ => ?_) (fun c3_ => ?_)
  ·
    replace c3_ := of_decide_eq_true c3_
    refine mcont_true rfl ?_
    refine mcont_skip ?_
    refine tNo <| mcont_seq ?_
    refine mcont_block ?_
    refine mcont_seq ?_
    refine icont_region 8 rfl ?_
    refine pli_ops 6 2 6 rfl rfl (by kernel_rfl) ?_
    obtain ⟨x, hx⟩ : ∃ y_ : Nat, (y_ : Int) = (n : Int) - 1 - ((pre.length : Nat) : Int) := ⟨n - 1 - pre.length, by omega⟩
    refine cRc 3 (iQ ((n : Int) - 1 - ((pre.length : Nat) : Int))) (iQ (x : Int)) rfl (congrArg (Value.int .i64) hx.symm) ?_
    have hP2 : BackP n (pre ++ [x]) := hP.step hx
    refine bD [0, 0, 3, 0] 4 2 [(11, .func (.yield l_) #[] #[]), (12, iQ (x : Int)), (13, .slice A n cap), (14, iQ (x : Int))] [] ?_
    refine pSt 5 1 rfl rfl <| cRc 13 (.slice A n cap) (.slice (some ⟨g, o, none⟩) n cap) rfl (by rw [hra (by omega)]) ?_
    refine sem_step 15 (Instr.indexAt 26 (.slice (some ⟨g, o, none⟩) n cap) (iQ (x : Int))) (.pointer (some ⟨g, o + x * 14, none⟩)) (by kernel_rfl) (fun w hT => run_indexAt (e := 94) (sz := 14) _ (by kernel_rfl) (by kernel_rfl) (by omega) (by omega) (by omega) w) ?_
    refine pSt 6 0 rfl rfl <| sem_step 16 (Instr.loadAt 94 (.pointer (some ⟨g, o + x * 14, none⟩))) (.agg #[iQ 0, iQ 0, .pointer (some ⟨(dget its x).b, 0, none⟩), iQ ((dget its x).t.X), iQ ((dget its x).t.Y), iQ ((dget its x).t.s), iQ ((dget its x).t.al), iQ ((dget its x).t.ca), iQ ((dget its x).t.cb), iQ ((dget its x).t.cc), iQ ((dget its x).t.cd), .slice ((dget its x).t.A) ((dget its x).t.k) ((dget its x).t.cp), .string ⟨#[]⟩, iQ 0]) (by kernel_rfl) (fun w hT => run_loadN (m := 14) (cs := [iQ 0, iQ 0, .pointer (some ⟨(dget its x).b, 0, none⟩), iQ ((dget its x).t.X), iQ ((dget its x).t.Y), iQ ((dget its x).t.s), iQ ((dget its x).t.al), iQ ((dget its x).t.ca), iQ ((dget its x).t.cb), iQ ((dget its x).t.cc), iQ ((dget its x).t.cd), .slice ((dget its x).t.A) ((dget its x).t.k) ((dget its x).t.cp), .string ⟨#[]⟩, iQ 0]) (by kernel_rfl) (by kernel_rfl) rfl (Rd.dcell IT.size (hT.ok 4 _ rfl) (by omega))) ?_
    refine cDn <| tNo <| pli_yield 17 7 1 rfl rfl (by kernel_rfl) (by kernel_rfl) (R := fun v_ w_ => (v_ = .bool true ∧ ∃ b_, Inv (pre ++ [x]) b_ ∧ Tab w0 w_ ((.gen (rowE (none) 0 0 0 52 1 (ivals .u32 []) true)) :: e1 :: e2 :: (.ro kb [.slice A n cap] 26) :: (rD (A) g o n 14 (dvals IT.cells its)) :: (Tr b_))) ∨ (v_ = .bool false ∧ Jx w_)) (fun w_ hT_ => YieldAt.weaken (hY pre x b w_ _ (fun _ => rfl) hI hP2 hT_) (fun e_ w_ h_ => by rcases h_ with ⟨rfl, hh_⟩ | ⟨rfl, hh_⟩; exact ⟨_, rfl, .inl ⟨rfl, hh_⟩⟩; exact ⟨_, rfl, .inr ⟨rfl, hh_⟩⟩)) ?_
    rintro a_ w_ v_ ha_ hf_ (⟨rfl, b, hI, hT_⟩ | ⟨rfl, hJ⟩)
    ·
      refine Cont.go ?_ ha_ hf_ hT_
      refine cN ((.gen (rowE (none) 0 0 0 52 1 (ivals .u32 []) true)) :: e1 :: e2 :: (.ro kb [.slice A n cap] 26) :: (rD (A) g o n 14 (dvals IT.cells its)) :: (Tr b)) ?_
      refine pli_ops 1 0 8 rfl rfl (by kernel_rfl) ?_
      refine bD [0] 8 0 [(18, .bool false)] [] ?_
      refine cDn <| tNo <| pli_done ?_
      refine tNo <| mcont_false rfl ?_
      refine mcont_skip ?_
      refine blk_normal <| tNo <| mcont_region 3 rfl (by kernel_rfl) ?_
      refine bD [0, 0] 2 1 [(10, iQ (IntKind.i64.wrap ((x : Int) - 1)))] [9] ?_
      refine cRc 10 (iQ (IntKind.i64.wrap ((x : Int) - 1))) (iQ ((x : Int) - 1)) rfl (wrapI (by omega) (by omega)) ?_
      refine bD [0] 3 0 [(3, iQ ((x : Int) - 1))] [] ?_
      refine cDn <| tNo <| cRc 3 (iQ ((x : Int) - 1)) (iQ ((n : Int) - 1 - (((pre ++ [x]).length : Nat) : Int))) rfl (congrArg (Value.int .i64) (by rw [List.length_append, List.length_singleton]; omega)) ?_
      refine cont_again (pre ++ [x], b) (show BackP n (pre ++ [x]) ∧ Inv (pre ++ [x]) (b) from ⟨hP2, hI⟩) (show n - (pre ++ [x]).length < n - pre.length from by rw [List.length_append, List.length_singleton]; omega) (by kernel_rfl) (by kernel_rfl)
    ·
      refine Cont.go ?_ ha_ hf_ (Tab.start w_)
      refine cN [] ?_
      refine pli_ops 1 0 8 rfl rfl (by kernel_rfl) ?_
      refine bD [0] 8 0 [(18, .bool true)] [] ?_
      refine cDn <| tNo <| pli_done ?_
      refine tNo <| mcont_true rfl ?_
      refine mcont_ret ?_
      refine blk_ret <| then_ret <| then_ret <| blk_ret ?_
      refine ret_none (.inl rfl) rfl (fun w hT => ?_)
      exact ⟨⟨_, rfl⟩, .inr (hJx _ _ hJ (hT.toBelow (fun i e h => by simp at h)))⟩
  replace c3_ := of_decide_eq_false c3_
  refine mcont_false rfl ?_
  refine mcont_exit ?_
  refine then_exit <| then_exit <| blk_exit ?_
  refine ret_none (.inr rfl) rfl (fun w hT => ?_)
  exact ⟨⟨_, rfl⟩, .inl ⟨pre, b, ⟨hP, by omega⟩, hI, hT.drop (fun _ => rfl)⟩⟩
theorem backIter (kb : Nat) (A : Option Addr) (g o n cap : Nat) (its : List IT) (hn : n ≤ 100) (hra : 0 < n → A = some ⟨g, o, none⟩) (hrl : its.length = n) (w0 : World) : IterC Tryz.prog 95 #[pT kb] (fun z_ : Nat => #[iQ (z_ : Int), .agg #[iQ 0, iQ 0, .pointer (some ⟨(dget its z_).b, 0, none⟩), iQ ((dget its z_).t.X), iQ ((dget its z_).t.Y), iQ ((dget its z_).t.s), iQ ((dget its z_).t.al), iQ ((dget its z_).t.ca), iQ ((dget its z_).t.cb), iQ ((dget its z_).t.cc), iQ ((dget its z_).t.cd), .slice ((dget its z_).t.A) ((dget its z_).t.k) ((dget its z_).t.cp), .string ⟨#[]⟩, iQ 0]]) w0 [.ro kb [.slice A n cap] 26, rD (A) g o n 14 (dvals IT.cells its)] (fun _ => []) (fun xs_ => BackP n xs_ ∧ xs_.length = n) (fun p_ => BackP n p_) :=
  fun Inv Tr Jx l e1 e2 W1 b0 hJx hY h0 hT => backIter0 kb A g o n cap its hn hra hrl w0 Inv Tr Jx l e1 e2 W1 b0 hJx hY h0 hT
theorem backOf (A : Option Addr) (n cap : Nat) (w : World) :
    Calls Tryz.prog 68 #[.slice A n cap] w fun e w' => ∃ kb : Nat, e = .returned (.func (.func 95) #[] #[pT kb]) ∧ Tab w w' [.cells kb [.slice A n cap] 26 true] := by
 refine enter 4 [(0, .slice A n cap)] [] Tryz.func68 rfl Tryz.ntmps68 rfl (by kernel_rfl) (Tab.start w) ?_
 refine cSq <| cRg 2 rfl ?_
 refine batch1 [0, 0] 2 0 (fun b1 => [(1, .pointer (pB b1))]) (fun b1 => [.cells b1 [.slice A n cap] 26 true]) rfl rfl [1] (fun _ => rfl) (fun b1 => by kernel_rfl) (fun b1 => by kernel_rfl) (fun b1 => ?_)
 refine cDn <| tNo <| cSq <| cRg 2 rfl <| bS [0, 0] 2 0 [(2, .func (.func 95) #[] #[.pointer (pB b1)])] ?_
 refine cDn <| tNo <| cont_ret ?_
 refine ret_one (.inl rfl) rfl 0 (.func (.func 95) #[] #[.pointer (pB b1)]) (by kernel_rfl) (by kernel_rfl) (fun w hT => ?_)
 exact ⟨_, rfl, hT⟩
theorem planjobs0 (A : Option Addr) (g o n cap : Nat) (xs : List Rect) (q : Int) (w : World) (hT0 : Tab w w [rD (A) g o n 4 (rvals xs)]) (hn : n ≤ 274877906944) :
    Calls Tryz.prog 39 #[.slice none 0 0, iQ q, .slice A n cap] w fun e w' => ∃ (A_ : Option Addr) (g_ cp_ : Nat), e = .returned (.slice A_ n cp_) ∧ Tab w w' [.gen (rowE (A_) g_ n cp_ 68 5 (dvals JS.cells (xs.map (JS.of q))) true)] := by
  obtain ⟨hra, hrl⟩ := Rd.factsR (hT0.ok 0 _ rfl)
  refine enter 23 [(0, .slice none 0 0), (1, iQ q), (2, .slice A n cap)] [rD (A) g o n 4 (rvals xs)] Tryz.func39 rfl Tryz.ntmps39 rfl (by kernel_rfl) hT0 ?_
  refine cSq <| cRg 1 rfl <| bD [0] 1 0 [] [6] ?_
  refine cDn <| tNo <| cSq <| cSq <| cRg 3 rfl <| bD [0, 0, 0] 3 0 [(9, .slice A n cap), (10, iQ (n : Int)), (11, iQ 0)] [] ?_
  refine cDn <| tNo <| cont_block <| cont_nilrow 68 5 ?_
  refine cN [.gen (rowE (none) 0 0 0 68 5 (dvals JS.cells []) true), rD (A) g o n 4 (rvals xs)] ?_
  refine cont_rowEqD (cel := JS.cells) (z := 5) 0 ([]) (((xs.take 0).map (JS.of q))) rfl rfl ?_
  refine cont_loop (α := Nat × Option Addr × Nat × Nat) (fun x_ : Nat × Option Addr × Nat × Nat => x_.1 ≤ n) (fun x_ : Nat × Option Addr × Nat × Nat => [(0, .slice x_.2.1 x_.1 x_.2.2.2), (1, iQ q), (9, .slice A n cap), (10, iQ (n : Int)), (11, iQ (x_.1 : Int))]) (fun x_ : Nat × Option Addr × Nat × Nat => [.gen (rowE (x_.2.1) x_.2.2.1 x_.1 x_.2.2.2 68 5 (dvals JS.cells ((xs.take x_.1).map (JS.of q))) true), rD (A) g o n 4 (rvals xs)]) (fun x_ : Nat × Option Addr × Nat × Nat => n - x_.1) (0, none, 0, 0) (show (0) ≤ n from (by omega)) (by kernel_rfl) (by kernel_rfl) ?_
  rintro ⟨i, Ao, gw, co⟩ hinv2_
  replace hinv2_ : i ≤ n := hinv2_
  refine cN [.gen (rowE (Ao) gw i co 68 5 (dvals JS.cells ((xs.take i).map (JS.of q))) true), rD (A) g o n 4 (rvals xs)] ?_
  have hi := hinv2_
  refine cSq <| cRg 1 rfl <| bD [0] 1 0 [(12, .bool (decide ((i : Int) < (n : Int))))] [] ?_
  refine cDn <| tNo <| cSq ?_
  refine cSp 12 (decide ((i : Int) < (n : Int))) rfl (fun c3_ => ?_) (fun c3_ => ?_)
  ·
    replace c3_ := of_decide_eq_true c3_
    refine cTr rfl <| cont_skip <| tNo <| cSq <| cont_block <| cSq <| cRg 4 rfl <| pSt 1 3 rfl rfl <| cRc 9 (.slice A n cap) (.slice (some ⟨g, o, none⟩) n cap) rfl (by rw [hra (by omega)]) ?_
    refine sem_step 13 (Instr.indexAt 23 (.slice (some ⟨g, o, none⟩) n cap) (iQ (i : Int))) (.pointer (some ⟨g, o + i * 4, none⟩)) (by kernel_rfl) (fun w hT => run_indexAt (e := 32) (sz := 4) _ (by kernel_rfl) (by kernel_rfl) (by omega) (by omega) (by omega) w) ?_
    refine pSt 2 2 rfl rfl <| sem_step 14 (Instr.loadAt 32 (.pointer (some ⟨g, o + i * 4, none⟩))) (.agg #[iQ ((rget xs i).x0), iQ ((rget xs i).y0), iQ ((rget xs i).x1), iQ ((rget xs i).y1)]) (by kernel_rfl) (fun w hT => run_loadN (m := 4) (cs := rcells (rget xs i)) (by kernel_rfl) (by kernel_rfl) rfl (Rd.rect (hT.ok 1 _ rfl) (by omega))) ?_
    refine batch1 [0, 0] 4 0 (fun b4 => [(0, .slice Ao i co), (1, iQ q), (8, pT b4), (9, .slice (some ⟨g, o, none⟩) n cap), (10, iQ (n : Int)), (11, iQ (i : Int))]) (fun b4 => [.cells b4 [iQ ((rget xs i).x0), iQ ((rget xs i).y0), iQ ((rget xs i).x1), iQ ((rget xs i).y1)] 32 true, .gen (rowE (Ao) gw i co 68 5 (dvals JS.cells ((xs.take i).map (JS.of q))) true), rD (A) g o n 4 (rvals xs)]) rfl rfl [0, 1, 8, 9, 10, 11] (fun _ => rfl) (fun b4 => by kernel_rfl) (fun b4 => by kernel_rfl) (fun b4 => ?_)
    refine cDn <| tNo <| cRg 7 rfl ?_
    refine batch1 [0, 0, 0, 0, 0] 5 2 (fun b5 => [(1, iQ q), (9, .slice (some ⟨g, o, none⟩) n cap), (10, iQ (n : Int)), (11, iQ (i : Int)), (15, .slice Ao i co), (19, sL b5 1 1)]) (fun b5 => [.cells b5 [iQ q, iQ ((rget xs i).x0), iQ ((rget xs i).y0), iQ ((rget xs i).x1), iQ ((rget xs i).y1)] 68 true, .cells b4 [iQ ((rget xs i).x0), iQ ((rget xs i).y0), iQ ((rget xs i).x1), iQ ((rget xs i).y1)] 32 true, .gen (rowE (Ao) gw i co 68 5 (dvals JS.cells ((xs.take i).map (JS.of q))) true), rD (A) g o n 4 (rvals xs)]) rfl rfl [1, 9, 10, 11, 15, 19] (fun _ => rfl) (fun b5 => by kernel_rfl) (fun b5 => by kernel_rfl) (fun b5 => ?_)
    refine cFg 1 rfl <| pSt 6 1 rfl rfl <| sSW (α := Option Addr × Nat × Nat) 20 (Builtin.append_ #[36, 36] 36 #[.slice Ao i co, sL b5 1 1]) (fun x_ => .slice x_.1 (i + 1) x_.2.2) (fun x_ => [.cells b5 [iQ q, iQ ((rget xs i).x0), iQ ((rget xs i).y0), iQ ((rget xs i).x1), iQ ((rget xs i).y1)] 68 true, .gen (rowE (x_.1) x_.2.1 (i + 1) x_.2.2 68 5 (dvals JS.cells (((xs.take i).map (JS.of q)) ++ [(⟨q, (rget xs i).x0, (rget xs i).y0, (rget xs i).x1, (rget xs i).y1⟩ : JS)])) true), rD (A) g o n 4 (rvals xs)]) (fun _ => True) (by kernel_rfl) (fun w hT => append_own (n' := (i + 1)) (z := .agg #[iQ 0, iQ 0, iQ 0, iQ 0, iQ 0]) hT (i := 1) (bytes := 40) rfl (by kernel_rfl) (by kernel_rfl) rfl (by decide) (by decide) (Rd.ofCells (vals := dvals JS.cells [(⟨q, (rget xs i).x0, (rget xs i).y0, (rget xs i).x1, (rget xs i).y1⟩ : JS)]) (hT.ok 0 _ rfl) rfl rfl) (dvals_one JS.one [(⟨q, (rget xs i).x0, (rget xs i).y0, (rget xs i).x1, (rget xs i).y1⟩ : JS)]) (by omega) (dvals_append ((xs.take i).map (JS.of q)) [(⟨q, (rget xs i).x0, (rget xs i).y0, (rget xs i).x1, (rget xs i).y1⟩ : JS)]) rfl) ?_
    rintro ⟨A6, g6, cp6⟩ -
    refine cN [.cells b5 [iQ q, iQ ((rget xs i).x0), iQ ((rget xs i).y0), iQ ((rget xs i).x1), iQ ((rget xs i).y1)] 68 true, .gen (rowE (A6) g6 (i + 1) cp6 68 5 (dvals JS.cells (((xs.take i).map (JS.of q)) ++ [(⟨q, (rget xs i).x0, (rget xs i).y0, (rget xs i).x1, (rget xs i).y1⟩ : JS)])) true), rD (A) g o n 4 (rvals xs)] ?_
    refine cont_fact (F := (0 < (i + 1) → (A6 : Option Addr) = some ⟨g6, 0, none⟩) ∧ (((xs.take i).map (JS.of q)) ++ [(⟨q, (rget xs i).x0, (rget xs i).y0, (rget xs i).x1, (rget xs i).y1⟩ : JS)]).length = (i + 1) ∧ (i + 1) ≤ cp6 ∧ cp6 ≤ maxLen) (fun w hT => Row.factsD JS.size (by decide) (hT.ok 1 _ rfl)) (fun hr7_ => ?_)
    obtain ⟨hr7_a, hr7_l, hr7_c, hr7_m⟩ := hr7_
    unfold maxLen at hr7_m
    refine bD [0] 7 0 [(0, .slice A6 (i + 1) cp6)] [] ?_
    refine cFg 0 rfl <| cDn <| blk_normal <| tNo <| cRg 2 rfl <| bD [0] 1 1 [(21, iQ (IntKind.i64.wrap ((i : Int) + 1)))] [] ?_
    refine cRc 21 (iQ (IntKind.i64.wrap ((i : Int) + 1))) (iQ ((i : Int) + 1)) rfl (wrapI (by omega) (by omega)) ?_
    refine bD [0] 2 0 [(11, iQ ((i : Int) + 1))] [] ?_
    refine cDn <| tNo <| cRc 9 (.slice (some ⟨g, o, none⟩) n cap) (.slice A n cap) rfl (by rw [hra (by omega)]) ?_
    refine cont_rowEqD (cel := JS.cells) (z := 5) 0 (((xs.take i).map (JS.of q)) ++ [(⟨q, (rget xs i).x0, (rget xs i).y0, (rget xs i).x1, (rget xs i).y1⟩ : JS)]) (((xs.take (i + 1)).map (JS.of q))) rfl (jobs_step (by omega) q) ?_
    refine cont_again (i + 1, A6, g6, cp6) (show (i + 1) ≤ n from (by omega)) (show n - (i + 1) < n - i from by omega) (by kernel_rfl) (by kernel_rfl)
  replace c3_ := of_decide_eq_false c3_
  refine cFa rfl <| cont_exit <| then_exit <| then_exit <| blk_exit <| tNo <| cSq <| cRg 2 rfl <| bS [0, 0] 2 0 [(6, .slice Ao i co)] ?_
  refine cDn <| tNo <| cont_ret ?_
  refine ret_one (.inl rfl) rfl 0 (.slice Ao i co) (by kernel_rfl) (by kernel_rfl) (fun w hT => ?_)
  replace hT := hT.erase 1 (fun e h hw => by cases h; first | rfl | cases hw)
  obtain rfl : i = n := by omega
  rw [List.take_of_length_le (by omega)] at hT
  exact ⟨_, _, _, rfl, hT⟩
theorem splitE (a b c d : Int) (w : World) :
    Calls Tryz.prog 38 #[.agg #[iQ 0, .slice none 0 0], .agg #[iQ a, iQ b, iQ c, iQ d]] w fun e w' => ∃ (r_ : Nat) (A_ : Option Addr) (g_ k_ cp_ : Nat), e = .returned (.tuple #[sL r_ 0 0, .slice A_ k_ cp_]) ∧ Tab w w' [.gen (rowE (A_) g_ k_ cp_ 32 4 (rvals (canR [(⟨a, b, c, d⟩ : Rect)])) true), oE r_ 0 0 23 1 (dvals RS.cells ([] : List RS))] := by
  refine enterM 39 [(0, .agg #[iQ 0, .slice none 0 0]), (1, .agg #[iQ a, iQ b, iQ c, iQ d])] [] Tryz.func38 rfl Tryz.ntmps38 rfl (by kernel_rfl) (Tab.start w) ?_
  refine cSq <| cRg 4 rfl ?_
  refine batch2 [0, 0, 0, 0] 4 0 (fun b1 b2 => [(2, pT b1), (3, pT b2)]) (fun b1 b2 => [.cells b2 [iQ a, iQ b, iQ c, iQ d] 32 true, .cells b1 [iQ 0, .slice none 0 0] 28 true]) rfl rfl [2, 3] (fun _ _ => rfl) (fun b1 b2 => by kernel_rfl) (fun b1 b2 => by kernel_rfl) (fun b1 b2 => ?_)
  refine cDn <| tNo <| cSq <| cRg 6 rfl <| bD [0, 1, 0] 3 3 [(12, iQ 0)] [10, 11] ?_
  refine pSt 4 2 rfl rfl ?_
  refine sSW 13 (Instr.makeSlice 44 (iQ 0) (iQ 0)) (fun r3 => sL r3 0 0) (fun r3 => [oE r3 0 0 23 1 (dvals RS.cells (List.replicate 0 RS.nil)), .cells b2 [iQ a, iQ b, iQ c, iQ d] 32 true, .cells b1 [iQ 0, .slice none 0 0] 28 true]) (fun _ => True) (by kernel_rfl) (fun w hT => make_rowS hT (bytes := 24) 0 (by kernel_rfl) (by kernel_rfl) (by omega) (by omega)) (fun r3 _ => ?_)
  refine batch1 [0, 0] 6 0 (fun b4 => [(2, pT b1), (3, pT b2), (6, pT b4)]) (fun b4 => [.cells b4 [sL r3 0 0] 44 true, oE r3 0 0 23 1 (dvals RS.cells (List.replicate 0 RS.nil)), .cells b2 [iQ a, iQ b, iQ c, iQ d] 32 true, .cells b1 [iQ 0, .slice none 0 0] 28 true]) rfl rfl [2, 3, 6] (fun _ => rfl) (fun b4 => by kernel_rfl) (fun b4 => by kernel_rfl) (fun b4 => ?_)
  refine cDn <| tNo <| cSq <| cRg 5 rfl ?_
  refine batch1 [2, 0] 2 3 (fun b5 => [(2, pT b1), (6, pT b4), (15, sL b5 1 1)]) (fun b5 => [.cells b5 [iQ a, iQ b, iQ c, iQ d] 32 true, .cells b4 [sL r3 0 0] 44 true, oE r3 0 0 23 1 (dvals RS.cells (List.replicate 0 RS.nil)), .cells b2 [iQ a, iQ b, iQ c, iQ d] 32 true, .cells b1 [iQ 0, .slice none 0 0] 28 true]) rfl rfl [2, 6, 15] (fun _ => rfl) (fun b5 => by kernel_rfl) (fun b5 => by kernel_rfl) (fun b5 => ?_)
  refine cFg 3 rfl <| pSt 3 2 rfl rfl <| cont_asRow 0 1 4 rfl (vals := rvals [(⟨a, b, c, d⟩ : Rect)]) rfl rfl (by decide) ?_
  refine call_gen (d := 16) (α := Option Addr × Nat × Nat × Nat) (fun x_ => .slice x_.1 x_.2.2.1 x_.2.2.2) (fun x_ => [.gen (rowE (x_.1) x_.2.1 x_.2.2.1 x_.2.2.2 32 4 (rvals (canR [(⟨a, b, c, d⟩ : Rect)])) true), oE b5 1 1 32 4 (rvals [(⟨a, b, c, d⟩ : Rect)]), .cells b4 [sL r3 0 0] 44 true, oE r3 0 0 23 1 (dvals RS.cells (List.replicate 0 RS.nil)), .cells b1 [iQ 0, .slice none 0 0] 28 true]) (fun x_ => True) (by kernel_rfl) (fun w hT => (regOf (some ⟨b5, 0, none⟩) b5 0 1 1 [(⟨a, b, c, d⟩ : Rect)] w (hT.viewRo (.cons (i := 0) rfl Vw.rowRd .nil) rfl) (by omega)).mono fun e w' ⟨A6, g7, k8, cp9, he_, ht_⟩ => ⟨(A6, g7, k8, cp9), he_, trivial, hT.news ht_ rfl⟩) ?_
  rintro ⟨A6, g7, k8, cp9⟩ hf10_
  refine cN [.gen (rowE (A6) g7 k8 cp9 32 4 (rvals (canR [(⟨a, b, c, d⟩ : Rect)])) true), oE b5 1 1 32 4 (rvals [(⟨a, b, c, d⟩ : Rect)]), .cells b4 [sL r3 0 0] 44 true, oE r3 0 0 23 1 (dvals RS.cells (List.replicate 0 RS.nil)), .cells b1 [iQ 0, .slice none 0 0] 28 true] ?_
  refine cont_fact (F := (0 < k8 → (A6 : Option Addr) = some ⟨g7, 0, none⟩) ∧ (canR [(⟨a, b, c, d⟩ : Rect)]).length = k8 ∧ k8 ≤ cp9 ∧ cp9 ≤ maxLen) (fun w hT => Row.factsR (hT.ok 0 _ rfl)) (fun hr11_ => ?_)
  obtain ⟨hr11_a, hr11_l, hr11_c, hr11_m⟩ := hr11_
  unfold maxLen at hr11_m
  refine batch1 [0, 0] 5 0 (fun b12 => [(2, pT b1), (6, pT b4), (7, pT b12)]) (fun b12 => [.cells b12 [.slice A6 k8 cp9] 23 true, .gen (rowE (A6) g7 k8 cp9 32 4 (rvals (canR [(⟨a, b, c, d⟩ : Rect)])) true), oE b5 1 1 32 4 (rvals [(⟨a, b, c, d⟩ : Rect)]), .cells b4 [sL r3 0 0] 44 true, oE r3 0 0 23 1 (dvals RS.cells (List.replicate 0 RS.nil)), .cells b1 [iQ 0, .slice none 0 0] 28 true]) rfl rfl [2, 6, 7] (fun _ => rfl) (fun b12 => by kernel_rfl) (fun b12 => by kernel_rfl) (fun b12 => ?_)
  refine cDn <| tNo <| cSq <| cSq <| cRg 3 rfl <| bD [0, 5] 2 1 [(18, .slice none 0 0)] [17] ?_
  refine cFg 5 rfl <| pSt 3 0 rfl rfl <| call_gen (d := 19) (α := Nat) (fun x_ => .func (.func 95) #[] #[pT x_]) (fun x_ => [.cells x_ [.slice none 0 0] 26 true, .cells b12 [.slice A6 k8 cp9] 23 true, .gen (rowE (A6) g7 k8 cp9 32 4 (rvals (canR [(⟨a, b, c, d⟩ : Rect)])) true), oE b5 1 1 32 4 (rvals [(⟨a, b, c, d⟩ : Rect)]), .cells b4 [sL r3 0 0] 44 true, oE r3 0 0 23 1 (dvals RS.cells (List.replicate 0 RS.nil))]) (fun x_ => True) (by kernel_rfl) (fun w hT => (backOf none 0 0 w).mono fun e w' ⟨kb13, he_, ht_⟩ => ⟨kb13, he_, trivial, hT.news ht_ rfl⟩) ?_
  rintro kb13 hf14_
  refine cN [.cells kb13 [.slice none 0 0] 26 true, .cells b12 [.slice A6 k8 cp9] 23 true, .gen (rowE (A6) g7 k8 cp9 32 4 (rvals (canR [(⟨a, b, c, d⟩ : Rect)])) true), oE b5 1 1 32 4 (rvals [(⟨a, b, c, d⟩ : Rect)]), .cells b4 [sL r3 0 0] 44 true, oE r3 0 0 23 1 (dvals RS.cells (List.replicate 0 RS.nil))] ?_
  refine cDn <| tNo <| cont_block <| cont_nilrow 94 14 ?_
  refine cN [.gen (rowE (none) 0 0 0 94 14 (dvals IT.cells []) true), .cells kb13 [.slice none 0 0] 26 true, .cells b12 [.slice A6 k8 cp9] 23 true, .gen (rowE (A6) g7 k8 cp9 32 4 (rvals (canR [(⟨a, b, c, d⟩ : Rect)])) true), oE b5 1 1 32 4 (rvals [(⟨a, b, c, d⟩ : Rect)]), .cells b4 [sL r3 0 0] 44 true, oE r3 0 0 23 1 (dvals RS.cells (List.replicate 0 RS.nil))] ?_
  refine cont_rowEqD (cel := IT.cells) (z := 14) 0 ([]) (([] : List IT)) rfl rfl ?_
  refine cont_weaken 1 (.ro kb13 [.slice none 0 0] 26) rfl rfl Vw.roc rfl ?_
  refine cN [.gen (rowE (none) 0 0 0 94 14 (dvals IT.cells ([] : List IT)) true), .ro kb13 [.slice none 0 0] 26, .cells b12 [.slice A6 k8 cp9] 23 true, .gen (rowE (A6) g7 k8 cp9 32 4 (rvals (canR [(⟨a, b, c, d⟩ : Rect)])) true), oE b5 1 1 32 4 (rvals [(⟨a, b, c, d⟩ : Rect)]), .cells b4 [sL r3 0 0] 44 true, oE r3 0 0 23 1 (dvals RS.cells (List.replicate 0 RS.nil))] ?_
  refine cont_weaken 0 (rD (none) 0 0 0 14 (dvals IT.cells ([] : List IT))) rfl rfl Vw.rowRd rfl ?_
  refine cN [rD (none) 0 0 0 14 (dvals IT.cells ([] : List IT)), .ro kb13 [.slice none 0 0] 26, .cells b12 [.slice A6 k8 cp9] 23 true, .gen (rowE (A6) g7 k8 cp9 32 4 (rvals (canR [(⟨a, b, c, d⟩ : Rect)])) true), oE b5 1 1 32 4 (rvals [(⟨a, b, c, d⟩ : Rect)]), .cells b4 [sL r3 0 0] 44 true, oE r3 0 0 23 1 (dvals RS.cells (List.replicate 0 RS.nil))] ?_
  refine cont_pick [1, 0, 2, 3, 4, 5, 6] [.ro kb13 [.slice none 0 0] 26, rD (none) 0 0 0 14 (dvals IT.cells ([] : List IT)), .cells b12 [.slice A6 k8 cp9] 23 true, .gen (rowE (A6) g7 k8 cp9 32 4 (rvals (canR [(⟨a, b, c, d⟩ : Rect)])) true), oE b5 1 1 32 4 (rvals [(⟨a, b, c, d⟩ : Rect)]), .cells b4 [sL r3 0 0] 44 true, oE r3 0 0 23 1 (dvals RS.cells (List.replicate 0 RS.nil))] (by decide) rfl rfl ?_
  refine cont_rangeFunc (X := Nat) (β := Unit) (γ := Unit) (gf := 95) (lb := #[pT kb13]) (fun z_ : Nat => #[iQ (z_ : Int), .agg #[iQ 0, iQ 0, .pointer (some ⟨(dget ([] : List IT) z_).b, 0, none⟩), iQ ((dget ([] : List IT) z_).t.X), iQ ((dget ([] : List IT) z_).t.Y), iQ ((dget ([] : List IT) z_).t.s), iQ ((dget ([] : List IT) z_).t.al), iQ ((dget ([] : List IT) z_).t.ca), iQ ((dget ([] : List IT) z_).t.cb), iQ ((dget ([] : List IT) z_).t.cc), iQ ((dget ([] : List IT) z_).t.cd), .slice ((dget ([] : List IT) z_).t.A) ((dget ([] : List IT) z_).t.k) ((dget ([] : List IT) z_).t.cp), .string ⟨#[]⟩, iQ 0]]) [.ro kb13 [.slice none 0 0] 26, rD (none) 0 0 0 14 (dvals IT.cells ([] : List IT))] (fun z_ : Nat => []) (fun xs_ => BackP 0 xs_ ∧ xs_.length = 0) (fun xs_ => BackP 0 xs_) (fun (pre : List (Nat)) (x_ : Unit) => True) (fun x_ : Unit => [.cells b12 [.slice A6 k8 cp9] 23 true, .gen (rowE (A6) g7 k8 cp9 32 4 (rvals (canR [(⟨a, b, c, d⟩ : Rect)])) true), oE b5 1 1 32 4 (rvals [(⟨a, b, c, d⟩ : Rect)]), .cells b4 [sL r3 0 0] 44 true, oE r3 0 0 23 1 (dvals RS.cells (List.replicate 0 RS.nil))]) (fun (_ : Code) (_ : Unit) => False) (fun x_ : Unit => []) () rfl (fun _ _ => rfl) (fun _ => rfl) (by kernel_rfl) (backIter kb13 none 0 0 0 0 ([] : List IT) (by omega) (fun h_ => absurd h_ (by decide)) rfl _) trivial rfl ?_ ?_ ?_ ?_
  ·
    rintro l_ z16_ e16_ e16b_ e16q_ pre x ⟨⟩ B_ hz_ hinv17_ hsp_ hB_
    replace hinv17_ : True := hinv17_
    replace hsp_ : BackP 0 (pre ++ [(x)]) := hsp_
    exact absurd hsp_.last.2 (Nat.not_lt_zero _)
  ·
    rintro D19_ xs_ ⟨⟩ hS_ hinv18_
    replace hinv18_ : True := hinv18_
    replace hS_ : BackP 0 xs_ ∧ xs_.length = 0 := hS_
    refine cN [markE D19_, .ro kb13 [.slice none 0 0] 26, rD (none) 0 0 0 14 (dvals IT.cells ([] : List IT)), .cells b12 [.slice A6 k8 cp9] 23 true, .gen (rowE (A6) g7 k8 cp9 32 4 (rvals (canR [(⟨a, b, c, d⟩ : Rect)])) true), oE b5 1 1 32 4 (rvals [(⟨a, b, c, d⟩ : Rect)]), .cells b4 [sL r3 0 0] 44 true, oE r3 0 0 23 1 (dvals RS.cells (List.replicate 0 RS.nil))] ?_
    refine blk_normal <| tNo <| cSq <| drawn_enter 4 [] rfl (by kernel_rfl) ?_
    refine tD 0 [] [(0, 6), (1, 3), (2, 0), (3, 0)] 0 [3, 2, 1, 0] [(4, sL r3 0 0), (5, .slice A6 k8 cp9)] [37, 38] ?_ (hpo := (pok_then pok_np))
    refine drawn_done (by kernel_rfl) ?_
    refine tNo <| cont_ret <| mark_end 0 rfl (.inl rfl) ?_
    refine cN [objE D19_ (.deferred none), .ro kb13 [.slice none 0 0] 26, rD (none) 0 0 0 14 (dvals IT.cells ([] : List IT)), .cells b12 [.slice A6 k8 cp9] 23 true, .gen (rowE (A6) g7 k8 cp9 32 4 (rvals (canR [(⟨a, b, c, d⟩ : Rect)])) true), oE b5 1 1 32 4 (rvals [(⟨a, b, c, d⟩ : Rect)]), .cells b4 [sL r3 0 0] 44 true, oE r3 0 0 23 1 (dvals RS.cells (List.replicate 0 RS.nil))] ?_
    refine ret_two (.inl rfl) rfl 0 0 (sL r3 0 0) (.slice A6 k8 cp9) (by kernel_rfl) (by kernel_rfl) (by kernel_rfl) (by kernel_rfl) (fun w hT => ?_)
    replace hT := hT.erase 6 (fun e h hw => by cases h; first | rfl | cases hw)
    replace hT := hT.erase 5 (fun e h hw => by cases h; first | rfl | cases hw)
    replace hT := hT.erase 3 (fun e h hw => by cases h; first | rfl | cases hw)
    replace hT := hT.erase 2 (fun e h hw => by cases h; first | rfl | cases hw)
    replace hT := hT.erase 1 (fun e h hw => by cases h; first | rfl | cases hw)
    replace hT := hT.erase 0 (fun e h hw => by cases h; first | rfl | cases hw)
    exact ⟨_, _, _, _, _, rfl, hT⟩
  ·
    intro D_  c_ h_; exact h_.elim
  ·
    intro D_ id_ c_ h_; exact h_.elim
theorem planJobsE (A : Option Addr) (g o n cap : Nat) (xs : List Rect) (a b c d : Int) (w : World) (hT0 : Tab w w [rD (A) g o n 4 (rvals xs)]) (hn : n ≤ 65536) :
    Calls Tryz.prog 13 #[.agg #[iQ 0, .slice none 0 0], .agg #[iQ a, iQ b, iQ c, iQ d], .slice A n cap] w fun e w' => ∃ (A_ : Option Addr) (g_ k_ cp_ : Nat), e = .returned (.slice A_ k_ cp_) ∧ Tab w w' [.gen (rowE (A_) g_ k_ cp_ 68 5 (dvals JS.cells ((regM andB (canR [(⟨a, b, c, d⟩ : Rect)]) xs).map (JS.of (-1)))) true)] := by
  obtain ⟨hra, hrl⟩ := Rd.factsR (hT0.ok 0 _ rfl)
  refine enter 37 [(0, .agg #[iQ 0, .slice none 0 0]), (1, .agg #[iQ a, iQ b, iQ c, iQ d]), (2, .slice A n cap)] [rD (A) g o n 4 (rvals xs)] Tryz.func13 rfl Tryz.ntmps13 rfl (by kernel_rfl) hT0 ?_
  refine cSq <| cRg 3 rfl ?_
  refine batch2 [0, 0, 0] 3 0 (fun b1 b2 => [(2, .slice A n cap), (3, pT b1), (4, pT b2)]) (fun b1 b2 => [.cells b2 [iQ a, iQ b, iQ c, iQ d] 32 true, .cells b1 [iQ 0, .slice none 0 0] 28 true, rD (A) g o n 4 (rvals xs)]) rfl rfl [2, 3, 4] (fun _ _ => rfl) (fun b1 b2 => by kernel_rfl) (fun b1 b2 => by kernel_rfl) (fun b1 b2 => ?_)
  refine cDn <| tNo <| cSq <| cRg 8 rfl <| bD [1, 0] 2 6 [(13, .agg #[iQ 0, .slice none 0 0]), (14, .agg #[iQ a, iQ b, iQ c, iQ d])] [] ?_
  refine cFg 0 rfl <| cFg 0 rfl <| pSt 3 5 rfl rfl <| call_gen (d := 15) (α := Nat × Option Addr × Nat × Nat × Nat) (fun x_ => .tuple #[sL x_.1 0 0, .slice x_.2.1 x_.2.2.2.1 x_.2.2.2.2]) (fun x_ => [.gen (rowE (x_.2.1) x_.2.2.1 x_.2.2.2.1 x_.2.2.2.2 32 4 (rvals (canR [(⟨a, b, c, d⟩ : Rect)])) true), .gen (rowE (some ⟨x_.1, 0, none⟩) x_.1 0 0 23 1 (dvals RS.cells ([] : List RS)) true), rD (A) g o n 4 (rvals xs)]) (fun x_ => True) (by kernel_rfl) (fun w hT => (splitE a b c d w).mono fun e w' ⟨r3, A4, g5, k6, cp7, he_, ht_⟩ => ⟨(r3, A4, g5, k6, cp7), he_, trivial, hT.news ht_ rfl⟩) ?_
  rintro ⟨r3, A4, g5, k6, cp7⟩ hf8_
  refine cN [.gen (rowE (A4) g5 k6 cp7 32 4 (rvals (canR [(⟨a, b, c, d⟩ : Rect)])) true), oE r3 0 0 23 1 (dvals RS.cells ([] : List RS)), rD (A) g o n 4 (rvals xs)] ?_
  refine cont_fact (F := (0 < k6 → (A4 : Option Addr) = some ⟨g5, 0, none⟩) ∧ (canR [(⟨a, b, c, d⟩ : Rect)]).length = k6 ∧ k6 ≤ cp7 ∧ cp7 ≤ maxLen) (fun w hT => Row.factsR (hT.ok 0 _ rfl)) (fun hr9_ => ?_)
  obtain ⟨hr9_a, hr9_l, hr9_c, hr9_m⟩ := hr9_
  unfold maxLen at hr9_m
  have hcs_ : (canR [(⟨a, b, c, d⟩ : Rect)]).length ≤ 784 := canR_small (by simp)
  refine bD [0, 0, 0, 0, 0] 8 0 [(7, sL r3 0 0), (8, .slice A4 k6 cp7)] [12, 16, 17] ?_
  refine cDn <| tNo <| cSq <| cRg 5 rfl <| bD [0, 0] 2 3 [(18, .slice A4 k6 cp7), (19, .slice A n cap)] [] ?_
  refine pSt 3 2 rfl rfl <| call_gen (d := 20) (α := Option Addr × Nat × Nat × Nat) (fun x_ => .slice x_.1 x_.2.2.1 x_.2.2.2) (fun x_ => [.gen (rowE (x_.1) x_.2.1 x_.2.2.1 x_.2.2.2 32 4 (rvals (regM andB (canR [(⟨a, b, c, d⟩ : Rect)]) xs)) true), .gen (rowE (A4) g5 k6 cp7 32 4 (rvals (canR [(⟨a, b, c, d⟩ : Rect)])) true), oE r3 0 0 23 1 (dvals RS.cells ([] : List RS)), rD (A) g o n 4 (rvals xs)]) (fun x_ => True) (by kernel_rfl) (fun w hT => (regCut A4 g5 0 k6 cp7 (canR [(⟨a, b, c, d⟩ : Rect)]) A g o n cap xs w (hT.viewRo (.cons (i := 0) rfl Vw.rowRd (.cons (i := 2) rfl Vw.rd .nil)) rfl) (by omega)).mono fun e w' ⟨A10, g11, k12, cp13, he_, ht_⟩ => ⟨(A10, g11, k12, cp13), he_, trivial, hT.news ht_ rfl⟩) ?_
  rintro ⟨A10, g11, k12, cp13⟩ hf14_
  refine cN [.gen (rowE (A10) g11 k12 cp13 32 4 (rvals (regM andB (canR [(⟨a, b, c, d⟩ : Rect)]) xs)) true), .gen (rowE (A4) g5 k6 cp7 32 4 (rvals (canR [(⟨a, b, c, d⟩ : Rect)])) true), oE r3 0 0 23 1 (dvals RS.cells ([] : List RS)), rD (A) g o n 4 (rvals xs)] ?_
  refine cont_fact (F := (0 < k12 → (A10 : Option Addr) = some ⟨g11, 0, none⟩) ∧ (regM andB (canR [(⟨a, b, c, d⟩ : Rect)]) xs).length = k12 ∧ k12 ≤ cp13 ∧ cp13 ≤ maxLen) (fun w hT => Row.factsR (hT.ok 0 _ rfl)) (fun hr15_ => ?_)
  obtain ⟨hr15_a, hr15_l, hr15_c, hr15_m⟩ := hr15_
  unfold maxLen at hr15_m
  have hrl9_ := regM_length (kf := andB) (a := (canR [(⟨a, b, c, d⟩ : Rect)])) (b := xs) (by omega)
  refine pSt 4 1 rfl rfl <| call_gen (d := 21) (α := Option Addr × Nat × Nat) (fun x_ => .slice x_.1 k12 x_.2.2) (fun x_ => [.gen (rowE (x_.1) x_.2.1 k12 x_.2.2 68 5 (dvals JS.cells ((regM andB (canR [(⟨a, b, c, d⟩ : Rect)]) xs).map (JS.of (-1)))) true), .gen (rowE (A10) g11 k12 cp13 32 4 (rvals (regM andB (canR [(⟨a, b, c, d⟩ : Rect)]) xs)) true), .gen (rowE (A4) g5 k6 cp7 32 4 (rvals (canR [(⟨a, b, c, d⟩ : Rect)])) true), oE r3 0 0 23 1 (dvals RS.cells ([] : List RS)), rD (A) g o n 4 (rvals xs)]) (fun x_ => True) (by kernel_rfl) (fun w hT => (planjobs0 A10 g11 0 k12 cp13 (regM andB (canR [(⟨a, b, c, d⟩ : Rect)]) xs) (-1) w (hT.viewRo (.cons (i := 0) rfl Vw.rowRd .nil) rfl) (by omega)).mono fun e w' ⟨A16, g17, cp18, he_, ht_⟩ => ⟨(A16, g17, cp18), he_, trivial, hT.news ht_ rfl⟩) ?_
  rintro ⟨A16, g17, cp18⟩ hf19_
  refine cN [.gen (rowE (A16) g17 k12 cp18 68 5 (dvals JS.cells ((regM andB (canR [(⟨a, b, c, d⟩ : Rect)]) xs).map (JS.of (-1)))) true), .gen (rowE (A10) g11 k12 cp13 32 4 (rvals (regM andB (canR [(⟨a, b, c, d⟩ : Rect)]) xs)) true), .gen (rowE (A4) g5 k6 cp7 32 4 (rvals (canR [(⟨a, b, c, d⟩ : Rect)])) true), oE r3 0 0 23 1 (dvals RS.cells ([] : List RS)), rD (A) g o n 4 (rvals xs)] ?_
  refine cont_fact (F := (0 < k12 → (A16 : Option Addr) = some ⟨g17, 0, none⟩) ∧ ((regM andB (canR [(⟨a, b, c, d⟩ : Rect)]) xs).map (JS.of (-1))).length = k12 ∧ k12 ≤ cp18 ∧ cp18 ≤ maxLen) (fun w hT => Row.factsD JS.size (by decide) (hT.ok 0 _ rfl)) (fun hr20_ => ?_)
  obtain ⟨hr20_a, hr20_l, hr20_c, hr20_m⟩ := hr20_
  unfold maxLen at hr20_m
  refine bD [0] 5 0 [(9, .slice A16 k12 cp18)] [] ?_
  refine cDn <| tNo <| cSq <| cSq <| cRg 3 rfl <| bD [0, 0, 0] 3 0 [(22, sL r3 0 0), (23, iQ 0), (24, iQ 0)] [] ?_
  refine cDn <| tNo <| cont_block <| cont_rounds 1 ?_
  refine cont_round 1 0 rfl ?_
  refine cSq <| cRg 1 rfl <| bD [0] 1 0 [(25, .bool false)] [] ?_
  refine cDn <| tNo <| cSq <| cFa rfl <| cont_exit <| then_exit <| then_exit <| blk_exit <| tNo <| cSq <| cRg 2 rfl <| bS [0, 0] 2 0 [(6, .slice A16 k12 cp18)] ?_
  refine cDn <| tNo <| cont_ret ?_
  refine ret_one (.inl rfl) rfl 0 (.slice A16 k12 cp18) (by kernel_rfl) (by kernel_rfl) (fun w hT => ?_)
  replace hT := hT.erase 4 (fun e h hw => by cases h; first | rfl | cases hw)
  replace hT := hT.erase 3 (fun e h hw => by cases h; first | rfl | cases hw)
  replace hT := hT.erase 2 (fun e h hw => by cases h; first | rfl | cases hw)
  replace hT := hT.erase 1 (fun e h hw => by cases h; first | rfl | cases hw)
  exact ⟨_, _, _, _, rfl, hT⟩
theorem lives17 (w : World) :
    Calls Tryz.prog 17 #[] w fun e w' => e = .returned (.bool true) ∧ Below w.heap.size w w' := by
  refine enter 29 [] [] Tryz.func17 rfl Tryz.ntmps17 rfl (by kernel_rfl) (Tab.start w) ?_
  refine cSq <| cRg 1 rfl <| bS [0] 1 0 [] ?_
  refine cDn <| tNo <| cSq <| cRg 3 rfl ?_
  refine batch1 [0, 0, 0] 3 0 (fun b1 => [(1, sL b1 1 1)]) (fun b1 => [.cells b1 [iQ 0, iQ 0, iQ 4, iQ 4] 32 true]) rfl rfl [1] (fun _ => rfl) (fun b1 => by kernel_rfl) (fun b1 => by kernel_rfl) (fun b1 => ?_)
  refine cDn <| tNo <| cSq <| cRg 7 rfl <| bD [0, 0, 0, 0, 0] 5 2 [(5, .agg #[iQ 0, .slice none 0 0]), (8, .agg #[iQ 0, iQ 0, iQ 4, iQ 4]), (9, sL b1 1 1)] [6, 7] ?_
  refine pSt 6 1 rfl rfl <| cont_asRow 0 1 4 rfl (vals := rvals [(⟨0, 0, 4, 4⟩ : Rect)]) rfl rfl (by decide) ?_
  refine call_gen (d := 10) (α := Option Addr × Nat × Nat × Nat) (fun x_ => .slice x_.1 x_.2.2.1 x_.2.2.2) (fun x_ => [.gen (rowE (x_.1) x_.2.1 x_.2.2.1 x_.2.2.2 68 5 (dvals JS.cells ((regM andB (canR [(⟨0, 0, 4, 4⟩ : Rect)]) [(⟨0, 0, 4, 4⟩ : Rect)]).map (JS.of (-1)))) true), oE b1 1 1 32 4 (rvals [(⟨0, 0, 4, 4⟩ : Rect)])]) (fun x_ => True) (by kernel_rfl) (fun w hT => (planJobsE (some ⟨b1, 0, none⟩) b1 0 1 1 [(⟨0, 0, 4, 4⟩ : Rect)] 0 0 4 4 w (hT.viewRo (.cons (i := 0) rfl Vw.rowRd .nil) rfl) (by omega)).mono fun e w' ⟨A2, g3, k4, cp5, he_, ht_⟩ => ⟨(A2, g3, k4, cp5), he_, trivial, hT.news ht_ rfl⟩) ?_
  rintro ⟨A2, g3, k4, cp5⟩ hf6_
  refine cN [.gen (rowE (A2) g3 k4 cp5 68 5 (dvals JS.cells ((regM andB (canR [(⟨0, 0, 4, 4⟩ : Rect)]) [(⟨0, 0, 4, 4⟩ : Rect)]).map (JS.of (-1)))) true), oE b1 1 1 32 4 (rvals [(⟨0, 0, 4, 4⟩ : Rect)])] ?_
  refine cont_fact (F := (0 < k4 → (A2 : Option Addr) = some ⟨g3, 0, none⟩) ∧ ((regM andB (canR [(⟨0, 0, 4, 4⟩ : Rect)]) [(⟨0, 0, 4, 4⟩ : Rect)]).map (JS.of (-1))).length = k4 ∧ k4 ≤ cp5 ∧ cp5 ≤ maxLen) (fun w hT => Row.factsD JS.size (by decide) (hT.ok 0 _ rfl)) (fun hr7_ => ?_)
  obtain ⟨hr7_a, hr7_l, hr7_c, hr7_m⟩ := hr7_
  unfold maxLen at hr7_m
  refine bD [0] 7 0 [(2, .slice A2 k4 cp5)] [] ?_
  refine cDn <| tNo <| cSq <| cSq <| cRg 3 rfl ?_
  have hLL : ((regM andB (canR [(⟨0, 0, 4, 4⟩ : Rect)]) [(⟨0, 0, 4, 4⟩ : Rect)]).map (JS.of (-1))) = [(⟨-1, 0, 0, 4, 4⟩ : JS)] := by rw [lives17_eq]; rfl
  obtain ⟨LJ, hLJ⟩ : ∃ y_ : List JS, y_ = [(⟨-1, 0, 0, 4, 4⟩ : JS)] := ⟨_, rfl⟩
  have hk9 : k4 = 1 := by rw [← hr7_l, hLL]; rfl
  have hlj : LJ.length = 1 := by rw [hLJ]; rfl
  refine cont_rowEqD (cel := JS.cells) (z := 5) 0 (((regM andB (canR [(⟨0, 0, 4, 4⟩ : Rect)]) [(⟨0, 0, 4, 4⟩ : Rect)]).map (JS.of (-1)))) (LJ) rfl (hLL.trans hLJ.symm) ?_
  refine bD [0, 0, 0] 3 0 [(13, .bool ((k4 : Int) != 1))] [11, 12] ?_
  refine cDn <| tNo <| cRc 13 (.bool ((k4 : Int) != 1)) (.bool false) rfl (congrArg Value.bool (by rw [hk9]; decide)) ?_
  refine cFa rfl <| cont_skip <| tNo <| cSq <| drawn_enter 16 [] rfl (by kernel_rfl) ?_
  refine tD 0 [] [(0, 0)] 15 [0] [(14, .slice A2 k4 cp5)] [] ?_
  refine cRc 14 (.slice A2 k4 cp5) (sL g3 k4 cp5) rfl (by rw [hr7_a (by omega)]) ?_
  refine sT 0 [] 1 14 15 (Instr.indexAt 36 (sL g3 k4 cp5) (iQ 0)) (.pointer (some ⟨g3, 0 * 5, none⟩)) (fun w hT => run_indexAt (e := 68) (sz := 5) _ (by kernel_rfl) (by kernel_rfl) (by omega) (by omega) (by omega) w) ?_
  refine tD 0 [] [(2, 0)] 13 [2, 1, 0] [(16, .pointer (some ⟨g3, 0 * 5, none⟩))] [] ?_
  refine sT 0 [] 3 12 17 (Instr.loadAt 3 (.pointer (some ⟨g3, 0 * 5, none⟩))) (iQ ((dget LJ 0).i)) (fun w hT => run_load1 (by kernel_rfl) (Rd.dcell1 JS.size (Row.rd (hT 0 _ rfl)) (by first | (show 0 < LJ.length; omega) | (show 0 < [(⟨0, 0, 4, 4⟩ : Rect)].length; decide)) 0 rfl)) ?_
  refine tD 0 [] [(4, 0), (5, 0)] 10 [5, 4, 3, 2, 1, 0] [(19, .bool (((dget LJ 0).i) == (-1)))] [18] ?_
  refine cRc 19 (.bool (((dget LJ 0).i) == (-1))) (.bool true) rfl (congrArg Value.bool (by rw [hLJ]; decide)) ?_
  refine tD 0 [] [(6, 0), (10, 0)] 8 [10, 6, 5, 4, 3, 2, 1, 0] [(20, .slice A2 k4 cp5), (24, sL b1 1 1)] [] ?_
  refine cRc 20 (.slice A2 k4 cp5) (sL g3 k4 cp5) rfl (by rw [hr7_a (by omega)]) ?_
  refine sT 0 [] 7 7 21 (Instr.indexAt 36 (sL g3 k4 cp5) (iQ 0)) (.pointer (some ⟨g3, 0 * 5, none⟩)) (fun w hT => run_indexAt (e := 68) (sz := 5) _ (by kernel_rfl) (by kernel_rfl) (by omega) (by omega) (by omega) w) ?_
  refine tD 0 [] [(8, 0)] 6 [8, 7, 10, 6, 5, 4, 3, 2, 1, 0] [(22, .pointer (some ⟨g3, 0 * 5 + 1, none⟩))] [] ?_
  refine sT 0 [] 9 5 23 (Instr.loadAt 32 (.pointer (some ⟨g3, 0 * 5 + 1, none⟩))) (.agg #[iQ ((dget LJ 0).a), iQ ((dget LJ 0).b), iQ ((dget LJ 0).c), iQ ((dget LJ 0).d)]) (fun w hT => run_loadN (m := 4) (cs := [iQ ((dget LJ 0).a), iQ ((dget LJ 0).b), iQ ((dget LJ 0).c), iQ ((dget LJ 0).d)]) (by kernel_rfl) (by kernel_rfl) rfl (Rd.dsub JS.size (Row.rd (hT 0 _ rfl)) (by first | (show 0 < LJ.length; omega) | (show 0 < [(⟨0, 0, 4, 4⟩ : Rect)].length; decide)) 1 4 rfl)) ?_
  refine sT 0 [] 11 4 25 (Instr.indexAt 23 (sL b1 1 1) (iQ 0)) (.pointer (some ⟨b1, 0 * 4, none⟩)) (fun w hT => run_indexAt (e := 32) (sz := 4) _ (by kernel_rfl) (by kernel_rfl) (by omega) (by omega) (by omega) w) ?_
  refine sT 0 [] 12 3 26 (Instr.loadAt 32 (.pointer (some ⟨b1, 0 * 4, none⟩))) (.agg #[iQ ((rget [(⟨0, 0, 4, 4⟩ : Rect)] 0).x0), iQ ((rget [(⟨0, 0, 4, 4⟩ : Rect)] 0).y0), iQ ((rget [(⟨0, 0, 4, 4⟩ : Rect)] 0).x1), iQ ((rget [(⟨0, 0, 4, 4⟩ : Rect)] 0).y1)]) (fun w hT => run_loadN (m := 4) (cs := rcells (rget [(⟨0, 0, 4, 4⟩ : Rect)] 0)) (by kernel_rfl) (by kernel_rfl) rfl (Rd.rect0 (Row.rd (hT 1 _ rfl)) (by first | (show 0 < LJ.length; omega) | (show 0 < [(⟨0, 0, 4, 4⟩ : Rect)].length; decide)))) ?_
  refine sT 0 [] 13 2 27 (bopS .eql 32 (.tmp 23) (.tmp 26) (.agg #[iQ ((dget LJ 0).a), iQ ((dget LJ 0).b), iQ ((dget LJ 0).c), iQ ((dget LJ 0).d)]) (.agg #[iQ ((rget [(⟨0, 0, 4, 4⟩ : Rect)] 0).x0), iQ ((rget [(⟨0, 0, 4, 4⟩ : Rect)] 0).y0), iQ ((rget [(⟨0, 0, 4, 4⟩ : Rect)] 0).x1), iQ ((rget [(⟨0, 0, 4, 4⟩ : Rect)] 0).y1)])) (.bool (eqInts [(dget LJ 0).a, (dget LJ 0).b, (dget LJ 0).c, (dget LJ 0).d] [(rget [(⟨0, 0, 4, 4⟩ : Rect)] 0).x0, (rget [(⟨0, 0, 4, 4⟩ : Rect)] 0).y0, (rget [(⟨0, 0, 4, 4⟩ : Rect)] 0).x1, (rget [(⟨0, 0, 4, 4⟩ : Rect)] 0).y1])) (fun w hT => run_eqS [(dget LJ 0).a, (dget LJ 0).b, (dget LJ 0).c, (dget LJ 0).d] [(rget [(⟨0, 0, 4, 4⟩ : Rect)] 0).x0, (rget [(⟨0, 0, 4, 4⟩ : Rect)] 0).y0, (rget [(⟨0, 0, 4, 4⟩ : Rect)] 0).x1, (rget [(⟨0, 0, 4, 4⟩ : Rect)] 0).y1] (by kernel_rfl) (by kernel_rfl) (by kernel_rfl) (by kernel_rfl) rfl rfl w) ?_
  refine tD 0 [] [(14, 0), (15, 0)] 0 [15, 14, 13, 12, 11, 9, 8, 7, 10, 6, 5, 4, 3, 2, 1, 0] [(0, .bool (eqInts [(dget LJ 0).a, (dget LJ 0).b, (dget LJ 0).c, (dget LJ 0).d] [(rget [(⟨0, 0, 4, 4⟩ : Rect)] 0).x0, (rget [(⟨0, 0, 4, 4⟩ : Rect)] 0).y0, (rget [(⟨0, 0, 4, 4⟩ : Rect)] 0).x1, (rget [(⟨0, 0, 4, 4⟩ : Rect)] 0).y1]))] [28] ?_
  refine drawn_done (by kernel_rfl) ?_
  refine tNo <| cont_ret ?_
  refine ret_one (.inl rfl) rfl 0 (.bool (eqInts [(dget LJ 0).a, (dget LJ 0).b, (dget LJ 0).c, (dget LJ 0).d] [(rget [(⟨0, 0, 4, 4⟩ : Rect)] 0).x0, (rget [(⟨0, 0, 4, 4⟩ : Rect)] 0).y0, (rget [(⟨0, 0, 4, 4⟩ : Rect)] 0).x1, (rget [(⟨0, 0, 4, 4⟩ : Rect)] 0).y1])) (by kernel_rfl) (by kernel_rfl) (fun w hT => ?_)
  exact ⟨ret_bool (by rw [hLJ]; decide +kernel), hT.post rfl⟩
end Go.Proofs.YtlfahohbkgdabaaGreat
