/- Texts of this proof's own, put together: what each holds is told ahead of it. -/
import Derived.Test.YtlfahohbkgdabaaPeL17a
import Derived.Test.YtlfahohbkgdabaaProg
import Derived.Test.YtlfahohbkgdabaaPeG1
import Derived.RangeFuncSeq
import Derived.Test.YtlfahohbkgdabaaPeG5
import Derived.Test.YtlfahohbkgdabaaPeG2
import Derived.Test.YtlfahohbkgdabaaPeG3
import Derived.LaidEqlPtr
import Derived.Maps.RangeRun
/- Contracts of functions of the given program, printed by a program of this project. -/
set_option linter.unusedVariables false
set_option linter.unusedSimpArgs false
namespace Go.Proofs.Ytlfahohbkgdabaa
open Go Go.RowKit
set_option maxRecDepth 100000
set_option maxHeartbeats 8000000

theorem surfLayer (b : Nat) (X Y s al ca cb cc cd : Int) (A : Option Addr) (k cp : Nat) (w : World) :
    Calls Try.prog 50 #[.agg #[.pointer (some ⟨b, 0, none⟩), .int .i64 X, .int .i64 Y, .int .i64 s, .int .i64 al, .int .i64 ca, .int .i64 cb, .int .i64 cc, .int .i64 cd, .slice A k cp, .string ⟨#[]⟩]] w fun e w' => e = .returned (.agg #[.pointer (some ⟨b, 0, none⟩), .int .i64 X, .int .i64 Y, .int .i64 s, .int .i64 al, .int .i64 ca, .int .i64 cb, .int .i64 cc, .int .i64 cd]) ∧ Below w.heap.size w w' := by
 refine enter 14 [(0, .agg #[.pointer (pB b), iq X, iq Y, iq s, iq al, iq ca, iq cb, iq cc, iq cd, .slice A k cp, .string ⟨#[]⟩])] [] Try.func50 rfl Try.ntmps50 rfl (by kernel_rfl) (Tab.start w) ?_
 refine cont_seq ?_
 refine cont_region 2 rfl ?_
 refine batch2 [0, 0] 2 0 (fun b1 b2 => [(1, .pointer (pB b1)), (2, .pointer (pB b2))]) (fun b1 b2 => [.cells b2 [.pointer none, iq 0, iq 0, iq 0, iq 0, iq 0, iq 0, iq 0, iq 0] 106 true, .cells b1 [.pointer (pB b), iq X, iq Y, iq s, iq al, iq ca, iq cb, iq cc, iq cd, .slice A k cp, .string ⟨#[]⟩] 99 true]) rfl rfl [1, 2] (fun _ _ => rfl) (fun b1 b2 => by kernel_rfl) (fun b1 b2 => by kernel_rfl) (fun b1 b2 => ?_)
 refine cont_done ?_
 refine then_normal ?_
 refine cont_seq ?_
 refine cont_region 12 rfl ?_
 refine batch0 [0, 1, 0, 1, 0, 1, 0, 1, 0, 1, 0, 0] 12 0 [(2, .pointer (pB b2))] [.cells b2 [.pointer (pB b), iq X, iq Y, iq s, iq al, iq ca, iq cb, iq cc, iq cd] 106 true, .cells b1 [.pointer (pB b), iq X, iq Y, iq s, iq al, iq ca, iq cb, iq cc, iq cd, .slice A k cp, .string ⟨#[]⟩] 99 true] rfl rfl (by kernel_rfl) (by kernel_rfl) ?_
 refine cont_forget 1 rfl ?_
 refine cont_done ?_
 refine then_normal ?_
 refine cont_ret ?_
 refine ret_one (.inl rfl) rfl 0 (.agg #[.pointer (pB b), iq X, iq Y, iq s, iq al, iq ca, iq cb, iq cc, iq cd]) (by kernel_rfl) (by kernel_rfl) (fun w hT => ?_)
 exact ⟨rfl, hT.post rfl⟩

theorem shot (A : Option Addr) (g o n cap : Nat) (ts : List TS) (w : World) (hT0 : Tab w w [.gen (rdE (A) g o n 14 (dvals TS.cells ts)), .gen (subE n (TS.pxs ts))]) (hts : ∀ t ∈ ts, TS.Ok t) (hn : n ≤ 100) :
    Calls Try.prog 11 #[.slice A n cap] w fun e w' => ∃ (A_ : Option Addr) (g_ cp_ : Nat) (its : List IT), e = .returned (.tuple #[.agg #[.int .i64 0, .slice A_ n cp_], .bool true]) ∧ its.map (·.t) = ts ∧ Tab w w' [.gen (bunO n (IT.pxs its)), .gen (bunO n (IT.hds 118 its)), .gen (rowE (A_) g_ n cp_ 103 14 (dvals IT.cells its) true)] := by
  obtain ⟨hra, hrl⟩ := Rd.factsD TS.size (by decide) (hT0.ok 0 _ rfl)
  refine enter 43 [(0, .slice A n cap)] [.gen (rdE (A) g o n 14 (dvals TS.cells ts)), .gen (subE n (TS.pxs ts))] Try.func11 rfl Try.ntmps11 rfl (by kernel_rfl) hT0 ?_
  refine cont_seq ?_
  refine cont_region 2 rfl ?_
  refine batch1 [0, 0] 2 0 (fun b1 => [(0, .slice A n cap), (2, .pointer (some ⟨b1, 0, none⟩))]) (fun b1 => [.cells b1 [.int .i64 0, .slice none 0 0] 29 true, .gen (rdE (A) g o n 14 (dvals TS.cells ts)), .gen (subE n (TS.pxs ts))]) rfl rfl [0, 2] (fun _ => rfl) (fun b1 => by kernel_rfl) (fun b1 => by kernel_rfl) (fun b1 => ?_)
  refine cont_done ?_
  refine then_normal ?_
  refine cont_seq ?_
  refine cont_region 1 rfl ?_
  refine batch1 [0] 1 0 (fun b2 => [(0, .slice A n cap), (2, .pointer (some ⟨b1, 0, none⟩)), (4, .pointer (some ⟨b2, 0, none⟩))]) (fun b2 => [.cells b2 [.int .i64 0, .slice none 0 0] 29 true, .cells b1 [.int .i64 0, .slice none 0 0] 29 true, .gen (rdE (A) g o n 14 (dvals TS.cells ts)), .gen (subE n (TS.pxs ts))]) rfl rfl [0, 2, 4] (fun _ => rfl) (fun b2 => by kernel_rfl) (fun b2 => by kernel_rfl) (fun b2 => ?_)
  refine cont_done ?_
  refine then_normal ?_
  refine cont_seq ?_
  refine cont_seq ?_
  refine cont_region 1 rfl ?_
  refine bS [0] 1 0 [(0, .slice A n cap), (2, .pointer (some ⟨b1, 0, none⟩)), (4, .pointer (some ⟨b2, 0, none⟩)), (5, .int .i64 0)] ?_
  refine cont_done ?_
  refine then_normal ?_
  refine cont_block ?_
  refine cont_nilrow 103 14 ?_
  refine cont_norm [(0, .slice A n cap), (2, .pointer (some ⟨b1, 0, none⟩)), (4, .pointer (some ⟨b2, 0, none⟩)), (5, .int .i64 0)] [.gen (rowE (none) 0 0 0 103 14 (dvals IT.cells []) true), .cells b2 [.int .i64 0, .slice none 0 0] 29 true, .cells b1 [.int .i64 0, .slice none 0 0] 29 true, .gen (rdE (A) g o n 14 (dvals TS.cells ts)), .gen (subE n (TS.pxs ts))] (by kernel_rfl) rfl ?_
  refine cont_rowEqD (cel := IT.cells) (z := 14) 0 ([]) (([] : List IT)) rfl rfl ?_
  refine cont_nilbun (IT.hds 118 ([] : List IT)) ?_
  refine cont_norm [(0, .slice A n cap), (2, .pointer (some ⟨b1, 0, none⟩)), (4, .pointer (some ⟨b2, 0, none⟩)), (5, .int .i64 0)] [.gen (bunO 0 (IT.hds 118 ([] : List IT))), .gen (rowE (none) 0 0 0 103 14 (dvals IT.cells ([] : List IT)) true), .cells b2 [.int .i64 0, .slice none 0 0] 29 true, .cells b1 [.int .i64 0, .slice none 0 0] 29 true, .gen (rdE (A) g o n 14 (dvals TS.cells ts)), .gen (subE n (TS.pxs ts))] (by kernel_rfl) rfl ?_
  refine cont_nilbun (IT.pxs ([] : List IT)) ?_
  refine cont_norm [(0, .slice A n cap), (2, .pointer (some ⟨b1, 0, none⟩)), (4, .pointer (some ⟨b2, 0, none⟩)), (5, .int .i64 0)] [.gen (bunO 0 (IT.pxs ([] : List IT))), .gen (bunO 0 (IT.hds 118 ([] : List IT))), .gen (rowE (none) 0 0 0 103 14 (dvals IT.cells ([] : List IT)) true), .cells b2 [.int .i64 0, .slice none 0 0] 29 true, .cells b1 [.int .i64 0, .slice none 0 0] 29 true, .gen (rdE (A) g o n 14 (dvals TS.cells ts)), .gen (subE n (TS.pxs ts))] (by kernel_rfl) rfl ?_
  refine cont_loop (α := Nat × List IT × Option Addr × Nat × Nat) (fun x_ : Nat × List IT × Option Addr × Nat × Nat => x_.1 ≤ n ∧ x_.2.1.map (·.t) = ts.take x_.1) (fun x_ : Nat × List IT × Option Addr × Nat × Nat => [(0, .slice A n cap), (2, .pointer (some ⟨b1, 0, none⟩)), (4, .pointer (some ⟨b2, 0, none⟩)), (5, .int .i64 (x_.1 : Int))]) (fun x_ : Nat × List IT × Option Addr × Nat × Nat => [.gen (bunO x_.1 (IT.pxs x_.2.1)), .gen (bunO x_.1 (IT.hds 118 x_.2.1)), .gen (rowE (x_.2.2.1) x_.2.2.2.1 x_.1 x_.2.2.2.2 103 14 (dvals IT.cells x_.2.1) true), .cells b2 [.int .i64 0, .slice x_.2.2.1 x_.1 x_.2.2.2.2] 29 true, .cells b1 [.int .i64 0, .slice none 0 0] 29 true, .gen (rdE (A) g o n 14 (dvals TS.cells ts)), .gen (subE n (TS.pxs ts))]) (fun x_ : Nat × List IT × Option Addr × Nat × Nat => n - x_.1) (0, ([] : List IT), none, 0, 0) (show (0) ≤ n ∧ (([] : List IT)).map (·.t) = ts.take (0) from ⟨by omega, rfl⟩) (by kernel_rfl) (by kernel_rfl) ?_
  rintro ⟨i, its, Ao, gw, co⟩ hinv4_
  replace hinv4_ : i ≤ n ∧ its.map (·.t) = ts.take i := hinv4_
  refine cont_norm [(0, .slice A n cap), (2, .pointer (some ⟨b1, 0, none⟩)), (4, .pointer (some ⟨b2, 0, none⟩)), (5, .int .i64 (i : Int))] [.gen (bunO i (IT.pxs its)), .gen (bunO i (IT.hds 118 its)), .gen (rowE (Ao) gw i co 103 14 (dvals IT.cells its) true), .cells b2 [.int .i64 0, .slice Ao i co] 29 true, .cells b1 [.int .i64 0, .slice none 0 0] 29 true, .gen (rdE (A) g o n 14 (dvals TS.cells ts)), .gen (subE n (TS.pxs ts))] (by kernel_rfl) rfl ?_
  obtain ⟨hi, hmap⟩ := hinv4_
  have hlen := map_len hmap (by omega)
  refine cont_seq ?_
  refine cont_seq ?_
  refine cont_region 4 rfl ?_
  refine bS [0, 0, 0, 0] 4 0 [(0, .slice A n cap), (2, .pointer (some ⟨b1, 0, none⟩)), (4, .pointer (some ⟨b2, 0, none⟩)), (5, .int .i64 (i : Int)), (11, .bool (decide ((i : Int) < (n : Int))))] ?_
  refine cont_done ?_
  refine then_normal ?_
  refine cont_split 11 (decide ((i : Int) < (n : Int))) rfl (fun c5_ => ?_) (fun c5_ => ?_)
  ·
    replace c5_ := of_decide_eq_true c5_
    refine cont_true rfl ?_
    refine cont_skip ?_
    refine then_normal ?_
    refine cont_seq ?_
    refine cont_block ?_
    refine cont_seq ?_
    refine cont_region 6 rfl ?_
    have htk := hts _ (dget_mem (l := ts) (i := i) (by omega))
    generalize ht : dget ts i = t at *
    obtain ⟨htw1, htw2⟩ : 1 ≤ t.W ∧ t.W ≤ 16 := ⟨htk.img.w1, htk.w16⟩
    obtain ⟨hth1, hth2⟩ : 1 ≤ t.H ∧ t.H ≤ 16 := ⟨htk.img.h1, htk.h16⟩
    obtain ⟨hts1, hts2⟩ := htk.s_
    obtain ⟨htx1, htx2⟩ := htk.x_
    obtain ⟨hty1, hty2⟩ := htk.y_
    obtain ⟨hta1, hta2⟩ := htk.a_
    have htl := htk.img.le
    refine cont_see 6 (.gen (rdE (some ⟨t.r, 0, none⟩) t.r 0 t.n 1 (ivals .u32 t.px))) rfl rfl (by rw [← ht]; exact Vw.subAt i (by omega) rfl rfl) rfl ?_
    refine cont_norm [(0, .slice A n cap), (2, .pointer (some ⟨b1, 0, none⟩)), (4, .pointer (some ⟨b2, 0, none⟩)), (5, .int .i64 (i : Int)), (11, .bool true)] [.gen (rdE (some ⟨t.r, 0, none⟩) t.r 0 t.n 1 (ivals .u32 t.px)), .gen (bunO i (IT.pxs its)), .gen (bunO i (IT.hds 118 its)), .gen (rowE (Ao) gw i co 103 14 (dvals IT.cells its) true), .cells b2 [.int .i64 0, .slice Ao i co] 29 true, .cells b1 [.int .i64 0, .slice none 0 0] 29 true, .gen (rdE (A) g o n 14 (dvals TS.cells ts)), .gen (subE n (TS.pxs ts))] (by kernel_rfl) rfl ?_
    refine bS [0, 0] 2 4 [(0, .slice A n cap), (2, .pointer (some ⟨b1, 0, none⟩)), (4, .pointer (some ⟨b2, 0, none⟩)), (5, .int .i64 (i : Int)), (14, .slice A n cap), (15, .int .i64 (i : Int))] ?_
    refine pl_step 3 3 rfl rfl ?_
    refine cont_recast 14 (.slice A n cap) (.slice (some ⟨g, o, none⟩) n cap) rfl (by rw [hra (by omega)]) ?_
    refine sem_step 16 (Instr.indexAt 25 (.slice (some ⟨g, o, none⟩) n cap) (.int .i64 (i : Int))) (.pointer (some ⟨g, o + i * 14, none⟩)) (by kernel_rfl) (fun w hT => run_indexAt (e := 60) (sz := 14) _ (by kernel_rfl) (by kernel_rfl) (by omega) (by omega) (by omega) w) ?_
    refine pl_step 4 2 rfl rfl ?_
    refine sem_step 17 (Instr.loadAt 60 (.pointer (some ⟨g, o + i * 14, none⟩))) (.agg #[.bool true, .int .i64 t.W, .int .i64 t.H, .slice (some ⟨t.r, 0, none⟩) t.n t.cap, .int .i64 t.X, .int .i64 t.Y, .int .i64 t.s, .int .i64 t.al, .int .i64 t.ca, .int .i64 t.cb, .int .i64 t.cc, .int .i64 t.cd, .slice t.A t.k t.cp, .string ⟨#[]⟩]) (by kernel_rfl) (fun w hT => run_loadN (m := 14) (cs := [.bool true, .int .i64 t.W, .int .i64 t.H, .slice (some ⟨t.r, 0, none⟩) t.n t.cap, .int .i64 t.X, .int .i64 t.Y, .int .i64 t.s, .int .i64 t.al, .int .i64 t.ca, .int .i64 t.cb, .int .i64 t.cc, .int .i64 t.cd, .slice t.A t.k t.cp, .string ⟨#[]⟩]) (by kernel_rfl) (by kernel_rfl) rfl (by have h_ := Rd.dcell TS.size (hT.ok 6 _ rfl) (i := i) (by omega); rw [ht] at h_; exact h_)) ?_
    refine batch1 [0, 0] 6 0 (fun b6 => [(0, .slice A n cap), (2, .pointer (some ⟨b1, 0, none⟩)), (4, .pointer (some ⟨b2, 0, none⟩)), (5, .int .i64 (i : Int)), (6, .pointer (some ⟨b6, 0, none⟩))]) (fun b6 => [.cells b6 [.bool true, .int .i64 t.W, .int .i64 t.H, .slice (some ⟨t.r, 0, none⟩) t.n t.cap, .int .i64 t.X, .int .i64 t.Y, .int .i64 t.s, .int .i64 t.al, .int .i64 t.ca, .int .i64 t.cb, .int .i64 t.cc, .int .i64 t.cd, .slice t.A t.k t.cp, .string ⟨#[]⟩] 60 true, .gen (rdE (some ⟨t.r, 0, none⟩) t.r 0 t.n 1 (ivals .u32 t.px)), .gen (bunO i (IT.pxs its)), .gen (bunO i (IT.hds 118 its)), .gen (rowE (Ao) gw i co 103 14 (dvals IT.cells its) true), .cells b2 [.int .i64 0, .slice Ao i co] 29 true, .cells b1 [.int .i64 0, .slice none 0 0] 29 true, .gen (rdE (A) g o n 14 (dvals TS.cells ts)), .gen (subE n (TS.pxs ts))]) rfl rfl [0, 2, 4, 5, 6] (fun _ => rfl) (fun b6 => by kernel_rfl) (fun b6 => by kernel_rfl) (fun b6 => ?_)
    refine cont_done ?_
    refine then_normal ?_
    refine cont_seq ?_
    refine cont_region 4 rfl ?_
    refine bS [0, 0] 2 2 [(0, .slice A n cap), (2, .pointer (some ⟨b1, 0, none⟩)), (4, .pointer (some ⟨b2, 0, none⟩)), (5, .int .i64 (i : Int)), (6, .pointer (some ⟨b6, 0, none⟩)), (19, .agg #[.int .i64 t.W, .int .i64 t.H, .slice (some ⟨t.r, 0, none⟩) t.n t.cap])] ?_
    refine pl_step 3 1 rfl rfl ?_
    refine call_gen (d := 20) (α := Nat × Nat) (fun x_ => .pointer (some ⟨x_.1, 0, none⟩)) (fun x_ => [.cells x_.1 [.int .i64 t.W, .int .i64 t.H, .slice (some ⟨x_.2, 0, none⟩) t.n t.n] 118 true, .gen (rowE (some ⟨x_.2, 0, none⟩) x_.2 t.n t.n 24 1 (ivals .u32 t.px) true), .cells b6 [.bool true, .int .i64 t.W, .int .i64 t.H, .slice (some ⟨t.r, 0, none⟩) t.n t.cap, .int .i64 t.X, .int .i64 t.Y, .int .i64 t.s, .int .i64 t.al, .int .i64 t.ca, .int .i64 t.cb, .int .i64 t.cc, .int .i64 t.cd, .slice t.A t.k t.cp, .string ⟨#[]⟩] 60 true, .gen (rdE (some ⟨t.r, 0, none⟩) t.r 0 t.n 1 (ivals .u32 t.px)), .gen (bunO i (IT.pxs its)), .gen (bunO i (IT.hds 118 its)), .gen (rowE (Ao) gw i co 103 14 (dvals IT.cells its) true), .cells b2 [.int .i64 0, .slice Ao i co] 29 true, .cells b1 [.int .i64 0, .slice none 0 0] 29 true, .gen (rdE (A) g o n 14 (dvals TS.cells ts)), .gen (subE n (TS.pxs ts))]) (fun _ => True) (by kernel_rfl) (fun w hT => (bld t.W t.H t.r t.n t.cap t.px w (hT.view (.cons (i := 1) rfl Vw.rd .nil) (by decide)) htk.img htk.may).mono fun e w' ⟨b_, q_, he_, hi_⟩ => ⟨(b_, q_), he_, trivial, hT.addImg hi_⟩) ?_
    rintro ⟨bl7, bq7⟩ -
    refine cont_norm [(0, .slice A n cap), (2, .pointer (some ⟨b1, 0, none⟩)), (4, .pointer (some ⟨b2, 0, none⟩)), (5, .int .i64 (i : Int)), (6, .pointer (some ⟨b6, 0, none⟩)), (19, .agg #[.int .i64 t.W, .int .i64 t.H, .slice (some ⟨t.r, 0, none⟩) t.n t.cap]), (20, .pointer (some ⟨bl7, 0, none⟩))] [.cells bl7 [.int .i64 t.W, .int .i64 t.H, .slice (some ⟨bq7, 0, none⟩) t.n t.n] 118 true, .gen (rowE (some ⟨bq7, 0, none⟩) bq7 t.n t.n 24 1 (ivals .u32 t.px) true), .cells b6 [.bool true, .int .i64 t.W, .int .i64 t.H, .slice (some ⟨t.r, 0, none⟩) t.n t.cap, .int .i64 t.X, .int .i64 t.Y, .int .i64 t.s, .int .i64 t.al, .int .i64 t.ca, .int .i64 t.cb, .int .i64 t.cc, .int .i64 t.cd, .slice t.A t.k t.cp, .string ⟨#[]⟩] 60 true, .gen (rdE (some ⟨t.r, 0, none⟩) t.r 0 t.n 1 (ivals .u32 t.px)), .gen (bunO i (IT.pxs its)), .gen (bunO i (IT.hds 118 its)), .gen (rowE (Ao) gw i co 103 14 (dvals IT.cells its) true), .cells b2 [.int .i64 0, .slice Ao i co] 29 true, .cells b1 [.int .i64 0, .slice none 0 0] 29 true, .gen (rdE (A) g o n 14 (dvals TS.cells ts)), .gen (subE n (TS.pxs ts))] (by kernel_rfl) rfl ?_
    refine bS [0] 4 0 [(0, .slice A n cap), (2, .pointer (some ⟨b1, 0, none⟩)), (4, .pointer (some ⟨b2, 0, none⟩)), (5, .int .i64 (i : Int)), (6, .pointer (some ⟨b6, 0, none⟩)), (7, .pointer (some ⟨bl7, 0, none⟩))] ?_
    refine cont_done ?_
    refine then_normal ?_
    refine cont_seq ?_
    refine cont_seq ?_
    refine cont_region 2 rfl ?_
    refine bS [0, 0] 2 0 [(0, .slice A n cap), (2, .pointer (some ⟨b1, 0, none⟩)), (4, .pointer (some ⟨b2, 0, none⟩)), (5, .int .i64 (i : Int)), (6, .pointer (some ⟨b6, 0, none⟩)), (7, .pointer (some ⟨bl7, 0, none⟩)), (22, .bool false)] ?_
    refine cont_done ?_
    refine then_normal ?_
    refine cont_false rfl ?_
    refine cont_skip ?_
    refine then_normal ?_
    refine cont_region 19 rfl ?_
    refine batch1 [0, 7, 0, 0, 2, 0, 2, 0, 2, 0, 2, 0, 2, 0, 0, 0] 16 3 (fun b8 => [(0, .slice A n cap), (2, .pointer (some ⟨b1, 0, none⟩)), (4, .pointer (some ⟨b2, 0, none⟩)), (5, .int .i64 (i : Int)), (25, .slice Ao i co), (39, .slice (some ⟨b8, 0, none⟩) 1 1)]) (fun b8 => [.cells b8 [.int .i64 0, .int .i64 0, .pointer (some ⟨bl7, 0, none⟩), .int .i64 t.X, .int .i64 t.Y, .int .i64 t.s, .int .i64 t.al, .int .i64 t.ca, .int .i64 t.cb, .int .i64 t.cc, .int .i64 t.cd, .slice t.A t.k t.cp, .string ⟨#[]⟩, .int .i64 0] 103 true, .cells bl7 [.int .i64 t.W, .int .i64 t.H, .slice (some ⟨bq7, 0, none⟩) t.n t.n] 118 true, .gen (rowE (some ⟨bq7, 0, none⟩) bq7 t.n t.n 24 1 (ivals .u32 t.px) true), .cells b6 [.bool true, .int .i64 t.W, .int .i64 t.H, .slice (some ⟨t.r, 0, none⟩) t.n t.cap, .int .i64 t.X, .int .i64 t.Y, .int .i64 t.s, .int .i64 t.al, .int .i64 t.ca, .int .i64 t.cb, .int .i64 t.cc, .int .i64 t.cd, .slice t.A t.k t.cp, .string ⟨#[]⟩] 60 true, .gen (rdE (some ⟨t.r, 0, none⟩) t.r 0 t.n 1 (ivals .u32 t.px)), .gen (bunO i (IT.pxs its)), .gen (bunO i (IT.hds 118 its)), .gen (rowE (Ao) gw i co 103 14 (dvals IT.cells its) true), .cells b2 [.int .i64 0, .slice Ao i co] 29 true, .cells b1 [.int .i64 0, .slice none 0 0] 29 true, .gen (rdE (A) g o n 14 (dvals TS.cells ts)), .gen (subE n (TS.pxs ts))]) rfl rfl [0, 2, 4, 5, 25, 39] (fun _ => rfl) (fun b8 => by kernel_rfl) (fun b8 => by kernel_rfl) (fun b8 => ?_)
    refine cont_forget 3 rfl ?_
    refine pl_step 17 2 rfl rfl ?_
    refine sem_stepW (α := Option Addr × Nat × Nat) 40 (Builtin.append_ #[27, 27] 27 #[.slice Ao i co, .slice (some ⟨b8, 0, none⟩) 1 1]) (fun x_ => .slice x_.1 (i + 1) x_.2.2) (fun x_ => [.cells b8 [.int .i64 0, .int .i64 0, .pointer (some ⟨bl7, 0, none⟩), .int .i64 t.X, .int .i64 t.Y, .int .i64 t.s, .int .i64 t.al, .int .i64 t.ca, .int .i64 t.cb, .int .i64 t.cc, .int .i64 t.cd, .slice t.A t.k t.cp, .string ⟨#[]⟩, .int .i64 0] 103 true, .cells bl7 [.int .i64 t.W, .int .i64 t.H, .slice (some ⟨bq7, 0, none⟩) t.n t.n] 118 true, .gen (rowE (some ⟨bq7, 0, none⟩) bq7 t.n t.n 24 1 (ivals .u32 t.px) true), .gen (rdE (some ⟨t.r, 0, none⟩) t.r 0 t.n 1 (ivals .u32 t.px)), .gen (bunO i (IT.pxs its)), .gen (bunO i (IT.hds 118 its)), .gen (rowE (x_.1) x_.2.1 (i + 1) x_.2.2 103 14 (dvals IT.cells (its ++ [(⟨bl7, bq7, t⟩ : IT)])) true), .cells b2 [.int .i64 0, .slice Ao i co] 29 true, .cells b1 [.int .i64 0, .slice none 0 0] 29 true, .gen (rdE (A) g o n 14 (dvals TS.cells ts)), .gen (subE n (TS.pxs ts))]) (fun _ => True) (by kernel_rfl) (fun w hT => append_own (n' := (i + 1)) (z := .agg #[.int .i64 0, .int .i64 0, .pointer none, .int .i64 0, .int .i64 0, .int .i64 0, .int .i64 0, .int .i64 0, .int .i64 0, .int .i64 0, .int .i64 0, .slice none 0 0, .string ⟨#[]⟩, .int .i64 0]) hT (i := 6) (bytes := 136) rfl (by kernel_rfl) (by kernel_rfl) rfl (by decide) (by decide) (Rd.ofCells (vals := dvals IT.cells [(⟨bl7, bq7, t⟩ : IT)]) (hT.ok 0 _ rfl) rfl rfl) (dvals_one IT.one [(⟨bl7, bq7, t⟩ : IT)]) (by omega) (dvals_append its [(⟨bl7, bq7, t⟩ : IT)]) rfl) ?_
    rintro ⟨A9, g9, cp9⟩ -
    refine cont_norm [(0, .slice A n cap), (2, .pointer (some ⟨b1, 0, none⟩)), (4, .pointer (some ⟨b2, 0, none⟩)), (5, .int .i64 (i : Int)), (25, .slice Ao i co), (39, .slice (some ⟨b8, 0, none⟩) 1 1), (40, .slice A9 (i + 1) cp9)] [.cells b8 [.int .i64 0, .int .i64 0, .pointer (some ⟨bl7, 0, none⟩), .int .i64 t.X, .int .i64 t.Y, .int .i64 t.s, .int .i64 t.al, .int .i64 t.ca, .int .i64 t.cb, .int .i64 t.cc, .int .i64 t.cd, .slice t.A t.k t.cp, .string ⟨#[]⟩, .int .i64 0] 103 true, .cells bl7 [.int .i64 t.W, .int .i64 t.H, .slice (some ⟨bq7, 0, none⟩) t.n t.n] 118 true, .gen (rowE (some ⟨bq7, 0, none⟩) bq7 t.n t.n 24 1 (ivals .u32 t.px) true), .gen (rdE (some ⟨t.r, 0, none⟩) t.r 0 t.n 1 (ivals .u32 t.px)), .gen (bunO i (IT.pxs its)), .gen (bunO i (IT.hds 118 its)), .gen (rowE (A9) g9 (i + 1) cp9 103 14 (dvals IT.cells (its ++ [(⟨bl7, bq7, t⟩ : IT)])) true), .cells b2 [.int .i64 0, .slice Ao i co] 29 true, .cells b1 [.int .i64 0, .slice none 0 0] 29 true, .gen (rdE (A) g o n 14 (dvals TS.cells ts)), .gen (subE n (TS.pxs ts))] (by kernel_rfl) rfl ?_
    refine cont_fact (F := (0 < (i + 1) → (A9 : Option Addr) = some ⟨g9, 0, none⟩) ∧ (its ++ [(⟨bl7, bq7, t⟩ : IT)]).length = (i + 1) ∧ (i + 1) ≤ cp9 ∧ cp9 ≤ maxLen) (fun w hT => Row.factsD IT.size (by decide) (hT.ok 6 _ rfl)) (fun hr10_ => ?_)
    obtain ⟨hr10_a, hr10_l, hr10_c, hr10_m⟩ := hr10_
    unfold maxLen at hr10_m
    refine batch0 [0, 7] 19 0 [(0, .slice A n cap), (2, .pointer (some ⟨b1, 0, none⟩)), (4, .pointer (some ⟨b2, 0, none⟩)), (5, .int .i64 (i : Int))] [.cells b8 [.int .i64 0, .int .i64 0, .pointer (some ⟨bl7, 0, none⟩), .int .i64 t.X, .int .i64 t.Y, .int .i64 t.s, .int .i64 t.al, .int .i64 t.ca, .int .i64 t.cb, .int .i64 t.cc, .int .i64 t.cd, .slice t.A t.k t.cp, .string ⟨#[]⟩, .int .i64 0] 103 true, .cells bl7 [.int .i64 t.W, .int .i64 t.H, .slice (some ⟨bq7, 0, none⟩) t.n t.n] 118 true, .gen (rowE (some ⟨bq7, 0, none⟩) bq7 t.n t.n 24 1 (ivals .u32 t.px) true), .gen (rdE (some ⟨t.r, 0, none⟩) t.r 0 t.n 1 (ivals .u32 t.px)), .gen (bunO i (IT.pxs its)), .gen (bunO i (IT.hds 118 its)), .gen (rowE (A9) g9 (i + 1) cp9 103 14 (dvals IT.cells (its ++ [(⟨bl7, bq7, t⟩ : IT)])) true), .cells b2 [.int .i64 0, .slice A9 (i + 1) cp9] 29 true, .cells b1 [.int .i64 0, .slice none 0 0] 29 true, .gen (rdE (A) g o n 14 (dvals TS.cells ts)), .gen (subE n (TS.pxs ts))] rfl rfl (by kernel_rfl) (by kernel_rfl) ?_
    refine cont_forget 0 rfl ?_
    refine cont_done ?_
    refine blk_normal ?_
    refine then_normal ?_
    refine cont_region 3 rfl ?_
    refine bS [0, 0] 2 1 [(0, .slice A n cap), (2, .pointer (some ⟨b1, 0, none⟩)), (4, .pointer (some ⟨b2, 0, none⟩)), (13, .int .i64 (IntKind.i64.wrap ((i : Int) + 1)))] ?_
    refine cont_recast 13 (.int .i64 (IntKind.i64.wrap ((i : Int) + 1))) (.int .i64 ((i : Int) + 1)) rfl (wrapI (by omega) (by omega)) ?_
    refine bS [0] 3 0 [(0, .slice A n cap), (2, .pointer (some ⟨b1, 0, none⟩)), (4, .pointer (some ⟨b2, 0, none⟩)), (5, .int .i64 ((i : Int) + 1))] ?_
    refine cont_done ?_
    refine then_normal ?_
    obtain ⟨x, hx⟩ : ∃ x_ : IT, x_ = (⟨bl7, bq7, t⟩ : IT) := ⟨_, rfl⟩
    refine cont_rowEqD (cel := IT.cells) (z := 14) 5 (its ++ [(⟨bl7, bq7, t⟩ : IT)]) (its ++ [x]) rfl (by rw [hx]) ?_
    refine cont_norm [(0, .slice A n cap), (2, .pointer (some ⟨b1, 0, none⟩)), (4, .pointer (some ⟨b2, 0, none⟩)), (5, .int .i64 ((i : Int) + 1))] [.cells bl7 [.int .i64 t.W, .int .i64 t.H, .slice (some ⟨bq7, 0, none⟩) t.n t.n] 118 true, .gen (rowE (some ⟨bq7, 0, none⟩) bq7 t.n t.n 24 1 (ivals .u32 t.px) true), .gen (rdE (some ⟨t.r, 0, none⟩) t.r 0 t.n 1 (ivals .u32 t.px)), .gen (bunO i (IT.pxs its)), .gen (bunO i (IT.hds 118 its)), .gen (rowE (A9) g9 (i + 1) cp9 103 14 (dvals IT.cells (its ++ [x])) true), .cells b2 [.int .i64 0, .slice A9 (i + 1) cp9] 29 true, .cells b1 [.int .i64 0, .slice none 0 0] 29 true, .gen (rdE (A) g o n 14 (dvals TS.cells ts)), .gen (subE n (TS.pxs ts))] (by kernel_rfl) rfl ?_
    have hpa := IT.pxs_app (t := x) hlen
    have hha := IT.hds_app (tI := 118) (t := x) hlen
    refine cont_bun 1 3 i (IT.pxs its) (IT.pxs (its ++ [x])) x.pxG rfl rfl (by rw [hx]; exact Vw.rowRd) rfl (by decide) hpa.1 hpa.2 ?_
    refine cont_norm [(0, .slice A n cap), (2, .pointer (some ⟨b1, 0, none⟩)), (4, .pointer (some ⟨b2, 0, none⟩)), (5, .int .i64 ((i : Int) + 1))] [.cells bl7 [.int .i64 t.W, .int .i64 t.H, .slice (some ⟨bq7, 0, none⟩) t.n t.n] 118 true, .gen (rdE (some ⟨t.r, 0, none⟩) t.r 0 t.n 1 (ivals .u32 t.px)), .gen (bunO (i + 1) (IT.pxs (its ++ [x]))), .gen (bunO i (IT.hds 118 its)), .gen (rowE (A9) g9 (i + 1) cp9 103 14 (dvals IT.cells (its ++ [x])) true), .cells b2 [.int .i64 0, .slice A9 (i + 1) cp9] 29 true, .cells b1 [.int .i64 0, .slice none 0 0] 29 true, .gen (rdE (A) g o n 14 (dvals TS.cells ts)), .gen (subE n (TS.pxs ts))] (by kernel_rfl) rfl ?_
    refine cont_bun 0 3 i (IT.hds 118 its) (IT.hds 118 (its ++ [x])) (x.hdG 118) rfl rfl (by rw [hx]; exact Vw.cellsRo) rfl (by decide) hha.1 hha.2 ?_
    refine cont_norm [(0, .slice A n cap), (2, .pointer (some ⟨b1, 0, none⟩)), (4, .pointer (some ⟨b2, 0, none⟩)), (5, .int .i64 ((i : Int) + 1))] [.gen (rdE (some ⟨t.r, 0, none⟩) t.r 0 t.n 1 (ivals .u32 t.px)), .gen (bunO (i + 1) (IT.pxs (its ++ [x]))), .gen (bunO (i + 1) (IT.hds 118 (its ++ [x]))), .gen (rowE (A9) g9 (i + 1) cp9 103 14 (dvals IT.cells (its ++ [x])) true), .cells b2 [.int .i64 0, .slice A9 (i + 1) cp9] 29 true, .cells b1 [.int .i64 0, .slice none 0 0] 29 true, .gen (rdE (A) g o n 14 (dvals TS.cells ts)), .gen (subE n (TS.pxs ts))] (by kernel_rfl) rfl ?_
    refine cont_forget 0 rfl ?_
    refine cont_again (i + 1, its ++ [x], A9, g9, cp9) (show (i + 1) ≤ n ∧ (its ++ [x]).map (·.t) = ts.take (i + 1) from ⟨by omega, map_take hmap (by omega) (by rw [hx, ht])⟩) (show n - (i + 1) < n - i from by omega) (by kernel_rfl) (by kernel_rfl)
  replace c5_ := of_decide_eq_false c5_
  refine cont_false rfl ?_
  refine cont_exit ?_
  refine then_exit ?_
  refine then_exit ?_
  refine blk_exit ?_
  refine then_normal ?_
  refine cont_seq ?_
  refine cont_region 3 rfl ?_
  refine batch0 [3, 4, 0] 3 0 [(2, .pointer (some ⟨b1, 0, none⟩)), (3, .bool true)] [.gen (bunO i (IT.pxs its)), .gen (bunO i (IT.hds 118 its)), .gen (rowE (Ao) gw i co 103 14 (dvals IT.cells its) true), .cells b2 [.int .i64 0, .slice Ao i co] 29 true, .cells b1 [.int .i64 0, .slice Ao i co] 29 true, .gen (rdE (A) g o n 14 (dvals TS.cells ts)), .gen (subE n (TS.pxs ts))] rfl rfl (by kernel_rfl) (by kernel_rfl) ?_
  refine cont_forget 3 rfl ?_
  refine cont_done ?_
  refine then_normal ?_
  refine cont_ret ?_
  refine ret_two (.inl rfl) rfl 3 0 (.agg #[.int .i64 0, .slice Ao i co]) (.bool true) (by kernel_rfl) (by kernel_rfl) (by kernel_rfl) (by kernel_rfl) (fun w hT => ?_)
  replace hT := hT.erase 5 (fun e h hw => by cases h; first | rfl | cases hw)
  replace hT := hT.erase 4 (fun e h hw => by cases h; first | rfl | cases hw)
  replace hT := hT.erase 3 (fun e h hw => by cases h; first | rfl | cases hw)
  have hin : i = n := by omega
  subst hin
  rw [List.take_of_length_le (by omega)] at hmap
  exact ⟨_, _, _, its, rfl, hmap, hT⟩

theorem naivePixel (K : Int) (A : Option Addr) (g o n cap : Nat) (its : List IT) (ts : List TS) (x y gc : Int) (w : World) (hT0 : Tab w w [.gen (rdE (A) g o n 14 (dvals IT.cells its)), .gen (subE n (IT.hds 118 its)), .gen (subE n (IT.pxs its))]) (hmap : its.map (·.t) = ts) (hts : ∀ t ∈ ts, TS.Ok t) (hn : n ≤ 100) (hqx : -2000000 ≤ x ∧ x ≤ 2000000) (hqy : -2000000 ≤ y ∧ y ≤ 2000000) (hg0 : 0 ≤ gc) (hg1 : gc < 4294967296) :
    Calls Try.prog 14 #[.agg #[.int .i64 K, .slice A n cap], .int .i64 x, .int .i64 y, .int .u32 gc] w fun e w' => e = .returned (.int .u32 (pixS ts x y gc)) ∧ Below w.heap.size w w' := by
  obtain ⟨hra, hrl⟩ := Rd.factsD IT.size (by decide) (hT0.ok 0 _ rfl)
  have hits := okIT hmap hts
  have htl : ts.length = n := by rw [← hmap, List.length_map]; exact hrl
  refine enter 39 [(0, .agg #[.int .i64 K, .slice A n cap]), (1, .int .i64 x), (2, .int .i64 y), (3, .int .u32 gc)] [.gen (rdE (A) g o n 14 (dvals IT.cells its)), .gen (subE n (IT.hds 118 its)), .gen (subE n (IT.pxs its))] Try.func14 rfl Try.ntmps14 rfl (by kernel_rfl) hT0 ?_
  refine cont_seq ?_
  refine cont_region 2 rfl ?_
  refine batch1 [0, 0] 2 0 (fun b1 => [(1, .int .i64 x), (2, .int .i64 y), (3, .int .u32 gc), (4, .pointer (some ⟨b1, 0, none⟩))]) (fun b1 => [.cells b1 [.int .i64 K, .slice A n cap] 29 true, .gen (rdE (A) g o n 14 (dvals IT.cells its)), .gen (subE n (IT.hds 118 its)), .gen (subE n (IT.pxs its))]) rfl rfl [1, 2, 3, 4] (fun _ => rfl) (fun b1 => by kernel_rfl) (fun b1 => by kernel_rfl) (fun b1 => ?_)
  refine cont_done ?_
  refine then_normal ?_
  refine cont_seq ?_
  refine cont_region 1 rfl ?_
  refine bS [0] 1 0 [(1, .int .i64 x), (2, .int .i64 y), (3, .int .u32 gc), (4, .pointer (some ⟨b1, 0, none⟩)), (9, .slice none 0 0)] ?_
  refine cont_done ?_
  refine then_normal ?_
  refine cont_seq ?_
  refine cont_seq ?_
  refine cont_region 4 rfl ?_
  refine bS [0, 0, 0, 0] 4 0 [(1, .int .i64 x), (2, .int .i64 y), (3, .int .u32 gc), (9, .slice none 0 0), (15, .slice A n cap), (16, .int .i64 (n : Int)), (17, .int .i64 0)] ?_
  refine cont_forget 0 rfl ?_
  refine cont_done ?_
  refine then_normal ?_
  refine cont_block ?_
  refine cont_nilrow 24 1 ?_
  refine cont_norm [(1, .int .i64 x), (2, .int .i64 y), (3, .int .u32 gc), (9, .slice none 0 0), (15, .slice A n cap), (16, .int .i64 (n : Int)), (17, .int .i64 0)] [.gen (rowE (none) 0 0 0 24 1 (ivals .u32 []) true), .gen (rdE (A) g o n 14 (dvals IT.cells its)), .gen (subE n (IT.hds 118 its)), .gen (subE n (IT.pxs its))] (by kernel_rfl) rfl ?_
  refine cont_rowEq (k := .u32) 0 ([]) (colsS (ts.take 0) x y) rfl rfl ?_
  refine cont_loop (α := Nat × Option Addr × Nat × Nat × Nat) (fun x_ : Nat × Option Addr × Nat × Nat × Nat => x_.1 ≤ n) (fun x_ : Nat × Option Addr × Nat × Nat × Nat => [(1, .int .i64 x), (2, .int .i64 y), (3, .int .u32 gc), (9, .slice x_.2.1 x_.2.2.2.1 x_.2.2.2.2), (15, .slice A n cap), (16, .int .i64 (n : Int)), (17, .int .i64 (x_.1 : Int))]) (fun x_ : Nat × Option Addr × Nat × Nat × Nat => [.gen (rowE (x_.2.1) x_.2.2.1 x_.2.2.2.1 x_.2.2.2.2 24 1 (ivals .u32 (colsS (ts.take x_.1) x y)) true), .gen (rdE (A) g o n 14 (dvals IT.cells its)), .gen (subE n (IT.hds 118 its)), .gen (subE n (IT.pxs its))]) (fun x_ : Nat × Option Addr × Nat × Nat × Nat => n - x_.1) (0, none, 0, 0, 0) (show (0) ≤ n from (by omega)) (by kernel_rfl) (by kernel_rfl) ?_
  rintro ⟨i, Ac, gc9, kc, cc9⟩ hinv3_
  replace hinv3_ : i ≤ n := hinv3_
  refine cont_norm [(1, .int .i64 x), (2, .int .i64 y), (3, .int .u32 gc), (9, .slice Ac kc cc9), (15, .slice A n cap), (16, .int .i64 (n : Int)), (17, .int .i64 (i : Int))] [.gen (rowE (Ac) gc9 kc cc9 24 1 (ivals .u32 (colsS (ts.take i) x y)) true), .gen (rdE (A) g o n 14 (dvals IT.cells its)), .gen (subE n (IT.hds 118 its)), .gen (subE n (IT.pxs its))] (by kernel_rfl) rfl ?_
  have hi := hinv3_
  have hcl := colsS_len (ts.take i) x y
  rw [List.length_take] at hcl
  refine cont_seq ?_
  refine cont_region 1 rfl ?_
  refine bS [0] 1 0 [(1, .int .i64 x), (2, .int .i64 y), (3, .int .u32 gc), (9, .slice Ac kc cc9), (15, .slice A n cap), (16, .int .i64 (n : Int)), (17, .int .i64 (i : Int)), (18, .bool (decide ((i : Int) < (n : Int))))] ?_
  refine cont_done ?_
  refine then_normal ?_
  refine cont_seq ?_
  refine cont_split 18 (decide ((i : Int) < (n : Int))) rfl (fun c4_ => ?_) (fun c4_ => ?_)
  ·
    replace c4_ := of_decide_eq_true c4_
    refine cont_true rfl ?_
    refine cont_skip ?_
    refine then_normal ?_
    refine cont_seq ?_
    refine cont_block ?_
    refine cont_seq ?_
    refine cont_region 4 rfl ?_
    have hitk := hits _ (dget_mem (l := its) (i := i) (by omega))
    generalize hit : dget its i = it at *
    obtain ⟨hitw1, hitw2⟩ : 1 ≤ it.t.W ∧ it.t.W ≤ 16 := ⟨hitk.img.w1, hitk.w16⟩
    obtain ⟨hith1, hith2⟩ : 1 ≤ it.t.H ∧ it.t.H ≤ 16 := ⟨hitk.img.h1, hitk.h16⟩
    obtain ⟨hits1, hits2⟩ := hitk.s_
    obtain ⟨hitx1, hitx2⟩ := hitk.x_
    obtain ⟨hity1, hity2⟩ := hitk.y_
    obtain ⟨hita1, hita2⟩ := hitk.a_
    have hitl := hitk.img.le
    refine cont_see 3 (.gen (rdE (some ⟨it.q, 0, none⟩) it.q 0 it.t.n 1 (ivals .u32 it.t.px))) rfl rfl (by rw [← hit]; exact Vw.subAt i (by omega) rfl rfl) rfl ?_
    refine cont_norm [(1, .int .i64 x), (2, .int .i64 y), (3, .int .u32 gc), (9, .slice Ac kc cc9), (15, .slice A n cap), (16, .int .i64 (n : Int)), (17, .int .i64 (i : Int)), (18, .bool true)] [.gen (rdE (some ⟨it.q, 0, none⟩) it.q 0 it.t.n 1 (ivals .u32 it.t.px)), .gen (rowE (Ac) gc9 kc cc9 24 1 (ivals .u32 (colsS (ts.take i) x y)) true), .gen (rdE (A) g o n 14 (dvals IT.cells its)), .gen (subE n (IT.hds 118 its)), .gen (subE n (IT.pxs its))] (by kernel_rfl) rfl ?_
    refine cont_see 3 (.ro it.b [.int .i64 it.t.W, .int .i64 it.t.H, .slice (some ⟨it.q, 0, none⟩) it.t.n it.t.n] 118) rfl rfl (by rw [← hit]; exact Vw.subAtRo i (by omega) rfl) rfl ?_
    refine cont_norm [(1, .int .i64 x), (2, .int .i64 y), (3, .int .u32 gc), (9, .slice Ac kc cc9), (15, .slice A n cap), (16, .int .i64 (n : Int)), (17, .int .i64 (i : Int)), (18, .bool true)] [.ro it.b [.int .i64 it.t.W, .int .i64 it.t.H, .slice (some ⟨it.q, 0, none⟩) it.t.n it.t.n] 118, .gen (rdE (some ⟨it.q, 0, none⟩) it.q 0 it.t.n 1 (ivals .u32 it.t.px)), .gen (rowE (Ac) gc9 kc cc9 24 1 (ivals .u32 (colsS (ts.take i) x y)) true), .gen (rdE (A) g o n 14 (dvals IT.cells its)), .gen (subE n (IT.hds 118 its)), .gen (subE n (IT.pxs its))] (by kernel_rfl) rfl ?_
    have hti : dget ts i = it.t := by rw [← hit]; exact (dget_mapT hmap (by omega)).symm
    refine pl_step 1 3 rfl rfl ?_
    refine cont_recast 15 (.slice A n cap) (.slice (some ⟨g, o, none⟩) n cap) rfl (by rw [hra (by omega)]) ?_
    refine sem_step 19 (Instr.indexAt 27 (.slice (some ⟨g, o, none⟩) n cap) (.int .i64 (i : Int))) (.pointer (some ⟨g, o + i * 14, none⟩)) (by kernel_rfl) (fun w hT => run_indexAt (e := 103) (sz := 14) _ (by kernel_rfl) (by kernel_rfl) (by omega) (by omega) (by omega) w) ?_
    refine pl_step 2 2 rfl rfl ?_
    refine sem_step 20 (Instr.loadAt 103 (.pointer (some ⟨g, o + i * 14, none⟩))) (.agg #[.int .i64 0, .int .i64 0, .pointer (some ⟨it.b, 0, none⟩), .int .i64 it.t.X, .int .i64 it.t.Y, .int .i64 it.t.s, .int .i64 it.t.al, .int .i64 it.t.ca, .int .i64 it.t.cb, .int .i64 it.t.cc, .int .i64 it.t.cd, .slice it.t.A it.t.k it.t.cp, .string ⟨#[]⟩, .int .i64 0]) (by kernel_rfl) (fun w hT => run_loadN (m := 14) (cs := [.int .i64 0, .int .i64 0, .pointer (some ⟨it.b, 0, none⟩), .int .i64 it.t.X, .int .i64 it.t.Y, .int .i64 it.t.s, .int .i64 it.t.al, .int .i64 it.t.ca, .int .i64 it.t.cb, .int .i64 it.t.cc, .int .i64 it.t.cd, .slice it.t.A it.t.k it.t.cp, .string ⟨#[]⟩, .int .i64 0]) (by kernel_rfl) (by kernel_rfl) rfl (by have h_ := Rd.dcell IT.size (hT.ok 3 _ rfl) (i := i) (by omega); rw [hit] at h_; exact h_)) ?_
    refine batch1 [0, 0] 4 0 (fun b5 => [(1, .int .i64 x), (2, .int .i64 y), (3, .int .u32 gc), (9, .slice Ac kc cc9), (11, .pointer (some ⟨b5, 0, none⟩)), (15, .slice (some ⟨g, o, none⟩) n cap), (16, .int .i64 (n : Int)), (17, .int .i64 (i : Int))]) (fun b5 => [.cells b5 [.int .i64 0, .int .i64 0, .pointer (some ⟨it.b, 0, none⟩), .int .i64 it.t.X, .int .i64 it.t.Y, .int .i64 it.t.s, .int .i64 it.t.al, .int .i64 it.t.ca, .int .i64 it.t.cb, .int .i64 it.t.cc, .int .i64 it.t.cd, .slice it.t.A it.t.k it.t.cp, .string ⟨#[]⟩, .int .i64 0] 103 true, .ro it.b [.int .i64 it.t.W, .int .i64 it.t.H, .slice (some ⟨it.q, 0, none⟩) it.t.n it.t.n] 118, .gen (rdE (some ⟨it.q, 0, none⟩) it.q 0 it.t.n 1 (ivals .u32 it.t.px)), .gen (rowE (Ac) gc9 kc cc9 24 1 (ivals .u32 (colsS (ts.take i) x y)) true), .gen (rdE (A) g o n 14 (dvals IT.cells its)), .gen (subE n (IT.hds 118 its)), .gen (subE n (IT.pxs its))]) rfl rfl [1, 2, 3, 9, 11, 15, 16, 17] (fun _ => rfl) (fun b5 => by kernel_rfl) (fun b5 => by kernel_rfl) (fun b5 => ?_)
    refine cont_done ?_
    refine then_normal ?_
    refine cont_seq ?_
    refine cont_region 11 rfl ?_
    refine bS [0, 0] 2 9 [(1, .int .i64 x), (2, .int .i64 y), (3, .int .u32 gc), (9, .slice Ac kc cc9), (15, .slice (some ⟨g, o, none⟩) n cap), (16, .int .i64 (n : Int)), (17, .int .i64 (i : Int)), (23, .agg #[.pointer (some ⟨it.b, 0, none⟩), .int .i64 it.t.X, .int .i64 it.t.Y, .int .i64 it.t.s, .int .i64 it.t.al, .int .i64 it.t.ca, .int .i64 it.t.cb, .int .i64 it.t.cc, .int .i64 it.t.cd, .slice it.t.A it.t.k it.t.cp, .string ⟨#[]⟩])] ?_
    refine cont_forget 0 rfl ?_
    refine pl_step 3 8 rfl rfl ?_
    refine call_pure (d := 24) (.agg #[.pointer (some ⟨it.b, 0, none⟩), .int .i64 it.t.X, .int .i64 it.t.Y, .int .i64 it.t.s, .int .i64 it.t.al, .int .i64 it.t.ca, .int .i64 it.t.cb, .int .i64 it.t.cc, .int .i64 it.t.cd]) (by kernel_rfl) (fun w hT => surfLayer it.b it.t.X it.t.Y it.t.s it.t.al it.t.ca it.t.cb it.t.cc it.t.cd it.t.A it.t.k it.t.cp w) ?_
    refine bS [0, 0] 5 6 [(1, .int .i64 x), (2, .int .i64 y), (3, .int .u32 gc), (9, .slice Ac kc cc9), (15, .slice (some ⟨g, o, none⟩) n cap), (16, .int .i64 (n : Int)), (17, .int .i64 (i : Int)), (24, .agg #[.pointer (some ⟨it.b, 0, none⟩), .int .i64 it.t.X, .int .i64 it.t.Y, .int .i64 it.t.s, .int .i64 it.t.al, .int .i64 it.t.ca, .int .i64 it.t.cb, .int .i64 it.t.cc, .int .i64 it.t.cd]), (25, .int .i64 x), (26, .int .i64 y)] ?_
    refine pl_step 6 5 rfl rfl ?_
    refine call_pure (d := 27) (.tuple #[.int .u32 (pcolC it.t.W it.t.H it.t.X it.t.Y it.t.s it.t.al it.t.ca it.t.cb it.t.cc it.t.cd it.t.px x y), .bool (pcolB it.t.W it.t.H it.t.X it.t.Y it.t.s it.t.ca it.t.cb it.t.cc it.t.cd x y)]) (by kernel_rfl) (fun w hT => layColor it.b it.t.W it.t.H it.q it.t.n it.t.n it.t.px it.t.X it.t.Y it.t.s it.t.al it.t.ca it.t.cb it.t.cc it.t.cd x y w ⟨hT.ok 0 _ rfl, hT.ok 1 _ rfl, by omega⟩ hitk.img (by omega) (by omega) (by omega) (by omega) (by omega)) ?_
    refine bS [0, 0, 0, 0, 0] 11 0 [(1, .int .i64 x), (2, .int .i64 y), (3, .int .u32 gc), (9, .slice Ac kc cc9), (12, .int .u32 (pcolC it.t.W it.t.H it.t.X it.t.Y it.t.s it.t.al it.t.ca it.t.cb it.t.cc it.t.cd it.t.px x y)), (13, .bool (pcolB it.t.W it.t.H it.t.X it.t.Y it.t.s it.t.ca it.t.cb it.t.cc it.t.cd x y)), (15, .slice (some ⟨g, o, none⟩) n cap), (16, .int .i64 (n : Int)), (17, .int .i64 (i : Int))] ?_
    refine cont_done ?_
    refine then_normal ?_
    refine cont_seq ?_
    refine cont_region 1 rfl ?_
    refine bS [0] 1 0 [(1, .int .i64 x), (2, .int .i64 y), (3, .int .u32 gc), (9, .slice Ac kc cc9), (12, .int .u32 (pcolC it.t.W it.t.H it.t.X it.t.Y it.t.s it.t.al it.t.ca it.t.cb it.t.cc it.t.cd it.t.px x y)), (15, .slice (some ⟨g, o, none⟩) n cap), (16, .int .i64 (n : Int)), (17, .int .i64 (i : Int)), (30, .bool (pcolB it.t.W it.t.H it.t.X it.t.Y it.t.s it.t.ca it.t.cb it.t.cc it.t.cd x y))] ?_
    refine cont_done ?_
    refine then_normal ?_
    refine cont_split 30 (pcolB it.t.W it.t.H it.t.X it.t.Y it.t.s it.t.ca it.t.cb it.t.cc it.t.cd x y) rfl (fun c6_ => ?_) (fun c6_ => ?_)
    ·
      have hB_ : (dget ts i).sh x y = true := by rw [hti]; exact c6_
      refine cont_true rfl ?_
      refine cont_region 5 rfl ?_
      refine cont_fact (F := (0 < kc → (Ac : Option Addr) = some ⟨gc9, 0, none⟩) ∧ (colsS (ts.take i) x y).length = kc ∧ kc ≤ cc9 ∧ cc9 ≤ maxLen) (fun w hT => Row.facts (hT.ok 2 _ rfl)) (fun hr7_ => ?_)
      obtain ⟨hr7_a, hr7_l, hr7_c, hr7_m⟩ := hr7_
      unfold maxLen at hr7_m
      have hrc9 := hr7_a
      refine batch1 [0, 0, 0] 3 2 (fun b8 => [(1, .int .i64 x), (2, .int .i64 y), (3, .int .u32 gc), (15, .slice (some ⟨g, o, none⟩) n cap), (16, .int .i64 (n : Int)), (17, .int .i64 (i : Int)), (31, .slice Ac kc cc9), (33, .slice (some ⟨b8, 0, none⟩) 1 1)]) (fun b8 => [.cells b8 [.int .u32 (pcolC it.t.W it.t.H it.t.X it.t.Y it.t.s it.t.al it.t.ca it.t.cb it.t.cc it.t.cd it.t.px x y)] 24 true, .ro it.b [.int .i64 it.t.W, .int .i64 it.t.H, .slice (some ⟨it.q, 0, none⟩) it.t.n it.t.n] 118, .gen (rdE (some ⟨it.q, 0, none⟩) it.q 0 it.t.n 1 (ivals .u32 it.t.px)), .gen (rowE (Ac) gc9 kc cc9 24 1 (ivals .u32 (colsS (ts.take i) x y)) true), .gen (rdE (A) g o n 14 (dvals IT.cells its)), .gen (subE n (IT.hds 118 its)), .gen (subE n (IT.pxs its))]) rfl rfl [1, 2, 3, 15, 16, 17, 31, 33] (fun _ => rfl) (fun b8 => by kernel_rfl) (fun b8 => by kernel_rfl) (fun b8 => ?_)
      refine pl_step 4 1 rfl rfl ?_
      refine sem_stepW (α := Option Addr × Nat × Nat) 34 (Builtin.append_ #[39, 39] 39 #[.slice Ac kc cc9, .slice (some ⟨b8, 0, none⟩) 1 1]) (fun x_ => .slice x_.1 (kc + 1) x_.2.2) (fun x_ => [.cells b8 [.int .u32 (pcolC it.t.W it.t.H it.t.X it.t.Y it.t.s it.t.al it.t.ca it.t.cb it.t.cc it.t.cd it.t.px x y)] 24 true, .ro it.b [.int .i64 it.t.W, .int .i64 it.t.H, .slice (some ⟨it.q, 0, none⟩) it.t.n it.t.n] 118, .gen (rdE (some ⟨it.q, 0, none⟩) it.q 0 it.t.n 1 (ivals .u32 it.t.px)), .gen (rowE (x_.1) x_.2.1 (kc + 1) x_.2.2 24 1 (ivals .u32 ((colsS (ts.take i) x y) ++ [pcolC it.t.W it.t.H it.t.X it.t.Y it.t.s it.t.al it.t.ca it.t.cb it.t.cc it.t.cd it.t.px x y])) true), .gen (rdE (A) g o n 14 (dvals IT.cells its)), .gen (subE n (IT.hds 118 its)), .gen (subE n (IT.pxs its))]) (fun _ => True) (by kernel_rfl) (fun w hT => append_own (n' := (kc + 1)) (z := .int .u32 0) hT (i := 3) (bytes := 4) rfl (by kernel_rfl) (by kernel_rfl) rfl (by decide) (by decide) (Rd.ofCells (vals := ivals .u32 [pcolC it.t.W it.t.H it.t.X it.t.Y it.t.s it.t.al it.t.ca it.t.cb it.t.cc it.t.cd it.t.px x y]) (hT.ok 0 _ rfl) rfl rfl) (ivals_one .u32 [pcolC it.t.W it.t.H it.t.X it.t.Y it.t.s it.t.al it.t.ca it.t.cb it.t.cc it.t.cd it.t.px x y]) (by omega) (ivals_append .u32 (colsS (ts.take i) x y) [pcolC it.t.W it.t.H it.t.X it.t.Y it.t.s it.t.al it.t.ca it.t.cb it.t.cc it.t.cd it.t.px x y]) rfl) ?_
      rintro ⟨A9, g9, cp9⟩ -
      refine cont_norm [(1, .int .i64 x), (2, .int .i64 y), (3, .int .u32 gc), (15, .slice (some ⟨g, o, none⟩) n cap), (16, .int .i64 (n : Int)), (17, .int .i64 (i : Int)), (31, .slice Ac kc cc9), (33, .slice (some ⟨b8, 0, none⟩) 1 1), (34, .slice A9 (kc + 1) cp9)] [.cells b8 [.int .u32 (pcolC it.t.W it.t.H it.t.X it.t.Y it.t.s it.t.al it.t.ca it.t.cb it.t.cc it.t.cd it.t.px x y)] 24 true, .ro it.b [.int .i64 it.t.W, .int .i64 it.t.H, .slice (some ⟨it.q, 0, none⟩) it.t.n it.t.n] 118, .gen (rdE (some ⟨it.q, 0, none⟩) it.q 0 it.t.n 1 (ivals .u32 it.t.px)), .gen (rowE (A9) g9 (kc + 1) cp9 24 1 (ivals .u32 ((colsS (ts.take i) x y) ++ [pcolC it.t.W it.t.H it.t.X it.t.Y it.t.s it.t.al it.t.ca it.t.cb it.t.cc it.t.cd it.t.px x y])) true), .gen (rdE (A) g o n 14 (dvals IT.cells its)), .gen (subE n (IT.hds 118 its)), .gen (subE n (IT.pxs its))] (by kernel_rfl) rfl ?_
      refine cont_fact (F := (0 < (kc + 1) → (A9 : Option Addr) = some ⟨g9, 0, none⟩) ∧ ((colsS (ts.take i) x y) ++ [pcolC it.t.W it.t.H it.t.X it.t.Y it.t.s it.t.al it.t.ca it.t.cb it.t.cc it.t.cd it.t.px x y]).length = (kc + 1) ∧ (kc + 1) ≤ cp9 ∧ cp9 ≤ maxLen) (fun w hT => Row.facts (hT.ok 3 _ rfl)) (fun hr10_ => ?_)
      obtain ⟨hr10_a, hr10_l, hr10_c, hr10_m⟩ := hr10_
      unfold maxLen at hr10_m
      refine bS [0] 5 0 [(1, .int .i64 x), (2, .int .i64 y), (3, .int .u32 gc), (9, .slice A9 (kc + 1) cp9), (15, .slice (some ⟨g, o, none⟩) n cap), (16, .int .i64 (n : Int)), (17, .int .i64 (i : Int))] ?_
      refine cont_forget 0 rfl ?_
      refine cont_done ?_
      refine blk_normal ?_
      refine then_normal ?_
      refine cont_region 2 rfl ?_
      refine bS [0] 1 1 [(1, .int .i64 x), (2, .int .i64 y), (3, .int .u32 gc), (9, .slice A9 (kc + 1) cp9), (15, .slice (some ⟨g, o, none⟩) n cap), (16, .int .i64 (n : Int)), (35, .int .i64 (IntKind.i64.wrap ((i : Int) + 1)))] ?_
      refine cont_recast 35 (.int .i64 (IntKind.i64.wrap ((i : Int) + 1))) (.int .i64 ((i : Int) + 1)) rfl (wrapI (by omega) (by omega)) ?_
      refine bS [0] 2 0 [(1, .int .i64 x), (2, .int .i64 y), (3, .int .u32 gc), (9, .slice A9 (kc + 1) cp9), (15, .slice (some ⟨g, o, none⟩) n cap), (16, .int .i64 (n : Int)), (17, .int .i64 ((i : Int) + 1))] ?_
      refine cont_done ?_
      refine then_normal ?_
      refine cont_recast 15 (.slice (some ⟨g, o, none⟩) n cap) (.slice A n cap) rfl (by rw [hra (by omega)]) ?_
      refine cont_forget 1 rfl ?_
      refine cont_forget 0 rfl ?_
      refine cont_rowEq (k := .u32) 0 ((colsS (ts.take i) x y) ++ [pcolC it.t.W it.t.H it.t.X it.t.Y it.t.s it.t.al it.t.ca it.t.cb it.t.cc it.t.cd it.t.px x y]) (colsS (ts.take (i + 1)) x y) rfl (by rw [colsS_yes (by omega) hB_, hti]; rfl) ?_
      refine cont_again (i + 1, A9, g9, (kc + 1), cp9) (show (i + 1) ≤ n from (by omega)) (show n - (i + 1) < n - i from by omega) (by kernel_rfl) (by kernel_rfl)
    have hB_ : (dget ts i).sh x y = false := by rw [hti]; exact c6_
    refine cont_false rfl ?_
    refine cont_skip ?_
    refine blk_normal ?_
    refine then_normal ?_
    refine cont_region 2 rfl ?_
    refine bS [0] 1 1 [(1, .int .i64 x), (2, .int .i64 y), (3, .int .u32 gc), (9, .slice Ac kc cc9), (15, .slice (some ⟨g, o, none⟩) n cap), (16, .int .i64 (n : Int)), (35, .int .i64 (IntKind.i64.wrap ((i : Int) + 1)))] ?_
    refine cont_recast 35 (.int .i64 (IntKind.i64.wrap ((i : Int) + 1))) (.int .i64 ((i : Int) + 1)) rfl (wrapI (by omega) (by omega)) ?_
    refine bS [0] 2 0 [(1, .int .i64 x), (2, .int .i64 y), (3, .int .u32 gc), (9, .slice Ac kc cc9), (15, .slice (some ⟨g, o, none⟩) n cap), (16, .int .i64 (n : Int)), (17, .int .i64 ((i : Int) + 1))] ?_
    refine cont_done ?_
    refine then_normal ?_
    refine cont_recast 15 (.slice (some ⟨g, o, none⟩) n cap) (.slice A n cap) rfl (by rw [hra (by omega)]) ?_
    refine cont_forget 1 rfl ?_
    refine cont_forget 0 rfl ?_
    refine cont_rowEq (k := .u32) 0 (colsS (ts.take i) x y) (colsS (ts.take (i + 1)) x y) rfl ((colsS_no (by omega) hB_).symm) ?_
    refine cont_again (i + 1, Ac, gc9, kc, cc9) (show (i + 1) ≤ n from (by omega)) (show n - (i + 1) < n - i from by omega) (by kernel_rfl) (by kernel_rfl)
  replace c4_ := of_decide_eq_false c4_
  refine cont_false rfl ?_
  refine cont_exit ?_
  refine then_exit ?_
  refine then_exit ?_
  refine blk_exit ?_
  refine then_normal ?_
  refine cont_seq ?_
  refine cont_region 4 rfl ?_
  refine cont_fact (F := (0 < kc → (Ac : Option Addr) = some ⟨gc9, 0, none⟩) ∧ (colsS (ts.take i) x y).length = kc ∧ kc ≤ cc9 ∧ cc9 ≤ maxLen) (fun w hT => Row.facts (hT.ok 0 _ rfl)) (fun hr11_ => ?_)
  obtain ⟨hr11_a, hr11_l, hr11_c, hr11_m⟩ := hr11_
  unfold maxLen at hr11_m
  have hrc9 := hr11_a
  refine bS [0, 0] 2 2 [(36, .int .u32 gc), (37, .slice Ac kc cc9)] ?_
  refine pl_step 3 1 rfl rfl ?_
  refine call_pure (d := 38) (.int .u32 (pixC gc (colsS (ts.take i) x y))) (by kernel_rfl) (fun w hT => paintPixel Ac gc9 0 kc cc9 (colsS (ts.take i) x y) gc w (hT.viewRo (.cons (i := 0) rfl Vw.rowRd .nil) rfl) (by omega) (colsS_in _ _ _) ⟨by omega, by omega⟩) ?_
  refine bS [0] 4 0 [(8, .int .u32 (pixC gc (colsS (ts.take i) x y)))] ?_
  refine cont_done ?_
  refine then_normal ?_
  refine cont_ret ?_
  refine ret_one (.inl rfl) rfl 0 (.int .u32 (pixC gc (colsS (ts.take i) x y))) (by kernel_rfl) (by kernel_rfl) (fun w hT => ?_)
  rw [List.take_of_length_le (by omega)]
  exact ⟨rfl, hT.post rfl⟩

end Go.Proofs.Ytlfahohbkgdabaa

/- A range over a function: the walk of a function that holds such a loop (a mark among its deferred calls behind it), of the loop's rounds, and of the iterator. Generic in the program. -/
set_option linter.unusedVariables false
set_option linter.unusedSimpArgs false
namespace Go.Proofs.Ytlfahohbkgdabaa
open Go Go.RowKit

/-! ### Operations, taken over from the plain walk -/
def noDef (ops : Array Oper) : Bool := ops.toList.all fun o => match o.op with | .defer _ => false | _ => true
theorem noDef_at {ops : Array Oper} (h : noDef ops = true) {i : Nat} {o : Oper} (ho : ops[i]? = some o) : ∀ c, o.op ≠ .defer c := by
  intro c hc
  have hm : o ∈ ops.toList := Array.mem_toList_iff.2 (Array.mem_of_getElem? ho)
  have := List.all_eq_true.1 h o hm
  rw [hc] at this
  cases this

/-- A fence that lets everything in. -/
structure Open (F : Fence) : Prop where
  fn : ∀ f, F.fn f
  depth : F.depth = none
  alive : F.alive = false
theorem open_wide : Open Fence.wide := ⟨fun _ => trivial, rfl, rfl⟩
theorem open_round (l : Nat) : Open (Fence.wide.inRound l) := ⟨fun _ => trivial, rfl, rfl⟩
theorem fenced_open {F : Fence} (h : Open F) (P : Program) (m : Machine) : m.fenced P F := by
  intro g _
  refine ⟨fun ha => ?_, Or.inl (h.fn _), fun _ _ => h.fn _, fun d hd => ?_⟩
  · rw [h.alive] at ha; cases ha
  · rw [h.depth] at hd; cases hd
theorem steps_open {F : Fence} (h : Open F) {P : Program} {m m' : Machine} (s : Steps P m m') : StepsIn (Machine.fenced P F) P m m' :=
  (StepsIn.of_steps s).mono fun m _ => fenced_open h P m
theorem calls_open {F : Fence} (h : Open F) {n : Nat} {P : Program} {f : FuncId} {args : Array Value} {w : World} {R : Ending → World → Prop} (c : Calls P f args w R) : CallsIn F n P f args w R :=
  ⟨h.fn f, fun cs _ => by
    obtain ⟨e, w', fr, r, s, x⟩ := c cs
    refine ⟨e, w', fr, r, ?_, x⟩
    cases e with
    | returned v => exact steps_open h s
    | panicked ch => exact steps_open h s
    | outgrown => exact s⟩
theorem rows_open {F : Fence} (h : Open F) {n : Nat} {P : Program} {row : String} {args : Array Value} {w : World} {R : Value → World → Prop} (c : Rows P row args w R) : RowsIn F n P row args w R :=
  fun fr cs _ => let ⟨v, w', r, s⟩ := c fr cs; ⟨v, w', r, steps_open h s⟩

section
variable {P : Program}
theorem oper_in {F : Fence} (hF : Open F) {o : Oper} {a : Act} {w : World} {K K' : Act → World → Prop} {Q Q' : Exit → Act → World → Prop} (ho : ∀ c, o.op ≠ .defer c) (hlo : ¬ LetsOut Q) (hK : ∀ a' w', K a' w' → K' a' w') (hQ : ∀ c w, Q (.panic c) a w → Q' (.panic c) a w)
    (h : o.wp P a w K Q) : o.wpIn F 0 P a w K' Q' := by
  refine ⟨fun f _ => hF.fn f, ?_⟩
  rw [Oper.semAt_eq _ _ _ ho]
  unfold Oper.wp at h
  generalize (execOp a.eval o).run P w = r at h ⊢
  have hdep : F.depth.isSome = true → 1 ≤ 0 := by rw [hF.depth]; intro hh; cases hh
  unfold Oper.upon at h
  split at h
  · exact hK _ _ h
  · exact hK _ _ h
  · exact hK _ _ h
  · refine ⟨hdep, calls_open hF (h.mono ?_)⟩
    intro e w'' hh
    cases e with
    | returned v => exact hK _ _ hh
    | panicked ch => exact hQ _ _ hh
    | outgrown => exact (hlo hh).elim
  · exact ⟨hdep, rows_open hF (h.mono fun v w'' hh => hK _ _ hh)⟩
  · exact hQ _ _ h
  · exact h.elim

/-- Operations of a plain walk, up to a point, and then on in the fence. -/
theorem ops_in {F : Fence} (hF : Open F) {ops : Array Oper} (hops : noDef ops = true) {K : Act → World → Prop} {Q : Exit → Act → World → Prop} (hlo : ¬ LetsOut Q) (l2 : List Nat) (hK : ∀ a w, K a w → wpOpsIn F 0 P ops Q l2 a w) :
    ∀ (l : List Nat) (a : Act) (w : World), wpOps P ops (Exit.then K Q) l a w → wpOpsIn F 0 P ops Q (l ++ l2) a w := by
  intro l
  induction l with
  | nil => intro a w h; exact hK a w h
  | cons i l ih =>
    intro a w h
    rw [List.cons_append]
    simp only [wpOps, wpOpsIn] at h ⊢
    cases ho : ops[i]? with
    | none => simp only [ho] at h ⊢; exact ih _ _ h
    | some o =>
      simp only [ho] at h ⊢
      by_cases hw : Region.wanted o (yielded ops a.tmps) = true
      · simp only [hw, if_true] at h ⊢
        rcases h with h | ⟨_, a0, w0, h⟩
        · exact oper_in hF (noDef_at hops ho) (Q := Exit.then K Q) (fun ⟨a', w', hq⟩ => hlo ⟨a', w', hq⟩) (fun a' w' hh => ih a' w' hh) (fun c w' hh => hh) h
        · exact (hlo ⟨a0, w0, h⟩).elim
      · simp only [hw, Bool.false_eq_true, if_false] at h ⊢
        exact ⟨fun f _ => hF.fn f, ih _ _ h⟩

/-! ### Ways of walking code -/
structure Mode (P : Program) where
  F : Fence
  hF : Open F
def Mode.wp (M : Mode P) (c : Code) (Q : Exit → Act → World → Prop) (a : Act) (w : World) : Prop := ¬ LetsOut Q → c.wpIn M.F 0 P Q a w
def Mode.round (P : Program) (l : Nat) : Mode P := ⟨Fence.wide.inRound l, open_round l⟩
def Mode.fence (P : Program) : Mode P := ⟨Fence.wide, open_wide⟩

theorem lo_then {K : Act → World → Prop} {Q : Exit → Act → World → Prop} (h : ¬ LetsOut Q) : ¬ LetsOut (Exit.then K Q) := fun ⟨a, w, hq⟩ => h ⟨a, w, hq⟩
theorem lo_blk {id : Nat} {Q : Exit → Act → World → Prop} (h : ¬ LetsOut Q) : ¬ LetsOut (Exit.inBlock id Q) := fun ⟨a, w, hq⟩ => h ⟨a, w, hq⟩

variable {dfs : List Deferred} {M : Mode P} {Q : Exit → Act → World → Prop} {n : Nat} {w0 : World} {L : List (Nat × Value)} {T : List Ent}

theorem mcont_seq {x y : Code} (h : Cont dfs (M.wp x (Exit.then (M.wp y Q) Q)) n w0 L T) : Cont dfs (M.wp (Code.seq x y) Q) n w0 L T :=
  fun a w ha hf hT hlo => wpIn_seq (wpIn_mono (h a w ha hf hT (lo_then hlo)) fun e a' w' hq => by
    cases e with
    | normal => exact hq hlo
    | _ => exact hq)
theorem mcont_region {id : Nat} {ops : Array Oper} (k : Nat) (hk : ops.size = k) (hops : noDef ops = true) (h : Cont dfs (PL P ops Q 0 k) n w0 L T) : Cont dfs (M.wp (Code.region id ops false) Q) n w0 L T := by
  intro a w ha hf hT hlo
  refine wpIn_region ?_
  have := h a w ha hf hT
  unfold PL at this
  rw [List.range_eq_range', hk]
  have e := ops_in M.hF hops (K := Q .normal) hlo [] (fun a w hh => by simpa [wpOpsIn] using hh) (List.range' 0 k) a w (by
    have hQ : Exit.then (Q .normal) Q = Q := by funext e; cases e <;> rfl
    rw [hQ]; exact this)
  simpa using e
theorem mdrawn_enter {id : Nat} {ops : Array Oper} (m : Nat) (ds : List Nat) (hm : ops.size = m) (hmix : P.follows .mixedOrders = true) (hops : noDef ops = true) (h : Cont dfs (AH P ops Q (fun w => Known w (dropT ds T)) m m []) n w0 L T) : Cont dfs (M.wp (Code.region id ops true) Q) n w0 L T := by
  intro a w ha hf hT hlo
  refine wpIn_region_draw fun t => ?_
  simp only [Region.schedule, hmix, Bool.true_or, if_true]
  have := h a w.drew ha hf hT.drew
  unfold AH marked at this
  subst hm
  have e := wpAny_sound ops.size t _ a _ (wpAny_of_held _ _ _ _ this)
  have hQ : Exit.then (Q .normal) Q = Q := by funext e; cases e <;> rfl
  have e2 := ops_in M.hF hops (K := Q .normal) hlo [] (fun a w hh => by simpa [wpOpsIn] using hh) _ a _ (by rw [hQ]; exact e)
  rw [List.append_nil] at e2
  exact e2
theorem mcont_skip (h : Cont dfs (Q .normal) n w0 L T) : Cont dfs (M.wp Code.skip Q) n w0 L T := fun a w ha hf hT _ => wpIn_skip (h a w ha hf hT)
theorem mcont_ret (h : Cont dfs (Q .ret) n w0 L T) : Cont dfs (M.wp Code.ret Q) n w0 L T := fun a w ha hf hT _ => wpIn_ret (h a w ha hf hT)
theorem mcont_exit {id : Nat} (h : Cont dfs (Q (.exit id)) n w0 L T) : Cont dfs (M.wp (Code.exit id) Q) n w0 L T := fun a w ha hf hT _ => wpIn_exit (h a w ha hf hT)
theorem mcont_block {id : Nat} {c : Code} (h : Cont dfs (M.wp c (Exit.inBlock id Q)) n w0 L T) : Cont dfs (M.wp (Code.block id c) Q) n w0 L T := fun a w ha hf hT hlo => wpIn_block (h a w ha hf hT (lo_blk hlo))
theorem mcont_true {c : Operand} {x y : Code} (hc : knownB L c = some (.bool true)) (h : Cont dfs (M.wp x Q) n w0 L T) : Cont dfs (M.wp (Code.cond c x y) Q) n w0 L T :=
  fun a w ha hf hT hlo => wpIn_cond_true (knownB_eval hf hc) (h a w ha hf hT hlo)
theorem mcont_false {c : Operand} {x y : Code} (hc : knownB L c = some (.bool false)) (h : Cont dfs (M.wp y Q) n w0 L T) : Cont dfs (M.wp (Code.cond c x y) Q) n w0 L T :=
  fun a w ha hf hT hlo => wpIn_cond_false (knownB_eval hf hc) (h a w ha hf hT hlo)

theorem wpIn_loop_ghost {F : Fence} {m : Nat} {a : Act} {w : World} {c : Code} (I : Nat → Act → World → Prop) (n₀ : Nat) (h₀ : I n₀ a w)
    (round : ∀ n a w, I n a w → c.wpIn F m P (Exit.then (fun a' w' => ∃ n', n' < n ∧ I n' a' w') Q) a w) : (Code.loop c).wpIn F m P Q a w := by
  refine wpIn_loop (fun a w => ∃ n, I n a w) (fun a w => leastOf (fun n => I n a w)) ⟨n₀, h₀⟩ ?_
  intro a w hI
  refine wpIn_mono (round _ a w (leastOf_spec hI).1) ?_
  intro e a' w' hq
  cases e with
  | normal =>
    obtain ⟨n', hlt, hI'⟩ := hq
    exact show (∃ n, I n a' w') ∧ leastOf (fun n => I n a' w') < leastOf (fun n => I n a w) from ⟨⟨n', hI'⟩, Nat.lt_of_le_of_lt ((leastOf_spec ⟨n', hI'⟩).2 n' hI') hlt⟩
  | _ => exact hq

theorem mcont_loop {α : Type} {body : Code} (Inv : α → Prop) (Lf : α → List (Nat × Value)) (Tf : α → List Ent) (m : α → Nat) (x0 : α) (hinv : Inv x0)
    (hL : ((Lf x0).map fun p => lk L p.1) = ((Lf x0).map fun p => some p.2)) (hTf : Tf x0 = T)
    (round : ∀ x, Inv x → Cont dfs (M.wp body (Exit.then (Again dfs Inv Lf Tf m n w0 x) Q)) n w0 (Lf x) (Tf x)) : Cont dfs (M.wp (Code.loop body) Q) n w0 L T := by
  subst hTf
  intro a w ha hf hT hlo
  refine wpIn_loop_ghost (fun k a' w' => ∃ x, m x = k ∧ Inv x ∧ a'.defers = dfs ∧ FrOk n a'.tmps (Lf x) ∧ Tab w0 w' (Tf x)) (m x0) ⟨x0, rfl, hinv, ha, hf.prune hL, hT⟩ ?_
  rintro k a' w' ⟨x, rfl, hx, ha', hf', hT'⟩
  refine wpIn_mono (round x hx a' w' ha' hf' hT' (lo_then hlo)) (fun e a'' w'' h => ?_)
  cases e with
  | normal =>
    obtain ⟨y, h1, h2, h3, h4, h5⟩ := h
    exact ⟨m y, h2, y, rfl, h1, h3, h4, h5⟩
  | _ => exact h

/-! ### Entries for the loop's book-keeping -/
def objE (b : Nat) (o : Obj) : Ent := .gen { blk := (· = b), wr := true, own := true, ok := fun w => w.heap[b]? = some o, stable := fun w w' h hk => (h b rfl).trans hk, inb := fun w k hk hb => by cases hb; exact (Array.getElem?_eq_some_iff.1 hk).1 }
def markE (D : Nat) : Ent := objE D (.deferred (some []))
theorem Tab.putObj {w : World} (hT : Tab w0 w T) {i b : Nat} {o : Obj} (h : T[i]? = some (objE b o)) (o' : Obj) : Tab w0 (w.putObj b o') (T.set i (objE b o')) := by
  have hk : w.heap[b]? = some o := hT.ok i _ h
  refine hT.replace (e := objE b o) (e' := objE b o') h rfl rfl id (fun k hk => .inl hk) (fun k _ hk _ => hk) rfl rfl rfl (by simp) (fun k _ hk => World.putObj_heap_other (fun e => hk e)) ?_
  exact World.putObj_heap_same (Array.getElem?_eq_some_iff.1 hk).1
theorem Tab.allocObj {w : World} (hT : Tab w0 w T) (o : Obj) : Tab w0 (w.alloc o) (objE w.heap.size o :: T) := by
  refine hT.push (e := objE w.heap.size o) rfl rfl rfl (by simp) (fun k hk => Below.heap_alloc w _ k hk) (World.alloc_heap_new w o) (fun k hk => by have : k = w.heap.size := hk; omega)

theorem Cont.go {K : Act → World → Prop} (h : Cont dfs K n w0 L T) {a : Act} {w : World} (ha : a.defers = dfs) (hf : FrOk n a.tmps L) (hT : Tab w0 w T) : K a w := h a w ha hf hT
/-! ### The end of a function that holds such a loop -/
/-- The same without a way to panic. -/
def NP (Q : Exit → Act → World → Prop) : Exit → Act → World → Prop
  | .panic _, _, _ => False
  | e, a, w => Q e a w
theorem NP.le {Q : Exit → Act → World → Prop} (e : Exit) (a : Act) (w : World) (h : NP Q e a w) : Q e a w := by cases e <;> first | exact h.elim | exact h
theorem enterM {f : FuncId} {fn : Func} {c : Code} {args : Array Value} {w : World} {R : Ending → World → Prop} (n : Nat) (L : List (Nat × Value)) (T : List Ent) (hf : P.funcs[f]? = some fn) (hb : fn.body = some c) (hn : fn.ntmps = n) (hsz : Nat.ble args.size n = true)
    (hL : (L.map fun p => args[p.1]?) = (L.map fun p => some p.2)) (hT : Tab w w T) (h : Cont [] (c.wp P (NP (bodyPostM Fence.wide 0 P fn R))) n w L T) : Calls P f args w R := by
  subst hn
  refine callsIn_wide.1 (callsIn_of_wp_marks hf hb trivial (wpIn_wide.2 (wp_mono (h _ _ rfl ⟨?_, ?_⟩ hT) fun e a w hq => hq.le)) rfl)
  · have := Nat.le_of_ble_eq_true hsz
    simp; omega
  · exact enter_lk hL
def coll (D : Nat) : Deferred := { target := .collected D, args := #[] }
theorem mark_end {fn : Func} {R : Ending → World → Prop} {e : Exit} {D : Nat} (i : Nat) (hi : T[i]? = some (markE D)) (he : e = .ret ∨ e = .normal) (h : Cont [] (bodyPost P fn R e) n w0 L (T.set i (objE D (.deferred none)))) : Cont [coll D] (NP (bodyPostM Fence.wide 0 P fn R) e) n w0 L T := by
  intro a w ha hf hT
  have hk : w.heap[D]? = some (.deferred (some [])) := hT.ok i _ hi
  have := h { a with defers := [] } (w.putObj D (.deferred none)) rfl hf (hT.putObj hi _)
  rcases he with rfl | rfl
  all_goals
    obtain ⟨_, v, h1, h2⟩ := this
    show LeavesInM Fence.wide 0 P fn a.tmps R a.defers .returning w
    rw [ha]
    exact ⟨by simp, .inl ⟨D, _, rfl, run_takeDeferred hk, v, h1, h2⟩⟩

/-! ### Iterators -/
/-- What an iterator promises: it hands over items one by one, S of all, Sp of those that have come; the entries Es are what it reads; Ex what it hands over with an item. -/
def IterC {X : Type} (P : Program) (gf : Nat) (lb : Array Value) (encs : X → Array Value) (w0 : World) (Es : List Ent) (Ex : X → List Ent) (S Sp : List X → Prop) : Prop :=
  ∀ {β : Type} (Inv : List X → β → Prop) (Tr : β → List Ent) (Jx : World → Prop) (l : Nat) (e1 e2 : Ent) (W : World) (b0 : β), (∀ w w', Jx w → Below w.heap.size w w' → Jx w') →
    (∀ pre x b W1 z, (z.wr = true → z.own = true) → Inv pre b → Sp (pre ++ [x]) → Tab w0 W1 (Ex x ++ z :: e1 :: e2 :: (Es ++ Tr b)) →
      YieldAt Fence.wide 0 P l (encs x) W1 fun e W' => (e = .returned (.bool true) ∧ ∃ b', Inv (pre ++ [x]) b' ∧ Tab w0 W' (z :: e1 :: e2 :: (Es ++ Tr b'))) ∨ (e = .returned (.bool false) ∧ Jx W')) →
    Inv [] b0 → Tab w0 W (e1 :: e2 :: (Es ++ Tr b0)) →
    Calls P gf (#[.func (.yield l) #[] #[]] ++ lb) W fun e W' => (∃ v, e = .returned v) ∧ ((∃ xs b', S xs ∧ Inv xs b' ∧ Tab w0 W' (e1 :: e2 :: (Es ++ Tr b'))) ∨ Jx W')

theorem enterI {f : FuncId} {fn : Func} {c : Code} {args : Array Value} {w : World} {R : Ending → World → Prop} (n : Nat) (L : List (Nat × Value)) (T : List Ent) (hf : P.funcs[f]? = some fn) (hb : fn.body = some c) (hn : fn.ntmps = n) (hsz : Nat.ble args.size n = true)
    (hL : (L.map fun p => args[p.1]?) = (L.map fun p => some p.2)) (hT : Tab w0 w T) (hlo : ∀ w, ¬ R .outgrown w) (h : Cont [] ((Mode.fence P).wp c (bodyPost P fn R)) n w0 L T) : Calls P f args w R := by
  subst hn
  refine callsIn_wide.1 (callsIn_of_wp hf hb trivial (h _ _ rfl ⟨?_, ?_⟩ hT (fun ⟨_, w', hq⟩ => hlo w' hq)) rfl)
  · have := Nat.le_of_ble_eq_true hsz
    simp; omega
  · exact enter_lk hL

def PLI (P : Program) (ops : Array Oper) (Q : Exit → Act → World → Prop) (i k : Nat) (a : Act) (w : World) : Prop := ¬ LetsOut Q → wpOpsIn Fence.wide 0 P ops Q (List.range' i k) a w
theorem pli_ops {ops : Array Oper} {i k : Nat} (j m i' : Nat) (hk : k = j + m) (hi' : i' = i + j) (hops : noDef ops = true) (h : Cont dfs (PL P ops (Exit.then (PLI P ops Q i' m) Q) i j) n w0 L T) : Cont dfs (PLI P ops Q i k) n w0 L T := by
  subst hk; subst hi'
  intro a w ha hf hT hlo
  have := h a w ha hf hT
  have e : List.range' i (j + m) = List.range' i j ++ List.range' (i + j) m := (List.range'_append_1 ..).symm
  rw [e]
  exact ops_in open_wide hops hlo _ (fun a w hh => hh hlo) _ a w this
theorem pli_done {ops : Array Oper} {i : Nat} (h : Cont dfs (Q .normal) n w0 L T) : Cont dfs (PLI P ops Q i 0) n w0 L T :=
  fun a w ha hf hT _ => by
    have := h a w ha hf hT
    simpa [wpOpsIn] using this
theorem YieldAt.weaken {F : Fence} {m l : Nat} {args : Array Value} {W : World} {R R' : Ending → World → Prop} (h : YieldAt F m P l args W R) (hr : ∀ e w', R e w' → R' e w') : YieldAt F m P l args W R' :=
  let ⟨fn, tmps, assign, body, h1, h2⟩ := h; ⟨fn, tmps, assign, body, h1, h2.mono hr⟩
theorem pli_yield {ops : Array Oper} {i k : Nat} {l : Nat} {args : Array Value} (d : Tmp) (i' k' : Nat) (hi : i' = i + 1) (hk : k = k' + 1) (hops : noDef ops = true) (H : opS ops n i L = some (some d, Instr.yield l args))
    {R : Value → World → Prop} (hy : ∀ w, Tab w0 w T → YieldAt Fence.wide 0 P l args w fun e w' => ∃ v, e = .returned v ∧ R v w')
    (hR : ∀ a w v, a.defers = dfs → FrOk n a.tmps ((d, v) :: L) → R v w → PLI P ops Q i' k' a w) : Cont dfs (PLI P ops Q i k) n w0 L T := by
  subst hi; subst hk
  intro a w ha hf hT hlo
  obtain ⟨o, ho, hdst, hd, hw, he⟩ := opS_core H hf
  rw [List.range'_succ]
  simp only [wpOpsIn, ho, hw, if_true]
  refine ⟨fun f _ => trivial, ?_⟩
  rw [Oper.semAt_eq _ _ _ (noDef_at hops ho), he]
  obtain ⟨fn, tmps, assign, body, hrun, hround⟩ := hy w hT
  rw [hrun]
  refine ⟨(fun h => by cases h), hround.mono ?_⟩
  rintro e w' ⟨v, rfl, hr⟩
  exact hR (a.put o.dst v) w' v (by rw [put_defers]; exact ha) (by rw [hdst]; exact hf.put (hd d rfl) v) hr hlo

/-! ### The statement -/
theorem FrOk.puts {tmps : Array Value} (h : FrOk n tmps L) : ∀ (ps : List Nat) (vs : List Value), (ps.all fun p => Nat.blt p n) = true → FrOk n ((ps.zip vs).foldl (fun t p => t.setIfInBounds p.1 p.2) tmps) ((ps.zip vs).reverse ++ L) := by
  intro ps
  induction ps generalizing tmps L with
  | nil => intro vs _; exact h
  | cons p ps ih =>
    intro vs hp
    cases vs with
    | nil => exact h
    | cons v vs =>
      simp only [List.all_cons, Bool.and_eq_true] at hp
      have := ih (h.put (d := p) (by simpa using hp.1) v) vs hp.2
      simp only [List.zip_cons_cons, List.foldl_cons, List.reverse_cons, List.append_assoc, List.singleton_append]
      exact this

/-- Where a round's body ends. -/
def RQ {X β : Type} (w0 : World) (Inv : List X → β → Prop) (Tr : β → List Ent) (Es : List Ent) {γ : Type} (Jx : Code → γ → Prop) (Tx : γ → List Ent) (z e1 e2 : Ent) (xs : List X) : Exit → Act → World → Prop
  | .normal, _, w => ∃ b, Inv xs b ∧ Tab w0 w (z :: e1 :: e2 :: (Es ++ Tr b))
  | .ret, _, w => ∃ c, Jx .ret c ∧ Tab w0 w (e1 :: e2 :: Tx c)
  | .exit id, _, w => ∃ c, Jx (.exit id) c ∧ Tab w0 w (e1 :: e2 :: Tx c)
  | _, _, _ => False
theorem pok_rq {X β γ : Type} {Inv : List X → β → Prop} {Tr : β → List Ent} {Es : List Ent} {Jx : Code → γ → Prop} {Tx : γ → List Ent} {z e1 e2 : Ent} {xs : List X} : PanicOk (RQ w0 Inv Tr Es Jx Tx z e1 e2 xs) := fun c a d v w h => h
theorem rq_next {X β γ : Type} {Inv : List X → β → Prop} {Tr : β → List Ent} {Es : List Ent} {Jx : Code → γ → Prop} {Tx : γ → List Ent} {z e1 e2 : Ent} {xs : List X} (b : β) (hi : Inv xs b) (hT : z :: e1 :: e2 :: (Es ++ Tr b) = T) : Cont dfs (RQ w0 Inv Tr Es Jx Tx z e1 e2 xs .normal) n w0 L T := by
  subst hT; exact fun a w _ _ h => ⟨b, hi, h⟩
theorem cont_rangeFunc {X β γ : Type} {g : Operand} {ps : Array Tmp} {assign body : Code} {gf : Nat} {lb : Array Value} (encs : X → Array Value) (Es : List Ent) (Ex : X → List Ent) (S Sp : List X → Prop) (Inv : List X → β → Prop) (Tr : β → List Ent) (Jx : Code → γ → Prop) (Tx : γ → List Ent) (b0 : β)
    (hg : knownB L g = some (.func (.func gf) #[] lb)) (eg : ∀ args w, (callFunc gf args).run P w = .ok (.enter gf args) w) (hps : ∀ x, (encs x).size = ps.size) (hpn : (ps.toList.all fun p => Nat.blt p n) = true)
    (hseq : IterC P gf lb encs w0 Es Ex S Sp) (h0 : Inv [] b0) (hT0 : Es ++ Tr b0 = T)
    (hbody : ∀ (l : Nat) (z e1 e1b e2 : Ent) (pre : List X) (x : X) (b : β) (B : Act → World → Prop), (z.wr = true → z.own = true) → Inv pre b → Sp (pre ++ [x]) →
      (∀ L' Xs R, Cont [] ((Mode.round P l).wp body (RQ w0 Inv Tr Es Jx Tx z e1b e2 (pre ++ [x]))) n w0 L' (Xs ++ e1b :: R) → Cont [] B n w0 L' (Xs ++ e1 :: R)) →
      Cont [] ((Mode.round P l).wp assign (Exit.then B (fun _ _ _ => False))) n w0 ((ps.toList.zip (encs x).toList).reverse ++ L) (Ex x ++ z :: e1 :: e2 :: (Es ++ Tr b)))
    (hdone : ∀ (D : Nat) (xs : List X) (b : β), S xs → Inv xs b → Cont [coll D] (Q .normal) n w0 L (markE D :: (Es ++ Tr b)))
    (hret : ∀ (D : Nat) (c : γ), Jx .ret c → Cont [coll D] (Q .ret) n w0 L (markE D :: Tx c))
    (hexit : ∀ (D id : Nat) (c : γ), Jx (.exit id) c → Cont [coll D] (Q (.exit id)) n w0 L (markE D :: Tx c)) :
    Cont [] ((Code.rangeFunc g ps assign body).wp P Q) n w0 L T := by
  subst hT0
  intro a w ha hf hT
  refine (wpIn_wide (n := 0)).1 (wpIn_rangeFunc ?_)
  intro fn _
  obtain ⟨rec, hrec⟩ : ∃ rec : LoopState → Option Code → Loop, rec = fun st pe => { state := st, pending := pe, fn, tmps := a.tmps, params := ps, assign, body, defers := w.heap.size } := ⟨_, rfl⟩
  have hTab := (hT.allocObj (.deferred (some []))).allocObj (.loop (rec .ready none))
  rw [World.size_alloc] at hTab
  obtain ⟨W1, hW1⟩ : ∃ W1, (w.alloc (.deferred (some []))).alloc (.loop (rec .ready none)) = W1 := ⟨_, rfl⟩
  rw [hW1] at hTab
  have hgv : a.eval g = .func (.func gf) #[] lb := knownB_eval hf hg
  refine ⟨w.heap.size + 1, [coll w.heap.size], W1, { target := .fn (.func gf) lb, args := #[.func (.yield (w.heap.size + 1)) #[] #[]] }, W1, gf, #[.func (.yield (w.heap.size + 1)) #[] #[]] ++ lb, W1, by rw [← hW1, hrec]; exact run_enterLoop_outer _ _ _ _ _, ?_, fun _ _ => trivial, ?_, (fun h => by cases h), ?_⟩
  · simp only [resolve, hgv]
    simp [go_sem]
  · simp [invoke, go_sem, eg]
  · have key := hseq Inv Tr (fun W => ∃ c d, Jx c d ∧ (c = .ret ∨ ∃ id, c = .exit id) ∧ Tab w0 W (objE (w.heap.size + 1) (.loop (rec .done (some c))) :: markE w.heap.size :: Tx d)) (w.heap.size + 1) (objE (w.heap.size + 1) (.loop (rec .ready none))) (markE w.heap.size) W1 b0 ?_ ?_ h0 hTab
    · refine calls_open open_wide (key.mono ?_)
      rintro e W ⟨⟨v, rfl⟩, ⟨xs, b, hS, hi, hW⟩ | ⟨c, d, hj, hc, hW⟩⟩
      · have hl : W.heap[w.heap.size + 1]? = some (.loop (rec .ready none)) := hW.ok 0 _ rfl
        refine ⟨none, _, by rw [run_endLoop hl (by rw [hrec]; simp)]; rw [hrec], ?_⟩
        have hW2 := (hW.putObj (i := 0) rfl (.loop { rec .ready none with state := .exhausted })).drop (fun _ => rfl)
        refine hdone w.heap.size xs b hS hi _ _ (by simp [ha, coll]) hf (by rw [hrec] at hW2; exact hW2)
      · have hl : W.heap[w.heap.size + 1]? = some (.loop (rec .done (some c))) := hW.ok 0 _ rfl
        refine ⟨some c, _, by rw [run_endLoop hl (by rw [hrec]; simp)]; rw [hrec], ?_⟩
        have hW2 := (hW.putObj (i := 0) rfl (.loop { rec .done (some c) with state := .exhausted })).drop (fun _ => rfl)
        refine wpIn_wide.2 ?_
        rcases hc with rfl | ⟨id, rfl⟩
        · exact wp_ret (hret w.heap.size d hj _ _ (by simp [ha, coll]) hf (by rw [hrec] at hW2; exact hW2))
        · exact wp_exit (hexit w.heap.size id d hj _ _ (by simp [ha, coll]) hf (by rw [hrec] at hW2; exact hW2))
    · rintro wa wb ⟨c, d, h1, h2, h3⟩ hb
      exact ⟨c, d, h1, h2, h3.below hb⟩
    · -- one round
      intro pre x b W1 z hz hi hsp hW
      have hfr : FrOk n ((ps.zip (encs x)).foldl (fun tmps (t, v) => tmps.setIfInBounds t v) a.tmps) ((ps.toList.zip (encs x).toList).reverse ++ L) := by
        have := hf.puts ps.toList (encs x).toList hpn
        rw [← Array.foldl_toList, Array.toList_zip]
        exact this
      have hidx : (Ex x ++ z :: objE (w.heap.size + 1) (.loop (rec .ready none)) :: markE w.heap.size :: (Es ++ Tr b))[(Ex x).length + 1]? = some (objE (w.heap.size + 1) (.loop (rec .ready none))) := by simp [List.getElem?_append_right]
      have hl : W1.heap[w.heap.size + 1]? = some (.loop (rec .ready none)) := hW.ok _ _ hidx
      have hy := run_yield (P := P) (args := encs x) hl (by rw [hrec]; exact hps x)
      rw [hrec] at hy
      refine ⟨fn, _, assign, body, hy, roundIn_of_wpIn (F := Fence.wide) trivial ?_⟩
      refine hbody (w.heap.size + 1) z (objE (w.heap.size + 1) (.loop (rec .ready none))) (objE (w.heap.size + 1) (.loop { rec .ready none with state := .busy })) (markE w.heap.size) pre x b _ hz hi hsp ?_ _ W1 rfl hfr hW ?_
      rotate_left
      · rintro ⟨a', w', hq⟩; exact hq
      intro L' Xs R hB a' W2 ha' hf' hW2
      have hidx2 : (Xs ++ objE (w.heap.size + 1) (.loop (rec .ready none)) :: R)[Xs.length]? = some (objE (w.heap.size + 1) (.loop (rec .ready none))) := by simp
      have hl2 : W2.heap[w.heap.size + 1]? = some (.loop (rec .ready none)) := hW2.ok _ _ hidx2
      have hW3 := hW2.putObj hidx2 (.loop { rec .ready none with state := .busy })
      have hset : (Xs ++ objE (w.heap.size + 1) (.loop (rec .ready none)) :: R).set Xs.length (objE (w.heap.size + 1) (.loop { rec .ready none with state := .busy })) = Xs ++ objE (w.heap.size + 1) (.loop { rec .ready none with state := .busy }) :: R := by simp
      rw [hset] at hW3
      refine ⟨_, run_beginRound hl2 (by rw [hrec]), wpIn_mono (hB a' _ ha' hf' hW3 ?_) ?_⟩
      · rintro ⟨a', w', hq⟩; exact hq
      · intro e a'' W3 hq
        have fin : ∀ (jump : Option Code) (i : Nat) (T' : List Ent), T'[i]? = some (objE (w.heap.size + 1) (.loop { rec .ready none with state := .busy })) → Tab w0 W3 T' →
            (Instr.endRound (w.heap.size + 1) jump).run P W3 = .ok (.bool jump.isNone) (W3.putObj (w.heap.size + 1) (.loop (rec (if jump.isNone then .ready else .done) jump))) ∧ Tab w0 (W3.putObj (w.heap.size + 1) (.loop (rec (if jump.isNone then .ready else .done) jump))) (T'.set i (objE (w.heap.size + 1) (.loop (rec (if jump.isNone then .ready else .done) jump)))) := by
          intro jump i T' hi3 hW3
          have hl3 : W3.heap[w.heap.size + 1]? = some (.loop { rec .ready none with state := .busy }) := hW3.ok i _ hi3
          refine ⟨?_, hW3.putObj hi3 _⟩
          rw [run_endRound jump hl3, hrec]
        cases e with
        | normal =>
          obtain ⟨b', hi', hW3⟩ := hq
          obtain ⟨h1, h2⟩ := fin none 1 _ rfl hW3
          exact ⟨_, _, h1, .inl ⟨rfl, b', hi', h2⟩⟩
        | ret =>
          obtain ⟨c, hj, hW3⟩ := hq
          obtain ⟨h1, h2⟩ := fin (some .ret) 0 _ rfl hW3
          exact ⟨_, _, h1, .inr ⟨rfl, .ret, c, hj, .inl rfl, h2⟩⟩
        | exit id =>
          obtain ⟨c, hj, hW3⟩ := hq
          obtain ⟨h1, h2⟩ := fin (some (.exit id)) 0 _ rfl hW3
          exact ⟨_, _, h1, .inr ⟨rfl, .exit id, c, hj, .inr ⟨id, rfl⟩, h2⟩⟩
        | goto t => exact hq.elim
        | panic ch => exact hq.elim
        | outgrown => exact hq.elim
end
/-- An entry of the call's own is only read from here on. -/
theorem Tab.weaken {w0 w : World} {T : List Ent} (hT : Tab w0 w T) {i : Nat} {e e0 : Ent} (hi : T[i]? = some e) (ho : e.own = true) (hv : Vw e e0) (hw : e0.wr = false) : Tab w0 w (T.set i e0) := by
  have hok := hT.ok i e hi
  refine ⟨hT.os, hT.tape, hT.output, hT.size, ?_, ?_, ?_, ?_⟩
  · intro j x hx
    rcases getElem?_set_cases _ _ _ _ _ hx with ⟨_, rfl⟩ | ⟨_, hx⟩
    · exact hv.ok w hok
    · exact hT.ok j x hx
  · intro k hk hno
    refine hT.frame k hk (fun j x hx hxw hb => ?_)
    by_cases hj : j = i
    · subst hj
      rw [hi] at hx; cases hx
      have := hT.own j e hi ho k hb; omega
    · exact hno j x (by rw [List.getElem?_set_ne (Ne.symm hj)]; exact hx) hxw hb
  · intro j x hx hxo k hk
    rcases getElem?_set_cases _ _ _ _ _ hx with ⟨_, rfl⟩ | ⟨_, hx⟩
    · rw [hv.own] at hxo; cases hxo
    · exact hT.own j x hx hxo k hk
  · intro j l x y hjl hx hy hxy k hk hk'
    rcases getElem?_set_cases _ _ _ _ _ hx with ⟨hji, rfl⟩ | ⟨hj, hx2⟩
    · rcases getElem?_set_cases _ _ _ _ _ hy with ⟨hli, rfl⟩ | ⟨hl, hy⟩
      · omega
      · rw [hw] at hxy
        exact hT.disj i l e y (Ne.symm hl) hi hy (.inr (hxy.resolve_left (by simp))) k (hv.blk w hok k hk) hk'
    · rcases getElem?_set_cases _ _ _ _ _ hy with ⟨hli, rfl⟩ | ⟨hl, hy⟩
      · rw [hw] at hxy
        exact hT.disj j i x e hj hx2 hi (.inl (hxy.resolve_right (by simp))) k hk (hv.blk w hok k hk')
      · exact hT.disj j l x y hjl hx2 hy hxy k hk hk'
theorem cont_weaken {dfs : List Deferred} {K : Act → World → Prop} {n : Nat} {w0 : World} {L : List (Nat × Value)} {T : List Ent} (i : Nat) (e0 : Ent) {e : Ent} (hi : T[i]? = some e) (ho : e.own = true) (hv : Vw e e0) (hw : e0.wr = false) (h : Cont dfs K n w0 L (T.set i e0)) : Cont dfs K n w0 L T :=
  fun a w ha hf hT => h a w ha hf (hT.weaken hi ho hv hw)
end Go.Proofs.Ytlfahohbkgdabaa

/- A yield inside a region whose operations come in any order: the yield, and the one operation behind it, come last. -/
set_option linter.unusedVariables false
set_option linter.unusedSimpArgs false
namespace Go.Proofs.Ytlfahohbkgdabaa
open Go Go.RowKit

/-- The operation y waits for itself. -/
def holdOps (ops : Array Oper) (y : Nat) : Array Oper := ops.modify y fun o => { o with after := o.after.push ⟨y, .data⟩ }
theorem hold_get (ops : Array Oper) (y i : Nat) : (holdOps ops y)[i]? = (ops[i]?).map fun o => if i = y then { o with after := o.after.push ⟨y, .data⟩ } else o := by
  unfold holdOps
  rw [Array.getElem?_modify]
  by_cases h : y = i
  · subst h; simp
  · have h' : ¬ i = y := fun e => h e.symm
    simp [h, h']
theorem hold_size (ops : Array Oper) (y : Nat) : (holdOps ops y).size = ops.size := by unfold holdOps; exact Array.size_modify ..
theorem hold_yielded (ops : Array Oper) (y : Nat) : yielded (holdOps ops y) = yielded ops := by
  funext tmps j
  unfold yielded
  rw [hold_get]
  cases ops[j]? with
  | none => rfl
  | some o =>
    simp only [Option.map_some, Option.bind_some]
    by_cases h : j = y
    · rw [if_pos h]
    · rw [if_neg h]
theorem wpOp_hold {P : Program} {ops : Array Oper} {Q : Exit → Act → World → Prop} {y i : Nat} {K : Act → World → Prop} {a : Act} {w : World} : wpOp P (holdOps ops y) Q i K a w = wpOp P ops Q i K a w := by
  unfold wpOp
  rw [hold_get, hold_yielded]
  cases ops[i]? with
  | none => rfl
  | some o =>
    simp only [Option.map_some]
    by_cases h : i = y
    · rw [if_pos h]; rfl
    · rw [if_neg h]
theorem wpOps_hold {P : Program} {ops : Array Oper} {Q : Exit → Act → World → Prop} {y : Nat} : ∀ (l : List Nat) (a : Act) (w : World), wpOps P (holdOps ops y) Q l a w → wpOps P ops Q l a w := by
  intro l
  induction l with
  | nil => intro a w h; exact h
  | cons i l ih =>
    intro a w h
    rw [wpOps_cons] at h ⊢
    rw [wpOp_hold] at h
    exact wpOp_mono (fun a' w' h' => ih a' w' h') h

/-! ### Which operations may come -/
theorem mem_ready {ops : Array Oper} {listed : Array Bool} {i : Nat} : i ∈ Region.ready .any ops listed ↔ i < ops.size ∧ listed.getD i true = false ∧ ∃ o, ops[i]? = some o ∧ ∀ e ∈ o.after, Region.binds .any e = true → listed.getD e.on false = true := by
  unfold Region.ready
  rw [List.mem_filter, List.mem_range, Bool.and_eq_true, Bool.not_eq_true']
  refine and_congr_right fun _ => and_congr_right fun _ => ?_
  cases h : ops[i]? with
  | none => simp
  | some o =>
    simp only [Option.map_some, Option.getD_some, Option.some.injEq, exists_eq_left']
    rw [Array.all_eq_true']
    refine forall_congr' fun e => forall_congr' fun he => ?_
    cases Region.binds .any e <;> simp
def depOf (ops : Array Oper) (i j : Nat) : Bool := ((ops[i]?).map fun o => o.after.any fun e => Region.binds .any e && e.on == j).getD false
theorem depOf_iff {ops : Array Oper} {i j : Nat} : depOf ops i j = true ↔ ∃ o, ops[i]? = some o ∧ ∃ e ∈ o.after, Region.binds .any e = true ∧ e.on = j := by
  unfold depOf
  cases h : ops[i]? with
  | none => simp
  | some o =>
    simp only [Option.map_some, Option.getD_some, Option.some.injEq, exists_eq_left']
    rw [Array.any_eq_true']
    simp
theorem ready_dep {ops : Array Oper} {listed : Array Bool} {i : Nat} (h : i ∈ Region.ready .any ops listed) (j : Nat) (hd : depOf ops i j = true) : listed.getD j false = true := by
  obtain ⟨_, _, o, ho, hall⟩ := mem_ready.1 h
  obtain ⟨o', ho', e, he, hb, rfl⟩ := depOf_iff.1 hd
  rw [ho] at ho'; cases ho'
  exact hall e he hb
theorem ready_of {ops : Array Oper} {listed : Array Bool} {i : Nat} (hi : i < ops.size) (hl : listed.getD i true = false) (h : ∀ j, depOf ops i j = true → listed.getD j false = true) : i ∈ Region.ready .any ops listed := by
  refine mem_ready.2 ⟨hi, hl, ops[i], Array.getElem?_eq_getElem hi, fun e he hb => h _ (depOf_iff.2 ⟨ops[i], Array.getElem?_eq_getElem hi, e, he, hb, rfl⟩)⟩
/-- Each of c is waited for by one that came before it. -/
def certOk (ops : Array Oper) : List Nat → List Nat → Bool
  | _, [] => true
  | got, j :: c => (got.any fun i => depOf ops i j) && certOk ops (j :: got) c
def ClosedL (ops : Array Oper) (listed : Array Bool) : Prop := ∀ i j, depOf ops i j = true → listed.getD i false = true → listed.getD j false = true
theorem cert_listed {ops : Array Oper} {listed : Array Bool} (hc : ClosedL ops listed) : ∀ (c got : List Nat), (∀ i ∈ got, ∀ j, depOf ops i j = true → listed.getD j false = true) → certOk ops got c = true → ∀ j ∈ c, listed.getD j false = true := by
  intro c
  induction c with
  | nil => intro got _ _ j hj; cases hj
  | cons k c ih =>
    intro got hg hk j hj
    rw [certOk, Bool.and_eq_true] at hk
    obtain ⟨i, hi, hd⟩ := List.any_eq_true.1 hk.1
    have hkl := hg i hi k hd
    rcases List.mem_cons.1 hj with rfl | hj
    · exact hkl
    · refine ih (k :: got) (fun i' hi' j' hd' => ?_) hk.2 j hj
      rcases List.mem_cons.1 hi' with rfl | hi'
      · exact hc _ _ hd' hkl
      · exact hg i' hi' j' hd'
def lowOk (ops : Array Oper) : Bool := (List.range ops.size).all fun i => ((ops[i]?).map fun o => o.after.all fun e => !Region.binds .any e || Nat.blt e.on i).getD false
theorem low_of {ops : Array Oper} (h : lowOk ops = true) {i j : Nat} (hd : depOf ops i j = true) : j < i := by
  obtain ⟨o, ho, e, he, hb, rfl⟩ := depOf_iff.1 hd
  have hi : i < ops.size := (Array.getElem?_eq_some_iff.1 ho).1
  have := List.all_eq_true.1 h i (List.mem_range.2 hi)
  rw [ho] at this
  simp only [Option.map_some, Option.getD_some] at this
  have h2 := (Array.all_eq_true'.1 this) e he
  rw [hb] at h2
  exact Nat.le_of_ble_eq_true (by simpa [Nat.blt] using h2)
def yOk (ops : Array Oper) (y : Nat) (c : List Nat) : Bool := ops.size == y + 2 && lowOk ops && certOk ops [y] c && (List.range y).all (fun i => c.contains i) && depOf ops (y + 1) y

/-! ### The orders of a region whose yield comes last but one -/
theorem go_succ (ops : Array Oper) (f t : Nat) (listed : Array Bool) (acc : List Nat) : Region.linearise.go .any ops (f + 1) t listed acc = match (Region.ready .any ops listed)[t % (Region.ready .any ops listed).length]? with
    | some i => Region.linearise.go .any ops f (t / (Region.ready .any ops listed).length) (listed.setIfInBounds i true) (i :: acc)
    | none => acc.reverse := rfl
theorem go_pick {ops : Array Oper} {f t i : Nat} {listed : Array Bool} (h : (Region.ready .any ops listed)[t % (Region.ready .any ops listed).length]? = some i) : Region.linearise.go .any ops (f + 1) t listed [] = i :: Region.linearise.go .any ops f (t / (Region.ready .any ops listed).length) (listed.setIfInBounds i true) [] := by
  rw [go_succ, h]
  simp only []
  rw [linearise_go_acc]; rfl
theorem go_one {ops : Array Oper} {f t i : Nat} {listed : Array Bool} (h : Region.ready .any ops listed = [i]) : Region.linearise.go .any ops (f + 1) t listed [] = i :: Region.linearise.go .any ops f t (listed.setIfInBounds i true) [] := by
  have h1 : (Region.ready .any ops listed)[t % (Region.ready .any ops listed).length]? = some i := by rw [h]; simp [Nat.mod_one]
  rw [go_pick h1, h]; simp
theorem go_nil {ops : Array Oper} {f t : Nat} {listed : Array Bool} (h : Region.ready .any ops listed = []) : Region.linearise.go .any ops f t listed [] = [] := by
  cases f with
  | zero => rfl
  | succ f => rw [go_succ, h]; rfl
theorem getD_in {listed : Array Bool} {i : Nat} (h : i < listed.size) (d : Bool) : listed.getD i d = listed[i] := by simp [Array.getD, h]
theorem getD_any {listed : Array Bool} {i : Nat} (h : i < listed.size) (d e : Bool) : listed.getD i d = listed.getD i e := by rw [getD_in h, getD_in h]
theorem getD_set {listed : Array Bool} {i j : Nat} (hj : j < listed.size) (d : Bool) : (listed.setIfInBounds i true).getD j d = if i = j then true else listed.getD j d := by
  rw [getD_in (by simpa using hj), getD_in hj]
  rw [Array.getElem_setIfInBounds]
theorem count_strike {listed : Array Bool} {i f : Nat} (hi : i < listed.size) (h : listed.getD i true = false) (hc : listed.toList.count false = f + 1) : (listed.setIfInBounds i true).toList.count false = f := by
  have h1 : listed.toList[i]'(by simpa using hi) = false := by rw [getD_in hi] at h; simpa using h
  rw [Array.toList_setIfInBounds, List.count_set (by simpa using hi), h1, hc]
  simp
theorem ready_hold {ops : Array Oper} {listed : Array Bool} {y : Nat} (hy : y < ops.size) (hs : listed.size = ops.size) (hl : listed.getD y true = false) (hn : y ∉ Region.ready .any ops listed) : Region.ready .any (holdOps ops y) listed = Region.ready .any ops listed := by
  have hsame : ∀ i, (i ∈ Region.ready .any (holdOps ops y) listed ↔ i ∈ Region.ready .any ops listed) := by
    intro i
    by_cases e : i = y
    · subst e
      refine ⟨fun h => ?_, fun h => absurd h hn⟩
      obtain ⟨_, _, o, ho, hall⟩ := mem_ready.1 h
      rw [hold_get] at ho
      obtain ⟨o0, ho0, rfl⟩ := Option.map_eq_some_iff.1 ho
      rw [if_pos rfl] at hall
      have this : listed.getD i false = true := hall ⟨i, .data⟩ (by simp) rfl
      rw [getD_any (by omega) false true, hl] at this
      cases this
    · rw [mem_ready, mem_ready, hold_size, hold_get]
      refine and_congr_right fun _ => and_congr_right fun _ => ?_
      cases ops[i]? with
      | none => simp
      | some o => simp [e]
  unfold Region.ready
  rw [hold_size]
  refine List.filter_congr fun i hi => ?_
  have h1 := hsame i
  unfold Region.ready at h1
  rw [hold_size, List.mem_filter, List.mem_filter] at h1
  rw [Bool.eq_iff_iff]
  exact ⟨fun h => (h1.1 ⟨hi, h⟩).2, fun h => (h1.2 ⟨hi, h⟩).2⟩
theorem ready_some {ops : Array Oper} {listed : Array Bool} (hlow : lowOk ops = true) (hs : listed.size = ops.size) : ∀ (i : Nat), i < ops.size → listed.getD i true = false → Region.ready .any ops listed ≠ [] := by
  intro i
  induction i using Nat.strongRecOn with
  | _ i ih =>
    intro hi hl hnil
    by_cases h : ∀ j, depOf ops i j = true → listed.getD j false = true
    · have := ready_of hi hl h
      rw [hnil] at this; cases this
    · obtain ⟨j, hj⟩ := Classical.not_forall.1 h
      obtain ⟨hd, hj2⟩ := Classical.not_imp.1 hj
      have hlt := low_of hlow hd
      exact ih j hlt (by omega) (by rw [getD_any (by omega) true false]; simpa using hj2) hnil
theorem nodup_single {l : List Nat} {y : Nat} (hn : l.Nodup) (hy : y ∈ l) (h : ∀ i ∈ l, i = y) : l = [y] := by
  cases l with
  | nil => cases hy
  | cons a l =>
    have ha := h a (List.mem_cons_self ..)
    subst ha
    cases l with
    | nil => rfl
    | cons b l =>
      have hb := h b (by simp)
      rw [List.nodup_cons] at hn
      exact absurd (by simp [hb]) hn.1
theorem order_split {ops : Array Oper} {y : Nat} {c : List Nat} (hk : yOk ops y c = true) : ∀ (f t : Nat) (listed : Array Bool), listed.size = y + 2 → listed.toList.count false = f → ClosedL ops listed → listed.getD y true = false → listed.getD (y + 1) true = false →
    ∃ t', Region.linearise.go .any ops f t listed [] = Region.linearise.go .any (holdOps ops y) f t' listed [] ++ [y, y + 1] := by
  unfold yOk at hk
  simp only [Bool.and_eq_true, beq_iff_eq] at hk
  obtain ⟨⟨⟨⟨hsz, hlow⟩, hcert⟩, hcov⟩, hdep⟩ := hk
  intro f
  induction f with
  | zero =>
    intro t listed hs hc _ hy _
    have : false ∈ listed.toList := by
      rw [getD_in (by omega)] at hy
      rw [← hy]; simp
    have := List.count_pos_iff.2 this
    omega
  | succ f ih =>
    intro t listed hs hc hcl hy hz
    have hyf : listed.getD y false = false := by rw [getD_any (by omega) false true]; exact hy
    by_cases hyr : y ∈ Region.ready .any ops listed
    · have hpre : ∀ i, i < y → listed.getD i false = true := fun i hi => cert_listed hcl c [y] (fun i' hi' j' hd' => by
        have : i' = y := by simpa using hi'
        subst this; exact ready_dep hyr j' hd') hcert i (by have := List.all_eq_true.1 hcov i (List.mem_range.2 hi); simpa using this)
      have hl : listed.toList = List.replicate y true ++ [false, false] := by
        refine List.ext_getElem (by simp [hs]) fun i h1 h2 => ?_
        have hi : i < listed.size := by simpa using h1
        rw [Array.getElem_toList]
        rcases Nat.lt_or_ge i y with h3 | h3
        · have := hpre i h3
          rw [getD_in hi] at this
          rw [this, List.getElem_append_left (by simpa using h3)]; simp
        · rw [List.getElem_append_right (by simpa using h3)]
          rcases (show i = y ∨ i = y + 1 by omega) with rfl | rfl
          · rw [getD_in hi] at hy; rw [hy]; simp
          · rw [getD_in hi] at hz; rw [hz]; simp
      have hf : f = 1 := by
        rw [hl] at hc
        simp [List.count_replicate] at hc
        omega
      subst hf
      have hlt : ∀ i, i ∈ Region.ready .any ops listed → i = y := fun i hi => by
        obtain ⟨h1, h2, _⟩ := mem_ready.1 hi
        rcases Nat.lt_or_ge i y with h3 | h3
        · have := hpre i h3
          rw [getD_any (by omega) false true, h2] at this; cases this
        · rcases (show i = y ∨ i = y + 1 by omega) with e | e
          · exact e
          · subst e
            have := ready_dep hi y hdep
            rw [hyf] at this; cases this
      have hnod : (Region.ready .any ops listed).Nodup := List.Nodup.sublist List.filter_sublist List.nodup_range
      have hr1 : Region.ready .any ops listed = [y] := nodup_single hnod hyr hlt
      have hs2 : (listed.setIfInBounds y true).size = y + 2 := by simpa using hs
      have hr2 : Region.ready .any ops (listed.setIfInBounds y true) = [y + 1] := by
        refine nodup_single (List.Nodup.sublist List.filter_sublist List.nodup_range) ?_ fun i hi => ?_
        · refine ready_of (by omega) (by rw [getD_set (by omega), if_neg (by omega)]; exact hz) fun j hd => ?_
          have := low_of hlow hd
          rw [getD_set (by omega)]
          by_cases e : y = j
          · rw [if_pos e]
          · rw [if_neg e]; exact hpre j (by omega)
        · obtain ⟨h1, h2, _⟩ := mem_ready.1 hi
          rw [getD_set (by omega)] at h2
          by_cases e : y = i
          · rw [if_pos e] at h2; cases h2
          · rw [if_neg e] at h2
            rcases Nat.lt_or_ge i y with h3 | h3
            · have := hpre i h3
              rw [getD_any (by omega) false true, h2] at this; cases this
            · omega
      have hr3 : Region.ready .any (holdOps ops y) listed = [] := by
        refine List.eq_nil_iff_forall_not_mem.2 fun i hi => ?_
        obtain ⟨h1, h2, o, ho, hall⟩ := mem_ready.1 hi
        rw [hold_size] at h1
        rcases Nat.lt_or_ge i y with h3 | h3
        · have := hpre i h3
          rw [getD_any (by omega) false true, h2] at this; cases this
        · rw [hold_get] at ho
          obtain ⟨o0, ho0, rfl⟩ := Option.map_eq_some_iff.1 ho
          rcases (show i = y ∨ i = y + 1 by omega) with e | e
          · rw [if_pos e] at hall
            have this : listed.getD y false = true := hall ⟨y, .data⟩ (by simp) rfl
            rw [hyf] at this; cases this
          · rw [if_neg (by omega)] at hall
            subst e
            obtain ⟨o', ho', e', he', hb', heq⟩ := depOf_iff.1 hdep
            rw [ho0] at ho'; cases ho'
            have := hall e' he' hb'
            rw [heq, hyf] at this; cases this
      refine ⟨0, ?_⟩
      rw [go_nil hr3, go_one hr1, go_one hr2]; rfl
    · have hrs := ready_hold (by omega) (by omega) hy hyr
      have hne := ready_some hlow (by omega) y (by omega) hy
      have hpos : 0 < (Region.ready .any ops listed).length := List.length_pos_iff.2 hne
      obtain ⟨i, hi⟩ : ∃ i, (Region.ready .any ops listed)[t % (Region.ready .any ops listed).length]? = some i := ⟨_, List.getElem?_eq_getElem (Nat.mod_lt _ hpos)⟩
      have him : i ∈ Region.ready .any ops listed := List.mem_of_getElem? hi
      obtain ⟨h1, h2, _⟩ := mem_ready.1 him
      have hiy : i ≠ y := fun e => hyr (e ▸ him)
      have hiz : i ≠ y + 1 := fun e => by
        subst e
        have := ready_dep him y hdep
        rw [hyf] at this; cases this
      obtain ⟨t', ht'⟩ := ih (t / (Region.ready .any ops listed).length) (listed.setIfInBounds i true) (by simpa using hs) (count_strike (by omega) h2 hc) (fun a b hd ha => by
          have hb := low_of hlow hd
          have has : a < ops.size := by
            obtain ⟨o, ho, _⟩ := depOf_iff.1 hd
            exact (Array.getElem?_eq_some_iff.1 ho).1
          rw [getD_set (by omega)] at ha ⊢
          by_cases e : i = a
          · subst e
            by_cases e2 : i = b
            · rw [if_pos e2]
            · rw [if_neg e2]; exact ready_dep him b hd
          · rw [if_neg e] at ha
            by_cases e2 : i = b
            · rw [if_pos e2]
            · rw [if_neg e2]; exact hcl a b hd ha) (by rw [getD_set (by omega), if_neg hiy]; exact hy) (by rw [getD_set (by omega), if_neg hiz]; exact hz)
      refine ⟨t' * (Region.ready .any ops listed).length + t % (Region.ready .any ops listed).length, ?_⟩
      have hm := Nat.mod_lt t hpos
      have hmod : (t' * (Region.ready .any ops listed).length + t % (Region.ready .any ops listed).length) % (Region.ready .any ops listed).length = t % (Region.ready .any ops listed).length := by rw [Nat.add_comm, Nat.add_mul_mod_self_right, Nat.mod_mod]
      have hdiv : (t' * (Region.ready .any ops listed).length + t % (Region.ready .any ops listed).length) / (Region.ready .any ops listed).length = t' := by
        rw [Nat.add_comm, Nat.add_mul_div_right _ _ hpos, Nat.div_eq_of_lt hm, Nat.zero_add]
      rw [go_pick hi, go_pick (ops := holdOps ops y) (i := i) (by rw [hrs, hmod]; exact hi), hrs, hdiv, ht']
      rfl
theorem idrawn_enter {P : Program} {dfs : List Deferred} {n : Nat} {w0 : World} {L : List (Nat × Value)} {T : List Ent} {Q : Exit → Act → World → Prop} {id : Nat} {ops : Array Oper} (m y : Nat) (c ds : List Nat) (hm : ops.size = m) (hmix : P.follows .mixedOrders = true) (hops : noDef ops = true) (hy : yOk ops y c = true)
    (h : Cont dfs (AH P (holdOps ops y) (Exit.then (PLI P ops Q y 2) Q) (fun w => Known w (dropT ds T)) m m []) n w0 L T) : Cont dfs ((Mode.fence P).wp (Code.region id ops true) Q) n w0 L T := by
  intro a w ha hf hT hlo
  refine wpIn_region_draw fun t => ?_
  simp only [Region.schedule, hmix, Bool.true_or, if_true]
  have := h a w.drew ha hf hT.drew
  unfold AH marked at this
  subst hm
  have hsz : ops.size = y + 2 := by
    unfold yOk at hy
    simp only [Bool.and_eq_true, beq_iff_eq] at hy
    exact hy.1.1.1.1
  have hrep : ∀ i, i < ops.size → (Array.replicate ops.size false).getD i true = false := fun i hi => by rw [getD_in (by simpa using hi)]; simp
  obtain ⟨t', ht'⟩ := order_split hy ops.size t (Array.replicate ops.size false) (by simpa using hsz) (by simp) (fun i j hd hi => by
    have his : i < ops.size := by
      obtain ⟨o, ho, _⟩ := depOf_iff.1 hd
      exact (Array.getElem?_eq_some_iff.1 ho).1
    rw [getD_any (by simpa using his) false true, hrep i his] at hi; cases hi) (hrep y (by omega)) (hrep (y + 1) (by omega))
  have e := wpAny_sound ops.size t' _ a _ (wpAny_of_held _ _ _ _ this)
  have e1 := wpOps_hold _ _ _ e
  have e2 := ops_in open_wide hops hlo [y, y + 1] (fun a' w' (hh : PLI P ops Q y 2 a' w') => hh hlo) _ a _ e1
  show wpOpsIn Fence.wide 0 P ops Q (Region.linearise.go .any ops ops.size t (Array.replicate ops.size false) []) a w.drew
  rw [ht']
  exact e2
end Go.Proofs.Ytlfahohbkgdabaa

/- The rows of an image, one by one. -/
set_option linter.unusedVariables false
namespace Go.Proofs.Ytlfahohbkgdabaa
open Go Go.RowKit
def rowL (Wn : Nat) (px : List Int) (y : Int) : List Int := (px.drop (Int.toNat y * Wn)).take Wn
theorem row_lo {W : Int} {Wn : Nat} (hW : (Wn : Int) = W) (k : Nat) : Int.toNat (((k : Nat) : Int) * W + 0) = k * Wn := by
  subst hW
  rw [Int.add_zero, ← Int.natCast_mul, Int.toNat_natCast]
theorem row_n {W : Int} {Wn : Nat} (hW : (Wn : Int) = W) (k : Nat) : Int.toNat (((k : Nat) : Int) * W + W) - Int.toNat (((k : Nat) : Int) * W + 0) = Wn := by
  rw [row_lo hW]
  subst hW
  rw [← Int.natCast_mul, ← Int.natCast_add, Int.toNat_natCast]; omega
theorem rowL_part {W : Int} {Wn : Nat} {px : List Int} (hW : (Wn : Int) = W) (k : Nat) : (px.drop (Int.toNat (((k : Nat) : Int) * W + 0))).take (Int.toNat (((k : Nat) : Int) * W + W) - Int.toNat (((k : Nat) : Int) * W + 0)) = rowL Wn px ((k : Nat) : Int) := by
  rw [row_n hW, row_lo hW]; rfl
theorem row_max {W H : Int} {Wn k : Nat} {n : Nat} (hW : (Wn : Int) = W) (hn : (n : Int) = W * H) (h1 : 1 ≤ W) (hk : ((k : Nat) : Int) < H) : (k + 1) * Wn ≤ n := by
  subst hW
  have h2 : (((k + 1) * Wn : Nat) : Int) ≤ H * (Wn : Int) := by
    rw [Int.natCast_mul]
    exact Int.mul_le_mul_of_nonneg_right (by omega) (by omega)
  rw [Int.mul_comm H] at h2
  omega
theorem row_bd {W H : Int} {k n : Nat} (hn : (n : Int) = W * H) (h1 : 1 ≤ W) (hk : ((k : Nat) : Int) < H) : 0 ≤ ((k : Nat) : Int) * W ∧ ((k : Nat) : Int) * W + W ≤ (n : Int) := by
  have h2 : (((k : Nat) : Int) + 1) * W ≤ H * W := Int.mul_le_mul_of_nonneg_right (by omega) (by omega)
  rw [Int.add_mul, Int.one_mul, Int.mul_comm H] at h2
  exact ⟨Int.mul_nonneg (by omega) (by omega), by omega⟩
/-- What has come of the rows: from the top, without a gap. -/
def RowsP (h : Nat) (p : List (Int × Nat × Nat)) : Prop := p.map (·.1) = (List.range p.length).map (fun k => ((k : Nat) : Int)) ∧ p.length ≤ h
theorem RowsP.nil (h : Nat) : RowsP h [] := ⟨rfl, Nat.zero_le _⟩
theorem RowsP.step {h : Nat} {p : List (Int × Nat × Nat)} (hp : RowsP h p) {g c : Nat} (hl : p.length < h) : RowsP h (p ++ [(((p.length : Nat) : Int), g, c)]) := by
  refine ⟨?_, by rw [List.length_append, List.length_singleton]; omega⟩
  rw [List.map_append, hp.1, List.length_append, List.length_singleton, List.range_succ, List.map_append]; rfl
/-- The row that comes next. -/
theorem RowsP.last {h : Nat} {p : List (Int × Nat × Nat)} {x : Int × Nat × Nat} (hp : RowsP h (p ++ [x])) : x.1 = ((p.length : Nat) : Int) ∧ p.length < h := by
  obtain ⟨h1, h2⟩ := hp
  rw [List.length_append, List.length_singleton] at h1 h2
  rw [List.map_append, List.range_succ, List.map_append] at h1
  have := (List.append_inj h1 (by simp)).2
  exact ⟨by simpa using this, by omega⟩
theorem rowL_len {W H : Int} {n Wn k : Nat} {px : List Int} (hW : (Wn : Int) = W) (hn : (n : Int) = W * H) (h1 : 1 ≤ W) (hl : px.length = n) (hk : ((k : Nat) : Int) < H) : (rowL Wn px ((k : Nat) : Int)).length = Wn := by
  have := row_max hW hn h1 hk
  have e : (k + 1) * Wn = k * Wn + Wn := by rw [Nat.add_mul, Nat.one_mul]
  unfold rowL
  rw [List.length_take, List.length_drop, Int.toNat_natCast]
  omega
end Go.Proofs.Ytlfahohbkgdabaa

/- Which lists are regions, by the document's words: step by step. -/
set_option linter.unusedVariables false
set_option linter.unusedSimpArgs false
namespace Go.Proofs.Ytlfahohbkgdabaa
open Go Go.RowKit

def sameY (p r : Rect) : Prop := p.y0 = r.y0 ∧ p.y1 = r.y1
instance (p r : Rect) : Decidable (sameY p r) := inferInstanceAs (Decidable (_ ∧ _))
def fromOf (l : List Rect) : Nat → Nat
  | 0 => 0
  | i + 1 => if i = 0 then 0 else if sameY (rget l (i - 1)) (rget l i) then fromOf l i else i
def part (l : List Rect) (a b : Nat) : List Rect := (l.drop a).take (b - a)
structure EndOf (l : List Rect) (i e : Nat) : Prop where
  lt : i < e
  le : e ≤ l.length
  same : ∀ j, i ≤ j → j < e → sameY (rget l j) (rget l i)
  stop : e < l.length → ¬ sameY (rget l e) (rget l i)
theorem EndOf.unique {l : List Rect} {i e e' : Nat} (h : EndOf l i e) (h' : EndOf l i e') : e = e' := by
  rcases Nat.lt_trichotomy e e' with a | a | a
  · exact absurd (h'.same e (Nat.le_of_lt h.lt) a) (h.stop (by have := h'.le; omega))
  · exact a
  · exact absurd (h.same e' (Nat.le_of_lt h'.lt) a) (h'.stop (by have := h.le; omega))
theorem bandR_mem {y y' : Int} {sp : Spans} {r : Rect} (h : r ∈ bandR y y' sp) : r.y0 = y ∧ r.y1 = y' ∧ ∃ s ∈ sp, r = spR y y' s := by
  unfold bandR at h
  rw [List.mem_reverse, List.mem_map] at h
  obtain ⟨s, hs, rfl⟩ := h
  exact ⟨rfl, rfl, s, hs, rfl⟩
theorem rget_take {l : List Rect} {i j : Nat} (h : j < i) : rget (l.take i) j = rget l j := by
  unfold rget
  rw [List.getD_eq_getElem?_getD, List.getD_eq_getElem?_getD, List.getElem?_take, if_pos h]
theorem rget_app_left {a b : List Rect} {j : Nat} (h : j < a.length) : rget (a ++ b) j = rget a j := by rw [rget_append, if_pos h]
theorem rget_app_right {a b : List Rect} {j : Nat} (h : a.length ≤ j) : rget (a ++ b) j = rget b (j - a.length) := by rw [rget_append, if_neg (by omega)]

/-! ### The words hold: it is a region -/
structure Pref (l : List Rect) (i : Nat) (t : Bands) (y y' : Int) (sp : Spans) : Prop where
  ok : BandsOk t
  runs : RunsOk sp
  ne : sp ≠ []
  lt : y < y'
  eq : l.take i = flatR t ++ bandR y y' sp
  frm : fromOf l i = (flatR t).length
  sep : ∀ c u, t = c :: u → c.2.1 ≤ y ∧ (c.2.1 = y → ∀ e, EndOf l (flatR t).length e → eqF span1 (bandR c.1 c.2.1 c.2.2) (part l (flatR t).length e) = false)
theorem Pref.len {l : List Rect} {i : Nat} {t : Bands} {y y' : Int} {sp : Spans} (h : Pref l i t y y' sp) (hi : i ≤ l.length) : i = (flatR t).length + sp.length ∧ 0 < sp.length := by
  have := congrArg List.length h.eq
  rw [List.length_take, List.length_append, bandR_length] at this
  have : 0 < sp.length := by cases e : sp with
    | nil => exact absurd e h.ne
    | cons _ _ => simp
  omega
theorem Pref.inb {l : List Rect} {i : Nat} {t : Bands} {y y' : Int} {sp : Spans} (h : Pref l i t y y' sp) (hi : i ≤ l.length) {j : Nat} (h1 : (flatR t).length ≤ j) (h2 : j < i) : (rget l j).y0 = y ∧ (rget l j).y1 = y' := by
  have hl := h.len hi
  rw [← rget_take h2, h.eq, rget_app_right h1]
  have := bandR_mem (rget_mem (l := bandR y y' sp) (i := j - (flatR t).length) (by rw [bandR_length]; omega))
  exact ⟨this.1, this.2.1⟩
/-! ### A region: the words hold -/
theorem flatR_append (u t : Bands) : flatR (u ++ t) = flatR t ++ flatR u := by
  induction u with
  | nil => simp [flatR]
  | cons c u ih => rw [List.cons_append, flatR, ih, flatR, List.append_assoc]
structure Place (bs : Bands) (i : Nat) (u : Bands) (b : Run Spans) (t : Bands) (k : Nat) : Prop where
  eq : bs = u ++ b :: t
  i_ : i = (flatR t).length + k
  k_ : k < b.2.2.length
theorem Place.get {bs : Bands} {i : Nat} {u : Bands} {b : Run Spans} {t : Bands} {k : Nat} (h : Place bs i u b t k) : rget (flatR bs) i = rget (bandR b.1 b.2.1 b.2.2) k := by
  rw [h.eq, flatR_append, flatR, List.append_assoc, rget_app_right (by have := h.i_; omega), rget_app_left (by rw [bandR_length]; have := h.i_; have := h.k_; omega)]
  congr 1
  have := h.i_; omega
theorem Place.y {bs : Bands} {i : Nat} {u : Bands} {b : Run Spans} {t : Bands} {k : Nat} (h : Place bs i u b t k) : (rget (flatR bs) i).y0 = b.1 ∧ (rget (flatR bs) i).y1 = b.2.1 := by
  rw [h.get]
  have := bandR_mem (rget_mem (l := bandR b.1 b.2.1 b.2.2) (i := k) (by rw [bandR_length]; exact h.k_))
  exact ⟨this.1, this.2.1⟩
end Go.Proofs.Ytlfahohbkgdabaa

/- The points of a list of rectangles, in the order in which a walk over it comes to them; what is drawn at them. -/
set_option linter.unusedVariables false
set_option linter.unusedSimpArgs false
namespace Go.Proofs.Ytlfahohbkgdabaa
open Go Go.RowKit

end Go.Proofs.Ytlfahohbkgdabaa

/- What is drawn on an image, point by point. -/
set_option linter.unusedVariables false
set_option linter.unusedSimpArgs false
namespace Go.Proofs.Ytlfahohbkgdabaa
open Go Go.RowKit

/-! ### Colors that may be -/
theorem clip_mono {a b : Int} (h : a ≤ b) : clip a ≤ clip b := by unfold clip; omega
theorem partI_mono {p q : Int} (t : Int) (h : p ≤ q) : partI p t ≤ partI q t := by
  have h1 := Int.mul_le_mul_of_nonneg_right (clip_mono h) (clip_range t).1
  unfold partI; omega
theorem mayB_iff {c : Int} : mayB c = true ↔ pr c ≤ pa c ∧ pg c ≤ pa c ∧ pb c ≤ pa c := by simp [mayB, and_assoc]
theorem mayB_mk {a r g b : Int} (h1 : r ≤ a) (h2 : g ≤ a) (h3 : b ≤ a) : mayB (mkC a r g b) = true := by
  obtain ⟨e1, e2, e3, e4⟩ := parts_mk a r g b
  rw [mayB_iff, e1, e2, e3, e4]
  exact ⟨clip_mono h1, clip_mono h2, clip_mono h3⟩
theorem overC_may {c d : Int} (hc : mayB c = true) (hd : mayB d = true) : mayB (overC c d) = true := by
  obtain ⟨h1, h2, h3⟩ := mayB_iff.1 hc
  obtain ⟨g1, g2, g3⟩ := mayB_iff.1 hd
  have e1 := partI_mono (255 - pa c) g1
  have e2 := partI_mono (255 - pa c) g2
  have e3 := partI_mono (255 - pa c) g3
  exact mayB_mk (by omega) (by omega) (by omega)
theorem fadeC_may {c : Int} (al : Int) (hc : mayB c = true) : mayB (fadeC c al) = true := by
  obtain ⟨h1, h2, h3⟩ := mayB_iff.1 hc
  exact mayB_mk (partI_mono al h1) (partI_mono al h2) (partI_mono al h3)
/-! ### Points drawn one by one -/
/-! ### A region drawn -/
/-! ### Two pointers -/
end Go.Proofs.Ytlfahohbkgdabaa

/- Regions moved, scaled, kept small; the rectangle round all. Plain laws. -/
set_option linter.unusedVariables false
set_option linter.unusedSimpArgs false
namespace Go.Proofs.Ytlfahohbkgdabaa
open Go Go.RowKit

/-! ### What is made of each, up to the first error -/
/-! ### Regions under ways that keep the order -/
structure Mono (φ : Int → Int) : Prop where
  lt : ∀ {a b : Int}, a < b → φ a < φ b
theorem Mono.inj {φ : Int → Int} (h : Mono φ) {a b : Int} (e : φ a = φ b) : a = b := by
  rcases Int.lt_trichotomy a b with c | c | c
  · have := h.lt c; omega
  · exact c
  · have := h.lt c; omega
theorem Mono.le {φ : Int → Int} (h : Mono φ) {a b : Int} (e : a ≤ b) : φ a ≤ φ b := by
  rcases Int.lt_or_eq_of_le e with c | c
  · exact Int.le_of_lt (h.lt c)
  · subst c; exact Int.le_refl _
/-! ### The rectangle round all -/
theorem InBox.ne {r : Rect} (h : InBox r) : emptyR r = false := emptyB_false.2 ⟨h.x.2.1, h.y.2.1⟩
theorem Good.ne {l : List Rect} (h : Good l) : ∀ r ∈ l, emptyR r = false := fun r hr => (boxed_rects h.reg h.box r hr).ne
end Go.Proofs.Ytlfahohbkgdabaa

/- Outputs: the plain words. -/
set_option linter.unusedVariables false
set_option linter.unusedSimpArgs false
namespace Go.Proofs.Ytlfahohbkgdabaa
open Go Go.RowKit
variable {dfs : List Deferred}
end Go.Proofs.Ytlfahohbkgdabaa

/- Laws of what is drawn: nothing, all, by parts. -/
set_option linter.unusedVariables false
set_option linter.unusedSimpArgs false
namespace Go.Proofs.Ytlfahohbkgdabaa
open Go Go.RowKit

theorem mkC_parts {d : Int} (h : InC d) : mkC (pa d) (pr d) (pg d) (pb d) = d := by
  obtain ⟨⟨a0, a1⟩, ⟨r0, r1⟩, ⟨g0, g1⟩, ⟨b0, b1⟩⟩ := parts_range h
  unfold mkC
  rw [clip_id ⟨a0, a1⟩, clip_id ⟨r0, r1⟩, clip_id ⟨g0, g1⟩, clip_id ⟨b0, b1⟩]
  obtain ⟨h1, h2⟩ := h
  unfold pa pr pg pb
  omega
theorem partI_zero (p : Int) : partI p 0 = 0 := by
  unfold partI
  rw [show clip 0 = 0 by decide, Int.mul_zero]; decide
theorem ImgOk.get {W H : Int} {n : Nat} {px : List Int} (hok : ImgOk W H n px) {k : Nat} (hk : k < n) : InC (px.getD k 0) := by
  rw [List.getD_eq_getElem?_getD, List.getElem?_eq_getElem (by rw [hok.len]; exact hk)]
  exact hok.rng _ (List.getElem_mem _)
/-! ### Where a drawn layer's points lie -/
/-! ### A solid cover -/
theorem over_solid {c : Int} (h : InC c) (hs : pa c = 255) (d : Int) : overC c d = c := by
  unfold overC
  rw [hs, show (255 : Int) - 255 = 0 by decide, partI_zero, partI_zero, partI_zero, partI_zero, Int.add_zero, Int.add_zero, Int.add_zero, Int.add_zero, ← hs]
  exact mkC_parts h
/-! ### By parts -/
end Go.Proofs.Ytlfahohbkgdabaa

/- Plain words of the program's package ids: a client's objects as a list of ids and kinds; and maps of whole numbers. -/
set_option linter.unusedVariables false
set_option linter.unusedSimpArgs false
namespace Go.Proofs.Ytlfahohbkgdabaa
open Go Go.RowKit
variable {dfs : List Deferred}

abbrev IL := List (Int × Int)
def imsV (l : IL) : MS := l.map fun p => (p.1, Value.int .i64 p.2)
def iget : IL → Int → Option Int
  | [], _ => none
  | (k, v) :: r, x => if x = k then some v else iget r x
def iput : IL → Int → Int → IL
  | [], x, u => [(x, u)]
  | (k, v) :: r, x, u => if x = k then (x, u) :: r else (k, v) :: iput r x u
def idel : IL → Int → IL
  | [], _ => []
  | (k, v) :: r, x => if x = k then r else (k, v) :: idel r x
theorem mget_imsV (l : IL) (x : Int) : mget (imsV l) x = (iget l x).map (Value.int .i64) := by
  induction l with
  | nil => rfl
  | cons p r ih =>
    obtain ⟨k, v⟩ := p
    simp only [imsV, List.map_cons, mget, iget] at ih ⊢
    split
    · rfl
    · exact ih
theorem mput_imsV (l : IL) (x v : Int) : mput (imsV l) x (.int .i64 v) = imsV (iput l x v) := by
  induction l with
  | nil => rfl
  | cons p r ih =>
    obtain ⟨k, u⟩ := p
    simp only [imsV, List.map_cons, mput, iput] at ih ⊢
    split
    · rfl
    · rw [ih]; rfl
theorem imsV_length (l : IL) : (imsV l).length = l.length := List.length_map _
def kindL (l : IL) (x : Int) : Int := (iget l x).getD 0

section
variable {P : Program}
end

/-! ### The table of a client's ids -/
def addE (most : Int) (l : IL) (id k : Int) : Int := if id < 1 ∨ id > 4294967295 ∨ k < 1 ∨ k > 8 then 1 else if kindL l id ≠ 0 then 6 else if most - l.length = 0 then 10 else 0
def addL (most : Int) (l : IL) (id k : Int) : IL := if addE most l id k = 0 then iput l id k else l
def findE (l : IL) (id k : Int) : Int := if kindL l id = 0 then 5 else if kindL l id = k then 0 else 9
structure IdsOk (most : Int) (l : IL) : Prop where
  lo : 1 ≤ most
  hi : most ≤ 32
  le : (l.length : Int) ≤ most
  keys : (l.map (·.1)).Nodup
  rng : ∀ p ∈ l, 1 ≤ p.1 ∧ p.1 ≤ 4294967295 ∧ 1 ≤ p.2 ∧ p.2 ≤ 8
theorem IdsOk.new {m : Int} (h : 1 ≤ m) (h' : m ≤ 32) : IdsOk m [] := ⟨h, h', by simp; omega, by simp, fun p hp => by cases hp⟩
theorem iput_new {x u : Int} : ∀ {l : IL}, iget l x = none → iput l x u = l ++ [(x, u)] := by
  intro l
  induction l with
  | nil => intro _; rfl
  | cons p r ih =>
    intro h
    obtain ⟨k, v⟩ := p
    simp only [iget] at h
    split at h
    · cases h
    · rename_i hk
      simp only [iput, if_neg hk, ih h, List.cons_append]
theorem iget_mem {x v : Int} : ∀ {l : IL}, iget l x = some v → (x, v) ∈ l := by
  intro l
  induction l with
  | nil => intro h; cases h
  | cons p r ih =>
    intro h
    obtain ⟨k, u⟩ := p
    simp only [iget] at h
    split at h
    · rename_i hk; cases h; subst hk; exact List.mem_cons_self
    · exact List.mem_cons_of_mem _ (ih h)
theorem iget_none {x : Int} : ∀ {l : IL}, iget l x = none → x ∉ l.map (·.1) := by
  intro l
  induction l with
  | nil => intro _; simp
  | cons p r ih =>
    intro h
    obtain ⟨k, u⟩ := p
    simp only [iget] at h
    split at h
    · cases h
    · rename_i hk
      simp only [List.map_cons, List.mem_cons, not_or]
      exact ⟨hk, ih h⟩
theorem IdsOk.kind {most : Int} {l : IL} (h : IdsOk most l) {x : Int} : kindL l x = 0 ↔ iget l x = none := by
  unfold kindL
  cases hg : iget l x with
  | none => simp
  | some v =>
    have := h.rng _ (iget_mem hg)
    simp; omega
theorem idel_sub {x : Int} : ∀ (l : IL), (idel l x).Sublist l := by
  intro l
  induction l with
  | nil => exact List.Sublist.refl _
  | cons p r ih =>
    obtain ⟨k, v⟩ := p
    simp only [idel]
    split
    · exact List.sublist_cons_self _ _
    · exact ih.cons_cons _
theorem IdsOk.del {most : Int} {l : IL} (h : IdsOk most l) (x : Int) : IdsOk most (idel l x) :=
  ⟨h.lo, h.hi, by have := (idel_sub (x := x) l).length_le; have := h.le; omega, h.keys.sublist ((idel_sub l).map _), fun p hp => h.rng p ((idel_sub l).subset hp)⟩
theorem addE_zero {most : Int} {l : IL} {id k : Int} : addE most l id k = 0 ↔ 1 ≤ id ∧ id ≤ 4294967295 ∧ 1 ≤ k ∧ k ≤ 8 ∧ kindL l id = 0 ∧ most ≠ l.length := by
  unfold addE
  repeat' split
  all_goals simp_all
  all_goals omega
theorem IdsOk.add {most : Int} {l : IL} (h : IdsOk most l) (id k : Int) : IdsOk most (addL most l id k) := by
  unfold addL
  split
  · rename_i he
    obtain ⟨h1, h2, h3, h4, h5, h6⟩ := addE_zero.1 he
    have hn := h.kind.1 h5
    rw [iput_new hn]
    refine ⟨h.lo, h.hi, by have := h.le; simp; omega, ?_, ?_⟩
    · rw [List.map_append]
      refine List.nodup_append.2 ⟨h.keys, by simp, fun a ha b hb => ?_⟩
      simp only [List.map_cons, List.map_nil, List.mem_singleton] at hb
      subst hb
      exact fun e => iget_none hn (e ▸ ha)
    · intro p hp
      rcases List.mem_append.1 hp with hp | hp
      · exact h.rng p hp
      · simp only [List.mem_singleton] at hp
        subst hp
        exact ⟨h1, h2, h3, h4⟩
  · exact h
theorem iget_put (l : IL) (x y u : Int) : iget (iput l x u) y = if y = x then some u else iget l y := by
  induction l with
  | nil => simp [iput, iget]
  | cons p r ih =>
    obtain ⟨k, v⟩ := p
    by_cases hk : x = k
    · subst hk
      simp only [iput, if_true, iget]
      by_cases hy : y = x <;> simp [hy]
    · simp only [iput, if_neg hk, iget, ih]
      by_cases hy : y = k
      · subst hy
        simp [show y ≠ x from fun e => hk e.symm]
      · simp [hy]
theorem iget_del (l : IL) (x y : Int) (hn : (l.map (·.1)).Nodup) : iget (idel l x) y = if y = x then none else iget l y := by
  induction l with
  | nil => simp [idel, iget]
  | cons p r ih =>
    obtain ⟨k, v⟩ := p
    simp only [List.map_cons, List.nodup_cons] at hn
    by_cases hk : x = k
    · subst hk
      simp only [idel, if_true, iget]
      by_cases hy : y = x
      · subst hy
        simp only [if_true]
        cases hg : iget r y with
        | none => rfl
        | some u => exact absurd (List.mem_map.2 ⟨_, iget_mem hg, rfl⟩) hn.1
      · simp [hy]
    · simp only [idel, if_neg hk, iget, ih hn.2]
      by_cases hy : y = k
      · subst hy
        simp [show y ≠ x from fun e => hk e.symm]
      · simp [hy]
theorem kind_add {most : Int} {l : IL} {id k y : Int} : kindL (addL most l id k) y = if addE most l id k = 0 ∧ y = id then k else kindL l y := by
  unfold addL
  by_cases h : addE most l id k = 0
  · simp only [h, if_true, true_and, kindL, iget_put]
    split <;> rfl
  · simp [h]
theorem kind_del {most : Int} {l : IL} (h : IdsOk most l) (x y : Int) : kindL (idel l x) y = if y = x then 0 else kindL l y := by
  unfold kindL
  rw [iget_del l x y h.keys]
  split <;> rfl
theorem len_add {most : Int} {l : IL} (h : IdsOk most l) (id k : Int) : ((addL most l id k).length : Int) = if addE most l id k = 0 then l.length + 1 else l.length := by
  unfold addL
  split
  · rename_i he
    obtain ⟨h1, h2, h3, h4, h5, h6⟩ := addE_zero.1 he
    rw [iput_new (h.kind.1 h5)]
    simp
  · rfl
theorem idel_none {x : Int} : ∀ {l : IL}, iget l x = none → idel l x = l := by
  intro l
  induction l with
  | nil => intro _; rfl
  | cons p r ih =>
    intro h
    obtain ⟨k, v⟩ := p
    simp only [iget] at h
    split at h
    · cases h
    · rename_i hk
      simp only [idel, if_neg hk, ih h]
theorem idel_len {x v : Int} : ∀ {l : IL}, iget l x = some v → (idel l x).length + 1 = l.length := by
  intro l
  induction l with
  | nil => intro h; cases h
  | cons p r ih =>
    intro h
    obtain ⟨k, u⟩ := p
    simp only [iget] at h
    split at h
    · rename_i hk; simp [idel, hk]
    · rename_i hk
      simp only [idel, if_neg hk, List.length_cons, ih h]
theorem len_del {most : Int} {l : IL} (h : IdsOk most l) (x : Int) : ((idel l x).length : Int) = if kindL l x = 0 then l.length else l.length - 1 := by
  cases hg : iget l x with
  | none =>
    rw [if_pos (h.kind.2 hg), idel_none hg]
  | some v =>
    rw [if_neg (fun e => by rw [h.kind.1 e] at hg; cases hg)]
    have := idel_len hg
    omega
/-- The ids 1, 2, .. below i were added, while there was room. -/
structure Quota (rm i : Int) (l : IL) : Prop where
  ok : IdsOk rm l
  len : (l.length : Int) = min (i - 1) rm
  kind : ∀ x, kindL l x = if 1 ≤ x ∧ x < i ∧ x ≤ rm then 1 + x % 8 else 0
theorem Quota.start {rm : Int} (h1 : 1 ≤ rm) (h2 : rm ≤ 32) : Quota rm 1 [] :=
  ⟨IdsOk.new h1 h2, by simp; omega, fun x => by rw [if_neg (by omega)]; rfl⟩
theorem Quota.step {rm i : Int} {l : IL} (h : Quota rm i l) (h1 : 1 ≤ i) (h2 : i ≤ 40) : addE rm l i (1 + i % 8) = (if i ≤ rm then 0 else 10) ∧ Quota rm (i + 1) (addL rm l i (1 + i % 8)) := by
  have hl := h.len
  have hk := h.kind i
  rw [if_neg (by omega)] at hk
  have he : addE rm l i (1 + i % 8) = (if i ≤ rm then 0 else 10) := by
    unfold addE
    rw [if_neg (by omega), if_neg (by omega)]
    split <;> split <;> first | rfl | omega
  refine ⟨he, h.ok.add _ _, ?_, ?_⟩
  · rw [len_add h.ok, he]
    split <;> split <;> omega
  · intro x
    rw [kind_add, he, h.kind x]
    repeat' split
    all_goals first | omega | (simp_all <;> omega)
theorem Quota.fin {rm i : Int} {l : IL} (h : Quota rm i l) (hi : rm < i) (h1 : 1 ≤ rm) (h2 : rm ≤ 32) : rm - (l.length : Int) = 0 ∧ kindL l 1 ≠ 0 ∧ rm - ((idel l 1).length : Int) = 1 ∧ kindL (idel l 1) 1 = 0 ∧ idel (idel l 1) 1 = idel l 1 ∧
    addE rm (idel l 1) 99 8 = 0 ∧ findE (addL rm (idel l 1) 99 8) 99 8 = 0 ∧ addE rm (addL rm (idel l 1) 99 8) 98 1 = 10 := by
  have hl := h.len
  have k1 : kindL l 1 ≠ 0 := by rw [h.kind 1, if_pos (by omega)]; omega
  have k2 : kindL (idel l 1) 1 = 0 := by rw [kind_del h.ok, if_pos rfl]
  have hd := h.ok.del 1
  have ln := len_del h.ok 1
  rw [if_neg k1] at ln
  have a1 : addE rm (idel l 1) 99 8 = 0 := addE_zero.2 ⟨by omega, by omega, by omega, by omega, by rw [kind_del h.ok, if_neg (by omega), h.kind, if_neg (by omega)], by omega⟩
  have k99 : kindL (addL rm (idel l 1) 99 8) 99 = 8 := by rw [kind_add, if_pos ⟨a1, rfl⟩]
  have k98 : kindL (addL rm (idel l 1) 99 8) 98 = 0 := by rw [kind_add, if_neg (by omega), kind_del h.ok, if_neg (by omega), h.kind, if_neg (by omega)]
  have l3 := len_add hd 99 8
  rw [if_pos a1] at l3
  refine ⟨by omega, k1, by omega, k2, idel_none (hd.kind.1 k2), a1, ?_, ?_⟩
  · unfold findE
    rw [k99]
    decide
  · unfold addE
    rw [if_neg (by omega), k98, if_neg (by omega), if_pos (by omega)]
end Go.Proofs.Ytlfahohbkgdabaa

/- Range over a map of whole numbers: in any order, each entry once. -/
set_option linter.unusedVariables false
set_option linter.unusedSimpArgs false
namespace Go.Proofs.Ytlfahohbkgdabaa
open Go Go.RowKit
variable {P : Program} {dfs : List Deferred} {n : Nat} {w0 : World} {L : List (Tmp × Value)} {T : List Ent} {Q : Exit → Act → World → Prop}

def enc2 (p : Int × Int) : Value × Value := (.int .i64 p.1, .int .i64 p.2)
def kvOf (e : MapEntry) : Value × Value := (e.key, e.val)
structure MapF (es : Array MapEntry) (ck : Nat) (l : IL) : Prop where
  kv : es.toList.map kvOf = l.map enc2
  lt : ∀ e ∈ es.toList, e.born < ck
  nd : (es.toList.map (·.born)).Nodup
/-- What the loop has had, and what is left. -/
structure IterP (es : Array MapEntry) (l : IL) (sn : Array Nat) (dn : IL) : Prop where
  left : ∃ lf : IL, (leftOf es sn).toList.map kvOf = lf.map enc2 ∧ (dn ++ lf).Perm l
theorem IterP.start {es : Array MapEntry} {ck : Nat} {l : IL} (h : MapF es ck l) : IterP es l #[] [] :=
  ⟨l, by rw [← h.kv, show (leftOf es #[]).toList = es.toList by simp only [leftOf, Array.toList_filter]; exact List.filter_eq_self.2 (fun _ _ => by simp)], List.Perm.refl _⟩
theorem IterP.done {es : Array MapEntry} {l : IL} {sn : Array Nat} {dn : IL} (h : IterP es l sn dn) (h0 : (leftOf es sn).size = 0) : dn.Perm l := by
  obtain ⟨lf, h1, h2⟩ := h.left
  have h3 := congrArg List.length h1
  simp only [List.length_map, Array.length_toList] at h3
  have : lf = [] := List.length_eq_zero_iff.1 (by omega)
  subst this
  simpa using h2
theorem IterP.len {es : Array MapEntry} {l : IL} {sn : Array Nat} {dn : IL} (h : IterP es l sn dn) : dn.length ≤ l.length := by
  obtain ⟨lf, h1, h2⟩ := h.left
  have := h2.length_eq
  rw [List.length_append] at this
  omega
theorem leftOf_push (es : Array MapEntry) (sn : Array Nat) (b : Nat) : (leftOf es (sn.push b)).toList = (leftOf es sn).toList.filter fun x => x.born != b := by
  simp only [leftOf, Array.toList_filter, List.filter_filter]
  congr 1
  funext x
  simp only [Array.contains_push]
  cases h : sn.contains x.born <;> cases h2 : (x.born == b) <;> simp_all [bne]
theorem strike_born {L : List MapEntry} {e : MapEntry} (hn : (L.map (·.born)).Nodup) (he : e ∈ L) : ∃ A B, L = A ++ e :: B ∧ (L.filter fun x => x.born != e.born) = A ++ B := by
  obtain ⟨A, B, rfl⟩ := List.append_of_mem he
  refine ⟨A, B, rfl, ?_⟩
  rw [List.map_append, List.map_cons, List.nodup_append] at hn
  obtain ⟨_, h2, h3⟩ := hn
  rw [List.nodup_cons] at h2
  rw [List.filter_append, List.filter_cons]
  have e1 : (A.filter fun x => x.born != e.born) = A := List.filter_eq_self.2 fun x hx => by
    have := h3 x.born (List.mem_map.2 ⟨x, hx, rfl⟩) e.born (List.mem_cons_self ..)
    simpa using this
  have e2 : (B.filter fun x => x.born != e.born) = B := List.filter_eq_self.2 fun x hx => by
    have : x.born ≠ e.born := fun h => h2.1 (h ▸ List.mem_map.2 ⟨x, hx, rfl⟩)
    simpa using this
  rw [e1, e2]; simp
theorem IterP.step {es : Array MapEntry} {ck : Nat} {l : IL} {sn : Array Nat} {dn : IL} (hF : MapF es ck l) (h : IterP es l sn dn) {e : MapEntry} (he : e ∈ (leftOf es sn).toList) :
    ∃ p : Int × Int, e.key = .int .i64 p.1 ∧ e.val = .int .i64 p.2 ∧ p ∈ l ∧ IterP es l (sn.push e.born) (dn ++ [p]) := by
  obtain ⟨lf, h1, h2⟩ := h.left
  have hsub : ((leftOf es sn).toList.map (·.born)).Nodup := by
    refine List.Nodup.sublist (List.Sublist.map _ ?_) hF.nd
    simp only [leftOf, Array.toList_filter]
    exact List.filter_sublist
  obtain ⟨A, B, e1, e2⟩ := strike_born hsub he
  rw [e1, List.map_append, List.map_cons] at h1
  obtain ⟨a, r, rfl, ha, hr⟩ := List.map_eq_append_iff.1 h1.symm
  obtain ⟨p, b, rfl, hp, hb⟩ := List.map_eq_cons_iff.1 hr
  have hp' : enc2 p = kvOf e := hp
  refine ⟨p, (congrArg Prod.fst hp').symm, (congrArg Prod.snd hp').symm, h2.mem_iff.1 (by simp), ⟨a ++ b, ?_, ?_⟩⟩
  · rw [leftOf_push, e2, List.map_append, List.map_append, ha, hb]
  · refine List.Perm.trans ?_ h2
    rw [List.append_assoc]
    exact (List.perm_append_left_iff dn).2 (by simpa using List.perm_middle.symm)
end Go.Proofs.Ytlfahohbkgdabaa

/- Maps with colors (u32) as keys, as entries of the table. Generic in the program. -/
set_option linter.unusedVariables false
set_option linter.unusedSimpArgs false
namespace Go.Proofs.Ytlfahohbkgdabaa
open Go Go.RowKit

/-- Block b is a map that holds these, in the order in which they came; no key twice; the stamps are old. -/
structure MapAtU (w : World) (b : Nat) (ms : MS) : Prop where
  here : ∃ es clock, w.heap[b]? = some (.map es clock) ∧ es.toList.map (fun e => (e.key, e.val)) = ms.map (fun p => (Value.int .u32 p.1, p.2)) ∧ (∀ e ∈ es.toList, e.born < clock) ∧ (es.toList.map (·.born)).Nodup

def mapEU (b : Nat) (ms : MS) (own : Bool) : GenEnt :=
  { blk := fun k => k = b, wr := true, own := own, ok := fun w => MapAtU w b ms,
    stable := fun w w' hb h => by
      obtain ⟨es, c, h1, h2⟩ := h.here
      exact ⟨es, c, (hb b rfl).trans h1, h2⟩,
    inb := fun w k h hk => by
      obtain ⟨es, c, h1, h2⟩ := h.here
      rw [hk]
      exact (Array.getElem?_eq_some_iff.1 h1).1 }

section
variable {P : Program}
theorem findNow_msU {kf : IntKind} (x : Int) : ∀ (es : List MapEntry) (ms : MS) (i : Nat), es.map (fun e => (e.key, e.val)) = ms.map (fun p => (Value.int .u32 p.1, p.2)) →
    ∃ r, Instr.findNow (.int kf) (.int .u32 x) es i = some r ∧ r.map (·.2) = mget ms x ∧ (∀ j v, r = some (j, v) → i ≤ j ∧ j - i < es.length ∧ (∃ p, ms[j - i]? = some p ∧ p.1 = x) ∧ ∀ l, l < j - i → ∀ p, ms[l]? = some p → p.1 ≠ x) := by
  intro es
  induction es with
  | nil =>
    intro ms i h
    cases ms with
    | nil => exact ⟨none, rfl, rfl, fun j v hj => by cases hj⟩
    | cons p r => simp at h
  | cons e es ih =>
    intro ms i h
    cases ms with
    | nil => simp at h
    | cons p r =>
      obtain ⟨k, v⟩ := p
      simp only [List.map_cons, List.cons.injEq, Prod.mk.injEq] at h
      obtain ⟨⟨hk, hv⟩, hr⟩ := h
      by_cases hx : x = k
      · subst hx
        refine ⟨some (i, e.val), ?_, ?_, ?_⟩
        · simp [Instr.findNow, hk, Instr.sameNow]
        · simp [mget, hv]
        · intro j u hj
          simp only [Option.some.injEq, Prod.mk.injEq] at hj
          obtain ⟨rfl, rfl⟩ := hj
          refine ⟨Nat.le_refl _, by simp, ⟨_, by simp; rfl, rfl⟩, fun l hl => by omega⟩
      · obtain ⟨q, h1, h2, h3⟩ := ih r (i + 1) hr
        refine ⟨q, ?_, ?_, ?_⟩
        · have : (x == k) = false := by simpa using hx
          simp [Instr.findNow, hk, Instr.sameNow, this, h1]
        · simp [mget, hx, h2]
        · intro j u hj
          obtain ⟨a1, a2, ⟨p, hp, hpx⟩, a3⟩ := h3 j u hj
          refine ⟨by omega, by simp; omega, ⟨p, ?_, hpx⟩, ?_⟩
          · rw [show j - i = (j - (i + 1)) + 1 by omega]; simpa using hp
          · intro l hl p' hp'
            cases l with
            | zero => simp at hp'; subst hp'; exact fun h => hx h.symm
            | succ l => exact a3 l (by omega) p' (by simpa using hp')

theorem checkKey_intNU {t : TypeId} {kf : IntKind} (hu : P.underlying t = some (.int kf)) (b : Bool) (x : Int) (n : Nat) (w : World) : (Instr.checkKey b (n + 1) t (.int .u32 x)).run P w = .ok () w := by
  simp [Instr.checkKey, run_underlying hu]
theorem checkKey_intU {t : TypeId} {kf : IntKind} (hu : P.underlying t = some (.int kf)) (b : Bool) (x : Int) (w : World) : (Instr.checkKey b 10000 t (.int .u32 x)).run P w = .ok () w := checkKey_intNU hu b x 9999 w
theorem findKey_runU {t : TypeId} {kf : IntKind} (hu : P.underlying t = some (.int kf)) {x : Int} {es : List MapEntry} {r : Option (Nat × Value)} (h : Instr.findNow (.int kf) (.int .u32 x) es 0 = some r) (w : World) : (Instr.findKey t (.int .u32 x) es).run P w = .ok r w := by
  simp [Instr.findKey, Sem.run_bind, run_underlying hu, h]

theorem run_lookupU {w : World} {b : Nat} {ms : MS} (h : MapAtU w b ms) {t kt et : TypeId} {kf : IntKind} {z : Value} (ht : P.underlying t = some (.map kt et)) (hk : P.underlying kt = some (.int kf)) (hz : (P.info? et).map (·.zero) = some (some z)) (x : Int) :
    (Instr.lookup t (.map (some b)) (.int .u32 x) false).run P w = .ok ((mget ms x).getD z) w := by
  obtain ⟨es, c, h1, h2, h3, h4⟩ := h.here
  obtain ⟨r, hr, hg, _⟩ := findNow_msU (kf := kf) x es.toList ms 0 h2
  obtain ⟨i, hi, hiz⟩ := Option.map_eq_some_iff.1 hz
  have hzv : (zeroValue et).run P w = .ok z w := by simp [zeroValue, Sem.run_bind, typeInfo, hi, hiz]
  simp only [Instr.lookup, Sem.run_bind, run_underlying ht, Result.andThen_ok, getMap h1, Sem.run_pure, checkKey_intU hk, findKey_runU hk hr]
  rw [← hg]
  cases r with
  | none => simp [hzv]
  | some p => simp
theorem Tab.setMapU {w0 w : World} {T : List Ent} (hT : Tab w0 w T) {i b : Nat} {ms ms' : MS} {own : Bool} (hi : T[i]? = some (.gen (mapEU b ms own))) {es : Array MapEntry} {c : Nat}
    (h2 : es.toList.map (fun e => (e.key, e.val)) = ms'.map (fun p => (Value.int .u32 p.1, p.2))) (h3 : ∀ e ∈ es.toList, e.born < c) (h4 : (es.toList.map (·.born)).Nodup) : Tab w0 (World.setO w b (.map es c)) (T.set i (.gen (mapEU b ms' own))) := by
  have hb : b < w.heap.size := (mapEU b ms own).inb w b (hT.ok i _ hi) rfl
  refine hT.replace (e := .gen (mapEU b ms own)) (e' := .gen (mapEU b ms' own)) hi rfl rfl id (fun k hk => .inl hk) (fun k _ hk _ => hk) rfl rfl rfl (by simp [World.setO]) (fun k hk hne => ?_) ?_
  · simp only [World.setO]
    rw [Array.getElem?_setIfInBounds_ne (fun e => hne e.symm)]
  · exact ⟨es, c, by simp [World.setO, hb], h2, h3, h4⟩

theorem run_updateU {w0 w : World} {T : List Ent} (hT : Tab w0 w T) {i b : Nat} {ms : MS} {own : Bool} (hi : T[i]? = some (.gen (mapEU b ms own))) {t kt et : TypeId} {kf : IntKind} (ht : P.underlying t = some (.map kt et)) (hk : P.underlying kt = some (.int kf)) (x : Int) (u : Value) :
    ∃ (y : Unit) (w' : World), (Instr.mapUpdate t (.map (some b)) (.int .u32 x) u).run P w = .ok () w' ∧ True ∧ Tab w0 w' (T.set i (.gen (mapEU b (mput ms x u) own))) := by
  have hm : MapAtU w b ms := hT.ok i _ hi
  obtain ⟨es, c, h1, h2, h3, h4⟩ := hm.here
  obtain ⟨r, hr, hg, hj⟩ := findNow_msU (kf := kf) x es.toList ms 0 h2
  have hlen : es.toList.length = ms.length := by have := congrArg List.length h2; simpa using this
  cases r with
  | none =>
    refine ⟨(), World.setO w b (.map (es.push { key := .int .u32 x, val := u, born := c }) (c + 1)), ?_, trivial, ?_⟩
    · simp only [Instr.mapUpdate, Sem.run_bind, run_underlying ht, Result.andThen_ok, getMap h1, checkKey_intU hk, findKey_runU hk hr]
      exact setO_run h1 _
    · refine hT.setMapU hi ?_ ?_ ?_
      · rw [mput_new ms (by rw [← hg]; rfl)]
        simp [h2]
      · intro e he
        simp only [Array.toList_push, List.mem_append, List.mem_singleton] at he
        rcases he with he | rfl
        · have := h3 e he; omega
        · simp
      · simp only [Array.toList_push, List.map_append, List.map_cons, List.map_nil]
        refine List.nodup_append.2 ⟨h4, by simp, fun a ha b hb => ?_⟩
        simp only [List.mem_singleton] at hb
        subst hb
        obtain ⟨e, he, rfl⟩ := List.mem_map.1 ha
        have := h3 e he
        omega
  | some p =>
    obtain ⟨j, v⟩ := p
    obtain ⟨_, hjl, ⟨q, hq, hqx⟩, hno⟩ := hj j v rfl
    simp only [Nat.sub_zero] at hjl hq hno
    have hes : es[j]? = some es[j] := Array.getElem?_eq_getElem (by simpa using hjl)
    have hkey : es[j].key = .int .u32 x := by
      have := congrArg (fun l => l[j]?) h2
      simp only [List.getElem?_map, hq, Option.map_some] at this
      rw [Array.getElem?_toList, hes] at this
      simp only [Option.map_some, Option.some.injEq, Prod.mk.injEq] at this
      rw [this.1, hqx]
    have hstay : (Instr.keyThatStays (.int .u32 x) (.int .u32 x)).run P w = .ok (.int .u32 x) w := by
      simp [Instr.keyThatStays, Instr.sameBits]
    refine ⟨(), World.setO w b (.map (es.modify j fun e => { e with key := .int .u32 x, val := u }) c), ?_, trivial, ?_⟩
    · simp only [Instr.mapUpdate, Sem.run_bind, run_underlying ht, Result.andThen_ok, getMap h1, checkKey_intU hk, findKey_runU hk hr, hes, Option.map_some, Option.getD_some, hkey, hstay]
      exact setO_run h1 _
    · have hmod : (es.modify j fun e => { e with key := .int .u32 x, val := u }).toList = es.toList.set j { es[j] with key := .int .u32 x, val := u } := by
        apply List.ext_getElem?
        intro l
        rw [Array.getElem?_toList, Array.getElem?_modify, List.getElem?_set]
        by_cases hl : j = l
        · subst hl
          have hjl' : j < es.size := by simpa using hjl
          simp [hes, hjl']
        · simp [hl]
      refine hT.setMapU hi ?_ ?_ ?_
      · rw [hmod, mput_at ms j q hq hqx hno, List.map_set, h2, List.map_set]
      · intro e he
        rw [hmod] at he
        rcases List.mem_or_eq_of_mem_set he with he | rfl
        · exact h3 e he
        · exact h3 es[j] (by simp)
      · rw [hmod, List.map_set]
        have : (es.toList.map (·.born)).set j ({ es[j] with key := Value.int .u32 x, val := u } : MapEntry).born = es.toList.map (·.born) := by
          apply List.ext_getElem?
          intro l
          rw [List.getElem?_set]
          by_cases hl : j = l
          · subst hl
            have hjl' : j < es.size := by simpa using hjl
            simp [hes, hjl']
          · simp [hl]
        rw [this]; exact h4

theorem run_len_mapU {w : World} {b : Nat} {ms : MS} (h : MapAtU w b ms) {t kt et ty : TypeId} {ts : Array TypeId} (hts : ts[0]? = some t) (ht : P.underlying t = some (.map kt et)) : (Builtin.len_ ts ty #[.map (some b)]).run P w = .ok (.int .i64 (ms.length : Int)) w := by
  obtain ⟨es, c, h1, h2, h3, h4⟩ := h.here
  have hlen : es.size = ms.length := by have := congrArg List.length h2; simpa using this
  simp only [Builtin.len_, hts, Sem.run_bind, run_underlying ht, Result.andThen_ok]
  simp [Sem.run_bind, run_underlying ht, getMap h1, goInt, hlen]
theorem run_makeMap'U {w0 w : World} {T : List Ent} (hT : Tab w0 w T) (t : TypeId) : ∃ (b : Nat) (w' : World), (Instr.makeMap t none).run P w = .ok (.map (some b)) w' ∧ True ∧ Tab w0 w' (.gen (mapEU b [] true) :: T) := by
  refine ⟨w.heap.size, w.alloc (.map #[] 0), ?_, trivial, ?_⟩
  · rfl
  · refine hT.push (e := .gen (mapEU w.heap.size [] true)) rfl rfl rfl (by simp) (fun k hk => Below.heap_alloc w _ k hk) ⟨#[], 0, ?_, rfl, (fun e he => by simp at he), by simp⟩ (fun k hk => by rw [show k = w.heap.size from hk]; exact Nat.le_refl _)
    rw [heap_alloc_new]
end

/-! ### Plain laws of such lists -/
end Go.Proofs.Ytlfahohbkgdabaa

/- Range over a map with colors (u32) as keys: in any order, each entry once. -/
set_option linter.unusedVariables false
set_option linter.unusedSimpArgs false
namespace Go.Proofs.Ytlfahohbkgdabaa
open Go Go.RowKit
variable {P : Program} {dfs : List Deferred} {n : Nat} {w0 : World} {L : List (Tmp × Value)} {T : List Ent} {Q : Exit → Act → World → Prop}

def enc2U (p : Int × Int) : Value × Value := (.int .u32 p.1, .int .i64 p.2)
structure MapFU (es : Array MapEntry) (ck : Nat) (l : IL) : Prop where
  kv : es.toList.map kvOf = l.map enc2U
  lt : ∀ e ∈ es.toList, e.born < ck
  nd : (es.toList.map (·.born)).Nodup
/-- What the loop has had, and what is left. -/
structure IterPU (es : Array MapEntry) (l : IL) (sn : Array Nat) (dn : IL) : Prop where
  left : ∃ lf : IL, (leftOf es sn).toList.map kvOf = lf.map enc2U ∧ (dn ++ lf).Perm l
theorem IterPU.start {es : Array MapEntry} {ck : Nat} {l : IL} (h : MapFU es ck l) : IterPU es l #[] [] :=
  ⟨l, by rw [← h.kv, show (leftOf es #[]).toList = es.toList by simp only [leftOf, Array.toList_filter]; exact List.filter_eq_self.2 (fun _ _ => by simp)], List.Perm.refl _⟩
theorem IterPU.done {es : Array MapEntry} {l : IL} {sn : Array Nat} {dn : IL} (h : IterPU es l sn dn) (h0 : (leftOf es sn).size = 0) : dn.Perm l := by
  obtain ⟨lf, h1, h2⟩ := h.left
  have h3 := congrArg List.length h1
  simp only [List.length_map, Array.length_toList] at h3
  have : lf = [] := List.length_eq_zero_iff.1 (by omega)
  subst this
  simpa using h2
theorem IterPU.len {es : Array MapEntry} {l : IL} {sn : Array Nat} {dn : IL} (h : IterPU es l sn dn) : dn.length ≤ l.length := by
  obtain ⟨lf, h1, h2⟩ := h.left
  have := h2.length_eq
  rw [List.length_append] at this
  omega
theorem IterPU.step {es : Array MapEntry} {ck : Nat} {l : IL} {sn : Array Nat} {dn : IL} (hF : MapFU es ck l) (h : IterPU es l sn dn) {e : MapEntry} (he : e ∈ (leftOf es sn).toList) :
    ∃ p : Int × Int, e.key = .int .u32 p.1 ∧ e.val = .int .i64 p.2 ∧ p ∈ l ∧ IterPU es l (sn.push e.born) (dn ++ [p]) := by
  obtain ⟨lf, h1, h2⟩ := h.left
  have hsub : ((leftOf es sn).toList.map (·.born)).Nodup := by
    refine List.Nodup.sublist (List.Sublist.map _ ?_) hF.nd
    simp only [leftOf, Array.toList_filter]
    exact List.filter_sublist
  obtain ⟨A, B, e1, e2⟩ := strike_born hsub he
  rw [e1, List.map_append, List.map_cons] at h1
  obtain ⟨a, r, rfl, ha, hr⟩ := List.map_eq_append_iff.1 h1.symm
  obtain ⟨p, b, rfl, hp, hb⟩ := List.map_eq_cons_iff.1 hr
  have hp' : enc2U p = kvOf e := hp
  refine ⟨p, (congrArg Prod.fst hp').symm, (congrArg Prod.snd hp').symm, h2.mem_iff.1 (by simp), ⟨a ++ b, ?_, ?_⟩⟩
  · rw [leftOf_push, e2, List.map_append, List.map_append, ha, hb]
  · refine List.Perm.trans ?_ h2
    rw [List.append_assoc]
    exact (List.perm_append_left_iff dn).2 (by simpa using List.perm_middle.symm)
theorem run_lookupIU {w : World} {b : Nat} {l : IL} (h : MapAtU w b (imsV l)) {t kt et : TypeId} {kf : IntKind} (ht : P.underlying t = some (.map kt et)) (hk : P.underlying kt = some (.int kf)) (hz : (P.info? et).map (·.zero) = some (some (.int .i64 0))) (x : Int) :
    (Instr.lookup t (.map (some b)) (.int .u32 x) false).run P w = .ok (.int .i64 (kindL l x)) w := by
  rw [run_lookupU h ht hk hz, mget_imsV]
  unfold kindL
  cases iget l x <;> rfl
theorem run_updateIU {w0 w : World} {T : List Ent} (hT : Tab w0 w T) {i b : Nat} {l : IL} {own : Bool} (hi : T[i]? = some (.gen (mapEU b (imsV l) own))) {t kt et : TypeId} {kf : IntKind} (ht : P.underlying t = some (.map kt et)) (hk : P.underlying kt = some (.int kf)) (x u : Int) :
    ∃ (y : Unit) (w' : World), (Instr.mapUpdate t (.map (some b)) (.int .u32 x) (.int .i64 u)).run P w = .ok () w' ∧ True ∧ Tab w0 w' (T.set i (.gen (mapEU b (imsV (iput l x u)) own))) := by
  rw [← mput_imsV]
  exact run_updateU hT hi ht hk x _
theorem run_lenIU {w : World} {b : Nat} {l : IL} (h : MapAtU w b (imsV l)) {t kt et ty : TypeId} {ts : Array TypeId} (hts : ts[0]? = some t) (ht : P.underlying t = some (.map kt et)) : (Builtin.len_ ts ty #[.map (some b)]).run P w = .ok (.int .i64 (l.length : Int)) w := by
  rw [run_len_mapU h hts ht, imsV_length]
end Go.Proofs.Ytlfahohbkgdabaa

/- How many points have each color: a map of counts, in plain words; a map that was ranged over is a map again. -/
set_option linter.unusedVariables false
set_option linter.unusedSimpArgs false
namespace Go.Proofs.Ytlfahohbkgdabaa
open Go Go.RowKit
variable {dfs : List Deferred}
theorem iput_key {y x u : Int} : ∀ l : IL, y ∈ (iput l x u).map (·.1) ↔ y = x ∨ y ∈ l.map (·.1) := by
  intro l
  induction l with
  | nil => simp [iput]
  | cons p r ih =>
    obtain ⟨k, v⟩ := p
    simp only [iput]
    by_cases h : x = k
    · subst h; simp
    · rw [if_neg h]; simp only [List.map_cons, List.mem_cons, ih]
      constructor
      · rintro (h1 | h1 | h1) <;> simp [h1]
      · rintro (h1 | h1 | h1) <;> simp [h1]
theorem iput_nodup {x u : Int} : ∀ {l : IL}, (l.map (·.1)).Nodup → ((iput l x u).map (·.1)).Nodup := by
  intro l
  induction l with
  | nil => intro _; simp [iput]
  | cons p r ih =>
    obtain ⟨k, v⟩ := p
    intro hn
    simp only [List.map_cons, List.nodup_cons] at hn
    simp only [iput]
    by_cases h : x = k
    · subst h; rw [if_pos rfl]; simp only [List.map_cons, List.nodup_cons]; exact hn
    · rw [if_neg h]; simp only [List.map_cons, List.nodup_cons]
      exact ⟨fun hm => by rcases (iput_key r).1 hm with h1 | h1; exact h h1.symm; exact hn.1 h1, ih hn.2⟩
theorem iput_mem {x u : Int} {p : Int × Int} : ∀ {l : IL}, (l.map (·.1)).Nodup → p ∈ iput l x u → p = (x, u) ∨ (p ∈ l ∧ p.1 ≠ x) := by
  intro l
  induction l with
  | nil => intro _ h; exact .inl (by simpa [iput] using h)
  | cons q r ih =>
    obtain ⟨k, v⟩ := q
    intro hn h
    simp only [List.map_cons, List.nodup_cons] at hn
    simp only [iput] at h
    by_cases hk : x = k
    · subst hk
      rw [if_pos rfl] at h
      rcases List.mem_cons.1 h with h | h
      · exact .inl h
      · refine .inr ⟨List.mem_cons_of_mem _ h, fun he => hn.1 ?_⟩
        rw [← he]; exact List.mem_map.2 ⟨p, h, rfl⟩
    · rw [if_neg hk] at h
      rcases List.mem_cons.1 h with h | h
      · exact .inr ⟨by rw [h]; exact List.mem_cons_self, by rw [h]; exact fun he => hk he.symm⟩
      · rcases ih hn.2 h with h | ⟨h1, h2⟩
        · exact .inl h
        · exact .inr ⟨List.mem_cons_of_mem _ h1, h2⟩
def sumL : IL → Int
  | [] => 0
  | p :: r => p.2 + sumL r
theorem sumL_append (a b : IL) : sumL (a ++ b) = sumL a + sumL b := by
  induction a with
  | nil => simp [sumL]
  | cons p r ih => simp only [List.cons_append, sumL, ih]; omega
theorem sumL_perm {a b : IL} (h : a.Perm b) : sumL a = sumL b := by
  induction h with
  | nil => rfl
  | cons x _ ih => simp only [sumL, ih]
  | swap x y l => simp only [sumL]; omega
  | trans _ _ h1 h2 => exact h1.trans h2
theorem iput_sum {x : Int} : ∀ l : IL, sumL (iput l x (kindL l x + 1)) = sumL l + 1 := by
  intro l
  induction l with
  | nil => simp [iput, sumL, kindL, iget]
  | cons q r ih =>
    obtain ⟨k, v⟩ := q
    by_cases hk : x = k
    · subst hk; simp only [iput, if_true, sumL, kindL, iget, Option.getD_some]; omega
    · have e : kindL ((k, v) :: r) x = kindL r x := by simp only [kindL, iget]; rw [if_neg hk]
      rw [e]
      simp only [iput, if_neg hk, sumL, ih]; omega
theorem iget_memN {x v : Int} : ∀ {l : IL}, (l.map (·.1)).Nodup → (x, v) ∈ l → iget l x = some v := by
  intro l
  induction l with
  | nil => intro _ h; cases h
  | cons q r ih =>
    obtain ⟨k, u⟩ := q
    intro hn h
    simp only [List.map_cons, List.nodup_cons] at hn
    rcases List.mem_cons.1 h with h | h
    · cases h; simp [iget]
    · have : x ≠ k := fun he => hn.1 (he ▸ List.mem_map.2 ⟨_, h, rfl⟩)
      simp only [iget, if_neg this]
      exact ih hn.2 h
/-- A map that tells of colors how many there are. -/
structure CntM (l : IL) (xs : List Int) : Prop where
  get : ∀ c, kindL l c = ((xs.count c : Nat) : Int)
  nd : (l.map (·.1)).Nodup
  pos : ∀ p ∈ l, 1 ≤ p.2
  sum : sumL l = (xs.length : Int)
theorem CntM.nil : CntM [] [] := ⟨fun c => by simp [kindL, iget], by simp, fun p hp => (List.not_mem_nil hp).elim, by simp [sumL]⟩
theorem CntM.step {l : IL} {xs : List Int} (h : CntM l xs) (c : Int) : CntM (iput l c (kindL l c + 1)) (xs ++ [c]) := by
  refine ⟨fun d => ?_, iput_nodup h.nd, fun p hp => ?_, ?_⟩
  · have hk : kindL (iput l c (kindL l c + 1)) d = if d = c then kindL l c + 1 else kindL l d := by
      unfold kindL; rw [iget_put]; split <;> rfl
    rw [hk, List.count_append]
    have hg := h.get d
    by_cases hd : d = c
    · subst hd
      rw [if_pos rfl, hg]
      simp
    · rw [if_neg hd, hg]
      have : List.count d [c] = 0 := by simp [List.count_cons, Ne.symm hd]
      omega
  · rcases iput_mem h.nd hp with rfl | ⟨h1, _⟩
    · have := h.get c; show 1 ≤ kindL l c + 1; omega
    · exact h.pos p h1
  · rw [iput_sum, h.sum, List.length_append]; simp
theorem CntM.mem {l : IL} {xs : List Int} (h : CntM l xs) {c v : Int} (hm : (c, v) ∈ l) : 1 ≤ v ∧ v = ((xs.count c : Nat) : Int) := by
  refine ⟨h.pos _ hm, ?_⟩
  rw [← h.get c]
  unfold kindL
  rw [iget_memN h.nd hm]; rfl
theorem take_getD {xs : List Int} {i : Nat} (h : i < xs.length) : xs.take (i + 1) = xs.take i ++ [xs.getD i 0] := by
  rw [List.take_add_one, List.getD_eq_getElem?_getD, List.getElem?_eq_getElem h]; rfl
theorem CntM.next {l : IL} {px : List Int} {i : Nat} {c : Int} (h : CntM l (px.take i)) (hi : i < px.length) (hc : c = px.getD i 0) : CntM (iput l c (kindL l c + 1)) (px.take (i + 1)) := by
  rw [take_getD hi, ← hc]; exact h.step c
theorem CntM.bd {l : IL} {xs : List Int} {n : Nat} (h : CntM l xs) (hn : xs.length ≤ n) (c : Int) : 0 ≤ kindL l c ∧ kindL l c ≤ (n : Int) := by
  rw [h.get c]
  have := List.count_le_length (a := c) (l := xs)
  omega
theorem rowL_at {Wn k j : Nat} {px : List Int} (hj : j < Wn) : (rowL Wn px ((k : Nat) : Int)).getD j 0 = px.getD (k * Wn + j) 0 := by
  unfold rowL
  rw [List.getD_eq_getElem?_getD, List.getElem?_take, if_pos hj, List.getElem?_drop, Int.toNat_natCast, ← List.getD_eq_getElem?_getD]
theorem sumL_le {l m : IL} (h : ∀ p ∈ m, 0 ≤ p.2) : ∀ {d : IL}, (d ++ l).Perm m → 0 ≤ sumL d ∧ sumL d ≤ sumL m := by
  intro d hp
  have nn : ∀ a : IL, (∀ p ∈ a, 0 ≤ p.2) → 0 ≤ sumL a := by
    intro a
    induction a with
    | nil => intro _; exact Int.le_refl 0
    | cons p r ih => intro ha; simp only [sumL]; have := ha p (by simp); have := ih (fun q hq => ha q (by simp [hq])); omega
  have h1 := nn d (fun p hq => h p (hp.mem_iff.1 (by simp [hq])))
  have h2 := nn l (fun p hq => h p (hp.mem_iff.1 (by simp [hq])))
  have h3 := sumL_perm hp
  rw [sumL_append] at h3
  omega
theorem IterPU.sum {es : Array MapEntry} {l : IL} {sn : Array Nat} {dn : IL} {xs : List Int} (h : IterPU es l sn dn) (hc : CntM l xs) : 0 ≤ sumL dn ∧ sumL dn ≤ (xs.length : Int) := by
  obtain ⟨lf, _, h2⟩ := h.left
  rw [← hc.sum]
  exact sumL_le (fun p hp => by have := hc.pos p hp; omega) h2
/-- A map of one color alone. -/
theorem CntM.one {l : IL} {xs : List Int} (h : CntM l xs) {c : Int} (hx : ∀ x ∈ xs, x = c) (h0 : 0 < xs.length) : l.length = 1 ∧ kindL l c = (xs.length : Int) := by
  have hc : xs.count c = xs.length := List.count_eq_length.2 (fun x hx' => (hx x hx').symm)
  have hk : kindL l c = (xs.length : Int) := by rw [h.get c, hc]
  refine ⟨?_, hk⟩
  have hall : ∀ p ∈ l, p.1 = c := by
    intro p hp
    have := h.mem (c := p.1) (v := p.2) hp
    have h1 : 0 < xs.count p.1 := by omega
    exact hx _ (List.count_pos_iff.1 h1)
  match l, h.nd, hall, hk with
  | [], _, _, hk => simp [kindL, iget] at hk; omega
  | [p], _, _, _ => rfl
  | p :: q :: r, hn, hall, _ =>
    have h1 := hall p (by simp)
    have h2 := hall q (by simp)
    simp only [List.map_cons, List.nodup_cons, List.mem_cons] at hn
    exact (hn.1 (.inl (h1.trans h2.symm))).elim
end Go.Proofs.Ytlfahohbkgdabaa

/- A range over the rows of an image that is written in the rounds; images that are composed point by point. -/
set_option linter.unusedVariables false
set_option linter.unusedSimpArgs false
namespace Go.Proofs.Ytlfahohbkgdabaa
open Go Go.RowKit
/-- What an iterator promises of rounds of one kind. -/
def IterAt {X β : Type} (P : Program) (gf : Nat) (lb : Array Value) (encs : X → Array Value) (w0 : World) (Es : List Ent) (Ex : X → List Ent) (S Sp : List X → Prop) (Inv : List X → β → Prop) (Tr : β → List Ent) : Prop :=
  ∀ (Jx : World → Prop) (l : Nat) (e1 e2 : Ent) (W : World) (b0 : β), (∀ w w', Jx w → Below w.heap.size w w' → Jx w') →
    (∀ pre x b W1 z, (z.wr = true → z.own = true) → Inv pre b → Sp (pre ++ [x]) → Tab w0 W1 (Ex x ++ z :: e1 :: e2 :: (Es ++ Tr b)) →
      YieldAt Fence.wide 0 P l (encs x) W1 fun e W' => (e = .returned (.bool true) ∧ ∃ b', Inv (pre ++ [x]) b' ∧ Tab w0 W' (z :: e1 :: e2 :: (Es ++ Tr b'))) ∨ (e = .returned (.bool false) ∧ Jx W')) →
    Inv [] b0 → Tab w0 W (e1 :: e2 :: (Es ++ Tr b0)) →
    Calls P gf (#[.func (.yield l) #[] #[]] ++ lb) W fun e W' => (∃ v, e = .returned v) ∧ ((∃ xs b', S xs ∧ Inv xs b' ∧ Tab w0 W' (e1 :: e2 :: (Es ++ Tr b'))) ∨ Jx W')

section
variable {P : Program} {dfs : List Deferred} {Q : Exit → Act → World → Prop} {n : Nat} {w0 : World} {L : List (Nat × Value)} {T : List Ent}
theorem cont_rangeFuncW {X β γ : Type} {g : Operand} {ps : Array Tmp} {assign body : Code} {gf : Nat} {lb : Array Value} (encs : X → Array Value) (Es : List Ent) (Ex : X → List Ent) (S Sp : List X → Prop) (Inv : List X → β → Prop) (Tr : β → List Ent) (Jx : Code → γ → Prop) (Tx : γ → List Ent) (b0 : β)
    (hg : knownB L g = some (.func (.func gf) #[] lb)) (eg : ∀ args w, (callFunc gf args).run P w = .ok (.enter gf args) w) (hps : ∀ x, (encs x).size = ps.size) (hpn : (ps.toList.all fun p => Nat.blt p n) = true)
    (hseq : IterAt P gf lb encs w0 Es Ex S Sp Inv Tr) (h0 : Inv [] b0) (hT0 : Es ++ Tr b0 = T)
    (hbody : ∀ (l : Nat) (z e1 e1b e2 : Ent) (pre : List X) (x : X) (b : β) (B : Act → World → Prop), (z.wr = true → z.own = true) → Inv pre b → Sp (pre ++ [x]) →
      (∀ L' Xs R, Cont [] ((Mode.round P l).wp body (RQ w0 Inv Tr Es Jx Tx z e1b e2 (pre ++ [x]))) n w0 L' (Xs ++ e1b :: R) → Cont [] B n w0 L' (Xs ++ e1 :: R)) →
      Cont [] ((Mode.round P l).wp assign (Exit.then B (fun _ _ _ => False))) n w0 ((ps.toList.zip (encs x).toList).reverse ++ L) (Ex x ++ z :: e1 :: e2 :: (Es ++ Tr b)))
    (hdone : ∀ (D : Nat) (xs : List X) (b : β), S xs → Inv xs b → Cont [coll D] (Q .normal) n w0 L (markE D :: (Es ++ Tr b)))
    (hret : ∀ (D : Nat) (c : γ), Jx .ret c → Cont [coll D] (Q .ret) n w0 L (markE D :: Tx c))
    (hexit : ∀ (D id : Nat) (c : γ), Jx (.exit id) c → Cont [coll D] (Q (.exit id)) n w0 L (markE D :: Tx c)) :
    Cont [] ((Code.rangeFunc g ps assign body).wp P Q) n w0 L T := by
  subst hT0
  intro a w ha hf hT
  refine (wpIn_wide (n := 0)).1 (wpIn_rangeFunc ?_)
  intro fn _
  obtain ⟨rec, hrec⟩ : ∃ rec : LoopState → Option Code → Loop, rec = fun st pe => { state := st, pending := pe, fn, tmps := a.tmps, params := ps, assign, body, defers := w.heap.size } := ⟨_, rfl⟩
  have hTab := (hT.allocObj (.deferred (some []))).allocObj (.loop (rec .ready none))
  rw [World.size_alloc] at hTab
  obtain ⟨W1, hW1⟩ : ∃ W1, (w.alloc (.deferred (some []))).alloc (.loop (rec .ready none)) = W1 := ⟨_, rfl⟩
  rw [hW1] at hTab
  have hgv : a.eval g = .func (.func gf) #[] lb := knownB_eval hf hg
  refine ⟨w.heap.size + 1, [coll w.heap.size], W1, { target := .fn (.func gf) lb, args := #[.func (.yield (w.heap.size + 1)) #[] #[]] }, W1, gf, #[.func (.yield (w.heap.size + 1)) #[] #[]] ++ lb, W1, by rw [← hW1, hrec]; exact run_enterLoop_outer _ _ _ _ _, ?_, fun _ _ => trivial, ?_, (fun h => by cases h), ?_⟩
  · simp only [resolve, hgv]
    simp [go_sem]
  · simp [invoke, go_sem, eg]
  · have key := hseq (fun W => ∃ c d, Jx c d ∧ (c = .ret ∨ ∃ id, c = .exit id) ∧ Tab w0 W (objE (w.heap.size + 1) (.loop (rec .done (some c))) :: markE w.heap.size :: Tx d)) (w.heap.size + 1) (objE (w.heap.size + 1) (.loop (rec .ready none))) (markE w.heap.size) W1 b0 ?_ ?_ h0 hTab
    · refine calls_open open_wide (key.mono ?_)
      rintro e W ⟨⟨v, rfl⟩, ⟨xs, b, hS, hi, hW⟩ | ⟨c, d, hj, hc, hW⟩⟩
      · have hl : W.heap[w.heap.size + 1]? = some (.loop (rec .ready none)) := hW.ok 0 _ rfl
        refine ⟨none, _, by rw [run_endLoop hl (by rw [hrec]; simp)]; rw [hrec], ?_⟩
        have hW2 := (hW.putObj (i := 0) rfl (.loop { rec .ready none with state := .exhausted })).drop (fun _ => rfl)
        refine hdone w.heap.size xs b hS hi _ _ (by simp [ha, coll]) hf (by rw [hrec] at hW2; exact hW2)
      · have hl : W.heap[w.heap.size + 1]? = some (.loop (rec .done (some c))) := hW.ok 0 _ rfl
        refine ⟨some c, _, by rw [run_endLoop hl (by rw [hrec]; simp)]; rw [hrec], ?_⟩
        have hW2 := (hW.putObj (i := 0) rfl (.loop { rec .done (some c) with state := .exhausted })).drop (fun _ => rfl)
        refine wpIn_wide.2 ?_
        rcases hc with rfl | ⟨id, rfl⟩
        · exact wp_ret (hret w.heap.size d hj _ _ (by simp [ha, coll]) hf (by rw [hrec] at hW2; exact hW2))
        · exact wp_exit (hexit w.heap.size id d hj _ _ (by simp [ha, coll]) hf (by rw [hrec] at hW2; exact hW2))
    · rintro wa wb ⟨c, d, h1, h2, h3⟩ hb
      exact ⟨c, d, h1, h2, h3.below hb⟩
    · -- one round
      intro pre x b W1 z hz hi hsp hW
      have hfr : FrOk n ((ps.zip (encs x)).foldl (fun tmps (t, v) => tmps.setIfInBounds t v) a.tmps) ((ps.toList.zip (encs x).toList).reverse ++ L) := by
        have := hf.puts ps.toList (encs x).toList hpn
        rw [← Array.foldl_toList, Array.toList_zip]
        exact this
      have hidx : (Ex x ++ z :: objE (w.heap.size + 1) (.loop (rec .ready none)) :: markE w.heap.size :: (Es ++ Tr b))[(Ex x).length + 1]? = some (objE (w.heap.size + 1) (.loop (rec .ready none))) := by simp [List.getElem?_append_right]
      have hl : W1.heap[w.heap.size + 1]? = some (.loop (rec .ready none)) := hW.ok _ _ hidx
      have hy := run_yield (P := P) (args := encs x) hl (by rw [hrec]; exact hps x)
      rw [hrec] at hy
      refine ⟨fn, _, assign, body, hy, roundIn_of_wpIn (F := Fence.wide) trivial ?_⟩
      refine hbody (w.heap.size + 1) z (objE (w.heap.size + 1) (.loop (rec .ready none))) (objE (w.heap.size + 1) (.loop { rec .ready none with state := .busy })) (markE w.heap.size) pre x b _ hz hi hsp ?_ _ W1 rfl hfr hW ?_
      rotate_left
      · rintro ⟨a', w', hq⟩; exact hq
      intro L' Xs R hB a' W2 ha' hf' hW2
      have hidx2 : (Xs ++ objE (w.heap.size + 1) (.loop (rec .ready none)) :: R)[Xs.length]? = some (objE (w.heap.size + 1) (.loop (rec .ready none))) := by simp
      have hl2 : W2.heap[w.heap.size + 1]? = some (.loop (rec .ready none)) := hW2.ok _ _ hidx2
      have hW3 := hW2.putObj hidx2 (.loop { rec .ready none with state := .busy })
      have hset : (Xs ++ objE (w.heap.size + 1) (.loop (rec .ready none)) :: R).set Xs.length (objE (w.heap.size + 1) (.loop { rec .ready none with state := .busy })) = Xs ++ objE (w.heap.size + 1) (.loop { rec .ready none with state := .busy }) :: R := by simp
      rw [hset] at hW3
      refine ⟨_, run_beginRound hl2 (by rw [hrec]), wpIn_mono (hB a' _ ha' hf' hW3 ?_) ?_⟩
      · rintro ⟨a', w', hq⟩; exact hq
      · intro e a'' W3 hq
        have fin : ∀ (jump : Option Code) (i : Nat) (T' : List Ent), T'[i]? = some (objE (w.heap.size + 1) (.loop { rec .ready none with state := .busy })) → Tab w0 W3 T' →
            (Instr.endRound (w.heap.size + 1) jump).run P W3 = .ok (.bool jump.isNone) (W3.putObj (w.heap.size + 1) (.loop (rec (if jump.isNone then .ready else .done) jump))) ∧ Tab w0 (W3.putObj (w.heap.size + 1) (.loop (rec (if jump.isNone then .ready else .done) jump))) (T'.set i (objE (w.heap.size + 1) (.loop (rec (if jump.isNone then .ready else .done) jump)))) := by
          intro jump i T' hi3 hW3
          have hl3 : W3.heap[w.heap.size + 1]? = some (.loop { rec .ready none with state := .busy }) := hW3.ok i _ hi3
          refine ⟨?_, hW3.putObj hi3 _⟩
          rw [run_endRound jump hl3, hrec]
        cases e with
        | normal =>
          obtain ⟨b', hi', hW3⟩ := hq
          obtain ⟨h1, h2⟩ := fin none 1 _ rfl hW3
          exact ⟨_, _, h1, .inl ⟨rfl, b', hi', h2⟩⟩
        | ret =>
          obtain ⟨c, hj, hW3⟩ := hq
          obtain ⟨h1, h2⟩ := fin (some .ret) 0 _ rfl hW3
          exact ⟨_, _, h1, .inr ⟨rfl, .ret, c, hj, .inl rfl, h2⟩⟩
        | exit id =>
          obtain ⟨c, hj, hW3⟩ := hq
          obtain ⟨h1, h2⟩ := fin (some (.exit id)) 0 _ rfl hW3
          exact ⟨_, _, h1, .inr ⟨rfl, .exit id, c, hj, .inr ⟨id, rfl⟩, h2⟩⟩
        | goto t => exact hq.elim
        | panic ch => exact hq.elim
        | outgrown => exact hq.elim
end
/-- What has come of the rows: from the top, without a gap; what was in them may be anything. -/
def RowsW (h : Nat) (p : List (Int × Nat × Nat × List Int)) : Prop := p.map (·.1) = (List.range p.length).map (fun k => ((k : Nat) : Int)) ∧ p.length ≤ h
theorem RowsW.nil (h : Nat) : RowsW h [] := ⟨rfl, Nat.zero_le _⟩
theorem RowsW.step {h : Nat} {p : List (Int × Nat × Nat × List Int)} (hp : RowsW h p) {g c : Nat} {l : List Int} (hl : p.length < h) : RowsW h (p ++ [(((p.length : Nat) : Int), g, c, l)]) := by
  refine ⟨?_, by rw [List.length_append, List.length_singleton]; omega⟩
  rw [List.map_append, hp.1, List.length_append, List.length_singleton, List.range_succ, List.map_append]; rfl
theorem RowsW.last {h : Nat} {p : List (Int × Nat × Nat × List Int)} {x : Int × Nat × Nat × List Int} (hp : RowsW h (p ++ [x])) : x.1 = ((p.length : Nat) : Int) ∧ p.length < h := by
  obtain ⟨h1, h2⟩ := hp
  rw [List.length_append, List.length_singleton] at h1 h2
  rw [List.map_append, List.range_succ, List.map_append] at h1
  have := (List.append_inj h1 (by simp)).2
  exact ⟨by simpa using this, by omega⟩
/-- An image of which the first m points show the states, the others are 0. -/
def compK (l : List TS) (W : Int) (n : Nat) (g : Int) (m : Nat) : List Int := (List.range n).map fun (i : Nat) => if i < m then pixS l ((i : Int) % W) ((i : Int) / W) g else 0
def compS (l : List TS) (W : Int) (n : Nat) (g : Int) : List Int := (List.range n).map fun (i : Nat) => pixS l ((i : Int) % W) ((i : Int) / W) g
theorem compK_zero (l : List TS) (W : Int) (n : Nat) (g : Int) : compK l W n g 0 = List.replicate n 0 := by
  refine List.ext_getElem? fun i => ?_
  unfold compK
  rw [List.getElem?_map, List.getElem?_replicate]
  by_cases h : i < n
  · rw [List.getElem?_range h, if_pos h]; simp
  · rw [List.getElem?_eq_none (by simp; omega), if_neg h]; rfl
theorem compK_all (l : List TS) (W : Int) {n m : Nat} (g : Int) (h : n ≤ m) : compK l W n g m = compS l W n g := by
  unfold compK compS
  refine List.map_congr_left fun i hi => ?_
  rw [if_pos (by have := List.mem_range.1 hi; omega)]
theorem compK_len (l : List TS) (W : Int) (n : Nat) (g : Int) (m : Nat) : (compK l W n g m).length = n := by simp [compK]
theorem compS_len (l : List TS) (W : Int) (n : Nat) (g : Int) : (compS l W n g).length = n := by simp [compS]
theorem compK_set {l : List TS} {W : Int} {n i : Nat} {g : Int} (h : i < n) : (compK l W n g i).set i (pixS l ((i : Int) % W) ((i : Int) / W) g) = compK l W n g (i + 1) := by
  refine List.ext_getElem? fun j => ?_
  by_cases hj : j = i
  · subst hj
    rw [List.getElem?_set_self (by rw [compK_len]; exact h)]
    unfold compK
    rw [List.getElem?_map, List.getElem?_range h]
    simp
  · rw [List.getElem?_set_ne (Ne.symm hj)]
    unfold compK
    rw [List.getElem?_map, List.getElem?_map]
    by_cases hn : j < n
    · rw [List.getElem?_range hn]
      simp only [Option.map_some]
      congr 1
      by_cases hji : j < i
      · rw [if_pos hji, if_pos (by omega)]
      · rw [if_neg hji, if_neg (by omega)]
    · rw [List.getElem?_eq_none (by simp; omega)]
      rfl
theorem co_may {t : TS} (h : AllMay t.px) (x y : Int) (hok : ImgOk t.W t.H t.n t.px) : mayB (t.co x y) = true := by
  unfold TS.co pcolC
  split
  · refine fadeC_may _ ?_
    unfold atC
    split
    · rename_i hb
      obtain ⟨h1, h2, h3, h4⟩ := hasB_true.1 hb
      have := hok.place h1 h2 h3 h4
      exact (h.get (by rw [hok.len]; omega)).1
    · decide
  · decide
theorem pixS_may {l : List TS} {g : Int} (hl : ∀ t ∈ l, TS.Ok t) (hg : mayB g = true) (x y : Int) : mayB (pixS l x y g) = true := by
  unfold pixS
  have key : ∀ (cs : List Int) (a : Int), mayB a = true → (∀ c ∈ cs, mayB c = true) → mayB (pixC a cs) = true := by
    intro cs
    induction cs with
    | nil => intro a ha _; exact ha
    | cons c r ih => intro a ha hc; exact ih _ (overC_may (hc c (by simp)) ha) (fun d hd => hc d (by simp [hd]))
  refine key _ _ hg ?_
  intro c hc
  obtain ⟨t, ht, rfl⟩ := List.mem_map.1 hc
  have hk := hl t (List.mem_filter.1 ht).1
  exact co_may hk.may x y hk.img
theorem compK_may {l : List TS} {W g : Int} {n : Nat} (hl : ∀ t ∈ l, TS.Ok t) (hg : mayB g = true ∧ InC g) (m : Nat) : AllMay (compK l W n g m) := by
  intro c hc
  obtain ⟨i, _, rfl⟩ := List.mem_map.1 hc
  split
  · exact ⟨pixS_may hl hg.1 _ _, pixS_in _ _ _ hg.2⟩
  · exact ⟨by decide, by decide, by decide⟩
theorem compS_may {l : List TS} {W g : Int} {n : Nat} (hl : ∀ t ∈ l, TS.Ok t) (hg : mayB g = true ∧ InC g) : AllMay (compS l W n g) := by
  rw [← compK_all l W g (Nat.le_refl n)]; exact compK_may hl hg n
theorem at_row {W : Int} {Wn k j : Nat} (hW : (Wn : Int) = W) (hj : j < Wn) : (((k * Wn + j : Nat) : Int)) % W = (j : Int) ∧ (((k * Wn + j : Nat) : Int)) / W = (k : Int) := by
  subst hW
  have h0 : 0 < Wn := by omega
  rw [← Int.natCast_emod, ← Int.natCast_ediv]
  rw [show k * Wn + j = j + k * Wn by omega, Nat.add_mul_mod_self_right, Nat.add_mul_div_right _ _ h0, Nat.mod_eq_of_lt hj, Nat.div_eq_of_lt hj]
  simp
theorem compK_put {l : List TS} {W H g : Int} {n Wn k j : Nat} (hW : (Wn : Int) = W) (h1 : 1 ≤ W) (hn : (n : Int) = W * H) (hj : j < Wn) (hi : k * Wn + j < n) (hm : mayB (pixS l (j : Int) (k : Int) g) = true) :
    setL W H (compK l W n g (k * Wn + j)) (j : Int) (k : Int) (pixS l (j : Int) (k : Int) g) = compK l W n g (k * Wn + (j + 1)) := by
  obtain ⟨e1, e2⟩ := at_row (k := k) hW hj
  have h := setL_at (px := compK l W n g (k * Wn + j)) (c := pixS l (j : Int) (k : Int) g) h1 hn hi hm
  rw [e1, e2] at h
  rw [h]
  have h2 := compK_set (l := l) (W := W) (g := g) hi
  rw [e1, e2] at h2
  exact h2
end Go.Proofs.Ytlfahohbkgdabaa

