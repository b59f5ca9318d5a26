/- Contracts of functions of the given program, printed by a program of this project. -/
import Derived.Test.YtlfahohbkgdabaaPcL17a
import Derived.Test.YtlfahohbkgdabaaProg
set_option linter.unusedVariables false
set_option linter.unusedSimpArgs false
namespace Go.Proofs.Ytlfahohbkgdabaa
open Go Go.RowKit
set_option maxRecDepth 100000
set_option maxHeartbeats 8000000

theorem surfLayer (b : Nat) (X Y s al ca cb cc cd : Int) (A : Option Addr) (k cp : Nat) (w : World) :
    Calls Try.prog 50 #[.agg #[.pointer (some ⟨b, 0, none⟩), .int .i64 X, .int .i64 Y, .int .i64 s, .int .i64 al, .int .i64 ca, .int .i64 cb, .int .i64 cc, .int .i64 cd, .slice A k cp, .string ⟨#[]⟩]] w fun e w' => e = .returned (.agg #[.pointer (some ⟨b, 0, none⟩), .int .i64 X, .int .i64 Y, .int .i64 s, .int .i64 al, .int .i64 ca, .int .i64 cb, .int .i64 cc, .int .i64 cd]) ∧ Below w.heap.size w w' := by
 refine enter 14 [(0, .agg #[.pointer (pB b), iq X, iq Y, iq s, iq al, iq ca, iq cb, iq cc, iq cd, .slice A k cp, .string ⟨#[]⟩])] [] Try.func50 rfl Try.ntmps50 rfl (by kernel_rfl) (Tab.start w) ?_
 refine cont_seq ?_
 refine cont_region 2 rfl ?_
 refine batch2 [0, 0] 2 0 (fun b1 b2 => [(1, .pointer (pB b1)), (2, .pointer (pB b2))]) (fun b1 b2 => [.cells b2 [.pointer none, iq 0, iq 0, iq 0, iq 0, iq 0, iq 0, iq 0, iq 0] 106 true, .cells b1 [.pointer (pB b), iq X, iq Y, iq s, iq al, iq ca, iq cb, iq cc, iq cd, .slice A k cp, .string ⟨#[]⟩] 99 true]) rfl rfl [1, 2] (fun _ _ => rfl) (fun b1 b2 => by kernel_rfl) (fun b1 b2 => by kernel_rfl) (fun b1 b2 => ?_)
 refine cont_done ?_
 refine then_normal ?_
 refine cont_seq ?_
 refine cont_region 12 rfl ?_
 refine batch0 [0, 1, 0, 1, 0, 1, 0, 1, 0, 1, 0, 0] 12 0 [(2, .pointer (pB b2))] [.cells b2 [.pointer (pB b), iq X, iq Y, iq s, iq al, iq ca, iq cb, iq cc, iq cd] 106 true, .cells b1 [.pointer (pB b), iq X, iq Y, iq s, iq al, iq ca, iq cb, iq cc, iq cd, .slice A k cp, .string ⟨#[]⟩] 99 true] rfl rfl (by kernel_rfl) (by kernel_rfl) ?_
 refine cont_forget 1 rfl ?_
 refine cont_done ?_
 refine then_normal ?_
 refine cont_ret ?_
 refine ret_one (.inl rfl) rfl 0 (.agg #[.pointer (pB b), iq X, iq Y, iq s, iq al, iq ca, iq cb, iq cc, iq cd]) (by kernel_rfl) (by kernel_rfl) (fun w hT => ?_)
 exact ⟨rfl, hT.post rfl⟩

theorem refLayer13 (W H : Int) (r n cap : Nat) (X Y s al ca cb cc cd : Int) (A : Option Addr) (k cp : Nat) (w : World) :
    Calls Try.prog 53 #[.agg #[.bool true, .int .i64 W, .int .i64 H, .slice (some ⟨r, 0, none⟩) n cap, .int .i64 X, .int .i64 Y, .int .i64 s, .int .i64 al, .int .i64 ca, .int .i64 cb, .int .i64 cc, .int .i64 cd, .slice A k cp, .string ⟨#[]⟩]] w fun e w' => e = .returned (.agg #[.bool true, .int .i64 W, .int .i64 H, .slice (some ⟨r, 0, none⟩) n cap, .int .i64 X, .int .i64 Y, .int .i64 s, .int .i64 al, .int .i64 ca, .int .i64 cb, .int .i64 cc, .int .i64 cd]) ∧ Below w.heap.size w w' := by
 refine enter 16 [(0, .agg #[.bool true, iq W, iq H, .slice (pB r) n cap, iq X, iq Y, iq s, iq al, iq ca, iq cb, iq cc, iq cd, .slice A k cp, .string ⟨#[]⟩])] [] Try.func53 rfl Try.ntmps53 rfl (by kernel_rfl) (Tab.start w) ?_
 refine cont_seq ?_
 refine cont_region 2 rfl ?_
 refine batch2 [0, 0] 2 0 (fun b1 b2 => [(1, .pointer (pB b1)), (2, .pointer (pB b2))]) (fun b1 b2 => [.cells b2 [.bool false, iq 0, iq 0, .slice none 0 0, iq 0, iq 0, iq 0, iq 0, iq 0, iq 0, iq 0, iq 0] 93 true, .cells b1 [.bool true, iq W, iq H, .slice (pB r) n cap, iq X, iq Y, iq s, iq al, iq ca, iq cb, iq cc, iq cd, .slice A k cp, .string ⟨#[]⟩] 60 true]) rfl rfl [1, 2] (fun _ _ => rfl) (fun b1 b2 => by kernel_rfl) (fun b1 b2 => by kernel_rfl) (fun b1 b2 => ?_)
 refine cont_done ?_
 refine then_normal ?_
 refine cont_seq ?_
 refine cont_region 14 rfl ?_
 refine batch0 [0, 1, 0, 1, 0, 1, 0, 1, 0, 1, 0, 1, 0, 0] 14 0 [(2, .pointer (pB b2))] [.cells b2 [.bool true, iq W, iq H, .slice (pB r) n cap, iq X, iq Y, iq s, iq al, iq ca, iq cb, iq cc, iq cd] 93 true, .cells b1 [.bool true, iq W, iq H, .slice (pB r) n cap, iq X, iq Y, iq s, iq al, iq ca, iq cb, iq cc, iq cd, .slice A k cp, .string ⟨#[]⟩] 60 true] rfl rfl (by kernel_rfl) (by kernel_rfl) ?_
 refine cont_forget 1 rfl ?_
 refine cont_done ?_
 refine then_normal ?_
 refine cont_ret ?_
 refine ret_one (.inl rfl) rfl 0 (.agg #[.bool true, iq W, iq H, .slice (pB r) n cap, iq X, iq Y, iq s, iq al, iq ca, iq cb, iq cc, iq cd]) (by kernel_rfl) (by kernel_rfl) (fun w hT => ?_)
 exact ⟨rfl, hT.post rfl⟩

theorem shot (A : Option Addr) (g o n cap : Nat) (ts : List TS) (w : World) (hT0 : Tab w w [.gen (rdE (A) g o n 14 (dvals TS.cells ts)), .gen (subE n (TS.pxs ts))]) (hts : ∀ t ∈ ts, TS.Ok t) (hn : n ≤ 100) :
    Calls Try.prog 11 #[.slice A n cap] w fun e w' => ∃ (A_ : Option Addr) (g_ cp_ : Nat) (its : List IT), e = .returned (.tuple #[.agg #[.int .i64 0, .slice A_ n cp_], .bool true]) ∧ its.map (·.t) = ts ∧ Tab w w' [.gen (bunO n (IT.pxs its)), .gen (bunO n (IT.hds 118 its)), .gen (rowE (A_) g_ n cp_ 103 14 (dvals IT.cells its) true)] := by
  obtain ⟨hra, hrl⟩ := Rd.factsD TS.size (by decide) (hT0.ok 0 _ rfl)
  refine enter 43 [(0, .slice A n cap)] [.gen (rdE (A) g o n 14 (dvals TS.cells ts)), .gen (subE n (TS.pxs ts))] Try.func11 rfl Try.ntmps11 rfl (by kernel_rfl) hT0 ?_
  refine cont_seq ?_
  refine cont_region 2 rfl ?_
  refine batch1 [0, 0] 2 0 (fun b1 => [(0, .slice A n cap), (2, .pointer (some ⟨b1, 0, none⟩))]) (fun b1 => [.cells b1 [.int .i64 0, .slice none 0 0] 29 true, .gen (rdE (A) g o n 14 (dvals TS.cells ts)), .gen (subE n (TS.pxs ts))]) rfl rfl [0, 2] (fun _ => rfl) (fun b1 => by kernel_rfl) (fun b1 => by kernel_rfl) (fun b1 => ?_)
  refine cont_done ?_
  refine then_normal ?_
  refine cont_seq ?_
  refine cont_region 1 rfl ?_
  refine batch1 [0] 1 0 (fun b2 => [(0, .slice A n cap), (2, .pointer (some ⟨b1, 0, none⟩)), (4, .pointer (some ⟨b2, 0, none⟩))]) (fun b2 => [.cells b2 [.int .i64 0, .slice none 0 0] 29 true, .cells b1 [.int .i64 0, .slice none 0 0] 29 true, .gen (rdE (A) g o n 14 (dvals TS.cells ts)), .gen (subE n (TS.pxs ts))]) rfl rfl [0, 2, 4] (fun _ => rfl) (fun b2 => by kernel_rfl) (fun b2 => by kernel_rfl) (fun b2 => ?_)
  refine cont_done ?_
  refine then_normal ?_
  refine cont_seq ?_
  refine cont_seq ?_
  refine cont_region 1 rfl ?_
  refine bS [0] 1 0 [(0, .slice A n cap), (2, .pointer (some ⟨b1, 0, none⟩)), (4, .pointer (some ⟨b2, 0, none⟩)), (5, .int .i64 0)] ?_
  refine cont_done ?_
  refine then_normal ?_
  refine cont_block ?_
  refine cont_nilrow 103 14 ?_
  refine cont_norm [(0, .slice A n cap), (2, .pointer (some ⟨b1, 0, none⟩)), (4, .pointer (some ⟨b2, 0, none⟩)), (5, .int .i64 0)] [.gen (rowE (none) 0 0 0 103 14 (dvals IT.cells []) true), .cells b2 [.int .i64 0, .slice none 0 0] 29 true, .cells b1 [.int .i64 0, .slice none 0 0] 29 true, .gen (rdE (A) g o n 14 (dvals TS.cells ts)), .gen (subE n (TS.pxs ts))] (by kernel_rfl) rfl ?_
  refine cont_rowEqD (cel := IT.cells) (z := 14) 0 ([]) (([] : List IT)) rfl rfl ?_
  refine cont_nilbun (IT.hds 118 ([] : List IT)) ?_
  refine cont_norm [(0, .slice A n cap), (2, .pointer (some ⟨b1, 0, none⟩)), (4, .pointer (some ⟨b2, 0, none⟩)), (5, .int .i64 0)] [.gen (bunO 0 (IT.hds 118 ([] : List IT))), .gen (rowE (none) 0 0 0 103 14 (dvals IT.cells ([] : List IT)) true), .cells b2 [.int .i64 0, .slice none 0 0] 29 true, .cells b1 [.int .i64 0, .slice none 0 0] 29 true, .gen (rdE (A) g o n 14 (dvals TS.cells ts)), .gen (subE n (TS.pxs ts))] (by kernel_rfl) rfl ?_
  refine cont_nilbun (IT.pxs ([] : List IT)) ?_
  refine cont_norm [(0, .slice A n cap), (2, .pointer (some ⟨b1, 0, none⟩)), (4, .pointer (some ⟨b2, 0, none⟩)), (5, .int .i64 0)] [.gen (bunO 0 (IT.pxs ([] : List IT))), .gen (bunO 0 (IT.hds 118 ([] : List IT))), .gen (rowE (none) 0 0 0 103 14 (dvals IT.cells ([] : List IT)) true), .cells b2 [.int .i64 0, .slice none 0 0] 29 true, .cells b1 [.int .i64 0, .slice none 0 0] 29 true, .gen (rdE (A) g o n 14 (dvals TS.cells ts)), .gen (subE n (TS.pxs ts))] (by kernel_rfl) rfl ?_
  refine cont_loop (α := Nat × List IT × Option Addr × Nat × Nat) (fun x_ : Nat × List IT × Option Addr × Nat × Nat => x_.1 ≤ n ∧ x_.2.1.map (·.t) = ts.take x_.1) (fun x_ : Nat × List IT × Option Addr × Nat × Nat => [(0, .slice A n cap), (2, .pointer (some ⟨b1, 0, none⟩)), (4, .pointer (some ⟨b2, 0, none⟩)), (5, .int .i64 (x_.1 : Int))]) (fun x_ : Nat × List IT × Option Addr × Nat × Nat => [.gen (bunO x_.1 (IT.pxs x_.2.1)), .gen (bunO x_.1 (IT.hds 118 x_.2.1)), .gen (rowE (x_.2.2.1) x_.2.2.2.1 x_.1 x_.2.2.2.2 103 14 (dvals IT.cells x_.2.1) true), .cells b2 [.int .i64 0, .slice x_.2.2.1 x_.1 x_.2.2.2.2] 29 true, .cells b1 [.int .i64 0, .slice none 0 0] 29 true, .gen (rdE (A) g o n 14 (dvals TS.cells ts)), .gen (subE n (TS.pxs ts))]) (fun x_ : Nat × List IT × Option Addr × Nat × Nat => n - x_.1) (0, ([] : List IT), none, 0, 0) (show (0) ≤ n ∧ (([] : List IT)).map (·.t) = ts.take (0) from ⟨by omega, rfl⟩) (by kernel_rfl) (by kernel_rfl) ?_
  rintro ⟨i, its, Ao, gw, co⟩ hinv4_
  replace hinv4_ : i ≤ n ∧ its.map (·.t) = ts.take i := hinv4_
  refine cont_norm [(0, .slice A n cap), (2, .pointer (some ⟨b1, 0, none⟩)), (4, .pointer (some ⟨b2, 0, none⟩)), (5, .int .i64 (i : Int))] [.gen (bunO i (IT.pxs its)), .gen (bunO i (IT.hds 118 its)), .gen (rowE (Ao) gw i co 103 14 (dvals IT.cells its) true), .cells b2 [.int .i64 0, .slice Ao i co] 29 true, .cells b1 [.int .i64 0, .slice none 0 0] 29 true, .gen (rdE (A) g o n 14 (dvals TS.cells ts)), .gen (subE n (TS.pxs ts))] (by kernel_rfl) rfl ?_
  obtain ⟨hi, hmap⟩ := hinv4_
  have hlen := map_len hmap (by omega)
  refine cont_seq ?_
  refine cont_seq ?_
  refine cont_region 4 rfl ?_
  refine bS [0, 0, 0, 0] 4 0 [(0, .slice A n cap), (2, .pointer (some ⟨b1, 0, none⟩)), (4, .pointer (some ⟨b2, 0, none⟩)), (5, .int .i64 (i : Int)), (11, .bool (decide ((i : Int) < (n : Int))))] ?_
  refine cont_done ?_
  refine then_normal ?_
  refine cont_split 11 (decide ((i : Int) < (n : Int))) rfl (fun c5_ => ?_) (fun c5_ => ?_)
  ·
    replace c5_ := of_decide_eq_true c5_
    refine cont_true rfl ?_
    refine cont_skip ?_
    refine then_normal ?_
    refine cont_seq ?_
    refine cont_block ?_
    refine cont_seq ?_
    refine cont_region 6 rfl ?_
    have htk := hts _ (dget_mem (l := ts) (i := i) (by omega))
    generalize ht : dget ts i = t at *
    obtain ⟨htw1, htw2⟩ : 1 ≤ t.W ∧ t.W ≤ 16 := ⟨htk.img.w1, htk.w16⟩
    obtain ⟨hth1, hth2⟩ : 1 ≤ t.H ∧ t.H ≤ 16 := ⟨htk.img.h1, htk.h16⟩
    obtain ⟨hts1, hts2⟩ := htk.s_
    obtain ⟨htx1, htx2⟩ := htk.x_
    obtain ⟨hty1, hty2⟩ := htk.y_
    obtain ⟨hta1, hta2⟩ := htk.a_
    have htl := htk.img.le
    refine cont_see 6 (.gen (rdE (some ⟨t.r, 0, none⟩) t.r 0 t.n 1 (ivals .u32 t.px))) rfl rfl (by rw [← ht]; exact Vw.subAt i (by omega) rfl rfl) rfl ?_
    refine cont_norm [(0, .slice A n cap), (2, .pointer (some ⟨b1, 0, none⟩)), (4, .pointer (some ⟨b2, 0, none⟩)), (5, .int .i64 (i : Int)), (11, .bool true)] [.gen (rdE (some ⟨t.r, 0, none⟩) t.r 0 t.n 1 (ivals .u32 t.px)), .gen (bunO i (IT.pxs its)), .gen (bunO i (IT.hds 118 its)), .gen (rowE (Ao) gw i co 103 14 (dvals IT.cells its) true), .cells b2 [.int .i64 0, .slice Ao i co] 29 true, .cells b1 [.int .i64 0, .slice none 0 0] 29 true, .gen (rdE (A) g o n 14 (dvals TS.cells ts)), .gen (subE n (TS.pxs ts))] (by kernel_rfl) rfl ?_
    refine bS [0, 0] 2 4 [(0, .slice A n cap), (2, .pointer (some ⟨b1, 0, none⟩)), (4, .pointer (some ⟨b2, 0, none⟩)), (5, .int .i64 (i : Int)), (14, .slice A n cap), (15, .int .i64 (i : Int))] ?_
    refine pl_step 3 3 rfl rfl ?_
    refine cont_recast 14 (.slice A n cap) (.slice (some ⟨g, o, none⟩) n cap) rfl (by rw [hra (by omega)]) ?_
    refine sem_step 16 (Instr.indexAt 25 (.slice (some ⟨g, o, none⟩) n cap) (.int .i64 (i : Int))) (.pointer (some ⟨g, o + i * 14, none⟩)) (by kernel_rfl) (fun w hT => run_indexAt (e := 60) (sz := 14) _ (by kernel_rfl) (by kernel_rfl) (by omega) (by omega) (by omega) w) ?_
    refine pl_step 4 2 rfl rfl ?_
    refine sem_step 17 (Instr.loadAt 60 (.pointer (some ⟨g, o + i * 14, none⟩))) (.agg #[.bool true, .int .i64 t.W, .int .i64 t.H, .slice (some ⟨t.r, 0, none⟩) t.n t.cap, .int .i64 t.X, .int .i64 t.Y, .int .i64 t.s, .int .i64 t.al, .int .i64 t.ca, .int .i64 t.cb, .int .i64 t.cc, .int .i64 t.cd, .slice t.A t.k t.cp, .string ⟨#[]⟩]) (by kernel_rfl) (fun w hT => run_loadN (m := 14) (cs := [.bool true, .int .i64 t.W, .int .i64 t.H, .slice (some ⟨t.r, 0, none⟩) t.n t.cap, .int .i64 t.X, .int .i64 t.Y, .int .i64 t.s, .int .i64 t.al, .int .i64 t.ca, .int .i64 t.cb, .int .i64 t.cc, .int .i64 t.cd, .slice t.A t.k t.cp, .string ⟨#[]⟩]) (by kernel_rfl) (by kernel_rfl) rfl (by have h_ := Rd.dcell TS.size (hT.ok 6 _ rfl) (i := i) (by omega); rw [ht] at h_; exact h_)) ?_
    refine batch1 [0, 0] 6 0 (fun b6 => [(0, .slice A n cap), (2, .pointer (some ⟨b1, 0, none⟩)), (4, .pointer (some ⟨b2, 0, none⟩)), (5, .int .i64 (i : Int)), (6, .pointer (some ⟨b6, 0, none⟩))]) (fun b6 => [.cells b6 [.bool true, .int .i64 t.W, .int .i64 t.H, .slice (some ⟨t.r, 0, none⟩) t.n t.cap, .int .i64 t.X, .int .i64 t.Y, .int .i64 t.s, .int .i64 t.al, .int .i64 t.ca, .int .i64 t.cb, .int .i64 t.cc, .int .i64 t.cd, .slice t.A t.k t.cp, .string ⟨#[]⟩] 60 true, .gen (rdE (some ⟨t.r, 0, none⟩) t.r 0 t.n 1 (ivals .u32 t.px)), .gen (bunO i (IT.pxs its)), .gen (bunO i (IT.hds 118 its)), .gen (rowE (Ao) gw i co 103 14 (dvals IT.cells its) true), .cells b2 [.int .i64 0, .slice Ao i co] 29 true, .cells b1 [.int .i64 0, .slice none 0 0] 29 true, .gen (rdE (A) g o n 14 (dvals TS.cells ts)), .gen (subE n (TS.pxs ts))]) rfl rfl [0, 2, 4, 5, 6] (fun _ => rfl) (fun b6 => by kernel_rfl) (fun b6 => by kernel_rfl) (fun b6 => ?_)
    refine cont_done ?_
    refine then_normal ?_
    refine cont_seq ?_
    refine cont_region 4 rfl ?_
    refine bS [0, 0] 2 2 [(0, .slice A n cap), (2, .pointer (some ⟨b1, 0, none⟩)), (4, .pointer (some ⟨b2, 0, none⟩)), (5, .int .i64 (i : Int)), (6, .pointer (some ⟨b6, 0, none⟩)), (19, .agg #[.int .i64 t.W, .int .i64 t.H, .slice (some ⟨t.r, 0, none⟩) t.n t.cap])] ?_
    refine pl_step 3 1 rfl rfl ?_
    refine call_gen (d := 20) (α := Nat × Nat) (fun x_ => .pointer (some ⟨x_.1, 0, none⟩)) (fun x_ => [.cells x_.1 [.int .i64 t.W, .int .i64 t.H, .slice (some ⟨x_.2, 0, none⟩) t.n t.n] 118 true, .gen (rowE (some ⟨x_.2, 0, none⟩) x_.2 t.n t.n 24 1 (ivals .u32 t.px) true), .cells b6 [.bool true, .int .i64 t.W, .int .i64 t.H, .slice (some ⟨t.r, 0, none⟩) t.n t.cap, .int .i64 t.X, .int .i64 t.Y, .int .i64 t.s, .int .i64 t.al, .int .i64 t.ca, .int .i64 t.cb, .int .i64 t.cc, .int .i64 t.cd, .slice t.A t.k t.cp, .string ⟨#[]⟩] 60 true, .gen (rdE (some ⟨t.r, 0, none⟩) t.r 0 t.n 1 (ivals .u32 t.px)), .gen (bunO i (IT.pxs its)), .gen (bunO i (IT.hds 118 its)), .gen (rowE (Ao) gw i co 103 14 (dvals IT.cells its) true), .cells b2 [.int .i64 0, .slice Ao i co] 29 true, .cells b1 [.int .i64 0, .slice none 0 0] 29 true, .gen (rdE (A) g o n 14 (dvals TS.cells ts)), .gen (subE n (TS.pxs ts))]) (fun _ => True) (by kernel_rfl) (fun w hT => (bld t.W t.H t.r t.n t.cap t.px w (hT.view (.cons (i := 1) rfl Vw.rd .nil) (by decide)) htk.img htk.may).mono fun e w' ⟨b_, q_, he_, hi_⟩ => ⟨(b_, q_), he_, trivial, hT.addImg hi_⟩) ?_
    rintro ⟨bl7, bq7⟩ -
    refine cont_norm [(0, .slice A n cap), (2, .pointer (some ⟨b1, 0, none⟩)), (4, .pointer (some ⟨b2, 0, none⟩)), (5, .int .i64 (i : Int)), (6, .pointer (some ⟨b6, 0, none⟩)), (19, .agg #[.int .i64 t.W, .int .i64 t.H, .slice (some ⟨t.r, 0, none⟩) t.n t.cap]), (20, .pointer (some ⟨bl7, 0, none⟩))] [.cells bl7 [.int .i64 t.W, .int .i64 t.H, .slice (some ⟨bq7, 0, none⟩) t.n t.n] 118 true, .gen (rowE (some ⟨bq7, 0, none⟩) bq7 t.n t.n 24 1 (ivals .u32 t.px) true), .cells b6 [.bool true, .int .i64 t.W, .int .i64 t.H, .slice (some ⟨t.r, 0, none⟩) t.n t.cap, .int .i64 t.X, .int .i64 t.Y, .int .i64 t.s, .int .i64 t.al, .int .i64 t.ca, .int .i64 t.cb, .int .i64 t.cc, .int .i64 t.cd, .slice t.A t.k t.cp, .string ⟨#[]⟩] 60 true, .gen (rdE (some ⟨t.r, 0, none⟩) t.r 0 t.n 1 (ivals .u32 t.px)), .gen (bunO i (IT.pxs its)), .gen (bunO i (IT.hds 118 its)), .gen (rowE (Ao) gw i co 103 14 (dvals IT.cells its) true), .cells b2 [.int .i64 0, .slice Ao i co] 29 true, .cells b1 [.int .i64 0, .slice none 0 0] 29 true, .gen (rdE (A) g o n 14 (dvals TS.cells ts)), .gen (subE n (TS.pxs ts))] (by kernel_rfl) rfl ?_
    refine bS [0] 4 0 [(0, .slice A n cap), (2, .pointer (some ⟨b1, 0, none⟩)), (4, .pointer (some ⟨b2, 0, none⟩)), (5, .int .i64 (i : Int)), (6, .pointer (some ⟨b6, 0, none⟩)), (7, .pointer (some ⟨bl7, 0, none⟩))] ?_
    refine cont_done ?_
    refine then_normal ?_
    refine cont_seq ?_
    refine cont_seq ?_
    refine cont_region 2 rfl ?_
    refine bS [0, 0] 2 0 [(0, .slice A n cap), (2, .pointer (some ⟨b1, 0, none⟩)), (4, .pointer (some ⟨b2, 0, none⟩)), (5, .int .i64 (i : Int)), (6, .pointer (some ⟨b6, 0, none⟩)), (7, .pointer (some ⟨bl7, 0, none⟩)), (22, .bool false)] ?_
    refine cont_done ?_
    refine then_normal ?_
    refine cont_false rfl ?_
    refine cont_skip ?_
    refine then_normal ?_
    refine cont_region 19 rfl ?_
    refine batch1 [0, 7, 0, 0, 2, 0, 2, 0, 2, 0, 2, 0, 2, 0, 0, 0] 16 3 (fun b8 => [(0, .slice A n cap), (2, .pointer (some ⟨b1, 0, none⟩)), (4, .pointer (some ⟨b2, 0, none⟩)), (5, .int .i64 (i : Int)), (25, .slice Ao i co), (39, .slice (some ⟨b8, 0, none⟩) 1 1)]) (fun b8 => [.cells b8 [.int .i64 0, .int .i64 0, .pointer (some ⟨bl7, 0, none⟩), .int .i64 t.X, .int .i64 t.Y, .int .i64 t.s, .int .i64 t.al, .int .i64 t.ca, .int .i64 t.cb, .int .i64 t.cc, .int .i64 t.cd, .slice t.A t.k t.cp, .string ⟨#[]⟩, .int .i64 0] 103 true, .cells bl7 [.int .i64 t.W, .int .i64 t.H, .slice (some ⟨bq7, 0, none⟩) t.n t.n] 118 true, .gen (rowE (some ⟨bq7, 0, none⟩) bq7 t.n t.n 24 1 (ivals .u32 t.px) true), .cells b6 [.bool true, .int .i64 t.W, .int .i64 t.H, .slice (some ⟨t.r, 0, none⟩) t.n t.cap, .int .i64 t.X, .int .i64 t.Y, .int .i64 t.s, .int .i64 t.al, .int .i64 t.ca, .int .i64 t.cb, .int .i64 t.cc, .int .i64 t.cd, .slice t.A t.k t.cp, .string ⟨#[]⟩] 60 true, .gen (rdE (some ⟨t.r, 0, none⟩) t.r 0 t.n 1 (ivals .u32 t.px)), .gen (bunO i (IT.pxs its)), .gen (bunO i (IT.hds 118 its)), .gen (rowE (Ao) gw i co 103 14 (dvals IT.cells its) true), .cells b2 [.int .i64 0, .slice Ao i co] 29 true, .cells b1 [.int .i64 0, .slice none 0 0] 29 true, .gen (rdE (A) g o n 14 (dvals TS.cells ts)), .gen (subE n (TS.pxs ts))]) rfl rfl [0, 2, 4, 5, 25, 39] (fun _ => rfl) (fun b8 => by kernel_rfl) (fun b8 => by kernel_rfl) (fun b8 => ?_)
    refine cont_forget 3 rfl ?_
    refine pl_step 17 2 rfl rfl ?_
    refine sem_stepW (α := Option Addr × Nat × Nat) 40 (Builtin.append_ #[27, 27] 27 #[.slice Ao i co, .slice (some ⟨b8, 0, none⟩) 1 1]) (fun x_ => .slice x_.1 (i + 1) x_.2.2) (fun x_ => [.cells b8 [.int .i64 0, .int .i64 0, .pointer (some ⟨bl7, 0, none⟩), .int .i64 t.X, .int .i64 t.Y, .int .i64 t.s, .int .i64 t.al, .int .i64 t.ca, .int .i64 t.cb, .int .i64 t.cc, .int .i64 t.cd, .slice t.A t.k t.cp, .string ⟨#[]⟩, .int .i64 0] 103 true, .cells bl7 [.int .i64 t.W, .int .i64 t.H, .slice (some ⟨bq7, 0, none⟩) t.n t.n] 118 true, .gen (rowE (some ⟨bq7, 0, none⟩) bq7 t.n t.n 24 1 (ivals .u32 t.px) true), .gen (rdE (some ⟨t.r, 0, none⟩) t.r 0 t.n 1 (ivals .u32 t.px)), .gen (bunO i (IT.pxs its)), .gen (bunO i (IT.hds 118 its)), .gen (rowE (x_.1) x_.2.1 (i + 1) x_.2.2 103 14 (dvals IT.cells (its ++ [(⟨bl7, bq7, t⟩ : IT)])) true), .cells b2 [.int .i64 0, .slice Ao i co] 29 true, .cells b1 [.int .i64 0, .slice none 0 0] 29 true, .gen (rdE (A) g o n 14 (dvals TS.cells ts)), .gen (subE n (TS.pxs ts))]) (fun _ => True) (by kernel_rfl) (fun w hT => append_own (n' := (i + 1)) (z := .agg #[.int .i64 0, .int .i64 0, .pointer none, .int .i64 0, .int .i64 0, .int .i64 0, .int .i64 0, .int .i64 0, .int .i64 0, .int .i64 0, .int .i64 0, .slice none 0 0, .string ⟨#[]⟩, .int .i64 0]) hT (i := 6) (bytes := 136) rfl (by kernel_rfl) (by kernel_rfl) rfl (by decide) (by decide) (Rd.ofCells (vals := dvals IT.cells [(⟨bl7, bq7, t⟩ : IT)]) (hT.ok 0 _ rfl) rfl rfl) (dvals_one IT.one [(⟨bl7, bq7, t⟩ : IT)]) (by omega) (dvals_append its [(⟨bl7, bq7, t⟩ : IT)]) rfl) ?_
    rintro ⟨A9, g9, cp9⟩ -
    refine cont_norm [(0, .slice A n cap), (2, .pointer (some ⟨b1, 0, none⟩)), (4, .pointer (some ⟨b2, 0, none⟩)), (5, .int .i64 (i : Int)), (25, .slice Ao i co), (39, .slice (some ⟨b8, 0, none⟩) 1 1), (40, .slice A9 (i + 1) cp9)] [.cells b8 [.int .i64 0, .int .i64 0, .pointer (some ⟨bl7, 0, none⟩), .int .i64 t.X, .int .i64 t.Y, .int .i64 t.s, .int .i64 t.al, .int .i64 t.ca, .int .i64 t.cb, .int .i64 t.cc, .int .i64 t.cd, .slice t.A t.k t.cp, .string ⟨#[]⟩, .int .i64 0] 103 true, .cells bl7 [.int .i64 t.W, .int .i64 t.H, .slice (some ⟨bq7, 0, none⟩) t.n t.n] 118 true, .gen (rowE (some ⟨bq7, 0, none⟩) bq7 t.n t.n 24 1 (ivals .u32 t.px) true), .gen (rdE (some ⟨t.r, 0, none⟩) t.r 0 t.n 1 (ivals .u32 t.px)), .gen (bunO i (IT.pxs its)), .gen (bunO i (IT.hds 118 its)), .gen (rowE (A9) g9 (i + 1) cp9 103 14 (dvals IT.cells (its ++ [(⟨bl7, bq7, t⟩ : IT)])) true), .cells b2 [.int .i64 0, .slice Ao i co] 29 true, .cells b1 [.int .i64 0, .slice none 0 0] 29 true, .gen (rdE (A) g o n 14 (dvals TS.cells ts)), .gen (subE n (TS.pxs ts))] (by kernel_rfl) rfl ?_
    refine cont_fact (F := (0 < (i + 1) → (A9 : Option Addr) = some ⟨g9, 0, none⟩) ∧ (its ++ [(⟨bl7, bq7, t⟩ : IT)]).length = (i + 1) ∧ (i + 1) ≤ cp9 ∧ cp9 ≤ maxLen) (fun w hT => Row.factsD IT.size (by decide) (hT.ok 6 _ rfl)) (fun hr10_ => ?_)
    obtain ⟨hr10_a, hr10_l, hr10_c, hr10_m⟩ := hr10_
    unfold maxLen at hr10_m
    refine batch0 [0, 7] 19 0 [(0, .slice A n cap), (2, .pointer (some ⟨b1, 0, none⟩)), (4, .pointer (some ⟨b2, 0, none⟩)), (5, .int .i64 (i : Int))] [.cells b8 [.int .i64 0, .int .i64 0, .pointer (some ⟨bl7, 0, none⟩), .int .i64 t.X, .int .i64 t.Y, .int .i64 t.s, .int .i64 t.al, .int .i64 t.ca, .int .i64 t.cb, .int .i64 t.cc, .int .i64 t.cd, .slice t.A t.k t.cp, .string ⟨#[]⟩, .int .i64 0] 103 true, .cells bl7 [.int .i64 t.W, .int .i64 t.H, .slice (some ⟨bq7, 0, none⟩) t.n t.n] 118 true, .gen (rowE (some ⟨bq7, 0, none⟩) bq7 t.n t.n 24 1 (ivals .u32 t.px) true), .gen (rdE (some ⟨t.r, 0, none⟩) t.r 0 t.n 1 (ivals .u32 t.px)), .gen (bunO i (IT.pxs its)), .gen (bunO i (IT.hds 118 its)), .gen (rowE (A9) g9 (i + 1) cp9 103 14 (dvals IT.cells (its ++ [(⟨bl7, bq7, t⟩ : IT)])) true), .cells b2 [.int .i64 0, .slice A9 (i + 1) cp9] 29 true, .cells b1 [.int .i64 0, .slice none 0 0] 29 true, .gen (rdE (A) g o n 14 (dvals TS.cells ts)), .gen (subE n (TS.pxs ts))] rfl rfl (by kernel_rfl) (by kernel_rfl) ?_
    refine cont_forget 0 rfl ?_
    refine cont_done ?_
    refine blk_normal ?_
    refine then_normal ?_
    refine cont_region 3 rfl ?_
    refine bS [0, 0] 2 1 [(0, .slice A n cap), (2, .pointer (some ⟨b1, 0, none⟩)), (4, .pointer (some ⟨b2, 0, none⟩)), (13, .int .i64 (IntKind.i64.wrap ((i : Int) + 1)))] ?_
    refine cont_recast 13 (.int .i64 (IntKind.i64.wrap ((i : Int) + 1))) (.int .i64 ((i : Int) + 1)) rfl (wrapI (by omega) (by omega)) ?_
    refine bS [0] 3 0 [(0, .slice A n cap), (2, .pointer (some ⟨b1, 0, none⟩)), (4, .pointer (some ⟨b2, 0, none⟩)), (5, .int .i64 ((i : Int) + 1))] ?_
    refine cont_done ?_
    refine then_normal ?_
    obtain ⟨x, hx⟩ : ∃ x_ : IT, x_ = (⟨bl7, bq7, t⟩ : IT) := ⟨_, rfl⟩
    refine cont_rowEqD (cel := IT.cells) (z := 14) 5 (its ++ [(⟨bl7, bq7, t⟩ : IT)]) (its ++ [x]) rfl (by rw [hx]) ?_
    refine cont_norm [(0, .slice A n cap), (2, .pointer (some ⟨b1, 0, none⟩)), (4, .pointer (some ⟨b2, 0, none⟩)), (5, .int .i64 ((i : Int) + 1))] [.cells bl7 [.int .i64 t.W, .int .i64 t.H, .slice (some ⟨bq7, 0, none⟩) t.n t.n] 118 true, .gen (rowE (some ⟨bq7, 0, none⟩) bq7 t.n t.n 24 1 (ivals .u32 t.px) true), .gen (rdE (some ⟨t.r, 0, none⟩) t.r 0 t.n 1 (ivals .u32 t.px)), .gen (bunO i (IT.pxs its)), .gen (bunO i (IT.hds 118 its)), .gen (rowE (A9) g9 (i + 1) cp9 103 14 (dvals IT.cells (its ++ [x])) true), .cells b2 [.int .i64 0, .slice A9 (i + 1) cp9] 29 true, .cells b1 [.int .i64 0, .slice none 0 0] 29 true, .gen (rdE (A) g o n 14 (dvals TS.cells ts)), .gen (subE n (TS.pxs ts))] (by kernel_rfl) rfl ?_
    have hpa := IT.pxs_app (t := x) hlen
    have hha := IT.hds_app (tI := 118) (t := x) hlen
    refine cont_bun 1 3 i (IT.pxs its) (IT.pxs (its ++ [x])) x.pxG rfl rfl (by rw [hx]; exact Vw.rowRd) rfl (by decide) hpa.1 hpa.2 ?_
    refine cont_norm [(0, .slice A n cap), (2, .pointer (some ⟨b1, 0, none⟩)), (4, .pointer (some ⟨b2, 0, none⟩)), (5, .int .i64 ((i : Int) + 1))] [.cells bl7 [.int .i64 t.W, .int .i64 t.H, .slice (some ⟨bq7, 0, none⟩) t.n t.n] 118 true, .gen (rdE (some ⟨t.r, 0, none⟩) t.r 0 t.n 1 (ivals .u32 t.px)), .gen (bunO (i + 1) (IT.pxs (its ++ [x]))), .gen (bunO i (IT.hds 118 its)), .gen (rowE (A9) g9 (i + 1) cp9 103 14 (dvals IT.cells (its ++ [x])) true), .cells b2 [.int .i64 0, .slice A9 (i + 1) cp9] 29 true, .cells b1 [.int .i64 0, .slice none 0 0] 29 true, .gen (rdE (A) g o n 14 (dvals TS.cells ts)), .gen (subE n (TS.pxs ts))] (by kernel_rfl) rfl ?_
    refine cont_bun 0 3 i (IT.hds 118 its) (IT.hds 118 (its ++ [x])) (x.hdG 118) rfl rfl (by rw [hx]; exact Vw.cellsRo) rfl (by decide) hha.1 hha.2 ?_
    refine cont_norm [(0, .slice A n cap), (2, .pointer (some ⟨b1, 0, none⟩)), (4, .pointer (some ⟨b2, 0, none⟩)), (5, .int .i64 ((i : Int) + 1))] [.gen (rdE (some ⟨t.r, 0, none⟩) t.r 0 t.n 1 (ivals .u32 t.px)), .gen (bunO (i + 1) (IT.pxs (its ++ [x]))), .gen (bunO (i + 1) (IT.hds 118 (its ++ [x]))), .gen (rowE (A9) g9 (i + 1) cp9 103 14 (dvals IT.cells (its ++ [x])) true), .cells b2 [.int .i64 0, .slice A9 (i + 1) cp9] 29 true, .cells b1 [.int .i64 0, .slice none 0 0] 29 true, .gen (rdE (A) g o n 14 (dvals TS.cells ts)), .gen (subE n (TS.pxs ts))] (by kernel_rfl) rfl ?_
    refine cont_forget 0 rfl ?_
    refine cont_again (i + 1, its ++ [x], A9, g9, cp9) (show (i + 1) ≤ n ∧ (its ++ [x]).map (·.t) = ts.take (i + 1) from ⟨by omega, map_take hmap (by omega) (by rw [hx, ht])⟩) (show n - (i + 1) < n - i from by omega) (by kernel_rfl) (by kernel_rfl)
  replace c5_ := of_decide_eq_false c5_
  refine cont_false rfl ?_
  refine cont_exit ?_
  refine then_exit ?_
  refine then_exit ?_
  refine blk_exit ?_
  refine then_normal ?_
  refine cont_seq ?_
  refine cont_region 3 rfl ?_
  refine batch0 [3, 4, 0] 3 0 [(2, .pointer (some ⟨b1, 0, none⟩)), (3, .bool true)] [.gen (bunO i (IT.pxs its)), .gen (bunO i (IT.hds 118 its)), .gen (rowE (Ao) gw i co 103 14 (dvals IT.cells its) true), .cells b2 [.int .i64 0, .slice Ao i co] 29 true, .cells b1 [.int .i64 0, .slice Ao i co] 29 true, .gen (rdE (A) g o n 14 (dvals TS.cells ts)), .gen (subE n (TS.pxs ts))] rfl rfl (by kernel_rfl) (by kernel_rfl) ?_
  refine cont_forget 3 rfl ?_
  refine cont_done ?_
  refine then_normal ?_
  refine cont_ret ?_
  refine ret_two (.inl rfl) rfl 3 0 (.agg #[.int .i64 0, .slice Ao i co]) (.bool true) (by kernel_rfl) (by kernel_rfl) (by kernel_rfl) (by kernel_rfl) (fun w hT => ?_)
  replace hT := hT.erase 5 (fun e h hw => by cases h; first | rfl | cases hw)
  replace hT := hT.erase 4 (fun e h hw => by cases h; first | rfl | cases hw)
  replace hT := hT.erase 3 (fun e h hw => by cases h; first | rfl | cases hw)
  have hin : i = n := by omega
  subst hin
  rw [List.take_of_length_le (by omega)] at hmap
  exact ⟨_, _, _, its, rfl, hmap, hT⟩

theorem naivePixel (K : Int) (A : Option Addr) (g o n cap : Nat) (its : List IT) (ts : List TS) (x y gc : Int) (w : World) (hT0 : Tab w w [.gen (rdE (A) g o n 14 (dvals IT.cells its)), .gen (subE n (IT.hds 118 its)), .gen (subE n (IT.pxs its))]) (hmap : its.map (·.t) = ts) (hts : ∀ t ∈ ts, TS.Ok t) (hn : n ≤ 100) (hqx : -2000000 ≤ x ∧ x ≤ 2000000) (hqy : -2000000 ≤ y ∧ y ≤ 2000000) (hg0 : 0 ≤ gc) (hg1 : gc < 4294967296) :
    Calls Try.prog 14 #[.agg #[.int .i64 K, .slice A n cap], .int .i64 x, .int .i64 y, .int .u32 gc] w fun e w' => e = .returned (.int .u32 (pixS ts x y gc)) ∧ Below w.heap.size w w' := by
  obtain ⟨hra, hrl⟩ := Rd.factsD IT.size (by decide) (hT0.ok 0 _ rfl)
  have hits := okIT hmap hts
  have htl : ts.length = n := by rw [← hmap, List.length_map]; exact hrl
  refine enter 39 [(0, .agg #[.int .i64 K, .slice A n cap]), (1, .int .i64 x), (2, .int .i64 y), (3, .int .u32 gc)] [.gen (rdE (A) g o n 14 (dvals IT.cells its)), .gen (subE n (IT.hds 118 its)), .gen (subE n (IT.pxs its))] Try.func14 rfl Try.ntmps14 rfl (by kernel_rfl) hT0 ?_
  refine cont_seq ?_
  refine cont_region 2 rfl ?_
  refine batch1 [0, 0] 2 0 (fun b1 => [(1, .int .i64 x), (2, .int .i64 y), (3, .int .u32 gc), (4, .pointer (some ⟨b1, 0, none⟩))]) (fun b1 => [.cells b1 [.int .i64 K, .slice A n cap] 29 true, .gen (rdE (A) g o n 14 (dvals IT.cells its)), .gen (subE n (IT.hds 118 its)), .gen (subE n (IT.pxs its))]) rfl rfl [1, 2, 3, 4] (fun _ => rfl) (fun b1 => by kernel_rfl) (fun b1 => by kernel_rfl) (fun b1 => ?_)
  refine cont_done ?_
  refine then_normal ?_
  refine cont_seq ?_
  refine cont_region 1 rfl ?_
  refine bS [0] 1 0 [(1, .int .i64 x), (2, .int .i64 y), (3, .int .u32 gc), (4, .pointer (some ⟨b1, 0, none⟩)), (9, .slice none 0 0)] ?_
  refine cont_done ?_
  refine then_normal ?_
  refine cont_seq ?_
  refine cont_seq ?_
  refine cont_region 4 rfl ?_
  refine bS [0, 0, 0, 0] 4 0 [(1, .int .i64 x), (2, .int .i64 y), (3, .int .u32 gc), (9, .slice none 0 0), (15, .slice A n cap), (16, .int .i64 (n : Int)), (17, .int .i64 0)] ?_
  refine cont_forget 0 rfl ?_
  refine cont_done ?_
  refine then_normal ?_
  refine cont_block ?_
  refine cont_nilrow 24 1 ?_
  refine cont_norm [(1, .int .i64 x), (2, .int .i64 y), (3, .int .u32 gc), (9, .slice none 0 0), (15, .slice A n cap), (16, .int .i64 (n : Int)), (17, .int .i64 0)] [.gen (rowE (none) 0 0 0 24 1 (ivals .u32 []) true), .gen (rdE (A) g o n 14 (dvals IT.cells its)), .gen (subE n (IT.hds 118 its)), .gen (subE n (IT.pxs its))] (by kernel_rfl) rfl ?_
  refine cont_rowEq (k := .u32) 0 ([]) (colsS (ts.take 0) x y) rfl rfl ?_
  refine cont_loop (α := Nat × Option Addr × Nat × Nat × Nat) (fun x_ : Nat × Option Addr × Nat × Nat × Nat => x_.1 ≤ n) (fun x_ : Nat × Option Addr × Nat × Nat × Nat => [(1, .int .i64 x), (2, .int .i64 y), (3, .int .u32 gc), (9, .slice x_.2.1 x_.2.2.2.1 x_.2.2.2.2), (15, .slice A n cap), (16, .int .i64 (n : Int)), (17, .int .i64 (x_.1 : Int))]) (fun x_ : Nat × Option Addr × Nat × Nat × Nat => [.gen (rowE (x_.2.1) x_.2.2.1 x_.2.2.2.1 x_.2.2.2.2 24 1 (ivals .u32 (colsS (ts.take x_.1) x y)) true), .gen (rdE (A) g o n 14 (dvals IT.cells its)), .gen (subE n (IT.hds 118 its)), .gen (subE n (IT.pxs its))]) (fun x_ : Nat × Option Addr × Nat × Nat × Nat => n - x_.1) (0, none, 0, 0, 0) (show (0) ≤ n from (by omega)) (by kernel_rfl) (by kernel_rfl) ?_
  rintro ⟨i, Ac, gc9, kc, cc9⟩ hinv3_
  replace hinv3_ : i ≤ n := hinv3_
  refine cont_norm [(1, .int .i64 x), (2, .int .i64 y), (3, .int .u32 gc), (9, .slice Ac kc cc9), (15, .slice A n cap), (16, .int .i64 (n : Int)), (17, .int .i64 (i : Int))] [.gen (rowE (Ac) gc9 kc cc9 24 1 (ivals .u32 (colsS (ts.take i) x y)) true), .gen (rdE (A) g o n 14 (dvals IT.cells its)), .gen (subE n (IT.hds 118 its)), .gen (subE n (IT.pxs its))] (by kernel_rfl) rfl ?_
  have hi := hinv3_
  have hcl := colsS_len (ts.take i) x y
  rw [List.length_take] at hcl
  refine cont_seq ?_
  refine cont_region 1 rfl ?_
  refine bS [0] 1 0 [(1, .int .i64 x), (2, .int .i64 y), (3, .int .u32 gc), (9, .slice Ac kc cc9), (15, .slice A n cap), (16, .int .i64 (n : Int)), (17, .int .i64 (i : Int)), (18, .bool (decide ((i : Int) < (n : Int))))] ?_
  refine cont_done ?_
  refine then_normal ?_
  refine cont_seq ?_
  refine cont_split 18 (decide ((i : Int) < (n : Int))) rfl (fun c4_ => ?_) (fun c4_ => ?_)
  ·
    replace c4_ := of_decide_eq_true c4_
    refine cont_true rfl ?_
    refine cont_skip ?_
    refine then_normal ?_
    refine cont_seq ?_
    refine cont_block ?_
    refine cont_seq ?_
    refine cont_region 4 rfl ?_
    have hitk := hits _ (dget_mem (l := its) (i := i) (by omega))
    generalize hit : dget its i = it at *
    obtain ⟨hitw1, hitw2⟩ : 1 ≤ it.t.W ∧ it.t.W ≤ 16 := ⟨hitk.img.w1, hitk.w16⟩
    obtain ⟨hith1, hith2⟩ : 1 ≤ it.t.H ∧ it.t.H ≤ 16 := ⟨hitk.img.h1, hitk.h16⟩
    obtain ⟨hits1, hits2⟩ := hitk.s_
    obtain ⟨hitx1, hitx2⟩ := hitk.x_
    obtain ⟨hity1, hity2⟩ := hitk.y_
    obtain ⟨hita1, hita2⟩ := hitk.a_
    have hitl := hitk.img.le
    refine cont_see 3 (.gen (rdE (some ⟨it.q, 0, none⟩) it.q 0 it.t.n 1 (ivals .u32 it.t.px))) rfl rfl (by rw [← hit]; exact Vw.subAt i (by omega) rfl rfl) rfl ?_
    refine cont_norm [(1, .int .i64 x), (2, .int .i64 y), (3, .int .u32 gc), (9, .slice Ac kc cc9), (15, .slice A n cap), (16, .int .i64 (n : Int)), (17, .int .i64 (i : Int)), (18, .bool true)] [.gen (rdE (some ⟨it.q, 0, none⟩) it.q 0 it.t.n 1 (ivals .u32 it.t.px)), .gen (rowE (Ac) gc9 kc cc9 24 1 (ivals .u32 (colsS (ts.take i) x y)) true), .gen (rdE (A) g o n 14 (dvals IT.cells its)), .gen (subE n (IT.hds 118 its)), .gen (subE n (IT.pxs its))] (by kernel_rfl) rfl ?_
    refine cont_see 3 (.ro it.b [.int .i64 it.t.W, .int .i64 it.t.H, .slice (some ⟨it.q, 0, none⟩) it.t.n it.t.n] 118) rfl rfl (by rw [← hit]; exact Vw.subAtRo i (by omega) rfl) rfl ?_
    refine cont_norm [(1, .int .i64 x), (2, .int .i64 y), (3, .int .u32 gc), (9, .slice Ac kc cc9), (15, .slice A n cap), (16, .int .i64 (n : Int)), (17, .int .i64 (i : Int)), (18, .bool true)] [.ro it.b [.int .i64 it.t.W, .int .i64 it.t.H, .slice (some ⟨it.q, 0, none⟩) it.t.n it.t.n] 118, .gen (rdE (some ⟨it.q, 0, none⟩) it.q 0 it.t.n 1 (ivals .u32 it.t.px)), .gen (rowE (Ac) gc9 kc cc9 24 1 (ivals .u32 (colsS (ts.take i) x y)) true), .gen (rdE (A) g o n 14 (dvals IT.cells its)), .gen (subE n (IT.hds 118 its)), .gen (subE n (IT.pxs its))] (by kernel_rfl) rfl ?_
    have hti : dget ts i = it.t := by rw [← hit]; exact (dget_mapT hmap (by omega)).symm
    refine pl_step 1 3 rfl rfl ?_
    refine cont_recast 15 (.slice A n cap) (.slice (some ⟨g, o, none⟩) n cap) rfl (by rw [hra (by omega)]) ?_
    refine sem_step 19 (Instr.indexAt 27 (.slice (some ⟨g, o, none⟩) n cap) (.int .i64 (i : Int))) (.pointer (some ⟨g, o + i * 14, none⟩)) (by kernel_rfl) (fun w hT => run_indexAt (e := 103) (sz := 14) _ (by kernel_rfl) (by kernel_rfl) (by omega) (by omega) (by omega) w) ?_
    refine pl_step 2 2 rfl rfl ?_
    refine sem_step 20 (Instr.loadAt 103 (.pointer (some ⟨g, o + i * 14, none⟩))) (.agg #[.int .i64 0, .int .i64 0, .pointer (some ⟨it.b, 0, none⟩), .int .i64 it.t.X, .int .i64 it.t.Y, .int .i64 it.t.s, .int .i64 it.t.al, .int .i64 it.t.ca, .int .i64 it.t.cb, .int .i64 it.t.cc, .int .i64 it.t.cd, .slice it.t.A it.t.k it.t.cp, .string ⟨#[]⟩, .int .i64 0]) (by kernel_rfl) (fun w hT => run_loadN (m := 14) (cs := [.int .i64 0, .int .i64 0, .pointer (some ⟨it.b, 0, none⟩), .int .i64 it.t.X, .int .i64 it.t.Y, .int .i64 it.t.s, .int .i64 it.t.al, .int .i64 it.t.ca, .int .i64 it.t.cb, .int .i64 it.t.cc, .int .i64 it.t.cd, .slice it.t.A it.t.k it.t.cp, .string ⟨#[]⟩, .int .i64 0]) (by kernel_rfl) (by kernel_rfl) rfl (by have h_ := Rd.dcell IT.size (hT.ok 3 _ rfl) (i := i) (by omega); rw [hit] at h_; exact h_)) ?_
    refine batch1 [0, 0] 4 0 (fun b5 => [(1, .int .i64 x), (2, .int .i64 y), (3, .int .u32 gc), (9, .slice Ac kc cc9), (11, .pointer (some ⟨b5, 0, none⟩)), (15, .slice (some ⟨g, o, none⟩) n cap), (16, .int .i64 (n : Int)), (17, .int .i64 (i : Int))]) (fun b5 => [.cells b5 [.int .i64 0, .int .i64 0, .pointer (some ⟨it.b, 0, none⟩), .int .i64 it.t.X, .int .i64 it.t.Y, .int .i64 it.t.s, .int .i64 it.t.al, .int .i64 it.t.ca, .int .i64 it.t.cb, .int .i64 it.t.cc, .int .i64 it.t.cd, .slice it.t.A it.t.k it.t.cp, .string ⟨#[]⟩, .int .i64 0] 103 true, .ro it.b [.int .i64 it.t.W, .int .i64 it.t.H, .slice (some ⟨it.q, 0, none⟩) it.t.n it.t.n] 118, .gen (rdE (some ⟨it.q, 0, none⟩) it.q 0 it.t.n 1 (ivals .u32 it.t.px)), .gen (rowE (Ac) gc9 kc cc9 24 1 (ivals .u32 (colsS (ts.take i) x y)) true), .gen (rdE (A) g o n 14 (dvals IT.cells its)), .gen (subE n (IT.hds 118 its)), .gen (subE n (IT.pxs its))]) rfl rfl [1, 2, 3, 9, 11, 15, 16, 17] (fun _ => rfl) (fun b5 => by kernel_rfl) (fun b5 => by kernel_rfl) (fun b5 => ?_)
    refine cont_done ?_
    refine then_normal ?_
    refine cont_seq ?_
    refine cont_region 11 rfl ?_
    refine bS [0, 0] 2 9 [(1, .int .i64 x), (2, .int .i64 y), (3, .int .u32 gc), (9, .slice Ac kc cc9), (15, .slice (some ⟨g, o, none⟩) n cap), (16, .int .i64 (n : Int)), (17, .int .i64 (i : Int)), (23, .agg #[.pointer (some ⟨it.b, 0, none⟩), .int .i64 it.t.X, .int .i64 it.t.Y, .int .i64 it.t.s, .int .i64 it.t.al, .int .i64 it.t.ca, .int .i64 it.t.cb, .int .i64 it.t.cc, .int .i64 it.t.cd, .slice it.t.A it.t.k it.t.cp, .string ⟨#[]⟩])] ?_
    refine cont_forget 0 rfl ?_
    refine pl_step 3 8 rfl rfl ?_
    refine call_pure (d := 24) (.agg #[.pointer (some ⟨it.b, 0, none⟩), .int .i64 it.t.X, .int .i64 it.t.Y, .int .i64 it.t.s, .int .i64 it.t.al, .int .i64 it.t.ca, .int .i64 it.t.cb, .int .i64 it.t.cc, .int .i64 it.t.cd]) (by kernel_rfl) (fun w hT => surfLayer it.b it.t.X it.t.Y it.t.s it.t.al it.t.ca it.t.cb it.t.cc it.t.cd it.t.A it.t.k it.t.cp w) ?_
    refine bS [0, 0] 5 6 [(1, .int .i64 x), (2, .int .i64 y), (3, .int .u32 gc), (9, .slice Ac kc cc9), (15, .slice (some ⟨g, o, none⟩) n cap), (16, .int .i64 (n : Int)), (17, .int .i64 (i : Int)), (24, .agg #[.pointer (some ⟨it.b, 0, none⟩), .int .i64 it.t.X, .int .i64 it.t.Y, .int .i64 it.t.s, .int .i64 it.t.al, .int .i64 it.t.ca, .int .i64 it.t.cb, .int .i64 it.t.cc, .int .i64 it.t.cd]), (25, .int .i64 x), (26, .int .i64 y)] ?_
    refine pl_step 6 5 rfl rfl ?_
    refine call_pure (d := 27) (.tuple #[.int .u32 (pcolC it.t.W it.t.H it.t.X it.t.Y it.t.s it.t.al it.t.ca it.t.cb it.t.cc it.t.cd it.t.px x y), .bool (pcolB it.t.W it.t.H it.t.X it.t.Y it.t.s it.t.ca it.t.cb it.t.cc it.t.cd x y)]) (by kernel_rfl) (fun w hT => layColor it.b it.t.W it.t.H it.q it.t.n it.t.n it.t.px it.t.X it.t.Y it.t.s it.t.al it.t.ca it.t.cb it.t.cc it.t.cd x y w ⟨hT.ok 0 _ rfl, hT.ok 1 _ rfl, by omega⟩ hitk.img (by omega) (by omega) (by omega) (by omega) (by omega)) ?_
    refine bS [0, 0, 0, 0, 0] 11 0 [(1, .int .i64 x), (2, .int .i64 y), (3, .int .u32 gc), (9, .slice Ac kc cc9), (12, .int .u32 (pcolC it.t.W it.t.H it.t.X it.t.Y it.t.s it.t.al it.t.ca it.t.cb it.t.cc it.t.cd it.t.px x y)), (13, .bool (pcolB it.t.W it.t.H it.t.X it.t.Y it.t.s it.t.ca it.t.cb it.t.cc it.t.cd x y)), (15, .slice (some ⟨g, o, none⟩) n cap), (16, .int .i64 (n : Int)), (17, .int .i64 (i : Int))] ?_
    refine cont_done ?_
    refine then_normal ?_
    refine cont_seq ?_
    refine cont_region 1 rfl ?_
    refine bS [0] 1 0 [(1, .int .i64 x), (2, .int .i64 y), (3, .int .u32 gc), (9, .slice Ac kc cc9), (12, .int .u32 (pcolC it.t.W it.t.H it.t.X it.t.Y it.t.s it.t.al it.t.ca it.t.cb it.t.cc it.t.cd it.t.px x y)), (15, .slice (some ⟨g, o, none⟩) n cap), (16, .int .i64 (n : Int)), (17, .int .i64 (i : Int)), (30, .bool (pcolB it.t.W it.t.H it.t.X it.t.Y it.t.s it.t.ca it.t.cb it.t.cc it.t.cd x y))] ?_
    refine cont_done ?_
    refine then_normal ?_
    refine cont_split 30 (pcolB it.t.W it.t.H it.t.X it.t.Y it.t.s it.t.ca it.t.cb it.t.cc it.t.cd x y) rfl (fun c6_ => ?_) (fun c6_ => ?_)
    ·
      have hB_ : (dget ts i).sh x y = true := by rw [hti]; exact c6_
      refine cont_true rfl ?_
      refine cont_region 5 rfl ?_
      refine cont_fact (F := (0 < kc → (Ac : Option Addr) = some ⟨gc9, 0, none⟩) ∧ (colsS (ts.take i) x y).length = kc ∧ kc ≤ cc9 ∧ cc9 ≤ maxLen) (fun w hT => Row.facts (hT.ok 2 _ rfl)) (fun hr7_ => ?_)
      obtain ⟨hr7_a, hr7_l, hr7_c, hr7_m⟩ := hr7_
      unfold maxLen at hr7_m
      have hrc9 := hr7_a
      refine batch1 [0, 0, 0] 3 2 (fun b8 => [(1, .int .i64 x), (2, .int .i64 y), (3, .int .u32 gc), (15, .slice (some ⟨g, o, none⟩) n cap), (16, .int .i64 (n : Int)), (17, .int .i64 (i : Int)), (31, .slice Ac kc cc9), (33, .slice (some ⟨b8, 0, none⟩) 1 1)]) (fun b8 => [.cells b8 [.int .u32 (pcolC it.t.W it.t.H it.t.X it.t.Y it.t.s it.t.al it.t.ca it.t.cb it.t.cc it.t.cd it.t.px x y)] 24 true, .ro it.b [.int .i64 it.t.W, .int .i64 it.t.H, .slice (some ⟨it.q, 0, none⟩) it.t.n it.t.n] 118, .gen (rdE (some ⟨it.q, 0, none⟩) it.q 0 it.t.n 1 (ivals .u32 it.t.px)), .gen (rowE (Ac) gc9 kc cc9 24 1 (ivals .u32 (colsS (ts.take i) x y)) true), .gen (rdE (A) g o n 14 (dvals IT.cells its)), .gen (subE n (IT.hds 118 its)), .gen (subE n (IT.pxs its))]) rfl rfl [1, 2, 3, 15, 16, 17, 31, 33] (fun _ => rfl) (fun b8 => by kernel_rfl) (fun b8 => by kernel_rfl) (fun b8 => ?_)
      refine pl_step 4 1 rfl rfl ?_
      refine sem_stepW (α := Option Addr × Nat × Nat) 34 (Builtin.append_ #[39, 39] 39 #[.slice Ac kc cc9, .slice (some ⟨b8, 0, none⟩) 1 1]) (fun x_ => .slice x_.1 (kc + 1) x_.2.2) (fun x_ => [.cells b8 [.int .u32 (pcolC it.t.W it.t.H it.t.X it.t.Y it.t.s it.t.al it.t.ca it.t.cb it.t.cc it.t.cd it.t.px x y)] 24 true, .ro it.b [.int .i64 it.t.W, .int .i64 it.t.H, .slice (some ⟨it.q, 0, none⟩) it.t.n it.t.n] 118, .gen (rdE (some ⟨it.q, 0, none⟩) it.q 0 it.t.n 1 (ivals .u32 it.t.px)), .gen (rowE (x_.1) x_.2.1 (kc + 1) x_.2.2 24 1 (ivals .u32 ((colsS (ts.take i) x y) ++ [pcolC it.t.W it.t.H it.t.X it.t.Y it.t.s it.t.al it.t.ca it.t.cb it.t.cc it.t.cd it.t.px x y])) true), .gen (rdE (A) g o n 14 (dvals IT.cells its)), .gen (subE n (IT.hds 118 its)), .gen (subE n (IT.pxs its))]) (fun _ => True) (by kernel_rfl) (fun w hT => append_own (n' := (kc + 1)) (z := .int .u32 0) hT (i := 3) (bytes := 4) rfl (by kernel_rfl) (by kernel_rfl) rfl (by decide) (by decide) (Rd.ofCells (vals := ivals .u32 [pcolC it.t.W it.t.H it.t.X it.t.Y it.t.s it.t.al it.t.ca it.t.cb it.t.cc it.t.cd it.t.px x y]) (hT.ok 0 _ rfl) rfl rfl) (ivals_one .u32 [pcolC it.t.W it.t.H it.t.X it.t.Y it.t.s it.t.al it.t.ca it.t.cb it.t.cc it.t.cd it.t.px x y]) (by omega) (ivals_append .u32 (colsS (ts.take i) x y) [pcolC it.t.W it.t.H it.t.X it.t.Y it.t.s it.t.al it.t.ca it.t.cb it.t.cc it.t.cd it.t.px x y]) rfl) ?_
      rintro ⟨A9, g9, cp9⟩ -
      refine cont_norm [(1, .int .i64 x), (2, .int .i64 y), (3, .int .u32 gc), (15, .slice (some ⟨g, o, none⟩) n cap), (16, .int .i64 (n : Int)), (17, .int .i64 (i : Int)), (31, .slice Ac kc cc9), (33, .slice (some ⟨b8, 0, none⟩) 1 1), (34, .slice A9 (kc + 1) cp9)] [.cells b8 [.int .u32 (pcolC it.t.W it.t.H it.t.X it.t.Y it.t.s it.t.al it.t.ca it.t.cb it.t.cc it.t.cd it.t.px x y)] 24 true, .ro it.b [.int .i64 it.t.W, .int .i64 it.t.H, .slice (some ⟨it.q, 0, none⟩) it.t.n it.t.n] 118, .gen (rdE (some ⟨it.q, 0, none⟩) it.q 0 it.t.n 1 (ivals .u32 it.t.px)), .gen (rowE (A9) g9 (kc + 1) cp9 24 1 (ivals .u32 ((colsS (ts.take i) x y) ++ [pcolC it.t.W it.t.H it.t.X it.t.Y it.t.s it.t.al it.t.ca it.t.cb it.t.cc it.t.cd it.t.px x y])) true), .gen (rdE (A) g o n 14 (dvals IT.cells its)), .gen (subE n (IT.hds 118 its)), .gen (subE n (IT.pxs its))] (by kernel_rfl) rfl ?_
      refine cont_fact (F := (0 < (kc + 1) → (A9 : Option Addr) = some ⟨g9, 0, none⟩) ∧ ((colsS (ts.take i) x y) ++ [pcolC it.t.W it.t.H it.t.X it.t.Y it.t.s it.t.al it.t.ca it.t.cb it.t.cc it.t.cd it.t.px x y]).length = (kc + 1) ∧ (kc + 1) ≤ cp9 ∧ cp9 ≤ maxLen) (fun w hT => Row.facts (hT.ok 3 _ rfl)) (fun hr10_ => ?_)
      obtain ⟨hr10_a, hr10_l, hr10_c, hr10_m⟩ := hr10_
      unfold maxLen at hr10_m
      refine bS [0] 5 0 [(1, .int .i64 x), (2, .int .i64 y), (3, .int .u32 gc), (9, .slice A9 (kc + 1) cp9), (15, .slice (some ⟨g, o, none⟩) n cap), (16, .int .i64 (n : Int)), (17, .int .i64 (i : Int))] ?_
      refine cont_forget 0 rfl ?_
      refine cont_done ?_
      refine blk_normal ?_
      refine then_normal ?_
      refine cont_region 2 rfl ?_
      refine bS [0] 1 1 [(1, .int .i64 x), (2, .int .i64 y), (3, .int .u32 gc), (9, .slice A9 (kc + 1) cp9), (15, .slice (some ⟨g, o, none⟩) n cap), (16, .int .i64 (n : Int)), (35, .int .i64 (IntKind.i64.wrap ((i : Int) + 1)))] ?_
      refine cont_recast 35 (.int .i64 (IntKind.i64.wrap ((i : Int) + 1))) (.int .i64 ((i : Int) + 1)) rfl (wrapI (by omega) (by omega)) ?_
      refine bS [0] 2 0 [(1, .int .i64 x), (2, .int .i64 y), (3, .int .u32 gc), (9, .slice A9 (kc + 1) cp9), (15, .slice (some ⟨g, o, none⟩) n cap), (16, .int .i64 (n : Int)), (17, .int .i64 ((i : Int) + 1))] ?_
      refine cont_done ?_
      refine then_normal ?_
      refine cont_recast 15 (.slice (some ⟨g, o, none⟩) n cap) (.slice A n cap) rfl (by rw [hra (by omega)]) ?_
      refine cont_forget 1 rfl ?_
      refine cont_forget 0 rfl ?_
      refine cont_rowEq (k := .u32) 0 ((colsS (ts.take i) x y) ++ [pcolC it.t.W it.t.H it.t.X it.t.Y it.t.s it.t.al it.t.ca it.t.cb it.t.cc it.t.cd it.t.px x y]) (colsS (ts.take (i + 1)) x y) rfl (by rw [colsS_yes (by omega) hB_, hti]; rfl) ?_
      refine cont_again (i + 1, A9, g9, (kc + 1), cp9) (show (i + 1) ≤ n from (by omega)) (show n - (i + 1) < n - i from by omega) (by kernel_rfl) (by kernel_rfl)
    have hB_ : (dget ts i).sh x y = false := by rw [hti]; exact c6_
    refine cont_false rfl ?_
    refine cont_skip ?_
    refine blk_normal ?_
    refine then_normal ?_
    refine cont_region 2 rfl ?_
    refine bS [0] 1 1 [(1, .int .i64 x), (2, .int .i64 y), (3, .int .u32 gc), (9, .slice Ac kc cc9), (15, .slice (some ⟨g, o, none⟩) n cap), (16, .int .i64 (n : Int)), (35, .int .i64 (IntKind.i64.wrap ((i : Int) + 1)))] ?_
    refine cont_recast 35 (.int .i64 (IntKind.i64.wrap ((i : Int) + 1))) (.int .i64 ((i : Int) + 1)) rfl (wrapI (by omega) (by omega)) ?_
    refine bS [0] 2 0 [(1, .int .i64 x), (2, .int .i64 y), (3, .int .u32 gc), (9, .slice Ac kc cc9), (15, .slice (some ⟨g, o, none⟩) n cap), (16, .int .i64 (n : Int)), (17, .int .i64 ((i : Int) + 1))] ?_
    refine cont_done ?_
    refine then_normal ?_
    refine cont_recast 15 (.slice (some ⟨g, o, none⟩) n cap) (.slice A n cap) rfl (by rw [hra (by omega)]) ?_
    refine cont_forget 1 rfl ?_
    refine cont_forget 0 rfl ?_
    refine cont_rowEq (k := .u32) 0 (colsS (ts.take i) x y) (colsS (ts.take (i + 1)) x y) rfl ((colsS_no (by omega) hB_).symm) ?_
    refine cont_again (i + 1, Ac, gc9, kc, cc9) (show (i + 1) ≤ n from (by omega)) (show n - (i + 1) < n - i from by omega) (by kernel_rfl) (by kernel_rfl)
  replace c4_ := of_decide_eq_false c4_
  refine cont_false rfl ?_
  refine cont_exit ?_
  refine then_exit ?_
  refine then_exit ?_
  refine blk_exit ?_
  refine then_normal ?_
  refine cont_seq ?_
  refine cont_region 4 rfl ?_
  refine cont_fact (F := (0 < kc → (Ac : Option Addr) = some ⟨gc9, 0, none⟩) ∧ (colsS (ts.take i) x y).length = kc ∧ kc ≤ cc9 ∧ cc9 ≤ maxLen) (fun w hT => Row.facts (hT.ok 0 _ rfl)) (fun hr11_ => ?_)
  obtain ⟨hr11_a, hr11_l, hr11_c, hr11_m⟩ := hr11_
  unfold maxLen at hr11_m
  have hrc9 := hr11_a
  refine bS [0, 0] 2 2 [(36, .int .u32 gc), (37, .slice Ac kc cc9)] ?_
  refine pl_step 3 1 rfl rfl ?_
  refine call_pure (d := 38) (.int .u32 (pixC gc (colsS (ts.take i) x y))) (by kernel_rfl) (fun w hT => paintPixel Ac gc9 0 kc cc9 (colsS (ts.take i) x y) gc w (hT.viewRo (.cons (i := 0) rfl Vw.rowRd .nil) rfl) (by omega) (colsS_in _ _ _) ⟨by omega, by omega⟩) ?_
  refine bS [0] 4 0 [(8, .int .u32 (pixC gc (colsS (ts.take i) x y)))] ?_
  refine cont_done ?_
  refine then_normal ?_
  refine cont_ret ?_
  refine ret_one (.inl rfl) rfl 0 (.int .u32 (pixC gc (colsS (ts.take i) x y))) (by kernel_rfl) (by kernel_rfl) (fun w hT => ?_)
  rw [List.take_of_length_le (by omega)]
  exact ⟨rfl, hT.post rfl⟩

theorem refPixel17 (A : Option Addr) (g o n cap : Nat) (ts : List TS) (x y gc : Int) (w : World) (hT0 : Tab w w [.gen (rdE (A) g o n 14 (dvals TS.cells ts)), .gen (subE n (TS.pxs ts))]) (hts : ∀ t ∈ ts, TS.Ok t) (hn : n ≤ 100) (hqx : -2000000 ≤ x ∧ x ≤ 2000000) (hqy : -2000000 ≤ y ∧ y ≤ 2000000) (hg0 : 0 ≤ gc) (hg1 : gc < 4294967296) :
    Calls Try.prog 15 #[.slice A n cap, .int .i64 x, .int .i64 y, .int .u32 gc] w fun e w' => e = .returned (.int .u32 (pixS ts x y gc)) ∧ Below w.heap.size w w' := by
  obtain ⟨hra, hrl⟩ := Rd.factsD TS.size (by decide) (hT0.ok 0 _ rfl)
  refine enter 43 [(0, .slice A n cap), (1, .int .i64 x), (2, .int .i64 y), (3, .int .u32 gc)] [.gen (rdE (A) g o n 14 (dvals TS.cells ts)), .gen (subE n (TS.pxs ts))] Try.func15 rfl Try.ntmps15 rfl (by kernel_rfl) hT0 ?_
  refine cont_seq ?_
  refine cont_region 1 rfl ?_
  refine bS [0] 1 0 [(0, .slice A n cap), (1, .int .i64 x), (2, .int .i64 y), (3, .int .u32 gc)] ?_
  refine cont_done ?_
  refine then_normal ?_
  refine cont_seq ?_
  refine cont_region 2 rfl ?_
  refine bS [0, 0] 2 0 [(0, .slice A n cap), (1, .int .i64 x), (2, .int .i64 y), (9, .int .u32 gc)] ?_
  refine cont_done ?_
  refine then_normal ?_
  refine cont_seq ?_
  refine cont_seq ?_
  refine cont_region 1 rfl ?_
  refine bS [0] 1 0 [(0, .slice A n cap), (1, .int .i64 x), (2, .int .i64 y), (9, .int .u32 gc), (10, .int .i64 0)] ?_
  refine cont_done ?_
  refine then_normal ?_
  refine cont_block ?_
  refine cont_recast 9 (.int .u32 gc) (.int .u32 (pixS (ts.take 0) x y gc)) rfl (congrArg (Value.int .u32) rfl) ?_
  refine cont_loop (α := Nat) (fun x_ : Nat => x_ ≤ n) (fun x_ : Nat => [(0, .slice A n cap), (1, .int .i64 x), (2, .int .i64 y), (9, .int .u32 (pixS (ts.take x_) x y gc)), (10, .int .i64 (x_ : Int))]) (fun x_ : Nat => [.gen (rdE (A) g o n 14 (dvals TS.cells ts)), .gen (subE n (TS.pxs ts))]) (fun x_ : Nat => n - x_) 0 (by omega) (by kernel_rfl) (by kernel_rfl) ?_
  rintro i hinv1_
  replace hinv1_ : i ≤ n := hinv1_
  refine cont_norm [(0, .slice A n cap), (1, .int .i64 x), (2, .int .i64 y), (9, .int .u32 (pixS (ts.take i) x y gc)), (10, .int .i64 (i : Int))] [.gen (rdE (A) g o n 14 (dvals TS.cells ts)), .gen (subE n (TS.pxs ts))] (by kernel_rfl) rfl ?_
  have hi := hinv1_
  obtain ⟨hpx0, hpx1⟩ := pixS_in (ts.take i) x y (g := gc) ⟨hg0, hg1⟩
  refine cont_seq ?_
  refine cont_seq ?_
  refine cont_region 4 rfl ?_
  refine bS [0, 0, 0, 0] 4 0 [(0, .slice A n cap), (1, .int .i64 x), (2, .int .i64 y), (9, .int .u32 (pixS (ts.take i) x y gc)), (10, .int .i64 (i : Int)), (17, .bool (decide ((i : Int) < (n : Int))))] ?_
  refine cont_done ?_
  refine then_normal ?_
  refine cont_split 17 (decide ((i : Int) < (n : Int))) rfl (fun c2_ => ?_) (fun c2_ => ?_)
  ·
    replace c2_ := of_decide_eq_true c2_
    refine cont_true rfl ?_
    refine cont_skip ?_
    refine then_normal ?_
    refine cont_seq ?_
    refine cont_block ?_
    refine cont_seq ?_
    refine cont_region 13 rfl ?_
    have htk := hts _ (dget_mem (l := ts) (i := i) (by omega))
    generalize ht : dget ts i = t at *
    obtain ⟨htw1, htw2⟩ : 1 ≤ t.W ∧ t.W ≤ 16 := ⟨htk.img.w1, htk.w16⟩
    obtain ⟨hth1, hth2⟩ : 1 ≤ t.H ∧ t.H ≤ 16 := ⟨htk.img.h1, htk.h16⟩
    obtain ⟨hts1, hts2⟩ := htk.s_
    obtain ⟨htx1, htx2⟩ := htk.x_
    obtain ⟨hty1, hty2⟩ := htk.y_
    obtain ⟨hta1, hta2⟩ := htk.a_
    have htl := htk.img.le
    refine cont_see 1 (.gen (rdE (some ⟨t.r, 0, none⟩) t.r 0 t.n 1 (ivals .u32 t.px))) rfl rfl (by rw [← ht]; exact Vw.subAt i (by omega) rfl rfl) rfl ?_
    refine cont_norm [(0, .slice A n cap), (1, .int .i64 x), (2, .int .i64 y), (9, .int .u32 (pixS (ts.take i) x y gc)), (10, .int .i64 (i : Int)), (17, .bool true)] [.gen (rdE (some ⟨t.r, 0, none⟩) t.r 0 t.n 1 (ivals .u32 t.px)), .gen (rdE (A) g o n 14 (dvals TS.cells ts)), .gen (subE n (TS.pxs ts))] (by kernel_rfl) rfl ?_
    obtain ⟨hco0, hco1⟩ := pcolC_inS t.W t.H t.X t.Y t.s t.al t.ca t.cb t.cc t.cd t.px x y
    refine bS [0, 0] 2 11 [(0, .slice A n cap), (1, .int .i64 x), (2, .int .i64 y), (9, .int .u32 (pixS (ts.take i) x y gc)), (10, .int .i64 (i : Int)), (21, .slice A n cap), (22, .int .i64 (i : Int))] ?_
    refine pl_step 3 10 rfl rfl ?_
    refine cont_recast 21 (.slice A n cap) (.slice (some ⟨g, o, none⟩) n cap) rfl (by rw [hra (by omega)]) ?_
    refine sem_step 23 (Instr.indexAt 25 (.slice (some ⟨g, o, none⟩) n cap) (.int .i64 (i : Int))) (.pointer (some ⟨g, o + i * 14, none⟩)) (by kernel_rfl) (fun w hT => run_indexAt (e := 60) (sz := 14) _ (by kernel_rfl) (by kernel_rfl) (by omega) (by omega) (by omega) w) ?_
    refine pl_step 4 9 rfl rfl ?_
    refine sem_step 24 (Instr.loadAt 60 (.pointer (some ⟨g, o + i * 14, none⟩))) (.agg #[.bool true, .int .i64 t.W, .int .i64 t.H, .slice (some ⟨t.r, 0, none⟩) t.n t.cap, .int .i64 t.X, .int .i64 t.Y, .int .i64 t.s, .int .i64 t.al, .int .i64 t.ca, .int .i64 t.cb, .int .i64 t.cc, .int .i64 t.cd, .slice t.A t.k t.cp, .string ⟨#[]⟩]) (by kernel_rfl) (fun w hT => run_loadN (m := 14) (cs := [.bool true, .int .i64 t.W, .int .i64 t.H, .slice (some ⟨t.r, 0, none⟩) t.n t.cap, .int .i64 t.X, .int .i64 t.Y, .int .i64 t.s, .int .i64 t.al, .int .i64 t.ca, .int .i64 t.cb, .int .i64 t.cc, .int .i64 t.cd, .slice t.A t.k t.cp, .string ⟨#[]⟩]) (by kernel_rfl) (by kernel_rfl) rfl (by have h_ := Rd.dcell TS.size (hT.ok 1 _ rfl) (i := i) (by omega); rw [ht] at h_; exact h_)) ?_
    refine pl_step 5 8 rfl rfl ?_
    refine call_pure (d := 25) (.agg #[.bool true, .int .i64 t.W, .int .i64 t.H, .slice (some ⟨t.r, 0, none⟩) t.n t.cap, .int .i64 t.X, .int .i64 t.Y, .int .i64 t.s, .int .i64 t.al, .int .i64 t.ca, .int .i64 t.cb, .int .i64 t.cc, .int .i64 t.cd]) (by kernel_rfl) (fun w hT => refLayer13 t.W t.H t.r t.n t.cap t.X t.Y t.s t.al t.ca t.cb t.cc t.cd t.A t.k t.cp w) ?_
    refine bS [0, 0] 7 6 [(0, .slice A n cap), (1, .int .i64 x), (2, .int .i64 y), (9, .int .u32 (pixS (ts.take i) x y gc)), (10, .int .i64 (i : Int)), (25, .agg #[.bool true, .int .i64 t.W, .int .i64 t.H, .slice (some ⟨t.r, 0, none⟩) t.n t.cap, .int .i64 t.X, .int .i64 t.Y, .int .i64 t.s, .int .i64 t.al, .int .i64 t.ca, .int .i64 t.cb, .int .i64 t.cc, .int .i64 t.cd]), (26, .int .i64 x), (27, .int .i64 y)] ?_
    refine pl_step 8 5 rfl rfl ?_
    refine call_pure (d := 28) (.tuple #[.int .u32 (pcolC t.W t.H t.X t.Y t.s t.al t.ca t.cb t.cc t.cd t.px x y), .bool (pcolB t.W t.H t.X t.Y t.s t.ca t.cb t.cc t.cd x y)]) (by kernel_rfl) (fun w hT => refColor5 t.W t.H t.r t.n t.cap t.px t.X t.Y t.s t.al t.ca t.cb t.cc t.cd x y w (hT.viewRo (.cons (i := 0) rfl Vw.rd .nil) rfl) htk.img (by omega) (by omega) (by omega) (by omega) (by omega)) ?_
    refine bS [0, 0, 0, 0, 0] 13 0 [(0, .slice A n cap), (1, .int .i64 x), (2, .int .i64 y), (9, .int .u32 (pixS (ts.take i) x y gc)), (10, .int .i64 (i : Int)), (11, .int .u32 (pcolC t.W t.H t.X t.Y t.s t.al t.ca t.cb t.cc t.cd t.px x y)), (12, .bool (pcolB t.W t.H t.X t.Y t.s t.ca t.cb t.cc t.cd x y))] ?_
    refine cont_done ?_
    refine then_normal ?_
    refine cont_seq ?_
    refine cont_region 8 rfl ?_
    refine bS [0, 0] 2 6 [(0, .slice A n cap), (1, .int .i64 x), (2, .int .i64 y), (9, .int .u32 (pixS (ts.take i) x y gc)), (10, .int .i64 (i : Int)), (11, .int .u32 (pcolC t.W t.H t.X t.Y t.s t.al t.ca t.cb t.cc t.cd t.px x y)), (12, .bool (pcolB t.W t.H t.X t.Y t.s t.ca t.cb t.cc t.cd x y)), (31, .slice A n cap), (32, .int .i64 (i : Int))] ?_
    refine pl_step 3 5 rfl rfl ?_
    refine cont_recast 31 (.slice A n cap) (.slice (some ⟨g, o, none⟩) n cap) rfl (by rw [hra (by omega)]) ?_
    refine sem_step 33 (Instr.indexAt 25 (.slice (some ⟨g, o, none⟩) n cap) (.int .i64 (i : Int))) (.pointer (some ⟨g, o + i * 14, none⟩)) (by kernel_rfl) (fun w hT => run_indexAt (e := 60) (sz := 14) _ (by kernel_rfl) (by kernel_rfl) (by omega) (by omega) (by omega) w) ?_
    refine bS [0] 4 4 [(0, .slice A n cap), (1, .int .i64 x), (2, .int .i64 y), (9, .int .u32 (pixS (ts.take i) x y gc)), (10, .int .i64 (i : Int)), (11, .int .u32 (pcolC t.W t.H t.X t.Y t.s t.al t.ca t.cb t.cc t.cd t.px x y)), (12, .bool (pcolB t.W t.H t.X t.Y t.s t.ca t.cb t.cc t.cd x y)), (34, .pointer (some ⟨g, o + i * 14, none⟩))] ?_
    refine pl_step 5 3 rfl rfl ?_
    refine sem_step 35 (Instr.loadAt 4 (.pointer (some ⟨g, o + i * 14, none⟩))) (.bool true) (by kernel_rfl) (fun w hT => run_load1 (by kernel_rfl) (Rd.dcell1 TS.size (hT.ok 1 _ rfl) (i := i) (by omega) 0 (by rw [ht]; rfl))) ?_
    refine bS [0, 0, 0] 8 0 [(0, .slice A n cap), (1, .int .i64 x), (2, .int .i64 y), (9, .int .u32 (pixS (ts.take i) x y gc)), (10, .int .i64 (i : Int)), (11, .int .u32 (pcolC t.W t.H t.X t.Y t.s t.al t.ca t.cb t.cc t.cd t.px x y)), (37, .bool (pcolB t.W t.H t.X t.Y t.s t.ca t.cb t.cc t.cd x y)), (38, .bool (pcolB t.W t.H t.X t.Y t.s t.ca t.cb t.cc t.cd x y))] ?_
    refine cont_done ?_
    refine then_normal ?_
    refine cont_split 38 (pcolB t.W t.H t.X t.Y t.s t.ca t.cb t.cc t.cd x y) rfl (fun c3_ => ?_) (fun c3_ => ?_)
    ·
      refine cont_recast 37 (.bool (pcolB t.W t.H t.X t.Y t.s t.ca t.cb t.cc t.cd x y)) (.bool true) rfl (congrArg Value.bool c3_) ?_
      have hB_ : (dget ts i).sh x y = true := by rw [ht]; exact c3_
      refine cont_true rfl ?_
      refine cont_region 4 rfl ?_
      refine bS [0, 0] 2 2 [(0, .slice A n cap), (1, .int .i64 x), (2, .int .i64 y), (10, .int .i64 (i : Int)), (37, .bool true), (39, .int .u32 (pcolC t.W t.H t.X t.Y t.s t.al t.ca t.cb t.cc t.cd t.px x y)), (40, .int .u32 (pixS (ts.take i) x y gc))] ?_
      refine pl_step 3 1 rfl rfl ?_
      refine call_pure (d := 41) (.int .u32 (overC (pcolC t.W t.H t.X t.Y t.s t.al t.ca t.cb t.cc t.cd t.px x y) (pixS (ts.take i) x y gc))) (by kernel_rfl) (fun w hT => refOver (pcolC t.W t.H t.X t.Y t.s t.al t.ca t.cb t.cc t.cd t.px x y) (pixS (ts.take i) x y gc) w (by omega) (by omega) (by omega) (by omega)) ?_
      refine bS [0] 4 0 [(0, .slice A n cap), (1, .int .i64 x), (2, .int .i64 y), (9, .int .u32 (overC (pcolC t.W t.H t.X t.Y t.s t.al t.ca t.cb t.cc t.cd t.px x y) (pixS (ts.take i) x y gc))), (10, .int .i64 (i : Int)), (37, .bool true)] ?_
      refine cont_done ?_
      refine blk_normal ?_
      refine then_normal ?_
      refine cont_region 3 rfl ?_
      refine bS [0, 0] 2 1 [(0, .slice A n cap), (1, .int .i64 x), (2, .int .i64 y), (9, .int .u32 (overC (pcolC t.W t.H t.X t.Y t.s t.al t.ca t.cb t.cc t.cd t.px x y) (pixS (ts.take i) x y gc))), (19, .int .i64 (IntKind.i64.wrap ((i : Int) + 1))), (37, .bool true)] ?_
      refine cont_recast 19 (.int .i64 (IntKind.i64.wrap ((i : Int) + 1))) (.int .i64 ((i : Int) + 1)) rfl (wrapI (by omega) (by omega)) ?_
      refine bS [0] 3 0 [(0, .slice A n cap), (1, .int .i64 x), (2, .int .i64 y), (9, .int .u32 (overC (pcolC t.W t.H t.X t.Y t.s t.al t.ca t.cb t.cc t.cd t.px x y) (pixS (ts.take i) x y gc))), (10, .int .i64 ((i : Int) + 1)), (37, .bool true)] ?_
      refine cont_done ?_
      refine then_normal ?_
      refine cont_forget 0 rfl ?_
      refine cont_recast 9 (.int .u32 (overC (pcolC t.W t.H t.X t.Y t.s t.al t.ca t.cb t.cc t.cd t.px x y) (pixS (ts.take i) x y gc))) (.int .u32 (pixS (ts.take (i + 1)) x y gc)) rfl (congrArg (Value.int .u32) (by rw [pixS_yes (by omega) hB_, ht]; rfl)) ?_
      refine cont_again (i + 1) (show (i + 1) ≤ n from (by omega)) (show n - (i + 1) < n - i from by omega) (by kernel_rfl) (by kernel_rfl)
    refine cont_recast 37 (.bool (pcolB t.W t.H t.X t.Y t.s t.ca t.cb t.cc t.cd x y)) (.bool false) rfl (congrArg Value.bool c3_) ?_
    have hB_ : (dget ts i).sh x y = false := by rw [ht]; exact c3_
    refine cont_false rfl ?_
    refine cont_skip ?_
    refine blk_normal ?_
    refine then_normal ?_
    refine cont_region 3 rfl ?_
    refine bS [0, 0] 2 1 [(0, .slice A n cap), (1, .int .i64 x), (2, .int .i64 y), (9, .int .u32 (pixS (ts.take i) x y gc)), (19, .int .i64 (IntKind.i64.wrap ((i : Int) + 1))), (37, .bool false)] ?_
    refine cont_recast 19 (.int .i64 (IntKind.i64.wrap ((i : Int) + 1))) (.int .i64 ((i : Int) + 1)) rfl (wrapI (by omega) (by omega)) ?_
    refine bS [0] 3 0 [(0, .slice A n cap), (1, .int .i64 x), (2, .int .i64 y), (9, .int .u32 (pixS (ts.take i) x y gc)), (10, .int .i64 ((i : Int) + 1)), (37, .bool false)] ?_
    refine cont_done ?_
    refine then_normal ?_
    refine cont_forget 0 rfl ?_
    refine cont_recast 9 (.int .u32 (pixS (ts.take i) x y gc)) (.int .u32 (pixS (ts.take (i + 1)) x y gc)) rfl (congrArg (Value.int .u32) ((pixS_no (by omega) hB_).symm)) ?_
    refine cont_again (i + 1) (show (i + 1) ≤ n from (by omega)) (show n - (i + 1) < n - i from by omega) (by kernel_rfl) (by kernel_rfl)
  replace c2_ := of_decide_eq_false c2_
  refine cont_false rfl ?_
  refine cont_exit ?_
  refine then_exit ?_
  refine then_exit ?_
  refine blk_exit ?_
  refine then_normal ?_
  refine cont_seq ?_
  refine cont_region 2 rfl ?_
  refine bS [0, 0] 2 0 [(8, .int .u32 (pixS (ts.take i) x y gc))] ?_
  refine cont_done ?_
  refine then_normal ?_
  refine cont_ret ?_
  refine ret_one (.inl rfl) rfl 0 (.int .u32 (pixS (ts.take i) x y gc)) (by kernel_rfl) (by kernel_rfl) (fun w hT => ?_)
  rw [List.take_of_length_le (by omega)]
  exact ⟨rfl, hT.post rfl⟩

end Go.Proofs.Ytlfahohbkgdabaa

