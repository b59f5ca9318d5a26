/- Contracts of functions of the given program, printed by a program of this project. -/
import Derived.Test.YtlfahohbkgdabaaPcW19
import Derived.Test.YtlfahohbkgdabaaProg
set_option linter.unusedVariables false
set_option linter.unusedSimpArgs false
namespace Go.Proofs.Ytlfahohbkgdabaa
open Go Go.RowKit
set_option maxRecDepth 100000
set_option maxHeartbeats 8000000

theorem walkNaivePixels (A : Option Addr) (g o n cap : Nat) (xs : List V17) (qx qy cc : Int) (w : World) (hr : Rd w A g o n 16 (dvals V17.cells xs)) (hl : xs.length = n) (hc : n ≤ cap) (hm : cap ≤ maxLen) (hg : ∀ d ∈ xs, V17.Good w d) (hqx : -9223372036854775808 ≤ qx ∧ qx ≤ 9223372036854775807) (hqy : -9223372036854775808 ≤ qy ∧ qy ≤ 9223372036854775807) (hcc : 0 ≤ cc ∧ cc < 4294967296) :
    Calls Try.prog 3 #[.slice A n cap, .int .i64 qx, .int .i64 qy, .int .u32 cc] w fun e w' => e = .returned (.bool true) ∧ Below w.heap.size w w' := by
  unfold maxLen at hm
  obtain ⟨hra, _⟩ := Rd.factsD V17.size (by decide) hr
  have hge : ∀ i, i < n → V17.Good w (dget xs i) := fun i hi => hg _ (dget_mem (by omega))
  have hgpv : ∀ d ∈ xs, V17P d := fun d hd => (hg d hd).pure
  refine enter 69 [(0, .slice A n cap), (1, .int .i64 qx), (2, .int .i64 qy), (3, .int .u32 cc)] [.gen (rdE (A) g o n 16 (dvals V17.cells xs)), .gen (subE n (fun i_ => rdE ((dget xs i_).A3) (dget xs i_).g3 (dget xs i_).o3 (dget xs i_).m3 1 (ivals .u32 (dget xs i_).x3))), .gen (subE n (fun i_ => rdE ((dget xs i_).A14) (dget xs i_).g14 (dget xs i_).o14 (dget xs i_).m14 1 (ivals .u32 (dget xs i_).x14))), .gen (subE n (fun i_ => rdE ((dget xs i_).A15) (dget xs i_).g15 (dget xs i_).o15 (dget xs i_).m15 4 (rvals (dget xs i_).x15)))] Try.func3 rfl Try.ntmps3 rfl (by kernel_rfl) (Tab.olds (fun i_ e_ he_ => by
    match i_, he_ with
    | 0, he_ => cases he_; exact ⟨hr, rfl, rfl⟩
    | 1, he_ => cases he_; exact ⟨fun i_ hi_ => (hge i_ hi_).r3, rfl, rfl⟩
    | 2, he_ => cases he_; exact ⟨fun i_ hi_ => (hge i_ hi_).r14, rfl, rfl⟩
    | 3, he_ => cases he_; exact ⟨fun i_ hi_ => (hge i_ hi_).r15, rfl, rfl⟩
    | _ + 4, he_ => cases he_)) ?_
  refine cont_seq ?_
  refine cont_region 1 rfl ?_
  refine bS [0] 1 0 [(0, .slice A n cap), (1, .int .i64 qx), (2, .int .i64 qy), (3, .int .u32 cc)] ?_
  refine cont_done ?_
  refine then_normal ?_
  refine cont_seq ?_
  refine cont_region 3 rfl ?_
  refine bS [0] 1 2 [(1, .int .i64 qx), (2, .int .i64 qy), (3, .int .u32 cc), (16, .slice A n cap)] ?_
  refine pl_step 2 1 rfl rfl ?_
  refine call_gen (d := 17) (α := Option Addr × Nat × Nat × Nat × List TS) (fun x_ => .slice x_.1 x_.2.2.1 x_.2.2.2.1) (fun x_ => [.gen (bunO x_.2.2.1 (TS.pxs x_.2.2.2.2)), .gen (bunO x_.2.2.1 (TS.ops x_.2.2.2.2)), .gen (rowE (x_.1) x_.2.1 x_.2.2.1 x_.2.2.2.1 60 14 (dvals TS.cells x_.2.2.2.2) true), .gen (rdE (A) g o n 16 (dvals V17.cells xs)), .gen (subE n (fun i_ => rdE ((dget xs i_).A3) (dget xs i_).g3 (dget xs i_).o3 (dget xs i_).m3 1 (ivals .u32 (dget xs i_).x3))), .gen (subE n (fun i_ => rdE ((dget xs i_).A14) (dget xs i_).g14 (dget xs i_).o14 (dget xs i_).m14 1 (ivals .u32 (dget xs i_).x14))), .gen (subE n (fun i_ => rdE ((dget xs i_).A15) (dget xs i_).g15 (dget xs i_).o15 (dget xs i_).m15 4 (rvals (dget xs i_).x15)))]) (fun x_ => x_.2.2.1 ≤ 5 ∧ ∀ t ∈ x_.2.2.2.2, TS.Ok t) (by kernel_rfl) (fun w hT => (refGood17 A g o n cap xs w (hT.viewRo (.cons (i := 0) rfl Vw.rd (.cons (i := 1) rfl Vw.subSub (.cons (i := 2) rfl Vw.subSub (.cons (i := 3) rfl Vw.subSub .nil)))) rfl) hgpv).mono fun e w' ⟨A1, g2, k3, cp4, ts5, he_, hf_, ht_⟩ => ⟨(A1, g2, k3, cp4, ts5), he_, hf_, hT.news ht_ rfl⟩) ?_
  rintro ⟨A1, g2, k3, cp4, ts5⟩ hf6_
  replace hf6_ : k3 ≤ 5 ∧ ∀ t ∈ ts5, TS.Ok t := hf6_
  refine cont_norm [(1, .int .i64 qx), (2, .int .i64 qy), (3, .int .u32 cc), (16, .slice A n cap), (17, .slice A1 k3 cp4)] [.gen (bunO k3 (TS.pxs ts5)), .gen (bunO k3 (TS.ops ts5)), .gen (rowE (A1) g2 k3 cp4 60 14 (dvals TS.cells ts5) true), .gen (rdE (A) g o n 16 (dvals V17.cells xs)), .gen (subE n (fun i_ => rdE ((dget xs i_).A3) (dget xs i_).g3 (dget xs i_).o3 (dget xs i_).m3 1 (ivals .u32 (dget xs i_).x3))), .gen (subE n (fun i_ => rdE ((dget xs i_).A14) (dget xs i_).g14 (dget xs i_).o14 (dget xs i_).m14 1 (ivals .u32 (dget xs i_).x14))), .gen (subE n (fun i_ => rdE ((dget xs i_).A15) (dget xs i_).g15 (dget xs i_).o15 (dget xs i_).m15 4 (rvals (dget xs i_).x15)))] (by kernel_rfl) rfl ?_
  refine cont_fact (F := (0 < k3 → (A1 : Option Addr) = some ⟨g2, 0, none⟩) ∧ ts5.length = k3 ∧ k3 ≤ cp4 ∧ cp4 ≤ maxLen) (fun w hT => Row.factsD TS.size (by decide) (hT.ok 2 _ rfl)) (fun hr7_ => ?_)
  obtain ⟨hr7_a, hr7_l, hr7_c, hr7_m⟩ := hr7_
  unfold maxLen at hr7_m
  obtain ⟨hgl, hgt⟩ := hf6_
  refine bS [0] 3 0 [(1, .int .i64 qx), (2, .int .i64 qy), (3, .int .u32 cc), (9, .slice A1 k3 cp4)] ?_
  refine cont_done ?_
  refine then_normal ?_
  refine cont_seq ?_
  refine cont_region 8 rfl ?_
  refine bS [0] 1 7 [(1, .int .i64 qx), (2, .int .i64 qy), (3, .int .u32 cc), (9, .slice A1 k3 cp4), (19, .slice A1 k3 cp4)] ?_
  refine pl_step 2 6 rfl rfl ?_
  refine call_gen (d := 20) (α := Option Addr × Nat × Nat × List IT) (fun x_ => .tuple #[.agg #[.int .i64 0, .slice x_.1 k3 x_.2.2.1], .bool true]) (fun x_ => [.gen (bunO k3 (IT.pxs x_.2.2.2)), .gen (bunO k3 (IT.hds 118 x_.2.2.2)), .gen (rowE (x_.1) x_.2.1 k3 x_.2.2.1 103 14 (dvals IT.cells x_.2.2.2) true), .gen (bunO k3 (TS.pxs ts5)), .gen (bunO k3 (TS.ops ts5)), .gen (rowE (A1) g2 k3 cp4 60 14 (dvals TS.cells ts5) true), .gen (rdE (A) g o n 16 (dvals V17.cells xs)), .gen (subE n (fun i_ => rdE ((dget xs i_).A3) (dget xs i_).g3 (dget xs i_).o3 (dget xs i_).m3 1 (ivals .u32 (dget xs i_).x3))), .gen (subE n (fun i_ => rdE ((dget xs i_).A14) (dget xs i_).g14 (dget xs i_).o14 (dget xs i_).m14 1 (ivals .u32 (dget xs i_).x14))), .gen (subE n (fun i_ => rdE ((dget xs i_).A15) (dget xs i_).g15 (dget xs i_).o15 (dget xs i_).m15 4 (rvals (dget xs i_).x15)))]) (fun x_ => x_.2.2.2.map (·.t) = ts5) (by kernel_rfl) (fun w hT => (shot A1 g2 0 k3 cp4 ts5 w (hT.viewRo (.cons (i := 2) rfl Vw.rowRd (.cons (i := 0) rfl Vw.bunSub .nil)) rfl) hgt (by omega)).mono fun e w' ⟨A8, g9, cp10, its11, he_, hf_, ht_⟩ => ⟨(A8, g9, cp10, its11), he_, hf_, hT.news ht_ rfl⟩) ?_
  rintro ⟨A8, g9, cp10, its11⟩ hf12_
  replace hf12_ : its11.map (·.t) = ts5 := hf12_
  refine cont_norm [(1, .int .i64 qx), (2, .int .i64 qy), (3, .int .u32 cc), (9, .slice A1 k3 cp4), (19, .slice A1 k3 cp4), (20, .tuple #[.agg #[.int .i64 0, .slice A8 k3 cp10], .bool true])] [.gen (bunO k3 (IT.pxs its11)), .gen (bunO k3 (IT.hds 118 its11)), .gen (rowE (A8) g9 k3 cp10 103 14 (dvals IT.cells its11) true), .gen (bunO k3 (TS.pxs ts5)), .gen (bunO k3 (TS.ops ts5)), .gen (rowE (A1) g2 k3 cp4 60 14 (dvals TS.cells ts5) true), .gen (rdE (A) g o n 16 (dvals V17.cells xs)), .gen (subE n (fun i_ => rdE ((dget xs i_).A3) (dget xs i_).g3 (dget xs i_).o3 (dget xs i_).m3 1 (ivals .u32 (dget xs i_).x3))), .gen (subE n (fun i_ => rdE ((dget xs i_).A14) (dget xs i_).g14 (dget xs i_).o14 (dget xs i_).m14 1 (ivals .u32 (dget xs i_).x14))), .gen (subE n (fun i_ => rdE ((dget xs i_).A15) (dget xs i_).g15 (dget xs i_).o15 (dget xs i_).m15 4 (rvals (dget xs i_).x15)))] (by kernel_rfl) rfl ?_
  refine cont_fact (F := (0 < k3 → (A8 : Option Addr) = some ⟨g9, 0, none⟩) ∧ its11.length = k3 ∧ k3 ≤ cp10 ∧ cp10 ≤ maxLen) (fun w hT => Row.factsD IT.size (by decide) (hT.ok 2 _ rfl)) (fun hr13_ => ?_)
  obtain ⟨hr13_a, hr13_l, hr13_c, hr13_m⟩ := hr13_
  unfold maxLen at hr13_m
  have hmapS := hf12_
  refine batch1 [0, 0, 0, 0, 0, 0] 8 0 (fun b14 => [(1, .int .i64 qx), (2, .int .i64 qy), (3, .int .u32 cc), (9, .slice A1 k3 cp4), (10, .pointer (some ⟨b14, 0, none⟩)), (11, .bool true)]) (fun b14 => [.cells b14 [.int .i64 0, .slice A8 k3 cp10] 29 true, .gen (bunO k3 (IT.pxs its11)), .gen (bunO k3 (IT.hds 118 its11)), .gen (rowE (A8) g9 k3 cp10 103 14 (dvals IT.cells its11) true), .gen (bunO k3 (TS.pxs ts5)), .gen (bunO k3 (TS.ops ts5)), .gen (rowE (A1) g2 k3 cp4 60 14 (dvals TS.cells ts5) true), .gen (rdE (A) g o n 16 (dvals V17.cells xs)), .gen (subE n (fun i_ => rdE ((dget xs i_).A3) (dget xs i_).g3 (dget xs i_).o3 (dget xs i_).m3 1 (ivals .u32 (dget xs i_).x3))), .gen (subE n (fun i_ => rdE ((dget xs i_).A14) (dget xs i_).g14 (dget xs i_).o14 (dget xs i_).m14 1 (ivals .u32 (dget xs i_).x14))), .gen (subE n (fun i_ => rdE ((dget xs i_).A15) (dget xs i_).g15 (dget xs i_).o15 (dget xs i_).m15 4 (rvals (dget xs i_).x15)))]) rfl rfl [1, 2, 3, 9, 10, 11] (fun _ => rfl) (fun b14 => by kernel_rfl) (fun b14 => by kernel_rfl) (fun b14 => ?_)
  refine cont_done ?_
  refine then_normal ?_
  refine cont_seq ?_
  refine cont_seq ?_
  refine cont_region 2 rfl ?_
  refine bS [0, 0] 2 0 [(1, .int .i64 qx), (2, .int .i64 qy), (3, .int .u32 cc), (9, .slice A1 k3 cp4), (10, .pointer (some ⟨b14, 0, none⟩)), (24, .bool false)] ?_
  refine cont_done ?_
  refine then_normal ?_
  refine cont_false rfl ?_
  refine cont_skip ?_
  refine then_normal ?_
  refine cont_seq ?_
  refine cont_region 3 rfl ?_
  refine bS [0] 1 2 [(1, .int .i64 qx), (2, .int .i64 qy), (9, .slice A1 k3 cp4), (10, .pointer (some ⟨b14, 0, none⟩)), (25, .int .u32 cc)] ?_
  refine pl_step 2 1 rfl rfl ?_
  refine call_pure (d := 26) (.int .u32 (goodC cc)) (by kernel_rfl) (fun w hT => refGood3 cc w (by omega) (by omega)) ?_
  refine bS [0] 3 0 [(1, .int .i64 qx), (2, .int .i64 qy), (9, .slice A1 k3 cp4), (10, .pointer (some ⟨b14, 0, none⟩)), (12, .int .u32 (goodC cc))] ?_
  refine cont_done ?_
  refine then_normal ?_
  refine cont_seq ?_
  refine cont_region 8 rfl ?_
  refine bS [0, 0, 0] 3 5 [(1, .int .i64 qx), (2, .int .i64 qy), (9, .slice A1 k3 cp4), (10, .pointer (some ⟨b14, 0, none⟩)), (12, .int .u32 (goodC cc)), (29, .int .i64 (mn (mx qx (-1048576)) 1048576))] ?_
  obtain ⟨xa, hxa⟩ : ∃ y_ : Int, y_ = (mn (mx qx (-1048576)) 1048576) := ⟨_, rfl⟩
  refine cont_recast 29 (.int .i64 (mn (mx qx (-1048576)) 1048576)) (.int .i64 xa) rfl (congrArg (Value.int .i64) hxa.symm) ?_
  have hxa1 : -1048576 ≤ xa ∧ xa ≤ 1048576 := by subst hxa; (try unfold mn mx); omega
  refine bS [0] 4 4 [(2, .int .i64 qy), (9, .slice A1 k3 cp4), (10, .pointer (some ⟨b14, 0, none⟩)), (12, .int .u32 (goodC cc)), (29, .int .i64 xa), (30, .int .i64 qx)] ?_
  refine pl_step 5 3 rfl rfl ?_
  refine call_pure (d := 31) (.int .i64 (aroundI qx 40)) (by kernel_rfl) (fun w hT => refAround qx 40 w (by omega) (by omega)) ?_
  have hq15_ := aroundI_range qx (m := 40) (by omega)
  refine bS [0] 6 2 [(2, .int .i64 qy), (9, .slice A1 k3 cp4), (10, .pointer (some ⟨b14, 0, none⟩)), (12, .int .u32 (goodC cc)), (29, .int .i64 xa), (32, .int .i64 (IntKind.i64.wrap ((aroundI qx 40) - 10)))] ?_
  refine cont_recast 32 (.int .i64 (IntKind.i64.wrap ((aroundI qx 40) - 10))) (.int .i64 ((aroundI qx 40) - 10)) rfl (wrapI (by omega) (by omega)) ?_
  obtain ⟨xb, hxb⟩ : ∃ y_ : Int, y_ = ((aroundI qx 40) - 10) := ⟨_, rfl⟩
  refine cont_recast 32 (.int .i64 ((aroundI qx 40) - 10)) (.int .i64 xb) rfl (congrArg (Value.int .i64) hxb.symm) ?_
  have hxb1 : -1048576 ≤ xb ∧ xb ≤ 1048576 := by subst hxb; (try unfold mn mx); omega
  refine batch1 [0, 0] 8 0 (fun b16 => [(2, .int .i64 qy), (9, .slice A1 k3 cp4), (10, .pointer (some ⟨b14, 0, none⟩)), (12, .int .u32 (goodC cc)), (13, .slice (some ⟨b16, 0, none⟩) 2 2)]) (fun b16 => [.cells b16 [.int .i64 xa, .int .i64 xb] 3 true, .cells b14 [.int .i64 0, .slice A8 k3 cp10] 29 true, .gen (bunO k3 (IT.pxs its11)), .gen (bunO k3 (IT.hds 118 its11)), .gen (rowE (A8) g9 k3 cp10 103 14 (dvals IT.cells its11) true), .gen (bunO k3 (TS.pxs ts5)), .gen (bunO k3 (TS.ops ts5)), .gen (rowE (A1) g2 k3 cp4 60 14 (dvals TS.cells ts5) true), .gen (rdE (A) g o n 16 (dvals V17.cells xs)), .gen (subE n (fun i_ => rdE ((dget xs i_).A3) (dget xs i_).g3 (dget xs i_).o3 (dget xs i_).m3 1 (ivals .u32 (dget xs i_).x3))), .gen (subE n (fun i_ => rdE ((dget xs i_).A14) (dget xs i_).g14 (dget xs i_).o14 (dget xs i_).m14 1 (ivals .u32 (dget xs i_).x14))), .gen (subE n (fun i_ => rdE ((dget xs i_).A15) (dget xs i_).g15 (dget xs i_).o15 (dget xs i_).m15 4 (rvals (dget xs i_).x15)))]) rfl rfl [2, 9, 10, 12, 13] (fun _ => rfl) (fun b16 => by kernel_rfl) (fun b16 => by kernel_rfl) (fun b16 => ?_)
  refine cont_done ?_
  refine then_normal ?_
  refine cont_seq ?_
  refine cont_region 8 rfl ?_
  refine bS [0, 0, 0] 3 5 [(2, .int .i64 qy), (9, .slice A1 k3 cp4), (10, .pointer (some ⟨b14, 0, none⟩)), (12, .int .u32 (goodC cc)), (13, .slice (some ⟨b16, 0, none⟩) 2 2), (36, .int .i64 (mn (mx qy (-1048576)) 1048576))] ?_
  obtain ⟨ya, hya⟩ : ∃ y_ : Int, y_ = (mn (mx qy (-1048576)) 1048576) := ⟨_, rfl⟩
  refine cont_recast 36 (.int .i64 (mn (mx qy (-1048576)) 1048576)) (.int .i64 ya) rfl (congrArg (Value.int .i64) hya.symm) ?_
  have hya1 : -1048576 ≤ ya ∧ ya ≤ 1048576 := by subst hya; (try unfold mn mx); omega
  refine bS [0] 4 4 [(9, .slice A1 k3 cp4), (10, .pointer (some ⟨b14, 0, none⟩)), (12, .int .u32 (goodC cc)), (13, .slice (some ⟨b16, 0, none⟩) 2 2), (36, .int .i64 ya), (37, .int .i64 qy)] ?_
  refine pl_step 5 3 rfl rfl ?_
  refine call_pure (d := 38) (.int .i64 (aroundI qy 40)) (by kernel_rfl) (fun w hT => refAround qy 40 w (by omega) (by omega)) ?_
  have hq17_ := aroundI_range qy (m := 40) (by omega)
  refine bS [0] 6 2 [(9, .slice A1 k3 cp4), (10, .pointer (some ⟨b14, 0, none⟩)), (12, .int .u32 (goodC cc)), (13, .slice (some ⟨b16, 0, none⟩) 2 2), (36, .int .i64 ya), (39, .int .i64 (IntKind.i64.wrap ((aroundI qy 40) - 10)))] ?_
  refine cont_recast 39 (.int .i64 (IntKind.i64.wrap ((aroundI qy 40) - 10))) (.int .i64 ((aroundI qy 40) - 10)) rfl (wrapI (by omega) (by omega)) ?_
  obtain ⟨yb, hyb⟩ : ∃ y_ : Int, y_ = ((aroundI qy 40) - 10) := ⟨_, rfl⟩
  refine cont_recast 39 (.int .i64 ((aroundI qy 40) - 10)) (.int .i64 yb) rfl (congrArg (Value.int .i64) hyb.symm) ?_
  have hyb1 : -1048576 ≤ yb ∧ yb ≤ 1048576 := by subst hyb; (try unfold mn mx); omega
  refine batch1 [0, 0] 8 0 (fun b18 => [(9, .slice A1 k3 cp4), (10, .pointer (some ⟨b14, 0, none⟩)), (12, .int .u32 (goodC cc)), (13, .slice (some ⟨b16, 0, none⟩) 2 2), (14, .slice (some ⟨b18, 0, none⟩) 2 2)]) (fun b18 => [.cells b18 [.int .i64 ya, .int .i64 yb] 3 true, .cells b16 [.int .i64 xa, .int .i64 xb] 3 true, .cells b14 [.int .i64 0, .slice A8 k3 cp10] 29 true, .gen (bunO k3 (IT.pxs its11)), .gen (bunO k3 (IT.hds 118 its11)), .gen (rowE (A8) g9 k3 cp10 103 14 (dvals IT.cells its11) true), .gen (bunO k3 (TS.pxs ts5)), .gen (bunO k3 (TS.ops ts5)), .gen (rowE (A1) g2 k3 cp4 60 14 (dvals TS.cells ts5) true), .gen (rdE (A) g o n 16 (dvals V17.cells xs)), .gen (subE n (fun i_ => rdE ((dget xs i_).A3) (dget xs i_).g3 (dget xs i_).o3 (dget xs i_).m3 1 (ivals .u32 (dget xs i_).x3))), .gen (subE n (fun i_ => rdE ((dget xs i_).A14) (dget xs i_).g14 (dget xs i_).o14 (dget xs i_).m14 1 (ivals .u32 (dget xs i_).x14))), .gen (subE n (fun i_ => rdE ((dget xs i_).A15) (dget xs i_).g15 (dget xs i_).o15 (dget xs i_).m15 4 (rvals (dget xs i_).x15)))]) rfl rfl [9, 10, 12, 13, 14] (fun _ => rfl) (fun b18 => by kernel_rfl) (fun b18 => by kernel_rfl) (fun b18 => ?_)
  refine cont_done ?_
  refine then_normal ?_
  refine cont_seq ?_
  refine cont_seq ?_
  refine cont_region 1 rfl ?_
  have hgi : 0 ≤ goodC cc ∧ goodC cc < 4294967296 := mkC_range _ _ _ _
  refine bS [0] 1 0 [(9, .slice A1 k3 cp4), (10, .pointer (some ⟨b14, 0, none⟩)), (12, .int .u32 (goodC cc)), (13, .slice (some ⟨b16, 0, none⟩) 2 2), (14, .slice (some ⟨b18, 0, none⟩) 2 2), (15, .int .i64 0)] ?_
  refine cont_done ?_
  refine then_normal ?_
  refine cont_block ?_
  refine cont_rounds 3 ?_
  refine cont_round 3 2 rfl ?_
  refine cont_seq ?_
  refine cont_seq ?_
  refine cont_region 2 rfl ?_
  refine bS [0, 0] 2 0 [(9, .slice A1 k3 cp4), (10, .pointer (some ⟨b14, 0, none⟩)), (12, .int .u32 (goodC cc)), (13, .slice (some ⟨b16, 0, none⟩) 2 2), (14, .slice (some ⟨b18, 0, none⟩) 2 2), (15, .int .i64 0), (42, .bool true)] ?_
  refine cont_done ?_
  refine then_normal ?_
  refine cont_true rfl ?_
  refine cont_skip ?_
  refine then_normal ?_
  refine cont_seq ?_
  refine cont_block ?_
  refine cont_seq ?_
  refine drawn_enter 23 [] rfl (by kernel_rfl) ?_
  refine takes 0 [] [(0, 2), (1, 0), (2, 0), (5, 0), (6, 0), (9, 0), (11, 0), (12, 0), (13, 0), (16, 0), (17, 0), (20, 0), (3, 0), (7, 0), (14, 0), (18, 0), (4, 1), (8, 0), (15, 1), (19, 0)] 3 [19, 15, 8, 4, 18, 14, 7, 3, 20, 17, 16, 13, 12, 11, 9, 6, 5, 2, 1, 0] [(9, .slice A1 k3 cp4), (10, .pointer (some ⟨b14, 0, none⟩)), (12, .int .u32 (goodC cc)), (13, .slice (some ⟨b16, 0, none⟩) 2 2), (14, .slice (some ⟨b18, 0, none⟩) 2 2), (15, .int .i64 0), (45, .agg #[.int .i64 0, .slice A8 k3 cp10]), (49, .int .i64 xa), (53, .int .i64 ya), (54, .int .u32 (goodC cc)), (56, .slice A1 k3 cp4), (60, .int .i64 xa), (64, .int .i64 ya), (65, .int .u32 (goodC cc))] (by kernel_rfl) (pok_then (pok_blk (pok_then (pok_then (pok_blk (pok_then pok_body)))))) (by kernel_rfl) rfl rfl (by kernel_rfl) (by kernel_rfl) ?_
  refine drawn_one 10 2 rfl (by kernel_rfl) ?_
  refine call_pure (d := 55) (.int .u32 (pixS ts5 xa ya (goodC cc))) (by kernel_rfl) (fun w hT => naivePixel 0 A8 g9 0 k3 cp10 its11 ts5 xa ya (goodC cc) w (hT.viewRo (.cons (i := 5) rfl Vw.rowRd (.cons (i := 4) rfl Vw.bunSub (.cons (i := 3) rfl Vw.bunSub .nil))) rfl) hmapS hgt (by omega) (by omega) (by omega) (by omega) (by omega)) ?_
  refine drawn_next 0 [] (by kernel_rfl) ?_
  refine drawn_one 21 1 rfl (by kernel_rfl) ?_
  refine call_pure (d := 66) (.int .u32 (pixS ts5 xa ya (goodC cc))) (by kernel_rfl) (fun w hT => refPixel17 A1 g2 0 k3 cp4 ts5 xa ya (goodC cc) w (hT.viewRo (.cons (i := 8) rfl Vw.rowRd (.cons (i := 6) rfl Vw.bunSub .nil)) rfl) hgt (by omega) (by omega) (by omega) (by omega) (by omega)) ?_
  refine drawn_next 0 [] (by kernel_rfl) ?_
  refine takes 0 [] [(22, 0)] 0 [22, 21, 10, 19, 15, 8, 4, 18, 14, 7, 3, 20, 17, 16, 13, 12, 11, 9, 6, 5, 2, 1, 0] [(9, .slice A1 k3 cp4), (10, .pointer (some ⟨b14, 0, none⟩)), (12, .int .u32 (goodC cc)), (13, .slice (some ⟨b16, 0, none⟩) 2 2), (14, .slice (some ⟨b18, 0, none⟩) 2 2), (15, .int .i64 0), (67, .bool ((pixS ts5 xa ya (goodC cc)) != (pixS ts5 xa ya (goodC cc))))] (by kernel_rfl) (pok_then (pok_blk (pok_then (pok_then (pok_blk (pok_then pok_body)))))) (by kernel_rfl) rfl rfl (by kernel_rfl) (by kernel_rfl) ?_
  refine drawn_done (by kernel_rfl) ?_
  refine then_normal ?_
  refine cont_recast 67 (.bool ((pixS ts5 xa ya (goodC cc)) != (pixS ts5 xa ya (goodC cc)))) (.bool false) rfl (congrArg Value.bool (by simp)) ?_
  refine cont_false rfl ?_
  refine cont_skip ?_
  refine blk_normal ?_
  refine then_normal ?_
  refine cont_region 3 rfl ?_
  refine bS [0, 0, 0] 3 0 [(9, .slice A1 k3 cp4), (10, .pointer (some ⟨b14, 0, none⟩)), (12, .int .u32 (goodC cc)), (13, .slice (some ⟨b16, 0, none⟩) 2 2), (14, .slice (some ⟨b18, 0, none⟩) 2 2), (15, .int .i64 1)] ?_
  refine cont_done ?_
  refine then_normal ?_
  refine cont_round 2 1 rfl ?_
  refine cont_seq ?_
  refine cont_seq ?_
  refine cont_region 2 rfl ?_
  refine bS [0, 0] 2 0 [(9, .slice A1 k3 cp4), (10, .pointer (some ⟨b14, 0, none⟩)), (12, .int .u32 (goodC cc)), (13, .slice (some ⟨b16, 0, none⟩) 2 2), (14, .slice (some ⟨b18, 0, none⟩) 2 2), (15, .int .i64 1), (42, .bool true)] ?_
  refine cont_done ?_
  refine then_normal ?_
  refine cont_true rfl ?_
  refine cont_skip ?_
  refine then_normal ?_
  refine cont_seq ?_
  refine cont_block ?_
  refine cont_seq ?_
  refine drawn_enter 23 [] rfl (by kernel_rfl) ?_
  refine takes 0 [] [(0, 2), (1, 0), (2, 0), (5, 0), (6, 0), (9, 0), (11, 0), (12, 0), (13, 0), (16, 0), (17, 0), (20, 0), (3, 0), (7, 0), (14, 0), (18, 0), (4, 1), (8, 0), (15, 1), (19, 0)] 3 [19, 15, 8, 4, 18, 14, 7, 3, 20, 17, 16, 13, 12, 11, 9, 6, 5, 2, 1, 0] [(9, .slice A1 k3 cp4), (10, .pointer (some ⟨b14, 0, none⟩)), (12, .int .u32 (goodC cc)), (13, .slice (some ⟨b16, 0, none⟩) 2 2), (14, .slice (some ⟨b18, 0, none⟩) 2 2), (15, .int .i64 1), (45, .agg #[.int .i64 0, .slice A8 k3 cp10]), (49, .int .i64 xb), (53, .int .i64 yb), (54, .int .u32 (goodC cc)), (56, .slice A1 k3 cp4), (60, .int .i64 xb), (64, .int .i64 yb), (65, .int .u32 (goodC cc))] (by kernel_rfl) (pok_then (pok_blk (pok_then (pok_then (pok_blk (pok_then pok_body)))))) (by kernel_rfl) rfl rfl (by kernel_rfl) (by kernel_rfl) ?_
  refine drawn_one 10 2 rfl (by kernel_rfl) ?_
  refine call_pure (d := 55) (.int .u32 (pixS ts5 xb yb (goodC cc))) (by kernel_rfl) (fun w hT => naivePixel 0 A8 g9 0 k3 cp10 its11 ts5 xb yb (goodC cc) w (hT.viewRo (.cons (i := 5) rfl Vw.rowRd (.cons (i := 4) rfl Vw.bunSub (.cons (i := 3) rfl Vw.bunSub .nil))) rfl) hmapS hgt (by omega) (by omega) (by omega) (by omega) (by omega)) ?_
  refine drawn_next 0 [] (by kernel_rfl) ?_
  refine drawn_one 21 1 rfl (by kernel_rfl) ?_
  refine call_pure (d := 66) (.int .u32 (pixS ts5 xb yb (goodC cc))) (by kernel_rfl) (fun w hT => refPixel17 A1 g2 0 k3 cp4 ts5 xb yb (goodC cc) w (hT.viewRo (.cons (i := 8) rfl Vw.rowRd (.cons (i := 6) rfl Vw.bunSub .nil)) rfl) hgt (by omega) (by omega) (by omega) (by omega) (by omega)) ?_
  refine drawn_next 0 [] (by kernel_rfl) ?_
  refine takes 0 [] [(22, 0)] 0 [22, 21, 10, 19, 15, 8, 4, 18, 14, 7, 3, 20, 17, 16, 13, 12, 11, 9, 6, 5, 2, 1, 0] [(9, .slice A1 k3 cp4), (10, .pointer (some ⟨b14, 0, none⟩)), (12, .int .u32 (goodC cc)), (13, .slice (some ⟨b16, 0, none⟩) 2 2), (14, .slice (some ⟨b18, 0, none⟩) 2 2), (15, .int .i64 1), (67, .bool ((pixS ts5 xb yb (goodC cc)) != (pixS ts5 xb yb (goodC cc))))] (by kernel_rfl) (pok_then (pok_blk (pok_then (pok_then (pok_blk (pok_then pok_body)))))) (by kernel_rfl) rfl rfl (by kernel_rfl) (by kernel_rfl) ?_
  refine drawn_done (by kernel_rfl) ?_
  refine then_normal ?_
  refine cont_recast 67 (.bool ((pixS ts5 xb yb (goodC cc)) != (pixS ts5 xb yb (goodC cc)))) (.bool false) rfl (congrArg Value.bool (by simp)) ?_
  refine cont_false rfl ?_
  refine cont_skip ?_
  refine blk_normal ?_
  refine then_normal ?_
  refine cont_region 3 rfl ?_
  refine bS [0, 0, 0] 3 0 [(9, .slice A1 k3 cp4), (10, .pointer (some ⟨b14, 0, none⟩)), (12, .int .u32 (goodC cc)), (13, .slice (some ⟨b16, 0, none⟩) 2 2), (14, .slice (some ⟨b18, 0, none⟩) 2 2), (15, .int .i64 2)] ?_
  refine cont_done ?_
  refine then_normal ?_
  refine cont_round 1 0 rfl ?_
  refine cont_seq ?_
  refine cont_seq ?_
  refine cont_region 2 rfl ?_
  refine bS [0, 0] 2 0 [(9, .slice A1 k3 cp4), (10, .pointer (some ⟨b14, 0, none⟩)), (12, .int .u32 (goodC cc)), (13, .slice (some ⟨b16, 0, none⟩) 2 2), (14, .slice (some ⟨b18, 0, none⟩) 2 2), (15, .int .i64 2), (42, .bool false)] ?_
  refine cont_done ?_
  refine then_normal ?_
  refine cont_false rfl ?_
  refine cont_exit ?_
  refine then_exit ?_
  refine then_exit ?_
  refine blk_exit ?_
  refine then_normal ?_
  refine cont_seq ?_
  refine cont_region 2 rfl ?_
  refine pl_step 1 1 rfl rfl ?_
  refine call_pure (d := 68) (.bool true) (by kernel_rfl) (fun w hT => lives19  w) ?_
  refine bS [0] 2 0 [(8, .bool true)] ?_
  refine cont_forget 0 rfl ?_
  refine cont_forget 0 rfl ?_
  refine cont_forget 0 rfl ?_
  refine cont_done ?_
  refine then_normal ?_
  refine cont_ret ?_
  refine ret_one (.inl rfl) rfl 0 (.bool true) (by kernel_rfl) (by kernel_rfl) (fun w hT => ?_)
  exact ⟨rfl, hT.post rfl⟩

end Go.Proofs.Ytlfahohbkgdabaa

