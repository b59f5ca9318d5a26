/- Contracts of functions of the given program, printed by a program of this project. -/
import Derived.Test.YtlfahohbkgdabaaGreatPfL17k
import Derived.Test.YtlfahohbkgdabaaGreatProg
set_option linter.unusedSimpArgs false
set_option linter.unusedVariables false
namespace Go.Proofs.YtlfahohbkgdabaaGreat
open Go Go.RowKit
set_option maxRecDepth 100000
set_option maxHeartbeats 8000000
theorem walkPlanJobs (A : Option Addr) (g o n cap : Nat) (xs : List V17) (qw qh : Int) (A' : Option Addr) (g' o' n' cap' : Nat) (xs' : List Rect) (w : World) (hr : Rd w A g o n 16 (dvals V17.cells xs)) (hl : xs.length = n) (hc : n ≤ cap) (hm : cap ≤ maxLen) (hg : ∀ d ∈ xs, V17.Good w d) (hqw : -9223372036854775808 ≤ qw ∧ qw ≤ 9223372036854775807) (hqh : -9223372036854775808 ≤ qh ∧ qh ≤ 9223372036854775807) (hr' : Rd w A' g' o' n' 4 (rvals xs')) (hl' : xs'.length = n') (hc' : n' ≤ cap') (hm' : cap' ≤ maxLen) (hx' : ∀ r ∈ xs', R64 r) :
    Calls Tryz.prog 3 #[.slice A n cap, iQ qw, iQ qh, .slice A' n' cap'] w fun e w' => e = .returned (.bool true) ∧ Below w.heap.size w w' := by
  unfold maxLen at hm
  obtain ⟨hra, _⟩ := Rd.factsD V17.size (by decide) hr
  have hge : ∀ i, i < n → V17.Good w (dget xs i) := fun i hi => hg _ (dget_mem (by omega))
  have hgpv : ∀ d ∈ xs, V17P d := fun d hd => (hg d hd).pure
  unfold maxLen at hm'
  refine enter 49 [(0, .slice A n cap), (1, iQ qw), (2, iQ qh), (3, .slice A' n' cap')] [rD (A) g o n 16 (dvals V17.cells xs), sB3 n xs, sB14 n xs, sB15 n xs, rD (A') g' o' n' 4 (rvals xs')] Tryz.func3 rfl Tryz.ntmps3 rfl (by kernel_rfl) (Tab.olds (fun i_ e_ he_ => by
    match i_, he_ with
    | 0, he_ => cases he_; exact ⟨hr, rfl, rfl⟩
    | 1, he_ => cases he_; exact ⟨fun i_ hi_ => (hge i_ hi_).r3, rfl, rfl⟩
    | 2, he_ => cases he_; exact ⟨fun i_ hi_ => (hge i_ hi_).r14, rfl, rfl⟩
    | 3, he_ => cases he_; exact ⟨fun i_ hi_ => (hge i_ hi_).r15, rfl, rfl⟩
    | 4, he_ => cases he_; exact ⟨hr', rfl, rfl⟩
    | _ + 5, he_ => cases he_)) ?_
  refine zSR 1 <| bD [0] 1 0 [] [8] <| zDNSR 3 <| bD [0] 1 2 [(14, .slice A n cap)] [] <| pS 2 1 <| cG (d := 15) (α := Option Addr × Nat × Nat × Nat × List TS) (fun x_ => .slice x_.1 x_.2.2.1 x_.2.2.2.1) (fun x_ => [.gen (bunO x_.2.2.1 (TS.pxs x_.2.2.2.2)), .gen (bunO x_.2.2.1 (TS.ops x_.2.2.2.2)), .gen (rowE (x_.1) x_.2.1 x_.2.2.1 x_.2.2.2.1 87 14 (dvals TS.cells x_.2.2.2.2) true), rD (A) g o n 16 (dvals V17.cells xs), sB3 n xs, sB14 n xs, sB15 n xs, rD (A') g' o' n' 4 (rvals xs')]) (fun x_ => x_.2.2.1 ≤ 5 ∧ ∀ t ∈ x_.2.2.2.2, TS.Ok t) (fun w hT => (refGood17 A g o n cap xs w (hT.viewRo (.cons (i := 0) rfl Vw.rd (.cons (i := 1) rfl Vw.subSub (.cons (i := 2) rfl Vw.subSub (.cons (i := 3) rfl Vw.subSub .nil)))) rfl) hgpv).mono fun e w' ⟨A1, g2, k3, cp4, ts5, he_, hf_, ht_⟩ => ⟨(A1, g2, k3, cp4, ts5), he_, hf_, hT.news ht_ rfl⟩) ?_
  rintro ⟨A1, g2, k3, cp4, ts5⟩ hf6_
  replace hf6_ : k3 ≤ 5 ∧ ∀ t ∈ ts5, TS.Ok t := hf6_
  refine cM ?_
  refine cont_fact (F := (0 < k3 → (A1 : Option Addr) = some ⟨g2, 0, none⟩) ∧ ts5.length = k3 ∧ k3 ≤ cp4 ∧ cp4 ≤ maxLen) (fun w hT => Row.factsD TS.size (by decide) (hT.ok 2 _ rfl)) (fun hr7_ => ?_)
  obtain ⟨hr7_a, hr7_l, hr7_c, hr7_m⟩ := hr7_
  unfold maxLen at hr7_m
  obtain ⟨hgl, hgt⟩ := hf6_
  refine bD [0] 3 0 [(9, .slice A1 k3 cp4)] [] <| zDNSR 8 <| fG 6 <| fG 5 <| fG 4 <| fG 3 <| bD [0] 1 7 [(17, .slice A1 k3 cp4)] [] <| pS 2 6 <| cG (d := 18) (α := Option Addr × Nat × Nat × List IT) (fun x_ => .tuple #[.agg #[iQ 0, .slice x_.1 k3 x_.2.2.1], .bool true]) (fun x_ => [.gen (bunO k3 (IT.pxs x_.2.2.2)), .gen (bunO k3 (IT.hds 116 x_.2.2.2)), .gen (rowE (x_.1) x_.2.1 k3 x_.2.2.1 94 14 (dvals IT.cells x_.2.2.2) true), .gen (bunO k3 (TS.pxs ts5)), .gen (bunO k3 (TS.ops ts5)), .gen (rowE (A1) g2 k3 cp4 87 14 (dvals TS.cells ts5) true), rD (A') g' o' n' 4 (rvals xs')]) (fun x_ => x_.2.2.2.map (·.t) = ts5) (fun w hT => (shot A1 g2 0 k3 cp4 ts5 w (hT.viewRo (.cons (i := 2) rfl Vw.rowRd (.cons (i := 0) rfl Vw.bunSub .nil)) rfl) hgt (by omega)).mono fun e w' ⟨A8, g9, cp10, its11, he_, hf_, ht_⟩ => ⟨(A8, g9, cp10, its11), he_, hf_, hT.news ht_ rfl⟩) ?_
  rintro ⟨A8, g9, cp10, its11⟩ hf12_
  replace hf12_ : its11.map (·.t) = ts5 := hf12_
  refine cM ?_
  refine cont_fact (F := (0 < k3 → (A8 : Option Addr) = some ⟨g9, 0, none⟩) ∧ its11.length = k3 ∧ k3 ≤ cp10 ∧ cp10 ≤ maxLen) (fun w hT => Row.factsD IT.size (by decide) (hT.ok 2 _ rfl)) (fun hr13_ => ?_)
  obtain ⟨hr13_a, hr13_l, hr13_c, hr13_m⟩ := hr13_
  unfold maxLen at hr13_m
  have hmapS := hf12_
  refine bW [0, 0, 0, 0, 0, 0] 8 0 (fun b14 => [(1, iQ qw), (2, iQ qh), (3, .slice A' n' cap'), (9, .slice A1 k3 cp4), (10, pT b14), (11, .bool true)]) (fun b14 => [.cells b14 [iQ 0, .slice A8 k3 cp10] 28 true, .gen (bunO k3 (IT.pxs its11)), .gen (bunO k3 (IT.hds 116 its11)), .gen (rowE (A8) g9 k3 cp10 94 14 (dvals IT.cells its11) true), .gen (bunO k3 (TS.pxs ts5)), .gen (bunO k3 (TS.ops ts5)), .gen (rowE (A1) g2 k3 cp4 87 14 (dvals TS.cells ts5) true), rD (A') g' o' n' 4 (rvals xs')]) [1, 2, 3, 9, 10, 11] fun b14 => ?_
  refine zDNSSR 2 <| bD [0, 0] 2 0 [(22, .bool false)] [21] <| zDNFKNSR 5 <| bD [0, 0] 2 3 [(23, iQ qw), (24, iQ qh)] [] <| pS 3 2 <| cP 25 (.agg #[iQ 0, iQ 0, iQ (1 + aroundI qw 16), iQ (1 + aroundI qh 16)]) (fun w hT => refBox17 qw qh w (by omega) (by omega)) ?_
  have hq15_ := aroundI_range qw (m := 16) (by omega)
  have hq16_ := aroundI_range qh (m := 16) (by omega)
  refine bW [0, 0] 5 0 (fun b17 => [(3, .slice A' n' cap'), (9, .slice A1 k3 cp4), (10, pT b14), (12, pT b17)]) (fun b17 => [.cells b17 [iQ 0, iQ 0, iQ (1 + aroundI qw 16), iQ (1 + aroundI qh 16)] 32 true, .cells b14 [iQ 0, .slice A8 k3 cp10] 28 true, .gen (bunO k3 (IT.pxs its11)), .gen (bunO k3 (IT.hds 116 its11)), .gen (rowE (A8) g9 k3 cp10 94 14 (dvals IT.cells its11) true), .gen (bunO k3 (TS.pxs ts5)), .gen (bunO k3 (TS.ops ts5)), .gen (rowE (A1) g2 k3 cp4 87 14 (dvals TS.cells ts5) true), rD (A') g' o' n' 4 (rvals xs')]) [3, 9, 10, 12] fun b17 => ?_
  refine zDNSR 3 <| bD [0] 1 2 [(26, .slice A' n' cap')] [] <| pS 2 1 <| cG (d := 27) (α := Option Addr × Nat × Nat × Nat) (fun x_ => .slice x_.1 x_.2.2.1 x_.2.2.2) (fun x_ => [.gen (rowE (x_.1) x_.2.1 x_.2.2.1 x_.2.2.2 32 4 (rvals (canR (smallL xs' 8))) true), .cells b17 [iQ 0, iQ 0, iQ (1 + aroundI qw 16), iQ (1 + aroundI qh 16)] 32 true, .cells b14 [iQ 0, .slice A8 k3 cp10] 28 true, .gen (bunO k3 (IT.pxs its11)), .gen (bunO k3 (IT.hds 116 its11)), .gen (rowE (A8) g9 k3 cp10 94 14 (dvals IT.cells its11) true), .gen (bunO k3 (TS.pxs ts5)), .gen (bunO k3 (TS.ops ts5)), .gen (rowE (A1) g2 k3 cp4 87 14 (dvals TS.cells ts5) true), rD (A') g' o' n' 4 (rvals xs')]) (fun x_ => True) (fun w hT => (refGood A' g' o' n' cap' xs' w (hT.viewRo (.cons (i := 8) rfl Vw.rd .nil) rfl) hx').mono fun e w' ⟨A18, g19, k20, cp21, he_, ht_⟩ => ⟨(A18, g19, k20, cp21), he_, trivial, hT.news ht_ rfl⟩) ?_
  rintro ⟨A18, g19, k20, cp21⟩ hf22_
  refine cM ?_
  refine fR 0 k20 A18 g19 cp21 (canR (smallL xs' 8)) rfl fun hr23_a hr23_l hr23_c hr23_m => ?_
  obtain ⟨W9, hW9⟩ : ∃ y_ : List Rect, y_ = (canR (smallL xs' 8)) := ⟨_, rfl⟩
  refine cont_rowEqR 0 (canR (smallL xs' 8)) (W9) rfl hW9.symm ?_
  have hW9g : Good W9 := by rw [hW9]; exact Good.of _ _
  have hW9n := hW9g.len
  have hW9k : W9.length = k20 := by rw [hW9]; exact hr23_l
  refine bD [0] 3 0 [(13, .slice A18 k20 cp21)] [] <| zDNS <| drawn_enter 22 [] rfl (by kernel_rfl) ?_
  refine tD 0 [] [(0, 2), (1, 1), (2, 0), (4, 0), (5, 1), (6, 0)] 16 [6, 5, 4, 2, 1, 0] [(28, .agg #[iQ 0, .slice A8 k3 cp10]), (29, .agg #[iQ 0, iQ 0, iQ (1 + aroundI qw 16), iQ (1 + aroundI qh 16)]), (30, .slice A18 k20 cp21), (32, .slice A1 k3 cp4), (33, .agg #[iQ 0, iQ 0, iQ (1 + aroundI qw 16), iQ (1 + aroundI qh 16)]), (34, .slice A18 k20 cp21)] [] <| dO 3 15 <| cG (d := 31) (α := Option Addr × Nat × Nat × Nat) (fun x_ => .slice x_.1 x_.2.2.1 x_.2.2.2) (fun x_ => [.gen (rowE (x_.1) x_.2.1 x_.2.2.1 x_.2.2.2 68 5 (dvals JS.cells (jobsL (⟨0, 0, 1 + aroundI qw 16, 1 + aroundI qh 16⟩ : Rect) ts5 W9 k3)) true), .gen (rowE (A18) g19 k20 cp21 32 4 (rvals W9) true), .cells b17 [iQ 0, iQ 0, iQ (1 + aroundI qw 16), iQ (1 + aroundI qh 16)] 32 true, .cells b14 [iQ 0, .slice A8 k3 cp10] 28 true, .gen (bunO k3 (IT.pxs its11)), .gen (bunO k3 (IT.hds 116 its11)), .gen (rowE (A8) g9 k3 cp10 94 14 (dvals IT.cells its11) true), .gen (bunO k3 (TS.pxs ts5)), .gen (bunO k3 (TS.ops ts5)), .gen (rowE (A1) g2 k3 cp4 87 14 (dvals TS.cells ts5) true), rD (A') g' o' n' 4 (rvals xs')]) (fun x_ => True) (fun w hT => (planJobs 0 A8 g9 0 k3 cp10 its11 ts5 A18 g19 0 k20 cp21 W9 (1 + aroundI qw 16) (1 + aroundI qh 16) w (hT.viewRo (.cons (i := 5) rfl Vw.rowRd (.cons (i := 4) rfl Vw.bunSub (.cons (i := 3) rfl Vw.bunSub (.cons (i := 7) rfl Vw.bunSub (.cons (i := 0) rfl Vw.rowRd .nil))))) rfl) hmapS hgt (by omega) (by omega) (by omega) (by omega)).mono fun e w' ⟨A24, g25, k26, cp27, he_, ht_⟩ => ⟨(A24, g25, k26, cp27), he_, trivial, hT.news ht_ rfl⟩) ?_
  rintro ⟨A24, g25, k26, cp27⟩ hf28_
  refine cM ?_
  refine cont_fact (F := (0 < k26 → (A24 : Option Addr) = some ⟨g25, 0, none⟩) ∧ (jobsL (⟨0, 0, 1 + aroundI qw 16, 1 + aroundI qh 16⟩ : Rect) ts5 W9 k3).length = k26 ∧ k26 ≤ cp27 ∧ cp27 ≤ maxLen) (fun w hT => Row.factsD JS.size (by decide) (hT.ok 0 _ rfl)) (fun hr29_ => ?_)
  obtain ⟨hr29_a, hr29_l, hr29_c, hr29_m⟩ := hr29_
  unfold maxLen at hr29_m
  have hjn30_ := jobsL_len (W := (1 + aroundI qw 16)) (H := (1 + aroundI qh 16)) ⟨by omega, by omega⟩ ⟨by omega, by omega⟩ ts5 W9 k3
  refine dX 1 [] <| dO 7 14 <| cG (d := 35) (α := Option Addr × Nat × Nat × Nat) (fun x_ => .slice x_.1 x_.2.2.1 x_.2.2.2) (fun x_ => [.gen (rowE (x_.1) x_.2.1 x_.2.2.1 x_.2.2.2 75 5 (dvals JS.cells (jobsL (⟨0, 0, 1 + aroundI qw 16, 1 + aroundI qh 16⟩ : Rect) ts5 W9 k3)) true), .gen (rowE (A24) g25 k26 cp27 68 5 (dvals JS.cells (jobsL (⟨0, 0, 1 + aroundI qw 16, 1 + aroundI qh 16⟩ : Rect) ts5 W9 k3)) true), .gen (rowE (A18) g19 k20 cp21 32 4 (rvals W9) true), .cells b17 [iQ 0, iQ 0, iQ (1 + aroundI qw 16), iQ (1 + aroundI qh 16)] 32 true, .cells b14 [iQ 0, .slice A8 k3 cp10] 28 true, .gen (bunO k3 (IT.pxs its11)), .gen (bunO k3 (IT.hds 116 its11)), .gen (rowE (A8) g9 k3 cp10 94 14 (dvals IT.cells its11) true), .gen (bunO k3 (TS.pxs ts5)), .gen (bunO k3 (TS.ops ts5)), .gen (rowE (A1) g2 k3 cp4 87 14 (dvals TS.cells ts5) true), rD (A') g' o' n' 4 (rvals xs')]) (fun x_ => True) (fun w hT => (refJobs17 A1 g2 0 k3 cp4 ts5 A18 g19 0 k20 cp21 W9 (1 + aroundI qw 16) (1 + aroundI qh 16) w (hT.viewRo (.cons (i := 9) rfl Vw.rowRd (.cons (i := 7) rfl Vw.bunSub (.cons (i := 8) rfl Vw.bunSub (.cons (i := 1) rfl Vw.rowRd .nil)))) rfl) hgt (by omega) (by omega) (by omega) (by omega)).mono fun e w' ⟨A31, g32, k33, cp34, he_, ht_⟩ => ⟨(A31, g32, k33, cp34), he_, trivial, hT.news ht_ rfl⟩) ?_
  rintro ⟨A31, g32, k33, cp34⟩ hf35_
  refine cM ?_
  refine cont_fact (F := (0 < k33 → (A31 : Option Addr) = some ⟨g32, 0, none⟩) ∧ (jobsL (⟨0, 0, 1 + aroundI qw 16, 1 + aroundI qh 16⟩ : Rect) ts5 W9 k3).length = k33 ∧ k33 ≤ cp34 ∧ cp34 ≤ maxLen) (fun w hT => Row.factsD JS.size (by decide) (hT.ok 0 _ rfl)) (fun hr36_ => ?_)
  obtain ⟨hr36_a, hr36_l, hr36_c, hr36_m⟩ := hr36_
  unfold maxLen at hr36_m
  have hjn37_ := jobsL_len (W := (1 + aroundI qw 16)) (H := (1 + aroundI qh 16)) ⟨by omega, by omega⟩ ⟨by omega, by omega⟩ ts5 W9 k3
  refine dX 2 [] <| dO 8 13 <| cP 36 (.bool true) (fun w hT => lawJobs17 A24 g25 0 k26 cp27 (jobsL (⟨0, 0, 1 + aroundI qw 16, 1 + aroundI qh 16⟩ : Rect) ts5 W9 k3) A31 g32 0 k33 cp34 w (hT.viewRo (.cons (i := 1) rfl Vw.rowRd (.cons (i := 0) rfl Vw.rowRd .nil)) rfl) (by omega) (by omega)) <| dX 2 [] <| tK 2 [] [(9, 0), (10, 2), (11, 1), (13, 0), (14, 1)] 8 [14, 13, 11, 10, 9, 8, 7, 3, 6, 5, 4, 2, 1, 0] [(37, .bool true), (38, .agg #[iQ 0, .slice A8 k3 cp10]), (39, .agg #[iQ 0, iQ 0, iQ (1 + aroundI qw 16), iQ (1 + aroundI qh 16)]), (41, .slice A1 k3 cp4), (42, .agg #[iQ 0, iQ 0, iQ (1 + aroundI qw 16), iQ (1 + aroundI qh 16)])] <| dO 12 7 <| cG (d := 40) (α := Option Addr × Nat × Nat × Nat) (fun x_ => .slice x_.1 x_.2.2.1 x_.2.2.2) (fun x_ => [.gen (rowE (x_.1) x_.2.1 x_.2.2.1 x_.2.2.2 68 5 (dvals JS.cells (allL (⟨0, 0, 1 + aroundI qw 16, 1 + aroundI qh 16⟩ : Rect) ts5 k3)) true), .gen (rowE (A31) g32 k33 cp34 75 5 (dvals JS.cells (jobsL (⟨0, 0, 1 + aroundI qw 16, 1 + aroundI qh 16⟩ : Rect) ts5 W9 k3)) true), .gen (rowE (A24) g25 k26 cp27 68 5 (dvals JS.cells (jobsL (⟨0, 0, 1 + aroundI qw 16, 1 + aroundI qh 16⟩ : Rect) ts5 W9 k3)) true), .gen (rowE (A18) g19 k20 cp21 32 4 (rvals W9) true), .cells b17 [iQ 0, iQ 0, iQ (1 + aroundI qw 16), iQ (1 + aroundI qh 16)] 32 true, .cells b14 [iQ 0, .slice A8 k3 cp10] 28 true, .gen (bunO k3 (IT.pxs its11)), .gen (bunO k3 (IT.hds 116 its11)), .gen (rowE (A8) g9 k3 cp10 94 14 (dvals IT.cells its11) true), .gen (bunO k3 (TS.pxs ts5)), .gen (bunO k3 (TS.ops ts5)), .gen (rowE (A1) g2 k3 cp4 87 14 (dvals TS.cells ts5) true), rD (A') g' o' n' 4 (rvals xs')]) (fun x_ => True) (fun w hT => (planAll 0 A8 g9 0 k3 cp10 its11 ts5 (1 + aroundI qw 16) (1 + aroundI qh 16) w (hT.viewRo (.cons (i := 7) rfl Vw.rowRd (.cons (i := 6) rfl Vw.bunSub (.cons (i := 5) rfl Vw.bunSub .nil))) rfl) hmapS hgt (by omega) (by omega) (by omega)).mono fun e w' ⟨A38, g39, k40, cp41, he_, ht_⟩ => ⟨(A38, g39, k40, cp41), he_, trivial, hT.news ht_ rfl⟩) ?_
  rintro ⟨A38, g39, k40, cp41⟩ hf42_
  refine nL [(37, .bool true), (38, .agg #[iQ 0, .slice A8 k3 cp10]), (39, .agg #[iQ 0, iQ 0, iQ (1 + aroundI qw 16), iQ (1 + aroundI qh 16)]), (40, .slice A38 k40 cp41), (41, .slice A1 k3 cp4), (42, .agg #[iQ 0, iQ 0, iQ (1 + aroundI qw 16), iQ (1 + aroundI qh 16)])] ?_
  refine cont_fact (F := (0 < k40 → (A38 : Option Addr) = some ⟨g39, 0, none⟩) ∧ (allL (⟨0, 0, 1 + aroundI qw 16, 1 + aroundI qh 16⟩ : Rect) ts5 k3).length = k40 ∧ k40 ≤ cp41 ∧ cp41 ≤ maxLen) (fun w hT => Row.factsD JS.size (by decide) (hT.ok 0 _ rfl)) (fun hr43_ => ?_)
  obtain ⟨hr43_a, hr43_l, hr43_c, hr43_m⟩ := hr43_
  unfold maxLen at hr43_m
  have hjn44_ := allL_len (⟨0, 0, 1 + aroundI qw 16, 1 + aroundI qh 16⟩ : Rect) ts5 k3
  refine dX 3 [] <| dO 15 6 <| cG (d := 43) (α := Option Addr × Nat × Nat × Nat) (fun x_ => .slice x_.1 x_.2.2.1 x_.2.2.2) (fun x_ => [.gen (rowE (x_.1) x_.2.1 x_.2.2.1 x_.2.2.2 75 5 (dvals JS.cells (allL (⟨0, 0, 1 + aroundI qw 16, 1 + aroundI qh 16⟩ : Rect) ts5 k3)) true), .gen (rowE (A38) g39 k40 cp41 68 5 (dvals JS.cells (allL (⟨0, 0, 1 + aroundI qw 16, 1 + aroundI qh 16⟩ : Rect) ts5 k3)) true), .gen (rowE (A31) g32 k33 cp34 75 5 (dvals JS.cells (jobsL (⟨0, 0, 1 + aroundI qw 16, 1 + aroundI qh 16⟩ : Rect) ts5 W9 k3)) true), .gen (rowE (A24) g25 k26 cp27 68 5 (dvals JS.cells (jobsL (⟨0, 0, 1 + aroundI qw 16, 1 + aroundI qh 16⟩ : Rect) ts5 W9 k3)) true), .gen (rowE (A18) g19 k20 cp21 32 4 (rvals W9) true), .cells b17 [iQ 0, iQ 0, iQ (1 + aroundI qw 16), iQ (1 + aroundI qh 16)] 32 true, .cells b14 [iQ 0, .slice A8 k3 cp10] 28 true, .gen (bunO k3 (IT.pxs its11)), .gen (bunO k3 (IT.hds 116 its11)), .gen (rowE (A8) g9 k3 cp10 94 14 (dvals IT.cells its11) true), .gen (bunO k3 (TS.pxs ts5)), .gen (bunO k3 (TS.ops ts5)), .gen (rowE (A1) g2 k3 cp4 87 14 (dvals TS.cells ts5) true), rD (A') g' o' n' 4 (rvals xs')]) (fun x_ => True) (fun w hT => (refAll17 A1 g2 0 k3 cp4 ts5 (1 + aroundI qw 16) (1 + aroundI qh 16) w (hT.viewRo (.cons (i := 11) rfl Vw.rowRd .nil) rfl) hgt (by omega) (by omega) (by omega)).mono fun e w' ⟨A45, g46, k47, cp48, he_, ht_⟩ => ⟨(A45, g46, k47, cp48), he_, trivial, hT.news ht_ rfl⟩) ?_
  rintro ⟨A45, g46, k47, cp48⟩ hf49_
  refine cM ?_
  refine cont_fact (F := (0 < k47 → (A45 : Option Addr) = some ⟨g46, 0, none⟩) ∧ (allL (⟨0, 0, 1 + aroundI qw 16, 1 + aroundI qh 16⟩ : Rect) ts5 k3).length = k47 ∧ k47 ≤ cp48 ∧ cp48 ≤ maxLen) (fun w hT => Row.factsD JS.size (by decide) (hT.ok 0 _ rfl)) (fun hr50_ => ?_)
  obtain ⟨hr50_a, hr50_l, hr50_c, hr50_m⟩ := hr50_
  unfold maxLen at hr50_m
  have hjn51_ := allL_len (⟨0, 0, 1 + aroundI qw 16, 1 + aroundI qh 16⟩ : Rect) ts5 k3
  refine dX 4 [] <| dO 16 5 <| cP 44 (.bool true) (fun w hT => lawJobs17 A38 g39 0 k40 cp41 (allL (⟨0, 0, 1 + aroundI qw 16, 1 + aroundI qh 16⟩ : Rect) ts5 k3) A45 g46 0 k47 cp48 w (hT.viewRo (.cons (i := 1) rfl Vw.rowRd (.cons (i := 0) rfl Vw.rowRd .nil)) rfl) (by omega) (by omega)) <| dX 4 [] <| tD 4 [] [(17, 0), (18, 0)] 3 [18, 17, 16, 15, 12, 14, 13, 11, 10, 9, 8, 7, 3, 6, 5, 4, 2, 1, 0] [(46, .bool true)] [45] <| dO 19 2 <| cP 47 (.bool true) (fun w hT => lives17  w) <| dX 4 [] <| tD 4 [] [(20, 0), (21, 0)] 0 [21, 20, 19, 18, 17, 16, 15, 12, 14, 13, 11, 10, 9, 8, 7, 3, 6, 5, 4, 2, 1, 0] [(8, .bool true)] [48] <| dD <| zN <| cont_ret ?_
  refine rA rfl 0 (.bool true) fun w hT => ?_
  exact ⟨rfl, hT.post rfl⟩
end Go.Proofs.YtlfahohbkgdabaaGreat
