/- Texts of this proof's own, put together: what each holds is told ahead of it. -/
import Derived.Test.YtkfdmfclndaanaaPppqG2
import Derived.Test.YtkfdmfclndaanaaProg
import Derived.Test.YtkfdmfclndaanaaPppqG1
import Derived.Laws.Slices
set_option linter.unusedSimpArgs false
set_option linter.unusedVariables false
namespace Go.Proofs.Ytkfdmfclndaanaa
open Go Go.RowKit
set_option maxRecDepth 100000
set_option maxHeartbeats 8000000
theorem poolWriteR (p mp : Nat) (ds : List PB) (id a b c d : Int) (A2 : Option Addr) (g2 n2 cap2 : Nat) (xs2 : List Int) (ix : Nat) (x : PB) (B : Int) (R : List Ent) (w0 w : World) (hT0 : Tab w0 w ((.cells p [iQ ((ds.length : Nat) : Int), .map (some mp)] 65 true) :: (.gen (mapE mp (pmsV (keysP (liveP ds))) true)) :: (.gen (allE 67 81 48 (liveP ds))) :: (.gen (rowE (A2) g2 n2 cap2 5 1 (ivals .u8 xs2) true)) :: R)) (hok : PoolOk ds B) (hix : ix < ds.length) (hx : x = dget ds ix) (hal : x.al = true) (hfk : findP ds id = (ix : Int)) (hz : x.hd = 0) (hc2 : n2 ≤ cap2) (hx2 : ∀ x ∈ xs2, 0 ≤ x ∧ x ≤ 255) :
    Calls Try.prog 15 #[pT p, iQ id, .agg #[iQ a, iQ b, iQ c, iQ d], .slice A2 n2 cap2] w fun e w' => e = .returned (iQ (wrE x.W x.H a b c d xs2)) ∧ Tab w0 w' ((.cells p [iQ (((ds.set ix (PB.put x (wrA x.W x.H x.px a b c d xs2))).length : Nat) : Int), .map (some mp)] 65 true) :: (.gen (mapE mp (pmsV (keysP (liveP (ds.set ix (PB.put x (wrA x.W x.H x.px a b c d xs2)))))) true)) :: (.gen (allE 67 81 48 (liveP (ds.set ix (PB.put x (wrA x.W x.H x.px a b c d xs2)))))) :: (.gen (rowE (A2) g2 n2 cap2 5 1 (ivals .u8 xs2) true)) :: R) := by
  refine enterB 44 [(0, pT p), (1, iQ id), (2, .agg #[iQ a, iQ b, iQ c, iQ d]), (3, .slice A2 n2 cap2)] ((.cells p [iQ ((ds.length : Nat) : Int), .map (some mp)] 65 true) :: (.gen (mapE mp (pmsV (keysP (liveP ds))) true)) :: (.gen (allE 67 81 48 (liveP ds))) :: (.gen (rowE (A2) g2 n2 cap2 5 1 (ivals .u8 xs2) true)) :: R) Try.func15 rfl Try.ntmps15 rfl (by kernel_rfl) hT0 ?_
  refine zSR 2 <| bW [0, 0] 2 0 (fun b1 => [(0, pT p), (1, iQ id), (3, .slice A2 n2 cap2), (6, pT b1)]) (fun b1 => ((.cells b1 [iQ a, iQ b, iQ c, iQ d] 37 true) :: (.cells p [iQ ((ds.length : Nat) : Int), .map (some mp)] 65 true) :: (.gen (mapE mp (pmsV (keysP (liveP ds))) true)) :: (.gen (allE 67 81 48 (liveP ds))) :: (.gen (rowE (A2) g2 n2 cap2 5 1 (ivals .u8 xs2) true)) :: R)) [0, 1, 3, 6] fun b1 => ?_
  refine zDNSR 8 <| bD [0, 0] 2 6 [(12, pT p), (13, iQ id)] [] <| pS 3 5 <| cont_pickT [1, 2, 3, 0, 4] [.cells b1 [iQ a, iQ b, iQ c, iQ d] 37 true, .cells p [iQ ((ds.length : Nat) : Int), .map (some mp)] 65 true, .gen (mapE mp (pmsV (keysP (liveP ds))) true), .gen (allE 67 81 48 (liveP ds)), .gen (rowE (A2) g2 n2 cap2 5 1 (ivals .u8 xs2) true)] [.cells p [iQ ((ds.length : Nat) : Int), .map (some mp)] 65 true, .gen (mapE mp (pmsV (keysP (liveP ds))) true), .gen (allE 67 81 48 (liveP ds)), .cells b1 [iQ a, iQ b, iQ c, iQ d] 37 true, .gen (rowE (A2) g2 n2 cap2 5 1 (ivals .u8 xs2) true)] R ((.cells p [iQ ((ds.length : Nat) : Int), .map (some mp)] 65 true) :: (.gen (mapE mp (pmsV (keysP (liveP ds))) true)) :: (.gen (allE 67 81 48 (liveP ds))) :: (.cells b1 [iQ a, iQ b, iQ c, iQ d] 37 true) :: (.gen (rowE (A2) g2 n2 cap2 5 1 (ivals .u8 xs2) true)) :: R) rfl rfl rfl 5 rfl (by decide) ?_
  refine cG (d := 14) (α := Unit) (fun x_ => .tuple #[iQ (findP ds id), iQ (fndE ds id 5)]) (fun x_ => ((.cells p [iQ ((ds.length : Nat) : Int), .map (some mp)] 65 true) :: (.gen (mapE mp (pmsV (keysP (liveP ds))) true)) :: (.gen (allE 67 81 48 (liveP ds))) :: (.cells b1 [iQ a, iQ b, iQ c, iQ d] 37 true) :: (.gen (rowE (A2) g2 n2 cap2 5 1 (ivals .u8 xs2) true)) :: R)) (fun x_ => True) (fun w hT => (poolFind p mp ds id _ ((.cells b1 [iQ a, iQ b, iQ c, iQ d] 37 true) :: (.gen (rowE (A2) g2 n2 cap2 5 1 (ivals .u8 xs2) true)) :: R) _ w hT hok).mono fun e w' ⟨he_, ht_⟩ => ⟨(), he_, trivial, ht_⟩) ?_
  rintro ⟨⟩ -
  refine cont_pickT [3, 0, 1, 2, 4] [.cells p [iQ ((ds.length : Nat) : Int), .map (some mp)] 65 true, .gen (mapE mp (pmsV (keysP (liveP ds))) true), .gen (allE 67 81 48 (liveP ds)), .cells b1 [iQ a, iQ b, iQ c, iQ d] 37 true, .gen (rowE (A2) g2 n2 cap2 5 1 (ivals .u8 xs2) true)] [.cells b1 [iQ a, iQ b, iQ c, iQ d] 37 true, .cells p [iQ ((ds.length : Nat) : Int), .map (some mp)] 65 true, .gen (mapE mp (pmsV (keysP (liveP ds))) true), .gen (allE 67 81 48 (liveP ds)), .gen (rowE (A2) g2 n2 cap2 5 1 (ivals .u8 xs2) true)] R ((.cells b1 [iQ a, iQ b, iQ c, iQ d] 37 true) :: (.cells p [iQ ((ds.length : Nat) : Int), .map (some mp)] 65 true) :: (.gen (mapE mp (pmsV (keysP (liveP ds))) true)) :: (.gen (allE 67 81 48 (liveP ds))) :: (.gen (rowE (A2) g2 n2 cap2 5 1 (ivals .u8 xs2) true)) :: R) rfl rfl rfl 5 rfl (by decide) ?_
  refine cM ?_
  refine bD [0, 0, 0, 0, 0] 8 0 [(9, iQ (findP ds id)), (10, iQ (fndE ds id 5))] [11, 15, 16] <| zDNS <| cont_block <| zSR 3 <| rC 9 (iQ ((ix : Nat) : Int)) rfl (congrArg (Value.int .i64) hfk) <| rC 10 (iQ 0) rfl (congrArg (Value.int .i64) (fndE_yes (by omega))) <| bD [0, 0, 0] 3 0 [(17, .bool false)] [18, 19] <| zDN <| cFa rfl <| zSR 11 <| cont_takeB 3 x (restP ds ix) rfl (takeP hix hx hal) ?_
  refine cM ?_
  have him : ImgOk x.W x.H x.n x.px := by rw [hx]; exact hok.img _ (dget_mem hix)
  refine bD [0, 0, 0, 4, 0] 5 6 [(25, .map (some mp)), (26, iQ ((ix : Nat) : Int))] [22, 23, 24] <| pS 6 5 <| sS 27 (Instr.lookup 63 (.map (some mp)) (iQ ((ix : Nat) : Int)) false) (pT x.b) (fun w hT => (run_lookup (z := .pointer none) (hT.ok 5 _ rfl) (kt := 3) (et := 68) (kf := .i64) (by kernel_rfl) (by kernel_rfl) (by kernel_rfl) ((ix : Nat) : Int)).trans (by rw [mget_yes hok hix hx hal]; rfl)) <| bD [0, 0, 0, 0, 0] 11 0 [(21, .bool (decide (x.hd > 0)))] [28, 29, 30, 31] <| zDN <| rC 21 (.bool false) rfl (congrArg Value.bool (decide_eq_false (by omega))) <| cFa rfl <| cont_skip <| blk_normal <| zN <| cSq <| drawn_enter 13 [2] rfl (by kernel_rfl) ?_
  refine tD 0 [2] [(0, 0), (4, 0), (9, 3), (10, 0), (1, 0), (2, 0), (3, 4)] 6 [3, 2, 1, 10, 9, 4, 0] [(35, .map (some mp)), (36, iQ ((ix : Nat) : Int)), (41, .agg #[iQ a, iQ b, iQ c, iQ d]), (42, .slice A2 n2 cap2)] [32, 33, 34] <| dO 5 5 <| sS 37 (Instr.lookup 63 (.map (some mp)) (iQ ((ix : Nat) : Int)) false) (pT x.b) (fun w hT => (run_lookup (z := .pointer none) (hT.ok 5 _ rfl) (kt := 3) (et := 68) (kf := .i64) (by kernel_rfl) (by kernel_rfl) (by kernel_rfl) ((ix : Nat) : Int)).trans (by rw [mget_yes hok hix hx hal]; rfl)) <| dX 0 [2] <| tD 0 [2] [(6, 0), (7, 0), (8, 0)] 2 [8, 7, 6, 5, 3, 2, 1, 10, 9, 4, 0] [(40, pT x.m)] [38, 39] <| dO 11 1 <| cG (d := 43) (α := Unit) (fun _ => iQ (wrE x.W x.H a b c d xs2)) (fun _ => ((.cells x.b [iQ x.id, .bool x.nm, pT x.m, iQ x.hd] 67 true) :: (.cells x.m [iQ x.W, iQ x.H, sL x.q x.n x.n] 81 true) :: (.gen (rowE (some ⟨x.q, 0, none⟩) x.q x.n x.n 48 1 (cV (wrA x.W x.H x.px a b c d xs2)) true)) :: (.cells b1 [iQ a, iQ b, iQ c, iQ d] 37 true) :: (.cells p [iQ ((ds.length : Nat) : Int), .map (some mp)] 65 true) :: (.gen (mapE mp (pmsV (keysP (liveP ds))) true)) :: (.gen (allE 67 81 48 (restP ds ix))) :: (.gen (rowE (A2) g2 n2 cap2 5 1 (ivals .u8 xs2) true)) :: R)) (fun _ => True) (fun w hT => (imgWrite x.m x.W x.H x.q x.n x.n x.px a b c d A2 g2 0 n2 cap2 xs2 w (hT.view (.cons (i := 1) rfl Vw.roc (.cons (i := 2) rfl Vw.row (.cons (i := 7) rfl Vw.rowRd .nil))) (by decide)) him (Row.capLe (hT.ok 2 _ rfl)) hc2 hx2).mono fun e w' ⟨he_, ht_⟩ => ⟨(), he_, trivial, hT.merge (N := []) (s := [1, 2]) ht_ (.skip rfl (.cons (i := 2) rfl Mg.row .nil)) (by decide) (fun i e h => by simp at h)⟩) (fun _ _ => ?_)
  refine dX 0 [2] <| tD 0 [2] [(12, 0)] 0 [12, 11, 8, 7, 6, 5, 3, 2, 1, 10, 9, 4, 0] [(8, iQ (wrE x.W x.H a b c d xs2))] [] <| dD <| zN <| cont_ret <| cont_norm [(8, iQ (wrE x.W x.H a b c d xs2))] ((.cells x.b [iQ x.id, .bool x.nm, pT x.m, iQ x.hd] 67 true) :: (.cells x.m [iQ x.W, iQ x.H, sL x.q x.n x.n] 81 true) :: (.gen (rowE (some ⟨x.q, 0, none⟩) x.q x.n x.n 48 1 (cV (wrA x.W x.H x.px a b c d xs2)) true)) :: (.cells b1 [iQ a, iQ b, iQ c, iQ d] 37 true) :: (.cells p [iQ (((ds.set ix (PB.put x (wrA x.W x.H x.px a b c d xs2))).length : Nat) : Int), .map (some mp)] 65 true) :: (.gen (mapE mp (pmsV (keysP (liveP ds))) true)) :: (.gen (allE 67 81 48 (restP ds ix))) :: (.gen (rowE (A2) g2 n2 cap2 5 1 (ivals .u8 xs2) true)) :: R) (by kernel_rfl) (congrArg (fun c_ : List Value => (((.cells x.b [iQ x.id, .bool x.nm, pT x.m, iQ x.hd] 67 true) :: (.cells x.m [iQ x.W, iQ x.H, sL x.q x.n x.n] 81 true) :: (.gen (rowE (some ⟨x.q, 0, none⟩) x.q x.n x.n 48 1 (cV (wrA x.W x.H x.px a b c d xs2)) true)) :: (.cells b1 [iQ a, iQ b, iQ c, iQ d] 37 true) :: (.cells p c_ 65 true) :: (.gen (mapE mp (pmsV (keysP (liveP ds))) true)) :: (.gen (allE 67 81 48 (restP ds ix))) :: (.gen (rowE (A2) g2 n2 cap2 5 1 (ivals .u8 xs2) true)) :: R) : List Ent)) (by rw [List.length_set])) ?_
  refine cont_entEq 5 (.gen (mapE mp (pmsV (keysP (liveP ds))) true)) (.gen (mapE mp (pmsV (keysP (liveP (ds.set ix (PB.put x (wrA x.W x.H x.px a b c d xs2)))))) true)) rfl (congrArg (fun m_ => Ent.gen (mapE mp m_ true)) (keys_upd (y := (PB.put x (wrA x.W x.H x.px a b c d xs2))) hix hx hal hal rfl rfl)) ?_
  refine cM ?_
  refine cM ?_
  refine cont_putOr 3 (PB.put x (wrA x.W x.H x.px a b c d xs2)) (ds := ds) (ix := ix) rfl hix ?_
  refine cM ?_
  refine rA rfl 0 (iQ (wrE x.W x.H a b c d xs2)) fun w hT => ?_
  replace hT := hT.erase 0 (fun e h hw => by cases h; first | rfl | cases hw)
  exact ⟨rfl, hT⟩
theorem poolWriteD (p mp : Nat) (ds : List PB) (id a b c d : Int) (A2 : Option Addr) (g2 o2 n2 cap2 : Nat) (xs2 : List Int) (ix : Nat) (x : PB) (B : Int) (R : List Ent) (w0 w : World) (hT0 : Tab w0 w ((.cells p [iQ ((ds.length : Nat) : Int), .map (some mp)] 65 true) :: (.gen (mapE mp (pmsV (keysP (liveP ds))) true)) :: (.gen (allE 67 81 48 (liveP ds))) :: (rD (A2) g2 o2 n2 1 (ivals .u8 xs2)) :: R)) (hok : PoolOk ds B) (hix : ix < ds.length) (hx : x = dget ds ix) (hal : x.al = true) (hfk : findP ds id = (ix : Int)) (hz : x.hd = 0) (hc2 : n2 ≤ cap2) (hx2 : ∀ x ∈ xs2, 0 ≤ x ∧ x ≤ 255) :
    Calls Try.prog 15 #[pT p, iQ id, .agg #[iQ a, iQ b, iQ c, iQ d], .slice A2 n2 cap2] w fun e w' => e = .returned (iQ (wrE x.W x.H a b c d xs2)) ∧ Tab w0 w' ((.cells p [iQ (((ds.set ix (PB.put x (wrA x.W x.H x.px a b c d xs2))).length : Nat) : Int), .map (some mp)] 65 true) :: (.gen (mapE mp (pmsV (keysP (liveP (ds.set ix (PB.put x (wrA x.W x.H x.px a b c d xs2)))))) true)) :: (.gen (allE 67 81 48 (liveP (ds.set ix (PB.put x (wrA x.W x.H x.px a b c d xs2)))))) :: (rD (A2) g2 o2 n2 1 (ivals .u8 xs2)) :: R) := by
  refine enterB 44 [(0, pT p), (1, iQ id), (2, .agg #[iQ a, iQ b, iQ c, iQ d]), (3, .slice A2 n2 cap2)] ((.cells p [iQ ((ds.length : Nat) : Int), .map (some mp)] 65 true) :: (.gen (mapE mp (pmsV (keysP (liveP ds))) true)) :: (.gen (allE 67 81 48 (liveP ds))) :: (rD (A2) g2 o2 n2 1 (ivals .u8 xs2)) :: R) Try.func15 rfl Try.ntmps15 rfl (by kernel_rfl) hT0 ?_
  refine zSR 2 <| bW [0, 0] 2 0 (fun b1 => [(0, pT p), (1, iQ id), (3, .slice A2 n2 cap2), (6, pT b1)]) (fun b1 => ((.cells b1 [iQ a, iQ b, iQ c, iQ d] 37 true) :: (.cells p [iQ ((ds.length : Nat) : Int), .map (some mp)] 65 true) :: (.gen (mapE mp (pmsV (keysP (liveP ds))) true)) :: (.gen (allE 67 81 48 (liveP ds))) :: (rD (A2) g2 o2 n2 1 (ivals .u8 xs2)) :: R)) [0, 1, 3, 6] fun b1 => ?_
  refine zDNSR 8 <| bD [0, 0] 2 6 [(12, pT p), (13, iQ id)] [] <| pS 3 5 <| cont_pickT [1, 2, 3, 0, 4] [.cells b1 [iQ a, iQ b, iQ c, iQ d] 37 true, .cells p [iQ ((ds.length : Nat) : Int), .map (some mp)] 65 true, .gen (mapE mp (pmsV (keysP (liveP ds))) true), .gen (allE 67 81 48 (liveP ds)), rD (A2) g2 o2 n2 1 (ivals .u8 xs2)] [.cells p [iQ ((ds.length : Nat) : Int), .map (some mp)] 65 true, .gen (mapE mp (pmsV (keysP (liveP ds))) true), .gen (allE 67 81 48 (liveP ds)), .cells b1 [iQ a, iQ b, iQ c, iQ d] 37 true, rD (A2) g2 o2 n2 1 (ivals .u8 xs2)] R ((.cells p [iQ ((ds.length : Nat) : Int), .map (some mp)] 65 true) :: (.gen (mapE mp (pmsV (keysP (liveP ds))) true)) :: (.gen (allE 67 81 48 (liveP ds))) :: (.cells b1 [iQ a, iQ b, iQ c, iQ d] 37 true) :: (rD (A2) g2 o2 n2 1 (ivals .u8 xs2)) :: R) rfl rfl rfl 5 rfl (by decide) ?_
  refine cG (d := 14) (α := Unit) (fun x_ => .tuple #[iQ (findP ds id), iQ (fndE ds id 5)]) (fun x_ => ((.cells p [iQ ((ds.length : Nat) : Int), .map (some mp)] 65 true) :: (.gen (mapE mp (pmsV (keysP (liveP ds))) true)) :: (.gen (allE 67 81 48 (liveP ds))) :: (.cells b1 [iQ a, iQ b, iQ c, iQ d] 37 true) :: (rD (A2) g2 o2 n2 1 (ivals .u8 xs2)) :: R)) (fun x_ => True) (fun w hT => (poolFind p mp ds id _ ((.cells b1 [iQ a, iQ b, iQ c, iQ d] 37 true) :: (rD (A2) g2 o2 n2 1 (ivals .u8 xs2)) :: R) _ w hT hok).mono fun e w' ⟨he_, ht_⟩ => ⟨(), he_, trivial, ht_⟩) ?_
  rintro ⟨⟩ -
  refine cont_pickT [3, 0, 1, 2, 4] [.cells p [iQ ((ds.length : Nat) : Int), .map (some mp)] 65 true, .gen (mapE mp (pmsV (keysP (liveP ds))) true), .gen (allE 67 81 48 (liveP ds)), .cells b1 [iQ a, iQ b, iQ c, iQ d] 37 true, rD (A2) g2 o2 n2 1 (ivals .u8 xs2)] [.cells b1 [iQ a, iQ b, iQ c, iQ d] 37 true, .cells p [iQ ((ds.length : Nat) : Int), .map (some mp)] 65 true, .gen (mapE mp (pmsV (keysP (liveP ds))) true), .gen (allE 67 81 48 (liveP ds)), rD (A2) g2 o2 n2 1 (ivals .u8 xs2)] R ((.cells b1 [iQ a, iQ b, iQ c, iQ d] 37 true) :: (.cells p [iQ ((ds.length : Nat) : Int), .map (some mp)] 65 true) :: (.gen (mapE mp (pmsV (keysP (liveP ds))) true)) :: (.gen (allE 67 81 48 (liveP ds))) :: (rD (A2) g2 o2 n2 1 (ivals .u8 xs2)) :: R) rfl rfl rfl 5 rfl (by decide) ?_
  refine cM ?_
  refine bD [0, 0, 0, 0, 0] 8 0 [(9, iQ (findP ds id)), (10, iQ (fndE ds id 5))] [11, 15, 16] <| zDNS <| cont_block <| zSR 3 <| rC 9 (iQ ((ix : Nat) : Int)) rfl (congrArg (Value.int .i64) hfk) <| rC 10 (iQ 0) rfl (congrArg (Value.int .i64) (fndE_yes (by omega))) <| bD [0, 0, 0] 3 0 [(17, .bool false)] [18, 19] <| zDN <| cFa rfl <| zSR 11 <| cont_takeB 3 x (restP ds ix) rfl (takeP hix hx hal) ?_
  refine cM ?_
  have him : ImgOk x.W x.H x.n x.px := by rw [hx]; exact hok.img _ (dget_mem hix)
  refine bD [0, 0, 0, 4, 0] 5 6 [(25, .map (some mp)), (26, iQ ((ix : Nat) : Int))] [22, 23, 24] <| pS 6 5 <| sS 27 (Instr.lookup 63 (.map (some mp)) (iQ ((ix : Nat) : Int)) false) (pT x.b) (fun w hT => (run_lookup (z := .pointer none) (hT.ok 5 _ rfl) (kt := 3) (et := 68) (kf := .i64) (by kernel_rfl) (by kernel_rfl) (by kernel_rfl) ((ix : Nat) : Int)).trans (by rw [mget_yes hok hix hx hal]; rfl)) <| bD [0, 0, 0, 0, 0] 11 0 [(21, .bool (decide (x.hd > 0)))] [28, 29, 30, 31] <| zDN <| rC 21 (.bool false) rfl (congrArg Value.bool (decide_eq_false (by omega))) <| cFa rfl <| cont_skip <| blk_normal <| zN <| cSq <| drawn_enter 13 [2] rfl (by kernel_rfl) ?_
  refine tD 0 [2] [(0, 0), (4, 0), (9, 3), (10, 0), (1, 0), (2, 0), (3, 4)] 6 [3, 2, 1, 10, 9, 4, 0] [(35, .map (some mp)), (36, iQ ((ix : Nat) : Int)), (41, .agg #[iQ a, iQ b, iQ c, iQ d]), (42, .slice A2 n2 cap2)] [32, 33, 34] <| dO 5 5 <| sS 37 (Instr.lookup 63 (.map (some mp)) (iQ ((ix : Nat) : Int)) false) (pT x.b) (fun w hT => (run_lookup (z := .pointer none) (hT.ok 5 _ rfl) (kt := 3) (et := 68) (kf := .i64) (by kernel_rfl) (by kernel_rfl) (by kernel_rfl) ((ix : Nat) : Int)).trans (by rw [mget_yes hok hix hx hal]; rfl)) <| dX 0 [2] <| tD 0 [2] [(6, 0), (7, 0), (8, 0)] 2 [8, 7, 6, 5, 3, 2, 1, 10, 9, 4, 0] [(40, pT x.m)] [38, 39] <| dO 11 1 <| cG (d := 43) (α := Unit) (fun _ => iQ (wrE x.W x.H a b c d xs2)) (fun _ => ((.cells x.b [iQ x.id, .bool x.nm, pT x.m, iQ x.hd] 67 true) :: (.cells x.m [iQ x.W, iQ x.H, sL x.q x.n x.n] 81 true) :: (.gen (rowE (some ⟨x.q, 0, none⟩) x.q x.n x.n 48 1 (cV (wrA x.W x.H x.px a b c d xs2)) true)) :: (.cells b1 [iQ a, iQ b, iQ c, iQ d] 37 true) :: (.cells p [iQ ((ds.length : Nat) : Int), .map (some mp)] 65 true) :: (.gen (mapE mp (pmsV (keysP (liveP ds))) true)) :: (.gen (allE 67 81 48 (restP ds ix))) :: (rD (A2) g2 o2 n2 1 (ivals .u8 xs2)) :: R)) (fun _ => True) (fun w hT => (imgWrite x.m x.W x.H x.q x.n x.n x.px a b c d A2 g2 o2 n2 cap2 xs2 w (hT.view (.cons (i := 1) rfl Vw.roc (.cons (i := 2) rfl Vw.row (.cons (i := 7) rfl Vw.rd .nil))) (by decide)) him (Row.capLe (hT.ok 2 _ rfl)) hc2 hx2).mono fun e w' ⟨he_, ht_⟩ => ⟨(), he_, trivial, hT.merge (N := []) (s := [1, 2]) ht_ (.skip rfl (.cons (i := 2) rfl Mg.row .nil)) (by decide) (fun i e h => by simp at h)⟩) (fun _ _ => ?_)
  refine dX 0 [2] <| tD 0 [2] [(12, 0)] 0 [12, 11, 8, 7, 6, 5, 3, 2, 1, 10, 9, 4, 0] [(8, iQ (wrE x.W x.H a b c d xs2))] [] <| dD <| zN <| cont_ret <| cont_norm [(8, iQ (wrE x.W x.H a b c d xs2))] ((.cells x.b [iQ x.id, .bool x.nm, pT x.m, iQ x.hd] 67 true) :: (.cells x.m [iQ x.W, iQ x.H, sL x.q x.n x.n] 81 true) :: (.gen (rowE (some ⟨x.q, 0, none⟩) x.q x.n x.n 48 1 (cV (wrA x.W x.H x.px a b c d xs2)) true)) :: (.cells b1 [iQ a, iQ b, iQ c, iQ d] 37 true) :: (.cells p [iQ (((ds.set ix (PB.put x (wrA x.W x.H x.px a b c d xs2))).length : Nat) : Int), .map (some mp)] 65 true) :: (.gen (mapE mp (pmsV (keysP (liveP ds))) true)) :: (.gen (allE 67 81 48 (restP ds ix))) :: (rD (A2) g2 o2 n2 1 (ivals .u8 xs2)) :: R) (by kernel_rfl) (congrArg (fun c_ : List Value => (((.cells x.b [iQ x.id, .bool x.nm, pT x.m, iQ x.hd] 67 true) :: (.cells x.m [iQ x.W, iQ x.H, sL x.q x.n x.n] 81 true) :: (.gen (rowE (some ⟨x.q, 0, none⟩) x.q x.n x.n 48 1 (cV (wrA x.W x.H x.px a b c d xs2)) true)) :: (.cells b1 [iQ a, iQ b, iQ c, iQ d] 37 true) :: (.cells p c_ 65 true) :: (.gen (mapE mp (pmsV (keysP (liveP ds))) true)) :: (.gen (allE 67 81 48 (restP ds ix))) :: (rD (A2) g2 o2 n2 1 (ivals .u8 xs2)) :: R) : List Ent)) (by rw [List.length_set])) ?_
  refine cont_entEq 5 (.gen (mapE mp (pmsV (keysP (liveP ds))) true)) (.gen (mapE mp (pmsV (keysP (liveP (ds.set ix (PB.put x (wrA x.W x.H x.px a b c d xs2)))))) true)) rfl (congrArg (fun m_ => Ent.gen (mapE mp m_ true)) (keys_upd (y := (PB.put x (wrA x.W x.H x.px a b c d xs2))) hix hx hal hal rfl rfl)) ?_
  refine cM ?_
  refine cM ?_
  refine cont_putOr 3 (PB.put x (wrA x.W x.H x.px a b c d xs2)) (ds := ds) (ix := ix) rfl hix ?_
  refine cM ?_
  refine rA rfl 0 (iQ (wrE x.W x.H a b c d xs2)) fun w hT => ?_
  replace hT := hT.erase 0 (fun e h hw => by cases h; first | rfl | cases hw)
  exact ⟨rfl, hT⟩
end Go.Proofs.Ytkfdmfclndaanaa
namespace Go.Proofs.Ytkfdmfclndaanaa
open Go Go.RowKit
theorem newP_ok {ds : List PB} {B : Int} (h : PoolOk ds B) (hB : 0 ≤ B) {id W H : Int} {b m q n : Nat} (hf : findP ds id = -1) (hg : 1 ≤ W ∧ W ≤ 256 ∧ 1 ≤ H ∧ H ≤ 256) (hn : (n : Int) = W * H) : PoolOk (ds ++ [newP ((ds.length : Nat) : Int) b id m W H q n]) B :=
  h.push hB rfl (fun y hy => findP_none h hf y hy) (imgOk_new hg hn) (AllMay.rep n) rfl
theorem drop_ok {ds : List PB} {B : Int} (h : PoolOk ds B) {i : Nat} {x : PB} (hi : i < ds.length) (hx : x = dget ds i) : PoolOk (ds.set i (PB.drop x)) B := by
  have hm : x ∈ ds := by rw [hx]; exact dget_mem hi
  exact h.set hi (Int.le_refl _) (by show x.k = _; rw [hx, h.key i hi]) (fun e => by cases (show false = true from e)) (h.img x hm) (h.may x hm) (h.hd x hm)
theorem hold_ok {ds : List PB} {B : Int} (h : PoolOk ds B) {i : Nat} {x : PB} (hi : i < ds.length) (hx : x = dget ds i) : PoolOk (ds.set i (PB.hold x)) (B + 1) := by
  have hm : x ∈ ds := by rw [hx]; exact dget_mem hi
  have := h.hd x hm
  exact h.set hi (by omega) (by show x.k = _; rw [hx, h.key i hi]) (fun e => ⟨by rw [← hx]; exact e, by rw [← hx]; rfl⟩) (h.img x hm) (h.may x hm) (by show 0 ≤ x.hd + 1 ∧ x.hd + 1 ≤ _; omega)
theorem less_ok {ds : List PB} {B : Int} (h : PoolOk ds B) {i : Nat} {x : PB} (hi : i < ds.length) (hx : x = dget ds i) (h0 : 0 < x.hd) : PoolOk (ds.set i (PB.less x)) B := by
  have hm : x ∈ ds := by rw [hx]; exact dget_mem hi
  have := h.hd x hm
  exact h.set hi (Int.le_refl _) (by show x.k = _; rw [hx, h.key i hi]) (fun e => ⟨by rw [← hx]; exact e, by rw [← hx]; rfl⟩) (h.img x hm) (h.may x hm) (by show 0 ≤ x.hd - 1 ∧ x.hd - 1 ≤ _; omega)
def dstP (ds : List PB) (id : Int) : List PB := if findP ds id = -1 then ds else ds.set (findP ds id).toNat (PB.drop (dget ds (findP ds id).toNat))
theorem dst_no {ds : List PB} {id : Int} (h : findP ds id = -1) : dstP ds id = ds := if_pos h
theorem dst_yes {ds : List PB} {id : Int} {i : Nat} {x : PB} (h : findP ds id = (i : Int)) (hx : x = dget ds i) : dstP ds id = ds.set i (PB.drop x) := by
  unfold dstP
  rw [if_neg (by omega), h, Int.toNat_natCast, hx]
theorem dst_ok {ds : List PB} {B id : Int} (h : PoolOk ds B) : PoolOk (dstP ds id) B := by
  by_cases hf : findP ds id = -1
  · rw [dst_no hf]; exact h
  · obtain ⟨i, x, hi, hx, _, hfk, _, _⟩ := hit_at h hf
    rw [dst_yes hfk hx]; exact drop_ok h hi hx
def oneP (b : Nat) (id : Int) (m : Nat) (W H : Int) (q n : Nat) (hd : Int) (nm : Bool) : PB := ⟨0, b, id, nm, hd, m, W, H, q, n, List.replicate n 0⟩
theorem one_ok {b : Nat} {id : Int} {m : Nat} {W H : Int} {q n : Nat} {hd : Int} {nm : Bool} (hn : (n : Int) = W * H) (hg : 1 ≤ W ∧ W ≤ 256 ∧ 1 ≤ H ∧ H ≤ 256) (hh : 0 ≤ hd ∧ hd ≤ 9) : PoolOk [oneP b id m W H q n hd nm] 9 := by
  refine ⟨fun i hi => ?_, fun x hx y hy _ _ _ => ?_, fun x hx => ?_, fun x hx => ?_, fun x hx => ?_⟩
  · have : i = 0 := by simp at hi; omega
    subst this; rfl
  · rw [List.mem_singleton.1 hx, List.mem_singleton.1 hy]
  · rw [List.mem_singleton.1 hx]; exact imgOk_new hg hn
  · rw [List.mem_singleton.1 hx]; exact AllMay.rep n
  · rw [List.mem_singleton.1 hx]; exact hh
theorem one_al {b : Nat} {id : Int} {m : Nat} {W H : Int} {q n : Nat} {hd : Int} {nm : Bool} (h : nm = true ∨ 0 < hd) : (oneP b id m W H q n hd nm).al = true := by
  unfold PB.al oneP
  rcases h with h | h
  · simp [h]
  · simp [h]
theorem one_find {b : Nat} {id : Int} {m : Nat} {W H : Int} {q n : Nat} {hd : Int} : findP [oneP b id m W H q n hd true] id = ((0 : Nat) : Int) := by
  unfold findP hitB oneP
  simp
end Go.Proofs.Ytkfdmfclndaanaa
namespace Go.Proofs.Ytkfdmfclndaanaa
open Go Go.RowKit
set_option maxRecDepth 100000
set_option maxHeartbeats 8000000
theorem poolDestroy (p mp : Nat) (ds : List PB) (id : Int) (B : Int) (R : List Ent) (w0 w : World) (hT0 : Tab w0 w ((.cells p [iQ ((ds.length : Nat) : Int), .map (some mp)] 65 true) :: (.gen (mapE mp (pmsV (keysP (liveP ds))) true)) :: (.gen (allE 67 81 48 (liveP ds))) :: R)) (hok : PoolOk ds B) :
    Calls Try.prog 9 #[pT p, iQ id] w fun e w' => e = .returned (iQ (fndE ds id 5)) ∧ Tab w0 w' ((.cells p [iQ (((dstP ds id).length : Nat) : Int), .map (some mp)] 65 true) :: (.gen (mapE mp (pmsV (keysP (liveP (dstP ds id)))) true)) :: (.gen (allE 67 81 48 (liveP (dstP ds id)))) :: R) := by
  by_cases hf : findP ds id = -1
  · rw [dst_no hf, fndE_no hf]
    exact poolDestroyN p mp ds id B R w0 w hT0 hok hf
  · obtain ⟨ix, x, hix, hx, hal, hfk, hn, hid⟩ := hit_at hok hf
    rw [dst_yes hfk hx, fndE_yes hf]
    exact poolDestroyY p mp ds id ix x B R w0 w hT0 hok hix hx hal hfk
theorem lives12 (w : World) :
    Calls Try.prog 13 #[] w fun e w' => e = .returned (.bool true) ∧ Below w.heap.size w w' := by
 refine eN [] Try.func13 Try.ntmps13 rfl (Tab.start w) ?_
 refine zSR 1 <| bS [0] 1 0 [] <| zDNSR 2 <| pS 1 1 <| cG (d := 7) (α := Nat × Nat) (fun x_ => .pointer (pB x_.1)) (fun x_ => [.cells x_.1 [iq ((([] : List PB).length : Nat) : Int), .map (some x_.2)] 65 true, .gen (mapE x_.2 (pmsV (keysP (liveP ([] : List PB)))) true), .gen (allE 67 81 48 (liveP ([] : List PB)))]) (fun x_ => True) (fun w hT => (poolNew  w).mono fun e w' ⟨p1, mp2, he_, ht_⟩ => ⟨(p1, mp2), he_, trivial, hT.news ht_ rfl⟩) ?_
 rintro ⟨p1, mp2⟩ hf3_
 refine bS [0] 2 0 [(1, .pointer (pB p1))] <| zDNSSR 2 <| bD [0, 0] 2 0 [(9, .bool false)] [8] <| zDNFKNSR 7 <| bD [0] 1 6 [(11, .pointer (pB p1))] [] <| pS 2 5 <| cG (d := 12) (α := Nat × Nat × Nat × Nat) (fun x_ => .tuple #[iq 0, iq 0]) (fun x_ => [.cells p1 [iq (((([] : List PB) ++ [newP ((([] : List PB).length : Nat) : Int) x_.1 5 x_.2.1 2 2 x_.2.2.1 x_.2.2.2]).length : Nat) : Int), .map (some mp2)] 65 true, .gen (mapE mp2 (pmsV (keysP (liveP (([] : List PB) ++ [newP ((([] : List PB).length : Nat) : Int) x_.1 5 x_.2.1 2 2 x_.2.2.1 x_.2.2.2])))) true), .gen (allE 67 81 48 (liveP (([] : List PB) ++ [newP ((([] : List PB).length : Nat) : Int) x_.1 5 x_.2.1 2 2 x_.2.2.1 x_.2.2.2])))]) (fun x_ => (x_.2.2.2 : Int) = 2 * 2) (fun w hT => (poolMakeY p1 mp2 ([] : List PB) 5 2 2 _ [] _ w hT (PoolOk.nil 0) rfl (by omega) (by decide)).mono fun e w' ⟨b4_, m5_, q6_, n7_, he_, hf_, ht_⟩ => ⟨(b4_, m5_, q6_, n7_), he_, hf_, ht_⟩) ?_
 rintro ⟨b4, m5, q6, n7⟩ hf8_
 replace hf8_ : (n7 : Int) = 2 * 2 := hf8_
 refine bD [0, 0, 0, 0, 0] 7 0 [(2, iq 0)] [3, 10, 13, 14] <| zDNSR 3 <| bD [0, 0] 2 1 [(15, .pointer (pB p1)), (16, iq 0)] [] <| pS 3 0 <| cG (d := 17) (α := Unit) (fun x_ => iq 0) (fun x_ => [.cells p1 [iq ((([oneP b4 5 m5 2 2 q6 n7 0 true].set 0 (PB.hold (oneP b4 5 m5 2 2 q6 n7 0 true))).length : Nat) : Int), .map (some mp2)] 65 true, .gen (mapE mp2 (pmsV (keysP (liveP ([oneP b4 5 m5 2 2 q6 n7 0 true].set 0 (PB.hold (oneP b4 5 m5 2 2 q6 n7 0 true)))))) true), .gen (allE 67 81 48 (liveP ([oneP b4 5 m5 2 2 q6 n7 0 true].set 0 (PB.hold (oneP b4 5 m5 2 2 q6 n7 0 true)))))]) (fun x_ => True) (fun w hT => (poolHoldY p1 mp2 [oneP b4 5 m5 2 2 q6 n7 0 true] 0 (oneP b4 5 m5 2 2 q6 n7 0 true) 9 [] _ w hT (one_ok hf8_ (by decide) (by omega)) (by decide) Nat.zero_lt_one rfl (one_al (.inl rfl))).mono fun e w' ⟨he_, ht_⟩ => ⟨(), he_, trivial, ht_⟩) ?_
 rintro ⟨⟩ -
 refine zDNSR 5 <| bW [0, 0, 0] 3 2 (fun b10 => [(1, .pointer (pB p1)), (2, iq 0), (18, .pointer (pB p1)), (19, .agg #[iq 0, iq 0, iq 1, iq 1]), (20, .slice (pB b10) 4 4)]) (fun b10 => [.cells b10 [.int .u8 0, .int .u8 0, .int .u8 0, .int .u8 0] 5 true, .cells p1 [iq (([oneP b4 5 m5 2 2 q6 n7 1 true].length : Nat) : Int), .map (some mp2)] 65 true, .gen (mapE mp2 (pmsV (keysP (liveP [oneP b4 5 m5 2 2 q6 n7 1 true]))) true), .gen (allE 67 81 48 (liveP [oneP b4 5 m5 2 2 q6 n7 1 true]))]) [1, 2, 18, 19, 20] fun b10 => ?_
 refine pS 4 1 <| cont_pick [1, 2, 3, 0] [.cells p1 [iq (([oneP b4 5 m5 2 2 q6 n7 1 true].length : Nat) : Int), .map (some mp2)] 65 true, .gen (mapE mp2 (pmsV (keysP (liveP [oneP b4 5 m5 2 2 q6 n7 1 true]))) true), .gen (allE 67 81 48 (liveP [oneP b4 5 m5 2 2 q6 n7 1 true])), .cells b10 [.int .u8 0, .int .u8 0, .int .u8 0, .int .u8 0] 5 true] (by decide) rfl rfl ?_
 refine cG (d := 21) (α := Unit) (fun x_ => iq 8) (fun x_ => [.cells p1 [iq (([oneP b4 5 m5 2 2 q6 n7 1 true].length : Nat) : Int), .map (some mp2)] 65 true, .gen (mapE mp2 (pmsV (keysP (liveP [oneP b4 5 m5 2 2 q6 n7 1 true]))) true), .gen (allE 67 81 48 (liveP [oneP b4 5 m5 2 2 q6 n7 1 true])), .cells b10 [.int .u8 0, .int .u8 0, .int .u8 0, .int .u8 0] 5 true]) (fun x_ => True) (fun w hT => (poolWriteB p1 mp2 [oneP b4 5 m5 2 2 q6 n7 1 true] 5 0 0 1 1 (pB b10) 4 4 0 (oneP b4 5 m5 2 2 q6 n7 1 true) 9 [.cells b10 [.int .u8 0, .int .u8 0, .int .u8 0, .int .u8 0] 5 true] _ w hT (one_ok hf8_ (by decide) (by omega)) Nat.zero_lt_one rfl (one_al (.inl rfl)) one_find (by show 0 < 1; omega)).mono fun e w' ⟨he_, ht_⟩ => ⟨(), he_, trivial, ht_⟩) ?_
 rintro ⟨⟩ -
 refine cont_pick [3, 0, 1, 2] [.cells b10 [.int .u8 0, .int .u8 0, .int .u8 0, .int .u8 0] 5 true, .cells p1 [iq (([oneP b4 5 m5 2 2 q6 n7 1 true].length : Nat) : Int), .map (some mp2)] 65 true, .gen (mapE mp2 (pmsV (keysP (liveP [oneP b4 5 m5 2 2 q6 n7 1 true]))) true), .gen (allE 67 81 48 (liveP [oneP b4 5 m5 2 2 q6 n7 1 true]))] (by decide) rfl rfl ?_
 refine bD [0] 5 0 [(4, iq 8)] [] <| fG 0 <| zDNSR 8 <| bD [0, 0] 2 6 [(23, .pointer (pB p1)), (24, iq 0)] [] <| pS 3 5 <| cG (d := 25) (α := Unit) (fun x_ => .tuple #[iq 5, .bool (1 - 1 == 0)]) (fun x_ => [.cells p1 [iq ((([oneP b4 5 m5 2 2 q6 n7 1 true].set 0 (PB.less (oneP b4 5 m5 2 2 q6 n7 1 true))).length : Nat) : Int), .map (some mp2)] 65 true, .gen (mapE mp2 (pmsV (keysP (liveP ([oneP b4 5 m5 2 2 q6 n7 1 true].set 0 (PB.less (oneP b4 5 m5 2 2 q6 n7 1 true)))))) true), .gen (allE 67 81 48 (liveP ([oneP b4 5 m5 2 2 q6 n7 1 true].set 0 (PB.less (oneP b4 5 m5 2 2 q6 n7 1 true)))))]) (fun x_ => True) (fun w hT => (poolLetY p1 mp2 [oneP b4 5 m5 2 2 q6 n7 1 true] 0 (oneP b4 5 m5 2 2 q6 n7 1 true) 9 [] _ w hT (one_ok hf8_ (by decide) (by omega)) (by decide) Nat.zero_lt_one rfl (one_al (.inl rfl)) (by show 0 < 1; omega)).mono fun e w' ⟨he_, ht_⟩ => ⟨(), he_, trivial, ht_⟩) ?_
 rintro ⟨⟩ -
 refine bD [0, 0, 0, 0, 0] 8 0 [(5, iq 5), (6, .bool (1 - 1 == 0))] [22, 26, 27] <| fG 0 <| zDNSR 10 <| bS [0, 0, 0, 0, 0, 0, 0, 0, 0, 0] 10 0 [(0, .bool (1 - 1 == 0))] <| zDNr <| rA rfl 0 (.bool (1 - 1 == 0)) fun w hT => ?_
 exact ⟨rfl, hT.post rfl⟩
end Go.Proofs.Ytkfdmfclndaanaa
namespace Go.Proofs.Ytkfdmfclndaanaa
open Go Go.RowKit
variable {dfs : List Deferred}
section
variable {α : Type} {cel : α → List Value} {z : Nat}
theorem dvals_append : ∀ a b : List α, dvals cel a ++ dvals cel b = dvals cel (a ++ b) := by
  intro a b
  induction a with
  | nil => rfl
  | cons x a ih => rw [dvals, List.append_assoc, ih]; rfl
theorem dvals_one (h1 : ∀ a, ∀ u ∈ cel a, u.oneCell' = true) : ∀ l : List α, ∀ u ∈ dvals cel l, u.oneCell' = true := by
  intro l
  induction l with
  | nil => intro u hu; cases hu
  | cons x l ih =>
    intro u hu
    rcases List.mem_append.1 hu with h | h
    · exact h1 x u h
    · exact ih u h
theorem Row.factsD {w : World} {A : Option Addr} {g n cap : Nat} {e : TypeId} {l : List α} (hz : ∀ a, (cel a).length = z) (h0 : 0 < z) (h : Row w A g n cap e z (dvals cel l)) : (0 < n → A = some ⟨g, 0, none⟩) ∧ l.length = n ∧ n ≤ cap ∧ cap ≤ maxLen := by
  refine ⟨h.at_, (h.rd.factsD hz h0).2, h.capLe, ?_⟩
  rcases h.own.2 with ⟨h1, _⟩ | ⟨g', cap', cur, hv, _, _, _, hm, _⟩
  · cases h1; unfold maxLen; omega
  · cases hv; exact hm
theorem cont_rowEqD {K : Act → World → Prop} {n' : Nat} {w0 : World} {L : List (Nat × Value)} {T : List Ent} (i : Nat) {A : Option Addr} {g n cap : Nat} {e : TypeId} (xs ys : List α) {own : Bool} (hi : T[i]? = some (.gen (rowE A g n cap e z (dvals cel xs) own))) (hxy : xs = ys)
    (h : Cont dfs K n' w0 L (T.set i (.gen (rowE A g n cap e z (dvals cel ys) own)))) : Cont dfs K n' w0 L T := by
  subst hxy
  have : T.set i (.gen (rowE A g n cap e z (dvals cel xs) own)) = T := by
    obtain ⟨hlt, he⟩ := List.getElem?_eq_some_iff.1 hi
    rw [← he]
    exact List.set_getElem_self hlt
  rwa [this] at h
end
end Go.Proofs.Ytkfdmfclndaanaa
namespace Go.Proofs.Ytkfdmfclndaanaa
open Go Go.RowKit
variable {dfs : List Deferred}
structure BS where
  id : Int
  nm : Bool
  hd : Int
  W : Int
  H : Int
  q : Nat
  n : Nat
  cap : Nat
  px : List Int
instance : Inhabited BS := ⟨⟨0, false, 0, 0, 0, 0, 0, 0, []⟩⟩
def BS.cells (x : BS) : List Value := [.int .i64 x.id, .bool x.nm, .int .i64 x.hd, .int .i64 x.W, .int .i64 x.H, .slice (some ⟨x.q, 0, none⟩) x.n x.cap]
theorem BS.size (x : BS) : (BS.cells x).length = 6 := rfl
theorem BS.one : ∀ a : BS, ∀ u ∈ BS.cells a, u.oneCell' = true := by
  intro a u hu
  simp only [BS.cells, List.mem_cons, List.not_mem_nil, or_false] at hu
  rcases hu with rfl | rfl | rfl | rfl | rfl | rfl <;> rfl
def BS.r (tC : TypeId) (x : BS) : GenEnt := rowE (some ⟨x.q, 0, none⟩) x.q x.n x.cap tC 1 (ivals .u32 x.px) true
def allDG (tC : TypeId) (l : List BS) : GenEnt := l.foldr (fun x e => sepE (x.r tC) e) nilE
def allD (tC : TypeId) (l : List BS) : GenEnt := { allDG tC l with wr := true, own := true }
theorem allDG_perm {tC : TypeId} {l l' : List BS} (h : l.Perm l') : (∀ k, (allDG tC l').blk k ↔ (allDG tC l).blk k) ∧ ∀ w, (allDG tC l).ok w → (allDG tC l').ok w := by
  induction h with
  | nil => exact ⟨fun k => Iff.rfl, fun w h => h⟩
  | cons x _ ih =>
    refine ⟨fun k => ?_, fun w h => ?_⟩
    · exact ⟨fun h => h.elim .inl fun h => .inr ((ih.1 k).1 h), fun h => h.elim .inl fun h => .inr ((ih.1 k).2 h)⟩
    · obtain ⟨h1, h2, h3⟩ := h
      exact ⟨h1, ih.2 w h2, fun k hk hk' => h3 k hk ((ih.1 k).1 hk')⟩
  | swap x y l =>
    refine ⟨fun k => ?_, fun w h => ?_⟩
    · show _ ∨ (_ ∨ _) ↔ _ ∨ (_ ∨ _)
      constructor
      · rintro (h | h | h)
        · exact .inr (.inl h)
        · exact .inl h
        · exact .inr (.inr h)
      · rintro (h | h | h)
        · exact .inr (.inl h)
        · exact .inl h
        · exact .inr (.inr h)
    · obtain ⟨h1, ⟨h2, h3, h4⟩, h5⟩ := h
      exact ⟨h2, ⟨h1, h3, fun k hk hk' => h5 k hk (.inr hk')⟩, fun k hk hk' => hk'.elim (fun h => h5 k h (.inl hk)) (fun h => h4 k hk h)⟩
  | trans _ _ ih1 ih2 => exact ⟨fun k => (ih2.1 k).trans (ih1.1 k), fun w h => ih2.2 w (ih1.2 w h)⟩
theorem Tab.takeD {w0 w : World} {T : List Ent} (hT : Tab w0 w T) {i : Nat} {tC : TypeId} {l : List BS} (hi : T[i]? = some (.gen (allD tC l))) {x : BS} {l' : List BS} (hp : l.Perm (x :: l')) : Tab w0 w (.gen (x.r tC) :: T.set i (.gen (allD tC l'))) := by
  have hlt := (List.getElem?_eq_some_iff.1 hi).1
  obtain ⟨hb, hok⟩ := allDG_perm (tC := tC) hp
  have h1 : Tab w0 w (T.set i (.gen (sepE (x.r tC) (allD tC l')))) := hT.swapW hi rfl (fun _ => rfl) hb (hok w (hT.ok i _ hi))
  have h2 := h1.unsep (i := i) (A := x.r tC) (B := allD tC l') (by simp [List.getElem?_set, hlt]) rfl rfl
  rwa [List.set_set] at h2
theorem Tab.putD {w0 w : World} {T : List Ent} {tC : TypeId} {x : BS} (hT : Tab w0 w (.gen (x.r tC) :: T)) {i : Nat} {l' l : List BS} (hi : T[i]? = some (.gen (allD tC l'))) (hp : (x :: l').Perm l) : Tab w0 w (T.set i (.gen (allD tC l))) := by
  have hlt := (List.getElem?_eq_some_iff.1 hi).1
  obtain ⟨hb, hok⟩ := allDG_perm (tC := tC) hp
  have h5 : Tab w0 w (T.set i (.gen (sepE (x.r tC) (allD tC l')))) := hT.sep hi rfl rfl rfl rfl
  have hs : (T.set i (.gen (sepE (x.r tC) (allD tC l'))))[i]? = some (.gen (sepE (x.r tC) (allD tC l'))) := by simp [List.getElem?_set, hlt]
  have h6 := h5.swapW (i := i) (e' := .gen (allD tC l)) hs rfl (fun _ => rfl) hb (hok w (h5.ok i _ hs))
  rwa [List.set_set] at h6
theorem cont_takeD {K : Act → World → Prop} {n : Nat} {w0 : World} {L : List (Tmp × Value)} {T : List Ent} (i : Nat) {tC : TypeId} {l : List BS} (x : BS) (l' : List BS) (hi : T[i]? = some (.gen (allD tC l))) (hp : l.Perm (x :: l')) (h : Cont dfs K n w0 L (.gen (x.r tC) :: T.set i (.gen (allD tC l')))) : Cont dfs K n w0 L T :=
  fun a w ha hf hT => h a w ha hf (hT.takeD hi hp)
theorem cont_putD {K : Act → World → Prop} {n : Nat} {w0 : World} {L : List (Tmp × Value)} {T : List Ent} (i : Nat) {tC : TypeId} (x : BS) (l' l : List BS) (hi : T[i]? = some (.gen (allD tC l'))) (hp : (x :: l').Perm l) (h : Cont dfs K n w0 L (T.set i (.gen (allD tC l)))) : Cont dfs K n w0 L (.gen (x.r tC) :: T) :=
  fun a w ha hf hT => h a w ha hf (hT.putD hi hp)
theorem cont_nilD {K : Act → World → Prop} {n : Nat} {w0 : World} {L : List (Tmp × Value)} {T : List Ent} (tC : TypeId) (h : Cont dfs K n w0 L (.gen (allD tC []) :: T)) : Cont dfs K n w0 L T :=
  fun a w ha hf hT => h a w ha hf (hT.fresh _ trivial (fun k hk => hk))
theorem allD_set {tC : TypeId} {l : List BS} {i : Nat} (h : i < l.length) {y : BS} (hy : y.r tC = (dget l i).r tC) : allD tC (l.set i y) = allD tC l := by
  have : ∀ (l : List BS) (i : Nat), i < l.length → y.r tC = (dget l i).r tC → allDG tC (l.set i y) = allDG tC l := by
    intro l
    induction l with
    | nil => intro i h; simp at h
    | cons a l ih =>
      intro i h hy
      cases i with
      | zero => show sepE (y.r tC) _ = sepE (a.r tC) _; rw [hy]; rfl
      | succ i => show sepE (a.r tC) (allDG tC (l.set i y)) = sepE (a.r tC) (allDG tC l); rw [ih i (by simpa using h) (by simpa [dget_succ] using hy)]
  unfold allD
  rw [this l i h hy]
def restD (l : List BS) (i : Nat) : List BS := l.take i ++ l.drop (i + 1)
theorem dget_cut {l : List BS} {i : Nat} (h : i < l.length) : l = l.take i ++ dget l i :: l.drop (i + 1) := by
  have : dget l i = l[i] := by unfold dget; rw [List.getD_eq_getElem?_getD, List.getElem?_eq_getElem h]; rfl
  rw [this, ← List.drop_eq_getElem_cons h, List.take_append_drop]
theorem takeD_perm {l : List BS} {i : Nat} {x : BS} (h : i < l.length) (hx : x = dget l i) : l.Perm (x :: restD l i) := by
  subst hx
  conv => lhs; rw [dget_cut h]
  exact List.perm_middle
theorem setD_at {l : List BS} {i : Nat} (h : i < l.length) (x : BS) : l.set i x = l.take i ++ x :: l.drop (i + 1) := by
  conv => lhs; rw [dget_cut h]
  rw [List.set_append_right _ _ (by rw [List.length_take]; omega), List.length_take, Nat.min_eq_left (by omega), Nat.sub_self]
  rfl
theorem putD_perm {l : List BS} {i : Nat} (h : i < l.length) (x : BS) : (x :: restD l i).Perm (l.set i x) := by
  rw [setD_at h]; exact List.perm_middle.symm
theorem pushD_perm (l : List BS) (x : BS) : (x :: l).Perm (l ++ [x]) := (List.perm_append_comm (l₁ := l) (l₂ := [x])).symm
theorem setV_dvals {α : Type} [Inhabited α] {cel : α → List Value} {z : Nat} (hz : ∀ a, (cel a).length = z) (y : α) : ∀ {l : List α} {i : Nat}, i < l.length → Go.Proofs.Ytkfdmfclndaanaa.setV (dvals cel l) (i * z) (cel y) = dvals cel (l.set i y) := by
  have key : ∀ (l : List α) (i : Nat), i < l.length → ∃ a b c, dvals cel l = a ++ b ++ c ∧ a.length = i * z ∧ b.length = z ∧ dvals cel (l.set i y) = a ++ cel y ++ c := by
    intro l
    induction l with
    | nil => intro i h; simp at h
    | cons x l ih =>
      intro i h
      cases i with
      | zero => exact ⟨[], cel x, dvals cel l, rfl, by simp, hz x, rfl⟩
      | succ i =>
        obtain ⟨a, b, c, h1, h2, h3, h4⟩ := ih i (by simpa using h)
        refine ⟨cel x ++ a, b, c, by rw [dvals, h1]; simp, by rw [List.length_append, hz, h2, Nat.succ_mul, Nat.add_comm], h3, ?_⟩
        show cel x ++ dvals cel (l.set i y) = _
        rw [h4]; simp
  intro l i h
  obtain ⟨a, b, c, h1, h2, h3, h4⟩ := key l i h
  rw [h1, h4, ← h2]
  exact setV_append (cel y) a c b ((hz y).trans h3.symm)
theorem store_rowD {α : Type} [Inhabited α] {cel : α → List Value} {z : Nat} (hz : ∀ a, (cel a).length = z) (h0 : 0 < z) (h1 : ∀ a : α, ∀ u ∈ cel a, u.oneCell' = true) {P : Program} {w0 w : World} {T : List Ent} (hT : Tab w0 w T) {t e : TypeId} {A : Option Addr} {i g n cap J : Nat} {l : List α} {own : Bool} (y : α) {v : Value} (hv : v.cells = (cel y).toArray) (hi : T[i]? = some (.gen (rowE A g n cap e z (dvals cel l) own))) (hsz : (P.info? t).map (·.size) = some z) (hJ : J < l.length) :
    ∃ (x : Unit) (w' : World), (Instr.storeAt t (.pointer (some ⟨g, J * z, none⟩)) v).run P w = .ok () w' ∧ True ∧ Tab w0 w' (T.set i (.gen (rowE A g n cap e z (dvals cel (l.set J y)) own))) := by
  have hrow : Row w A g n cap e z (dvals cel l) := hT.ok i _ hi
  have hlen : l.length = n := (hrow.factsD hz h0).2.1
  have hn : 0 < n := by omega
  refine ⟨(), _, run_storeAt_cells (vs := cel y) hv (by rw [hz]; exact hsz) (h1 y) w (fun j hj => hrow.there (by rw [hz] at hj; have : (J + 1) * z ≤ n * z := Nat.mul_le_mul_right _ (by omega); rw [Nat.succ_mul] at this; omega)) (fun j hj => hrow.free hn _), trivial, ?_⟩
  have := Tab.rowSets hn (cel y) (J * z) (dvals cel l) w T hT hi
  rw [setV_dvals hz y hJ] at this
  exact this
structure VB where
  id : Int
  nm : Bool
  hd : Int
  W : Int
  H : Int
  px : List Int
instance : Inhabited VB := ⟨⟨0, false, 0, 0, 0, []⟩⟩
def PB.v (x : PB) : VB := ⟨x.id, x.nm, x.hd, x.W, x.H, x.px⟩
def BS.v (x : BS) : VB := ⟨x.id, x.nm, x.hd, x.W, x.H, x.px⟩
def VB.al (x : VB) : Bool := x.nm || decide (0 < x.hd)
def thereV (vs : List VB) (k : Int) : Bool := decide (0 ≤ k ∧ k < (vs.length : Int)) && (dget vs k.toNat).al
def hitV (id : Int) (x : VB) : Bool := x.nm && (x.id == id)
def findV (vs : List VB) (id : Int) : Int := match vs.findIdx? (hitV id) with
  | some i => (i : Int)
  | none => -1
theorem dget_mapV {α β : Type} [Inhabited α] [Inhabited β] {f : α → β} {l : List α} {i : Nat} (h : i < l.length) : dget (l.map f) i = f (dget l i) := by
  unfold dget
  rw [List.getD_eq_getElem?_getD, List.getD_eq_getElem?_getD, List.getElem?_map, List.getElem?_eq_getElem h]; rfl
theorem there_v {ds : List PB} {vs : List VB} (h : ds.map PB.v = vs) (k : Int) : thereP ds k = thereV vs k := by
  subst h
  unfold thereP thereV
  rw [List.length_map]
  by_cases hk : 0 ≤ k ∧ k < (ds.length : Int)
  · rw [dget_mapV (by omega)]; rfl
  · rw [decide_eq_false hk, Bool.false_and, Bool.false_and]
theorem findV_hit {vs : List VB} {id : Int} {i : Nat} (hi : i < vs.length) (hm : ∀ j, j < i → hitV id (dget vs j) = false) (hh : hitV id (dget vs i) = true) : findV vs id = (i : Int) := by
  have e : ∀ j (h : j < vs.length), dget vs j = vs[j] := fun j h => by unfold dget; rw [List.getD_eq_getElem?_getD, List.getElem?_eq_getElem h]; rfl
  unfold findV
  rw [List.findIdx?_eq_some_iff_getElem.2 ⟨hi, by rw [← e i hi]; exact hh, fun j hj => by rw [← e j (by omega), hm j hj]; simp⟩]
theorem findV_none {vs : List VB} {id : Int} (hm : ∀ j, j < vs.length → hitV id (dget vs j) = false) : findV vs id = -1 := by
  unfold findV
  rw [List.findIdx?_eq_none_iff.2 (fun x hx => by
    obtain ⟨j, hj, rfl⟩ := List.mem_iff_getElem.1 hx
    have := hm j hj
    unfold dget at this
    rwa [List.getD_eq_getElem?_getD, List.getElem?_eq_getElem hj] at this)]
theorem find_v {ds : List PB} {B : Int} (hok : PoolOk ds B) {vs : List VB} (h : ds.map PB.v = vs) (id : Int) : findP ds id = findV vs id := by
  subst h
  by_cases hf : findP ds id = -1
  · rw [hf, findV_none (fun j hj => ?_)]
    rw [List.length_map] at hj
    rw [dget_mapV hj]
    exact findP_none hok hf _ (dget_mem hj)
  · obtain ⟨i, hi, hk, hn, hid⟩ := findP_some hok hf
    rw [hk]
    have hh : hitV id (dget ds i).v = true := by unfold hitV PB.v; simp [hn, hid]
    refine (findV_hit (by rw [List.length_map]; exact hi) (fun j hj => ?_) (by rw [dget_mapV hi]; exact hh)).symm
    rw [dget_mapV (by omega)]
    cases e : hitV id (dget ds j).v with
    | false => rfl
    | true =>
      unfold hitV PB.v at e
      simp only [Bool.and_eq_true, beq_iff_eq] at e
      have := hok.one _ (dget_mem (show j < ds.length by omega)) _ (dget_mem hi) e.1 hn (e.2.trans hid.symm)
      rw [hok.key j (by omega), hok.key i hi] at this
      omega
def holdV (vs : List VB) (k : Int) : List VB := bif thereV vs k then vs.set k.toNat { dget vs k.toNat with hd := (dget vs k.toNat).hd + 1 } else vs
def holdE (vs : List VB) (k : Int) : Int := bif thereV vs k then 0 else 5
def dstV (vs : List VB) (id : Int) : List VB := if findV vs id = -1 then vs else vs.set (findV vs id).toNat { dget vs (findV vs id).toNat with nm := false }
def fndV (vs : List VB) (id : Int) : Int := if findV vs id = -1 then 5 else 0
def letB (vs : List VB) (k : Int) : Bool := thereV vs k && !((dget vs k.toNat).hd == 0)
def letV (vs : List VB) (k : Int) : List VB := bif letB vs k then vs.set k.toNat { dget vs k.toNat with hd := (dget vs k.toNat).hd - 1 } else vs
def letN (vs : List VB) (k : Int) : Int := bif letB vs k then (dget vs k.toNat).id else 0
def letF (vs : List VB) (k : Int) : Bool := letB vs k && ((dget vs k.toNat).nm && ((dget vs k.toNat).hd - 1 == 0))
def sideB (W H : Int) : Bool := decide (1 ≤ W ∧ W ≤ 256 ∧ 1 ≤ H ∧ H ≤ 256)
def mkB' (vs : List VB) (id W H : Int) : Bool := decide (findV vs id = -1) && sideB W H
def mkV (vs : List VB) (id W H : Int) : List VB := bif mkB' vs id W H then vs ++ [⟨id, true, 0, W, H, List.replicate (W * H).toNat 0⟩] else vs
def mkK (vs : List VB) (id W H : Int) : Int := bif mkB' vs id W H then (vs.length : Int) else -1
def mkE (vs : List VB) (id W H : Int) : Int := if findV vs id = -1 then (bif sideB W H then 0 else 1) else 6
def wtB (vs : List VB) (id : Int) : Bool := decide (findV vs id ≠ -1) && !decide (0 < (dget vs (findV vs id).toNat).hd)
def wtX (vs : List VB) (id : Int) : VB := dget vs (findV vs id).toNat
def wtV (vs : List VB) (id a b c d : Int) (bs : List Int) : List VB := bif wtB vs id then vs.set (findV vs id).toNat { wtX vs id with px := wrA (wtX vs id).W (wtX vs id).H (wtX vs id).px a b c d bs } else vs
def wtE (vs : List VB) (id a b c d : Int) (bs : List Int) : Int := if findV vs id = -1 then 5 else bif decide (0 < (wtX vs id).hd) then 8 else wrE (wtX vs id).W (wtX vs id).H a b c d bs
structure BOk (bs : List BS) (B : Int) : Prop where
  img : ∀ y ∈ bs, ImgOk y.W y.H y.n y.px
  hd : ∀ y ∈ bs, 0 ≤ y.hd ∧ y.hd ≤ B
theorem BOk.nil (B : Int) : BOk [] B := ⟨fun y h => (by cases h), fun y h => (by cases h)⟩
theorem BOk.set {bs : List BS} {B B' : Int} (h : BOk bs B) {i : Nat} {y : BS} (hB : B ≤ B') (hi : ImgOk y.W y.H y.n y.px) (hh : 0 ≤ y.hd ∧ y.hd ≤ B') : BOk (bs.set i y) B' :=
  ⟨fun z hz => (List.mem_or_eq_of_mem_set hz).elim (h.img z) (fun e => e ▸ hi), fun z hz => (List.mem_or_eq_of_mem_set hz).elim (fun hz => by have := h.hd z hz; omega) (fun e => e ▸ hh)⟩
theorem BOk.push {bs : List BS} {B : Int} (h : BOk bs B) {y : BS} (hi : ImgOk y.W y.H y.n y.px) (hh : 0 ≤ y.hd ∧ y.hd ≤ B) : BOk (bs ++ [y]) B := by
  refine ⟨fun z hz => ?_, fun z hz => ?_⟩ <;> rcases List.mem_append.1 hz with h1 | h1
  · exact h.img z h1
  · rw [List.mem_singleton.1 h1]; exact hi
  · exact h.hd z h1
  · rw [List.mem_singleton.1 h1]; exact hh
theorem BOk.up {bs : List BS} {B B' : Int} (h : BOk bs B) (hB : B ≤ B') : BOk bs B' := ⟨h.img, fun z hz => by have := h.hd z hz; omega⟩
theorem PoolOk.up {ds : List PB} {B B' : Int} (h : PoolOk ds B) (hB : B ≤ B') : PoolOk ds B' := ⟨h.key, h.one, h.img, h.may, fun x hx => by have := h.hd x hx; omega⟩
theorem wrS_may {W a b : Int} {w : Nat} {bs px : List Int} (hm : AllMay px) : ∀ k, okN bs k → AllMay (wrS W a b w bs px k) := by
  intro k
  induction k with
  | zero => intro _; exact hm
  | succ k ih =>
    intro h c hc
    rcases List.mem_or_eq_of_mem_set hc with h1 | h1
    · exact ih (fun j hj => h j (by omega)) c h1
    · rw [h1]; exact ⟨h k (by omega), mkB_in bs k⟩
theorem AllMay.wrA {W H a b c d : Int} {bs px : List Int} (hm : AllMay px) : AllMay (Go.Proofs.Ytkfdmfclndaanaa.wrA W H px a b c d bs) := by
  by_cases h : wrE W H a b c d bs = 0
  · rw [wrA_yes h]; exact wrS_may hm _ (wrE_zero h).2.2
  · rw [wrA_no h]; exact hm
theorem put_ok {ds : List PB} {B : Int} (h : PoolOk ds B) {i : Nat} {x : PB} (hi : i < ds.length) (hx : x = dget ds i) (a b c d : Int) (bs : List Int) : PoolOk (ds.set i (PB.put x (wrA x.W x.H x.px a b c d bs))) B := by
  have hm : x ∈ ds := by rw [hx]; exact dget_mem hi
  exact h.set hi (Int.le_refl _) (by show x.k = _; rw [hx, h.key i hi]) (fun e => ⟨by rw [← hx]; exact e, by rw [← hx]; rfl⟩) (ImgOk.wrA (h.img x hm)) (AllMay.wrA (h.may x hm)) (h.hd x hm)
theorem v_at {ds : List PB} {vs : List VB} (hv : ds.map PB.v = vs) {i : Nat} {x : PB} (hi : i < ds.length) (hx : x = dget ds i) : dget vs i = x.v := by
  rw [← hv, dget_mapV hi, hx]
theorem v_set {ds : List PB} {vs : List VB} (hv : ds.map PB.v = vs) (i : Nat) (y : PB) : (ds.set i y).map PB.v = vs.set i y.v := by
  rw [List.map_set, hv]
theorem bv_at {bs : List BS} {vs : List VB} (hv : bs.map BS.v = vs) {i : Nat} {x : BS} (hi : i < bs.length) (hx : x = dget bs i) : dget vs i = x.v := by
  rw [← hv, dget_mapV hi, hx]
theorem bv_set {bs : List BS} {vs : List VB} (hv : bs.map BS.v = vs) (i : Nat) (y : BS) : (bs.set i y).map BS.v = vs.set i y.v := by
  rw [List.map_set, hv]
theorem v_len {ds : List PB} {vs : List VB} (hv : ds.map PB.v = vs) : vs.length = ds.length := by rw [← hv, List.length_map]
theorem bv_len {bs : List BS} {vs : List VB} (hv : bs.map BS.v = vs) : vs.length = bs.length := by rw [← hv, List.length_map]
def cntA (ds : List PB) (i : Nat) : Nat := (liveP (ds.take i)).length
theorem there_list {ds : List PB} {B : Int} (h : PoolOk ds B) : sortL ((keysP (liveP ds)).map Prod.fst) = (liveP ds).map (·.k) := by
  have e : (keysP (liveP ds)).map Prod.fst = (liveP ds).map (·.k) := by unfold keysP; rw [List.map_map]; rfl
  rw [e]
  have hk : (ds.map (·.k)).Pairwise (· ≤ ·) := by
    refine List.pairwise_iff_getElem.2 (fun i j hi hj hij => ?_)
    rw [List.getElem_map, List.getElem_map]
    rw [List.length_map] at hi hj
    have g : ∀ i (hi : i < ds.length), ds[i].k = (i : Int) := fun i hi => by
      have := h.key i hi
      unfold dget at this
      rwa [List.getD_eq_getElem?_getD, List.getElem?_eq_getElem hi] at this
    rw [g i hi, g j hj]; omega
  exact sorted_unique (sortL_sorted _) (hk.sublist (List.Sublist.map _ List.filter_sublist)) (List.mergeSort_perm _ _)
theorem cnt_at {ds : List PB} {B : Int} (h : PoolOk ds B) {i : Nat} (hi : i < ds.length) (ha : (dget ds i).al = true) : cntA ds i < ((liveP ds).map (·.k)).length ∧ ((liveP ds).map (·.k)).getD (cntA ds i) 0 = (i : Int) := by
  have e : liveP ds = liveP (ds.take i) ++ dget ds i :: liveP (ds.drop (i + 1)) := by
    conv => lhs; rw [cut_at hi]
    rw [liveP_app, liveP_yes ha]
  have hlt : cntA ds i < (liveP ds).length := by rw [e, List.length_append, List.length_cons]; unfold cntA; omega
  refine ⟨by rw [List.length_map]; exact hlt, ?_⟩
  unfold cntA
  rw [List.getD_eq_getElem?_getD, List.getElem?_map, e, List.getElem?_append_right (Nat.le_refl _), Nat.sub_self]
  show (dget ds i).k = _
  exact h.key i hi
theorem cnt_yes {ds : List PB} {i : Nat} (hi : i < ds.length) (ha : (dget ds i).al = true) : cntA ds (i + 1) = cntA ds i + 1 := by
  have : ds.take (i + 1) = ds.take i ++ [dget ds i] := by
    rw [List.take_add_one, List.getElem?_eq_getElem hi]
    unfold dget; rw [List.getD_eq_getElem?_getD, List.getElem?_eq_getElem hi]; rfl
  unfold cntA
  rw [this, liveP_app, List.length_append, liveP_yes ha]; rfl
theorem cnt_no {ds : List PB} {i : Nat} (ha : ds.length ≤ i ∨ (dget ds i).al = false) : cntA ds (i + 1) = cntA ds i := by
  unfold cntA
  by_cases hi : i < ds.length
  · have : ds.take (i + 1) = ds.take i ++ [dget ds i] := by
      rw [List.take_add_one, List.getElem?_eq_getElem hi]
      unfold dget; rw [List.getD_eq_getElem?_getD, List.getElem?_eq_getElem hi]; rfl
    rw [this, liveP_app, List.length_append, liveP_no (ha.resolve_left (by omega))]; rfl
  · rw [List.take_of_length_le (by omega), List.take_of_length_le (by omega)]
theorem cnt_end {ds : List PB} {i : Nat} (hi : ds.length ≤ i) : cntA ds i = ((liveP ds).map (·.k)).length := by
  unfold cntA; rw [List.take_of_length_le hi, List.length_map]
def MissV (vs : List VB) (id : Int) (i : Nat) : Prop := ∀ j, j < i → hitV id (dget vs j) = false
theorem MissV.zero (vs : List VB) (id : Int) : MissV vs id 0 := fun j hj => absurd hj (Nat.not_lt_zero _)
theorem MissV.step {vs : List VB} {id : Int} {i : Nat} (h : MissV vs id i) (hm : hitV id (dget vs i) = false) : MissV vs id (i + 1) := fun j hj => by
  rcases Nat.lt_or_ge j i with h1 | h1
  · exact h j h1
  · rw [show j = i by omega]; exact hm
theorem MissV.none {vs : List VB} {id : Int} {i : Nat} (h : MissV vs id i) (hi : vs.length ≤ i) : findV vs id = -1 := findV_none (fun j hj => h j (by omega))
theorem MissV.hit {vs : List VB} {id : Int} {i : Nat} (h : MissV vs id i) (hi : i < vs.length) (hh : hitV id (dget vs i) = true) : findV vs id = (i : Int) := findV_hit hi h hh
theorem there_bs {bs : List BS} {vs : List VB} {n : Nat} (hv : bs.map BS.v = vs) (hn : bs.length = n) {k : Int} : thereV vs k = (decide (0 ≤ k ∧ k < (n : Int)) && ((dget bs (Int.toNat k)).nm || decide (0 < (dget bs (Int.toNat k)).hd))) := by
  unfold thereV
  rw [bv_len hv, hn]
  by_cases h : 0 ≤ k ∧ k < (n : Int)
  · rw [← hv, dget_mapV (by omega)]; rfl
  · rw [decide_eq_false h, Bool.false_and, Bool.false_and]
theorem findV_some {vs : List VB} {id : Int} (h : findV vs id ≠ -1) : ∃ i : Nat, i < vs.length ∧ findV vs id = (i : Int) := by
  unfold findV at h ⊢
  cases e : vs.findIdx? (hitV id) with
  | none => rw [e] at h; exact absurd rfl h
  | some i => exact ⟨i, (List.findIdx?_eq_some_iff_getElem.1 e).1, rfl⟩
theorem there_some {vs : List VB} {k : Int} (h : thereV vs k = true) : ∃ i : Nat, i < vs.length ∧ k = (i : Int) := by
  unfold thereV at h
  simp only [Bool.and_eq_true, decide_eq_true_eq] at h
  exact ⟨k.toNat, by omega, by omega⟩
theorem pt_in {W H : Int} {n i : Nat} (hW : 1 ≤ W) (hn : (n : Int) = W * H) (hi : i < n) : hasB 0 0 W H ((i : Int) % W) ((i : Int) / W) = true :=
  hasB_true.2 ⟨Int.emod_nonneg _ (by omega), Int.emod_lt_of_pos _ (by omega), Int.ediv_nonneg (by omega) (by omega), Int.ediv_lt_of_lt_mul (by omega) (by rw [Int.mul_comm, ← hn]; omega)⟩
theorem cnt_not {ds : List PB} {i : Int} (h : thereP ds i = false) (hi : -1 ≤ i) : cntA ds (i + 1).toNat = cntA ds i.toNat := by
  by_cases h0 : i = -1
  · subst h0; rfl
  · obtain ⟨k, rfl⟩ : ∃ k : Nat, i = (k : Int) := ⟨i.toNat, by omega⟩
    rw [show ((k : Int) + 1).toNat = k + 1 by omega, Int.toNat_natCast]
    refine cnt_no ?_
    unfold thereP at h
    by_cases hk : k < ds.length
    · rw [decide_eq_true (by omega), Bool.true_and, Int.toNat_natCast] at h; exact .inr h
    · exact .inl (by omega)
theorem both_at {ds : List PB} {bs : List BS} {vs : List VB} (hd : ds.map PB.v = vs) (hb : bs.map BS.v = vs) {i : Nat} (hi : i < vs.length) : ∃ q n cap : Nat, dget bs i = (⟨(dget ds i).id, (dget ds i).nm, (dget ds i).hd, (dget ds i).W, (dget ds i).H, q, n, cap, (dget ds i).px⟩ : BS) := by
  have h1 := v_at hd (i := i) (by rw [← v_len hd]; exact hi) rfl
  have h2 := bv_at hb (i := i) (by rw [← bv_len hb]; exact hi) rfl
  have h3 : (dget bs i).v = (dget ds i).v := h2.symm.trans h1
  refine ⟨(dget bs i).q, (dget bs i).n, (dget bs i).cap, ?_⟩
  unfold BS.v PB.v at h3
  simp only [VB.mk.injEq] at h3
  obtain ⟨e1, e2, e3, e4, e5, e6⟩ := h3
  rw [← e1, ← e2, ← e3, ← e4, ← e5, ← e6]
theorem find_two (vs : List VB) (id : Int) : (fndV vs id = 0 ∧ 0 ≤ findV vs id) ∨ (fndV vs id = 5 ∧ findV vs id = -1) := by
  unfold fndV
  by_cases h : findV vs id = -1
  · rw [if_pos h]; exact .inr ⟨rfl, h⟩
  · rw [if_neg h]
    obtain ⟨i, _, hi⟩ := findV_some h
    exact .inl ⟨rfl, by omega⟩
end Go.Proofs.Ytkfdmfclndaanaa
namespace Go.Proofs.Ytkfdmfclndaanaa
open Go Go.RowKit
set_option maxRecDepth 100000
set_option maxHeartbeats 8000000
theorem poolHoldV (p mp : Nat) (ds : List PB) (vs : List VB) (k : Int) (B : Int) (R : List Ent) (w0 w : World) (hT0 : Tab w0 w ((.cells p [iQ ((ds.length : Nat) : Int), .map (some mp)] 65 true) :: (.gen (mapE mp (pmsV (keysP (liveP ds))) true)) :: (.gen (allE 67 81 48 (liveP ds))) :: R)) (hok : PoolOk ds B) (hv : ds.map PB.v = vs) (hB : B ≤ 1000000000) :
    Calls Try.prog 14 #[pT p, iQ k] w fun e w' => ∃ ds' : List PB, e = .returned (iQ (holdE vs k)) ∧ (PoolOk ds' (B + 1) ∧ ds'.map PB.v = holdV vs k) ∧ Tab w0 w' ((.cells p [iQ ((ds'.length : Nat) : Int), .map (some mp)] 65 true) :: (.gen (mapE mp (pmsV (keysP (liveP ds'))) true)) :: (.gen (allE 67 81 48 (liveP ds'))) :: R) := by
  have ht := there_v hv k
  cases h : thereP ds k with
  | false =>
    rw [h] at ht
    exact (poolHoldN p mp ds k B R w0 w hT0 hok hB h).mono fun e w' hh => ⟨ds, by rw [hh.1]; unfold holdE; rw [← ht]; rfl, ⟨hok.up (by omega), by unfold holdV; rw [← ht]; exact hv⟩, hh.2⟩
  | true =>
    rw [h] at ht
    obtain ⟨ix, x, hix, hx, hal, rfl⟩ := there_at h
    exact (poolHoldY p mp ds ix x B R w0 w hT0 hok hB hix hx hal).mono fun e w' hh => ⟨_, by rw [hh.1]; unfold holdE; rw [← ht]; rfl, ⟨hold_ok hok hix hx, by unfold holdV; rw [← ht, cond_true, Int.toNat_natCast, v_set hv, v_at hv hix hx]; rfl⟩, hh.2⟩
theorem poolLetV (p mp : Nat) (ds : List PB) (vs : List VB) (k : Int) (B : Int) (R : List Ent) (w0 w : World) (hT0 : Tab w0 w ((.cells p [iQ ((ds.length : Nat) : Int), .map (some mp)] 65 true) :: (.gen (mapE mp (pmsV (keysP (liveP ds))) true)) :: (.gen (allE 67 81 48 (liveP ds))) :: R)) (hok : PoolOk ds B) (hv : ds.map PB.v = vs) (hB : B ≤ 1000000000) :
    Calls Try.prog 17 #[pT p, iQ k] w fun e w' => ∃ ds' : List PB, e = .returned (.tuple #[iQ (letN vs k), .bool (letF vs k)]) ∧ (PoolOk ds' B ∧ ds'.map PB.v = letV vs k) ∧ Tab w0 w' ((.cells p [iQ ((ds'.length : Nat) : Int), .map (some mp)] 65 true) :: (.gen (mapE mp (pmsV (keysP (liveP ds'))) true)) :: (.gen (allE 67 81 48 (liveP ds'))) :: R) := by
  have ht := there_v hv k
  cases h : thereP ds k with
  | false =>
    rw [h] at ht
    have hb : letB vs k = false := by unfold letB; rw [← ht]; rfl
    exact (poolLetN p mp ds k B R w0 w hT0 hok hB h).mono fun e w' hh => ⟨ds, by rw [hh.1]; unfold letN letF; rw [hb]; rfl, ⟨hok, by unfold letV; rw [hb]; exact hv⟩, hh.2⟩
  | true =>
    rw [h] at ht
    obtain ⟨ix, x, hix, hx, hal, rfl⟩ := there_at h
    have hva := v_at hv hix hx
    have hhd := hok.hd _ (dget_mem hix)
    rw [← hx] at hhd
    by_cases hz : x.hd = 0
    · have hb : letB vs (ix : Int) = false := by unfold letB; rw [← ht, Int.toNat_natCast, hva]; show (true && !(x.hd == 0)) = false; rw [hz]; rfl
      exact (poolLetZ p mp ds ix x B R w0 w hT0 hok hB hix hx hal hz).mono fun e w' hh => ⟨ds, by rw [hh.1]; unfold letN letF; rw [hb]; rfl, ⟨hok, by unfold letV; rw [hb]; exact hv⟩, hh.2⟩
    · have hb : letB vs (ix : Int) = true := by unfold letB; rw [← ht, Int.toNat_natCast, hva]; show (true && !(x.hd == 0)) = true; rw [beq_eq_false_iff_ne.2 hz]; rfl
      exact (poolLetY p mp ds ix x B R w0 w hT0 hok hB hix hx hal (by omega)).mono fun e w' hh => ⟨_, by rw [hh.1]; unfold letN letF; rw [hb, Int.toNat_natCast, hva]; rfl, ⟨less_ok hok hix hx (by omega), by unfold letV; rw [hb, cond_true, Int.toNat_natCast, v_set hv, hva]; rfl⟩, hh.2⟩
theorem poolDestroyV (p mp : Nat) (ds : List PB) (vs : List VB) (id : Int) (B : Int) (R : List Ent) (w0 w : World) (hT0 : Tab w0 w ((.cells p [iQ ((ds.length : Nat) : Int), .map (some mp)] 65 true) :: (.gen (mapE mp (pmsV (keysP (liveP ds))) true)) :: (.gen (allE 67 81 48 (liveP ds))) :: R)) (hok : PoolOk ds B) (hv : ds.map PB.v = vs) :
    Calls Try.prog 9 #[pT p, iQ id] w fun e w' => ∃ ds' : List PB, e = .returned (iQ (fndV vs id)) ∧ (PoolOk ds' B ∧ ds'.map PB.v = dstV vs id) ∧ Tab w0 w' ((.cells p [iQ ((ds'.length : Nat) : Int), .map (some mp)] 65 true) :: (.gen (mapE mp (pmsV (keysP (liveP ds'))) true)) :: (.gen (allE 67 81 48 (liveP ds'))) :: R) := by
  have hf := find_v hok hv id
  exact (poolDestroy p mp ds id B R w0 w hT0 hok).mono fun e w' hh => ⟨_, by rw [hh.1]; unfold fndE fndV; rw [hf], ⟨dst_ok hok, by
    by_cases hz : findP ds id = -1
    · rw [dst_no hz]; unfold dstV; rw [← hf, if_pos hz]; exact hv
    · obtain ⟨ix, x, hix, hx, hal, hfk, hn, hid⟩ := hit_at hok hz
      rw [dst_yes hfk hx]; unfold dstV; rw [← hf, if_neg hz, hfk, Int.toNat_natCast, v_set hv, v_at hv hix hx]; rfl⟩, hh.2⟩
theorem poolFindV (p mp : Nat) (ds : List PB) (vs : List VB) (id : Int) (B : Int) (R : List Ent) (w0 w : World) (hT0 : Tab w0 w ((.cells p [iQ ((ds.length : Nat) : Int), .map (some mp)] 65 true) :: (.gen (mapE mp (pmsV (keysP (liveP ds))) true)) :: (.gen (allE 67 81 48 (liveP ds))) :: R)) (hok : PoolOk ds B) (hv : ds.map PB.v = vs) :
    Calls Try.prog 11 #[pT p, iQ id] w fun e w' => ∃ ds' : List PB, e = .returned (.tuple #[iQ (findV vs id), iQ (fndV vs id)]) ∧ (PoolOk ds' B ∧ ds'.map PB.v = vs) ∧ Tab w0 w' ((.cells p [iQ ((ds'.length : Nat) : Int), .map (some mp)] 65 true) :: (.gen (mapE mp (pmsV (keysP (liveP ds'))) true)) :: (.gen (allE 67 81 48 (liveP ds'))) :: R) := by
  have hf := find_v hok hv id
  exact (poolFind p mp ds id B R w0 w hT0 hok).mono fun e w' hh => ⟨ds, by rw [hh.1]; unfold fndE fndV; rw [hf], ⟨hok, hv⟩, hh.2⟩
theorem poolMakeV (p mp : Nat) (ds : List PB) (vs : List VB) (id W H : Int) (B : Int) (R : List Ent) (w0 w : World) (hT0 : Tab w0 w ((.cells p [iQ ((ds.length : Nat) : Int), .map (some mp)] 65 true) :: (.gen (mapE mp (pmsV (keysP (liveP ds))) true)) :: (.gen (allE 67 81 48 (liveP ds))) :: R)) (hok : PoolOk ds B) (hv : ds.map PB.v = vs) (hlen : ds.length ≤ 1000000) (hB0 : 0 ≤ B) :
    Calls Try.prog 10 #[pT p, iQ id, iQ W, iQ H] w fun e w' => ∃ ds' : List PB, e = .returned (.tuple #[iQ (mkK vs id W H), iQ (mkE vs id W H)]) ∧ (PoolOk ds' B ∧ ds'.map PB.v = mkV vs id W H) ∧ Tab w0 w' ((.cells p [iQ ((ds'.length : Nat) : Int), .map (some mp)] 65 true) :: (.gen (mapE mp (pmsV (keysP (liveP ds'))) true)) :: (.gen (allE 67 81 48 (liveP ds'))) :: R) := by
  have hf := find_v hok hv id
  by_cases hz : findP ds id = -1
  · rw [hf] at hz
    by_cases hg : 1 ≤ W ∧ W ≤ 256 ∧ 1 ≤ H ∧ H ≤ 256
    · have hs : sideB W H = true := decide_eq_true hg
      have hb : mkB' vs id W H = true := by unfold mkB'; rw [decide_eq_true hz, hs]; rfl
      refine (poolMakeY p mp ds id W H B R w0 w hT0 hok (hf.trans hz) hg hlen).mono fun e w' hh => ?_
      obtain ⟨b_, m_, q_, n_, he, hn, hT⟩ := hh
      refine ⟨_, by rw [he]; unfold mkK mkE; rw [hb, if_pos hz, hs, v_len hv]; rfl, ⟨newP_ok hok hB0 (hf.trans hz) hg hn, ?_⟩, hT⟩
      unfold mkV
      rw [hb, cond_true, List.map_append, hv]
      have : n_ = (W * H).toNat := by omega
      subst this; rfl
    · have hs : sideB W H = false := decide_eq_false hg
      have hb : mkB' vs id W H = false := by unfold mkB'; rw [hs, Bool.and_false]
      exact (poolMakeA p mp ds id W H B R w0 w hT0 hok (hf.trans hz) hg).mono fun e w' hh => ⟨ds, by rw [hh.1]; unfold mkK mkE; rw [hb, if_pos hz, hs]; rfl, ⟨hok, by unfold mkV; rw [hb]; exact hv⟩, hh.2⟩
  · have hz2 : findV vs id ≠ -1 := by rw [← hf]; exact hz
    have hb : mkB' vs id W H = false := by unfold mkB'; rw [decide_eq_false hz2]; rfl
    exact (poolMakeX p mp ds id W H B R w0 w hT0 hok hz).mono fun e w' hh => ⟨ds, by rw [hh.1]; unfold mkK mkE; rw [hb, if_neg hz2]; rfl, ⟨hok, by unfold mkV; rw [hb]; exact hv⟩, hh.2⟩
theorem poolWriteV (p mp : Nat) (ds : List PB) (vs : List VB) (id a b c d : Int) (A2 : Option Addr) (g2 o2 n2 cap2 : Nat) (xs2 : List Int) (B : Int) (R : List Ent) (w0 w : World) (hT0 : Tab w0 w ((.cells p [iQ ((ds.length : Nat) : Int), .map (some mp)] 65 true) :: (.gen (mapE mp (pmsV (keysP (liveP ds))) true)) :: (.gen (allE 67 81 48 (liveP ds))) :: (rD (A2) g2 o2 n2 1 (ivals .u8 xs2)) :: R)) (hok : PoolOk ds B) (hv : ds.map PB.v = vs) (hc2 : n2 ≤ cap2) (hx2 : ∀ x ∈ xs2, 0 ≤ x ∧ x ≤ 255) :
    Calls Try.prog 15 #[pT p, iQ id, .agg #[iQ a, iQ b, iQ c, iQ d], .slice A2 n2 cap2] w fun e w' => ∃ ds' : List PB, e = .returned (iQ (wtE vs id a b c d xs2)) ∧ (PoolOk ds' B ∧ ds'.map PB.v = wtV vs id a b c d xs2) ∧ Tab w0 w' ((.cells p [iQ ((ds'.length : Nat) : Int), .map (some mp)] 65 true) :: (.gen (mapE mp (pmsV (keysP (liveP ds'))) true)) :: (.gen (allE 67 81 48 (liveP ds'))) :: (rD (A2) g2 o2 n2 1 (ivals .u8 xs2)) :: R) := by
  have hf := find_v hok hv id
  by_cases hz : findP ds id = -1
  · rw [hf] at hz
    have hb : wtB vs id = false := by unfold wtB; rw [decide_eq_false (by simp [hz])]; rfl
    exact (poolWriteN p mp ds id a b c d A2 n2 cap2 B _ w0 w hT0 hok (hf.trans hz)).mono fun e w' hh => ⟨ds, by rw [hh.1]; unfold wtE; rw [if_pos hz], ⟨hok, by unfold wtV; rw [hb]; exact hv⟩, hh.2⟩
  · obtain ⟨ix, x, hix, hx, hal, hfk, hn, hid⟩ := hit_at hok hz
    have hz2 : findV vs id ≠ -1 := by rw [← hf]; exact hz
    have hva := v_at hv hix hx
    have hfv : findV vs id = (ix : Int) := by rw [← hf, hfk]
    have hxx : wtX vs id = x.v := by unfold wtX; rw [hfv, Int.toNat_natCast, hva]
    have hhd := hok.hd _ (dget_mem hix)
    rw [← hx] at hhd
    by_cases hp : 0 < x.hd
    · have hb : wtB vs id = false := by unfold wtB; rw [hfv, Int.toNat_natCast, hva]; show (_ && !decide (0 < x.hd)) = false; rw [decide_eq_true hp, Bool.not_true, Bool.and_false]
      exact (poolWriteB p mp ds id a b c d A2 n2 cap2 ix x B _ w0 w hT0 hok hix hx hal hfk hp).mono fun e w' hh => ⟨ds, by rw [hh.1]; unfold wtE; rw [if_neg hz2, hxx, show decide (0 < (PB.v x).hd) = true from decide_eq_true hp]; rfl, ⟨hok, by unfold wtV; rw [hb]; exact hv⟩, hh.2⟩
    · have hb : wtB vs id = true := by unfold wtB; rw [decide_eq_true hz2, hfv, Int.toNat_natCast, hva]; show (true && !decide (0 < x.hd)) = true; rw [decide_eq_false hp]; rfl
      exact (poolWriteD p mp ds id a b c d A2 g2 o2 n2 cap2 xs2 ix x B R w0 w hT0 hok hix hx hal hfk (by omega) hc2 hx2).mono fun e w' hh => ⟨_, by rw [hh.1]; unfold wtE; rw [if_neg hz2, hxx, show decide (0 < (PB.v x).hd) = false from decide_eq_false hp]; rfl, ⟨put_ok hok hix hx a b c d xs2, by unfold wtV; rw [hb, cond_true, hxx, hfv, Int.toNat_natCast, v_set hv]; rfl⟩, hh.2⟩
end Go.Proofs.Ytkfdmfclndaanaa
namespace Go.Proofs.Ytkfdmfclndaanaa
open Go Go.RowKit
set_option maxRecDepth 100000
set_option maxHeartbeats 8000000
theorem refCovers (a b c d a' b' c' d' : Int) (w : World) :
    Calls Try.prog 58 #[.agg #[iQ a, iQ b, iQ c, iQ d], .agg #[iQ a', iQ b', iQ c', iQ d']] w fun e w' => e = .returned (.bool (coversB a b c d a' b' c' d')) ∧ Below w.heap.size w w' := by
 refine eN [(0, .agg #[iq a, iq b, iq c, iq d]), (1, .agg #[iq a', iq b', iq c', iq d'])] Try.func58 Try.ntmps58 rfl (Tab.start w) ?_
 refine zSR 3 <| batch2 [0, 0, 0] 3 0 (fun b1 b2 => [(2, .pointer (pB b1)), (3, .pointer (pB b2))]) (fun b1 b2 => [.cells b2 [iq a', iq b', iq c', iq d'] 37 true, .cells b1 [iq a, iq b, iq c, iq d] 37 true]) rfl rfl [2, 3] (fun _ _ => rfl) (fun b1 b2 => by kernel_rfl) (fun b1 b2 => by kernel_rfl) (fun b1 b2 => ?_)
 refine zDNSSR 2 <| bD [0] 1 1 [(5, .agg #[iq a', iq b', iq c', iq d'])] [] <| pS 2 0 <| cP 6 (.bool (emptyB a' b' c' d')) (fun w hT => refEmpty a' b' c' d' w) <| zDN <| cSp 6 _ rfl (fun c3_ => ?_) fun c3_ => ?_
 ·
  refine zTSR 1 <| bS [0] 1 0 [(4, .bool true)] <| fG 0 <| fG 0 <| zDNrt <| rA rfl 0 (.bool true) fun w hT => ?_
  exact ⟨ret_bool (by simp [coversB, *] <;> omega), hT.post rfl⟩
 refine zFKNSR 27 <| bD [0, 1, 0, 0, 0, 0] 6 21 [(12, .bool (decide (a ≤ a')))] [7, 8, 9, 10, 11] <| sD 12 rfl (fun c4_ => ?_) fun c4_ => ?_
 ·
  refine bD [0, 1, 0, 0, 0, 0, 0] 13 14 [(19, .bool (decide (b ≤ b')))] [13, 14, 15, 16, 17, 18] <| sD 19 rfl (fun c5_ => ?_) fun c5_ => ?_
  ·
   refine bD [0, 1, 0, 0, 0, 0, 0] 20 7 [(26, .bool (decide (c ≥ c')))] [20, 21, 22, 23, 24, 25] <| sD 26 rfl (fun c6_ => ?_) fun c6_ => ?_
   ·
    refine bS [0, 1, 0, 0, 0, 0, 0] 27 0 [(4, .bool (decide (d ≥ d')))] <| fG 0 <| fG 0 <| zDNr <| rA rfl 0 (.bool (decide (d ≥ d'))) fun w hT => ?_
    exact ⟨ret_bool (by simp [coversB, *] <;> omega), hT.post rfl⟩
   refine bS [0, 0, 0, 0, 0, 0, 0] 27 0 [(4, .bool false)] <| fG 0 <| fG 0 <| zDNr <| rA rfl 0 (.bool false) fun w hT => ?_
   exact ⟨ret_bool (by simp [coversB, *] <;> omega), hT.post rfl⟩
  refine bS [0, 0, 0, 0, 0, 0, 0, 0, 0, 0, 0, 0, 0, 0] 27 0 [(4, .bool false)] <| fG 0 <| fG 0 <| zDNr <| rA rfl 0 (.bool false) fun w hT => ?_
  exact ⟨ret_bool (by simp [coversB, *] <;> omega), hT.post rfl⟩
 refine bS [0, 0, 0, 0, 0, 0, 0, 0, 0, 0, 0, 0, 0, 0, 0, 0, 0, 0, 0, 0, 0] 27 0 [(4, .bool false)] <| fG 0 <| fG 0 <| zDNr <| rA rfl 0 (.bool false) fun w hT => ?_
 exact ⟨ret_bool (by simp [coversB, *] <;> omega), hT.post rfl⟩
theorem refWriteB (W H : Int) (r n cap : Nat) (px : List Int) (a b c d : Int) (A2 : Option Addr) (g2 o2 n2 cap2 : Nat) (xs2 : List Int) (w : World) (hT0 : Tab w w [rD (some ⟨r, 0, none⟩) r 0 n 1 (cV px), rD (A2) g2 o2 n2 1 (ivals .u8 xs2)]) (hok : ImgOk W H n px) (hc2 : n2 ≤ cap2) (hx2 : ∀ x ∈ xs2, 0 ≤ x ∧ x ≤ 255) (hE : wrE W H a b c d xs2 ≠ 0) :
    Calls Try.prog 48 #[.agg #[iQ W, iQ H, sL r n cap], .agg #[iQ a, iQ b, iQ c, iQ d], .slice A2 n2 cap2] w fun e w' => e = .returned (.tuple #[.agg #[iQ W, iQ H, sL r n cap], iQ (wrE W H a b c d xs2)]) ∧ Below w.heap.size w w' := by
  have hw1 := hok.w1
  have hw2 := hok.w2
  have hh1 := hok.h1
  have hh2 := hok.h2
  have hnum := hok.num
  have hlen := hok.len
  have hle := hok.le
  have hra2 := ((hT0.ok 1 _ rfl : Rd w A2 g2 o2 n2 1 (ivals .u8 xs2)).at_)
  have hl2 : xs2.length = n2 := Rd.flen (hT0.ok 1 _ rfl)
  refine eN [(0, .agg #[iQ W, iQ H, sL r n cap]), (1, .agg #[iQ a, iQ b, iQ c, iQ d]), (2, .slice A2 n2 cap2)] Try.func48 Try.ntmps48 rfl hT0 ?_
  refine cont_fact (F := (0 < n2 → (A2 : Option Addr) = some ⟨g2, o2, none⟩) ∧ xs2.length = n2) (fun w hT => Rd.facts (hT.ok 1 _ rfl)) (fun hl1_ => ?_)
  obtain ⟨hl1_a, hl1_l⟩ := hl1_
  refine zSR 4 <| batch3 [0, 0, 0, 0] 4 0 (fun b2 b3 b4 => [(2, .slice A2 n2 cap2), (3, pT b2), (4, pT b3), (6, pT b4)]) (fun b2 b3 b4 => [.cells b4 [iQ 0, iQ 0, .slice none 0 0] 92 true, .cells b3 [iQ a, iQ b, iQ c, iQ d] 37 true, .cells b2 [iQ W, iQ H, sL r n cap] 92 true, rD (some ⟨r, 0, none⟩) r 0 n 1 (cV px), rD (A2) g2 o2 n2 1 (ivals .u8 xs2)]) rfl rfl [2, 3, 4, 6] (fun _ _ _ => rfl) (fun b2 b3 b4 => by kernel_rfl) (fun b2 b3 b4 => by kernel_rfl) (fun b2 b3 b4 => ?_)
  refine zDNS <| drawn_enter 5 [] rfl (by kernel_rfl) ?_
  refine tD 0 [] [(0, 2), (2, 1)] 3 [2, 0] [(15, .agg #[iQ W, iQ H, sL r n cap]), (17, .agg #[iQ a, iQ b, iQ c, iQ d])] [] <| dO 1 2 <| cP 16 (.agg #[iQ 0, iQ 0, iQ W, iQ H]) (fun w hT => refBox W H (sL r n cap) w) <| dX 0 [] <| dO 3 1 <| cP 18 (.bool (coversB 0 0 W H a b c d)) (fun w hT => refCovers 0 0 W H a b c d w) <| dX 0 [] <| tD 0 [] [(4, 0)] 0 [4, 3, 1, 2, 0] [(8, .bool (coversB 0 0 W H a b c d))] [] <| dD <| zN <| cSq <| zSR 6 <| bD [1] 1 5 [(19, .agg #[iQ a, iQ b, iQ c, iQ d])] [] <| pS 2 4 <| cP 20 (.bool (emptyB a b c d)) (fun w hT => refEmpty a b c d w) <| bD [0] 3 3 [(21, .bool (emptyB a b c d))] [] <| cSp 21 _ rfl (fun c5_ => ?_) fun c5_ => ?_
  ·
    have hem_ : emptyB a b c d = true := c5_
    refine bD [0, 0, 0] 6 0 [(24, .bool true)] [22, 23] <| zDNTSR 3 <| bZ [2, 0, 0] 3 0 [(6, pT b4), (7, iQ 4)] [.cells b4 [iQ W, iQ H, sL r n cap] 92 true, .cells b3 [iQ a, iQ b, iQ c, iQ d] 37 true, .cells b2 [iQ W, iQ H, sL r n cap] 92 true, rD (some ⟨r, 0, none⟩) r 0 n 1 (cV px), rD (A2) g2 o2 n2 1 (ivals .u8 xs2)] <| fG 1 <| fG 1 <| zDNrt <| rB rfl 0 0 (.agg #[iQ W, iQ H, sL r n cap]) (iQ 4) fun w hT => ?_
    have hE2 : wrE W H a b c d xs2 = 4 := (by rcases Bool.eq_false_or_eq_true (emptyB a b c d) with h_ | h_; exact wrE_ins (by unfold insB; rw [h_]; rfl); first | exact wrE_ins hgF | exact absurd (h_.symm.trans hem_) (by decide))
    exact ⟨by rw [hE2], hT.post rfl⟩
  have hem_ : emptyB a b c d = false := c5_
  refine bD [0, 0, 0] 6 0 [(24, .bool (!(coversB 0 0 W H a b c d)))] [22, 23] <| zDN <| cSp 24 _ rfl (fun c6_ => ?_) fun c6_ => ?_
  ·
    replace c6_ : (coversB 0 0 W H a b c d) = false := by simpa using c6_
    have hgF : insB W H a b c d = false := by unfold insB; rw [show coversB 0 0 W H a b c d = false from c6_, Bool.and_false]
    refine zTSR 3 <| bZ [2, 0, 0] 3 0 [(6, pT b4), (7, iQ 4)] [.cells b4 [iQ W, iQ H, sL r n cap] 92 true, .cells b3 [iQ a, iQ b, iQ c, iQ d] 37 true, .cells b2 [iQ W, iQ H, sL r n cap] 92 true, rD (some ⟨r, 0, none⟩) r 0 n 1 (cV px), rD (A2) g2 o2 n2 1 (ivals .u8 xs2)] <| fG 1 <| fG 1 <| zDNrt <| rB rfl 0 0 (.agg #[iQ W, iQ H, sL r n cap]) (iQ 4) fun w hT => ?_
    have hE2 : wrE W H a b c d xs2 = 4 := (by rcases Bool.eq_false_or_eq_true (emptyB a b c d) with h_ | h_; exact wrE_ins (by unfold insB; rw [h_]; rfl); first | exact wrE_ins hgF | exact absurd (h_.symm.trans hem_) (by decide))
    exact ⟨by rw [hE2], hT.post rfl⟩
  replace c6_ : (coversB 0 0 W H a b c d) = true := by simpa using c6_
  have hg : insB W H a b c d = true := by unfold insB; rw [show coversB 0 0 W H a b c d = true from c6_, hem_]; rfl
  obtain ⟨hg1, hg2, hg3, hg4, hg5, hg6⟩ := insB_true hg
  obtain ⟨har0, har1, har2⟩ := ins_area hok hg
  refine zFKNSR 4 <| bD [1] 1 3 [(26, .agg #[iQ a, iQ b, iQ c, iQ d])] [] <| pS 2 2 <| cP 27 (iQ (areaI a b c d)) (fun w hT => refArea a b c d w (by omega) (by omega) (by omega) (by omega)) <| bD [0] 3 1 [(28, iQ (IntKind.i64.wrap (4 * (areaI a b c d))))] [] <| wI 28 (4 * (areaI a b c d)) <| bD [0] 4 0 [(9, iQ (4 * (areaI a b c d)))] [] <| zDNSSR 4 <| bD [0, 0, 0, 0] 4 0 [(32, .bool (decide ((n2 : Int) < (4 * (areaI a b c d)))))] [29, 30, 31] <| zDN <| sD 32 rfl (fun c7_ => ?_) fun c7_ => ?_
  ·
    refine zTSR 3 <| bZ [2, 0, 0] 3 0 [(6, pT b4), (7, iQ 3)] [.cells b4 [iQ W, iQ H, sL r n cap] 92 true, .cells b3 [iQ a, iQ b, iQ c, iQ d] 37 true, .cells b2 [iQ W, iQ H, sL r n cap] 92 true, rD (some ⟨r, 0, none⟩) r 0 n 1 (cV px), rD (A2) g2 o2 n2 1 (ivals .u8 xs2)] <| fG 1 <| fG 1 <| zDNrt <| rB rfl 0 0 (.agg #[iQ W, iQ H, sL r n cap]) (iQ 3) fun w hT => ?_
    have hE2 : wrE W H a b c d xs2 = 3 := wrE_short hg (by omega)
    exact ⟨by rw [hE2], hT.post rfl⟩
  refine cFa rfl <| cont_skip <| zN <| cSq <| zSR 4 <| bD [0, 0, 0, 0] 4 0 [(37, .bool (decide ((n2 : Int) > (4 * (areaI a b c d)))))] [34, 35, 36] <| zDN <| sD 37 rfl (fun c8_ => ?_) fun c8_ => ?_
  ·
    refine zTSR 3 <| bZ [2, 0, 0] 3 0 [(6, pT b4), (7, iQ 2)] [.cells b4 [iQ W, iQ H, sL r n cap] 92 true, .cells b3 [iQ a, iQ b, iQ c, iQ d] 37 true, .cells b2 [iQ W, iQ H, sL r n cap] 92 true, rD (some ⟨r, 0, none⟩) r 0 n 1 (cV px), rD (A2) g2 o2 n2 1 (ivals .u8 xs2)] <| fG 1 <| fG 1 <| zDNrt <| rB rfl 0 0 (.agg #[iQ W, iQ H, sL r n cap]) (iQ 2) fun w hT => ?_
    have hE2 : wrE W H a b c d xs2 = 2 := wrE_long hg (by omega)
    exact ⟨by rw [hE2], hT.post rfl⟩
  refine zFKNSR 1 ?_
  obtain ⟨N, hN⟩ : ∃ N : Nat, (N : Int) = areaI a b c d := ⟨Int.toNat (areaI a b c d), by omega⟩
  obtain ⟨wn, hwn⟩ : ∃ k_ : Nat, k_ = Int.toNat (c - a) := ⟨_, rfl⟩
  refine bD [0] 1 0 [(10, .slice none 0 0)] [] <| zDNSR 5 <| bD [0, 0, 2] 3 2 [(39, .slice none 0 0), (41, sL r n cap)] [40] <| pS 4 1 <| cont_nilrow 48 1 ?_
  refine sSW (α := Option Addr × Nat × Nat) 42 (Builtin.append_ #[79, 79] 79 #[.slice none 0 0, sL r n cap]) (fun x_ => .slice x_.1 n x_.2.2) (fun x_ => [.gen (rowE (x_.1) x_.2.1 n x_.2.2 48 1 (cV px) true), .cells b4 [iQ 0, iQ 0, .slice none 0 0] 92 true, .cells b3 [iQ a, iQ b, iQ c, iQ d] 37 true, .cells b2 [iQ W, iQ H, sL r n cap] 92 true, rD (some ⟨r, 0, none⟩) r 0 n 1 (cV px), rD (A2) g2 o2 n2 1 (ivals .u8 xs2)]) (fun _ => True) (by kernel_rfl) (fun w hT => append_own (n' := n) (z := cQ 0) hT (i := 0) (bytes := 4) rfl (by kernel_rfl) (by kernel_rfl) rfl (by decide) (by decide) (hT.ok 4 _ rfl) (ivals_one .u32 px) (by omega) rfl (Nat.zero_add _).symm) ?_
  rintro ⟨A10, g10, cp10⟩ -
  refine cM ?_
  refine fI 0 n A10 g10 cp10 px rfl fun hr11_a hr11_l hr11_c hr11_m => ?_
  refine bD [0] 5 0 [(10, .slice A10 n cp10)] [] <| zDNSR 6 <| bS [0, 2, 0, 2, 0] 5 1 [(2, .slice A2 n2 cap2), (3, pT b2), (4, pT b3), (6, pT b4), (9, iQ (4 * (areaI a b c d))), (10, .slice A10 n cp10), (47, iQ (IntKind.i64.wrap (c - a)))] <| wI 47 (c - a) <| bD [0] 6 0 [(11, iQ (c - a))] [] <| zDNSSR 1 <| bD [0] 1 0 [(12, iQ 0)] [] <| zDNB <| cont_rowEq (k := .u32) 0 (px) (wrS W a b wn xs2 px 0) rfl rfl ?_
  refine rC 12 (iQ ((0 : Nat) : Int)) rfl (congrArg (Value.int .i64) rfl) <| fI 0 n A10 g10 cp10 (wrS W a b wn xs2 px 0) rfl fun hr12_a hr12_l hr12_c hr12_m => ?_
  refine cL (α := Nat) (fun x_ : Nat => x_ ≤ N ∧ okN xs2 x_) (fun x_ : Nat => [(2, .slice A2 n2 cap2), (3, pT b2), (4, pT b3), (6, pT b4), (9, iQ (4 * (areaI a b c d))), (10, .slice A10 n cp10), (11, iQ (c - a)), (12, iQ ((x_ : Nat) : Int))]) (fun x_ : Nat => [.gen (rowE (A10) g10 n cp10 48 1 (cV (wrS W a b wn xs2 px x_)) true), .cells b4 [iQ 0, iQ 0, .slice none 0 0] 92 true, .cells b3 [iQ a, iQ b, iQ c, iQ d] 37 true, .cells b2 [iQ W, iQ H, sL r n cap] 92 true, rD (some ⟨r, 0, none⟩) r 0 n 1 (cV px), rD (A2) g2 o2 n2 1 (ivals .u8 xs2)]) (fun x_ : Nat => N - x_) 0 (⟨by omega, fun j hj => by omega⟩) ?_
  rintro i hinv13_
  replace hinv13_ : i ≤ N ∧ okN xs2 i := hinv13_
  refine cM ?_
  obtain ⟨hi, hokn⟩ := hinv13_
  have hmk := mkB_in xs2 i
  have hwl : (wrS W a b wn xs2 px i).length = n := by rw [wrS_length]; exact hlen
  have hb0 := getD_byte hx2 (Int.toNat (4 * ((i : Nat) : Int)))
  have hb1 := getD_byte hx2 (Int.toNat (4 * ((i : Nat) : Int) + 1))
  have hb2 := getD_byte hx2 (Int.toNat (4 * ((i : Nat) : Int) + 2))
  have hb3 := getD_byte hx2 (Int.toNat (4 * ((i : Nat) : Int) + 3))
  refine cSq <| zSR 4 <| bD [0, 0, 0] 3 1 [(48, iQ ((i : Nat) : Int)), (50, iQ (IntKind.i64.wrap ((4 * (areaI a b c d)).tdiv 4)))] [49] <| rC 50 (iQ ((4 * (areaI a b c d)) / 4)) rfl (tdivI (by omega) (by omega) (by omega)) <| bD [0] 4 0 [(51, .bool (decide (((i : Nat) : Int) < ((4 * (areaI a b c d)) / 4))))] [] <| zDN <| sD 51 rfl (fun c14_ => ?_) fun c14_ => ?_
  ·
    refine cTr rfl <| cont_skip <| zN <| cSq <| cont_block <| cSq <| drawn_enter 29 [] rfl (by kernel_rfl) ?_
    refine tD 0 [] [(0, 0), (1, 0), (6, 0), (7, 0), (13, 0), (14, 0), (20, 0), (21, 0), (2, 0)] 20 [2, 21, 20, 14, 13, 7, 6, 1, 0] [(54, .slice A2 n2 cap2), (56, iQ (IntKind.i64.wrap (4 * ((i : Nat) : Int)))), (60, .slice A2 n2 cap2), (61, iQ ((i : Nat) : Int)), (67, .slice A2 n2 cap2), (68, iQ ((i : Nat) : Int)), (74, .slice A2 n2 cap2), (75, iQ ((i : Nat) : Int))] [55] <| wI 56 (4 * ((i : Nat) : Int)) <| rC 54 (.slice (some ⟨g2, o2, none⟩) n2 cap2) rfl (by rw [hl1_a (by omega)]) <| sT 0 [] 3 19 57 (Instr.indexAt 38 (.slice (some ⟨g2, o2, none⟩) n2 cap2) (iQ (4 * ((i : Nat) : Int)))) (.pointer (some ⟨g2, o2 + Int.toNat (4 * ((i : Nat) : Int)), none⟩)) (fun w hT => rI 5 1 w) <| sT 0 [] 4 18 58 (Instr.loadAt 5 (.pointer (some ⟨g2, o2 + Int.toNat (4 * ((i : Nat) : Int)), none⟩))) (.int .u8 (xs2.getD (Int.toNat (4 * ((i : Nat) : Int))) 0)) (fun w hT => rL (Rd.cell (hT 5 _ rfl) (Int.toNat (4 * ((i : Nat) : Int))) _ (ivals_get (by omega)))) <| tD 0 [] [(5, 0)] 17 [5, 4, 3, 2, 21, 20, 14, 13, 7, 6, 1, 0] [(59, iQ (IntKind.i64.wrap (xs2.getD (Int.toNat (4 * ((i : Nat) : Int))) 0)))] [] <| wI 59 (xs2.getD (Int.toNat (4 * ((i : Nat) : Int))) 0) <| tD 0 [] [(8, 0)] 16 [8, 5, 4, 3, 2, 21, 20, 14, 13, 7, 6, 1, 0] [(62, iQ (IntKind.i64.wrap (4 * ((i : Nat) : Int))))] [] <| wI 62 (4 * ((i : Nat) : Int)) <| tD 0 [] [(9, 0)] 15 [9, 8, 5, 4, 3, 2, 21, 20, 14, 13, 7, 6, 1, 0] [(63, iQ (IntKind.i64.wrap ((4 * ((i : Nat) : Int)) + 1)))] [] <| wI 63 ((4 * ((i : Nat) : Int)) + 1) <| rC 60 (.slice (some ⟨g2, o2, none⟩) n2 cap2) rfl (by rw [hl1_a (by omega)]) <| sT 0 [] 10 14 64 (Instr.indexAt 38 (.slice (some ⟨g2, o2, none⟩) n2 cap2) (iQ ((4 * ((i : Nat) : Int)) + 1))) (.pointer (some ⟨g2, o2 + Int.toNat ((4 * ((i : Nat) : Int)) + 1), none⟩)) (fun w hT => rI 5 1 w) <| sT 0 [] 11 13 65 (Instr.loadAt 5 (.pointer (some ⟨g2, o2 + Int.toNat ((4 * ((i : Nat) : Int)) + 1), none⟩))) (.int .u8 (xs2.getD (Int.toNat ((4 * ((i : Nat) : Int)) + 1)) 0)) (fun w hT => rL (Rd.cell (hT 5 _ rfl) (Int.toNat ((4 * ((i : Nat) : Int)) + 1)) _ (ivals_get (by omega)))) <| tD 0 [] [(12, 0)] 12 [12, 11, 10, 9, 8, 5, 4, 3, 2, 21, 20, 14, 13, 7, 6, 1, 0] [(66, iQ (IntKind.i64.wrap (xs2.getD (Int.toNat ((4 * ((i : Nat) : Int)) + 1)) 0)))] [] <| wI 66 (xs2.getD (Int.toNat ((4 * ((i : Nat) : Int)) + 1)) 0) <| tD 0 [] [(15, 0)] 11 [15, 12, 11, 10, 9, 8, 5, 4, 3, 2, 21, 20, 14, 13, 7, 6, 1, 0] [(69, iQ (IntKind.i64.wrap (4 * ((i : Nat) : Int))))] [] <| wI 69 (4 * ((i : Nat) : Int)) <| tD 0 [] [(16, 0)] 10 [16, 15, 12, 11, 10, 9, 8, 5, 4, 3, 2, 21, 20, 14, 13, 7, 6, 1, 0] [(70, iQ (IntKind.i64.wrap ((4 * ((i : Nat) : Int)) + 2)))] [] <| wI 70 ((4 * ((i : Nat) : Int)) + 2) <| rC 67 (.slice (some ⟨g2, o2, none⟩) n2 cap2) rfl (by rw [hl1_a (by omega)]) <| sT 0 [] 17 9 71 (Instr.indexAt 38 (.slice (some ⟨g2, o2, none⟩) n2 cap2) (iQ ((4 * ((i : Nat) : Int)) + 2))) (.pointer (some ⟨g2, o2 + Int.toNat ((4 * ((i : Nat) : Int)) + 2), none⟩)) (fun w hT => rI 5 1 w) <| sT 0 [] 18 8 72 (Instr.loadAt 5 (.pointer (some ⟨g2, o2 + Int.toNat ((4 * ((i : Nat) : Int)) + 2), none⟩))) (.int .u8 (xs2.getD (Int.toNat ((4 * ((i : Nat) : Int)) + 2)) 0)) (fun w hT => rL (Rd.cell (hT 5 _ rfl) (Int.toNat ((4 * ((i : Nat) : Int)) + 2)) _ (ivals_get (by omega)))) <| tD 0 [] [(19, 0)] 7 [19, 18, 17, 16, 15, 12, 11, 10, 9, 8, 5, 4, 3, 2, 21, 20, 14, 13, 7, 6, 1, 0] [(73, iQ (IntKind.i64.wrap (xs2.getD (Int.toNat ((4 * ((i : Nat) : Int)) + 2)) 0)))] [] <| wI 73 (xs2.getD (Int.toNat ((4 * ((i : Nat) : Int)) + 2)) 0) <| tD 0 [] [(22, 0)] 6 [22, 19, 18, 17, 16, 15, 12, 11, 10, 9, 8, 5, 4, 3, 2, 21, 20, 14, 13, 7, 6, 1, 0] [(76, iQ (IntKind.i64.wrap (4 * ((i : Nat) : Int))))] [] <| wI 76 (4 * ((i : Nat) : Int)) <| tD 0 [] [(23, 0)] 5 [23, 22, 19, 18, 17, 16, 15, 12, 11, 10, 9, 8, 5, 4, 3, 2, 21, 20, 14, 13, 7, 6, 1, 0] [(77, iQ (IntKind.i64.wrap ((4 * ((i : Nat) : Int)) + 3)))] [] <| wI 77 ((4 * ((i : Nat) : Int)) + 3) <| rC 74 (.slice (some ⟨g2, o2, none⟩) n2 cap2) rfl (by rw [hl1_a (by omega)]) <| sT 0 [] 24 4 78 (Instr.indexAt 38 (.slice (some ⟨g2, o2, none⟩) n2 cap2) (iQ ((4 * ((i : Nat) : Int)) + 3))) (.pointer (some ⟨g2, o2 + Int.toNat ((4 * ((i : Nat) : Int)) + 3), none⟩)) (fun w hT => rI 5 1 w) <| sT 0 [] 25 3 79 (Instr.loadAt 5 (.pointer (some ⟨g2, o2 + Int.toNat ((4 * ((i : Nat) : Int)) + 3), none⟩))) (.int .u8 (xs2.getD (Int.toNat ((4 * ((i : Nat) : Int)) + 3)) 0)) (fun w hT => rL (Rd.cell (hT 5 _ rfl) (Int.toNat ((4 * ((i : Nat) : Int)) + 3)) _ (ivals_get (by omega)))) <| tD 0 [] [(26, 0)] 2 [26, 25, 24, 23, 22, 19, 18, 17, 16, 15, 12, 11, 10, 9, 8, 5, 4, 3, 2, 21, 20, 14, 13, 7, 6, 1, 0] [(80, iQ (IntKind.i64.wrap (xs2.getD (Int.toNat ((4 * ((i : Nat) : Int)) + 3)) 0)))] [] <| wI 80 (xs2.getD (Int.toNat ((4 * ((i : Nat) : Int)) + 3)) 0) <| dO 27 1 <| cP 81 (cQ (mkC (xs2.getD (Int.toNat (4 * ((i : Nat) : Int))) 0) (xs2.getD (Int.toNat ((4 * ((i : Nat) : Int)) + 1)) 0) (xs2.getD (Int.toNat ((4 * ((i : Nat) : Int)) + 2)) 0) (xs2.getD (Int.toNat ((4 * ((i : Nat) : Int)) + 3)) 0))) (fun w hT => refMake (xs2.getD (Int.toNat (4 * ((i : Nat) : Int))) 0) (xs2.getD (Int.toNat ((4 * ((i : Nat) : Int)) + 1)) 0) (xs2.getD (Int.toNat ((4 * ((i : Nat) : Int)) + 2)) 0) (xs2.getD (Int.toNat ((4 * ((i : Nat) : Int)) + 3)) 0) w) <| rC 81 (cQ (mkB xs2 i)) rfl (congrArg (Value.int .u32) (by unfold mkB; congr 1 <;> (congr 1; omega))) <| dX 0 [] <| tK 0 [] [(28, 0)] 0 [28, 27, 26, 25, 24, 23, 22, 19, 18, 17, 16, 15, 12, 11, 10, 9, 8, 5, 4, 3, 2, 21, 20, 14, 13, 7, 6, 1, 0] [(2, .slice A2 n2 cap2), (3, pT b2), (4, pT b3), (6, pT b4), (9, iQ (4 * (areaI a b c d))), (10, .slice A10 n cp10), (11, iQ (c - a)), (12, iQ ((i : Nat) : Int)), (13, cQ (mkB xs2 i))] <| dD <| zN <| zSR 3 <| bS [0] 1 2 [(2, .slice A2 n2 cap2), (3, pT b2), (4, pT b3), (6, pT b4), (9, iQ (4 * (areaI a b c d))), (10, .slice A10 n cp10), (11, iQ (c - a)), (12, iQ ((i : Nat) : Int)), (13, cQ (mkB xs2 i)), (82, cQ (mkB xs2 i))] ?_
    refine pS 2 1 <| cP 83 (.bool (mayB (mkB xs2 i))) (fun w hT => refMay (mkB xs2 i) w (by omega) (by omega)) <| bD [0] 3 0 [(14, .bool (mayB (mkB xs2 i)))] [] <| zDNSSR 2 <| bD [0, 0] 2 0 [(85, .bool (!(mayB (mkB xs2 i))))] [84] <| zDN <| cSp 85 _ rfl (fun c15_ => ?_) fun c15_ => ?_
    ·
      replace c15_ : (mayB (mkB xs2 i)) = false := by simpa using c15_
      have hmy : mayB (mkB xs2 i) = false := c15_
      refine zTSR 3 <| bZ [3, 1, 0] 3 0 [(6, pT b4), (7, iQ 1)] [.gen (rowE (A10) g10 n cp10 48 1 (cV (wrS W a b wn xs2 px i)) true), .cells b4 [iQ W, iQ H, sL r n cap] 92 true, .cells b3 [iQ a, iQ b, iQ c, iQ d] 37 true, .cells b2 [iQ W, iQ H, sL r n cap] 92 true, rD (some ⟨r, 0, none⟩) r 0 n 1 (cV px), rD (A2) g2 o2 n2 1 (ivals .u8 xs2)] <| fG 2 <| fG 2 <| zDNrt <| blk_ret <| then_ret <| then_ret <| blk_ret <| then_ret ?_
      refine rB rfl 1 0 (.agg #[iQ W, iQ H, sL r n cap]) (iQ 1) fun w hT => ?_
      have hE2 : wrE W H a b c d xs2 = 1 := wrE_bad hg (by omega) (N := N) (by omega) (k := i) (by omega) hmy
      exact ⟨by rw [hE2], hT.post rfl⟩
    replace c15_ : (mayB (mkB xs2 i)) = true := by simpa using c15_
    have hmy : mayB (mkB xs2 i) = true := c15_
    refine cFa rfl <| cont_skip <| zN ?_
    obtain ⟨hq0, hq1, hq2, hq3⟩ := row_of (N := N) (i := i) hg1 hg2 (by omega) (by omega)
    obtain ⟨hpl1, hpl2, hpl3⟩ := hok.place (x := a + (i : Int) % (c - a)) (y := b + (i : Int) / (c - a)) (by omega) (by omega) (by omega) (by omega)
    refine drawn_enter 20 [0] rfl (by kernel_rfl) ?_
    refine tD 0 [0] [(0, 0), (1, 0), (3, 0), (4, 0), (7, 0), (10, 0), (13, 0), (14, 0), (17, 0), (2, 2)] 10 [2, 17, 14, 13, 10, 7, 4, 3, 1, 0] [(87, .slice A10 n cp10), (89, iQ b), (90, iQ ((i : Nat) : Int)), (91, iQ (c - a)), (94, pT b2), (97, pT b3), (100, iQ ((i : Nat) : Int)), (101, iQ (c - a)), (104, cQ (mkB xs2 i))] [88] <| sT 0 [0] 5 9 92 (bopS .quo 3 (.tmp 90) (.tmp 91) (iQ ((i : Nat) : Int)) (iQ (c - a))) (iQ (IntKind.i64.wrap (((i : Nat) : Int).tdiv (c - a)))) (fun w hT => run_quo (by omega) w) <| rC 92 (iQ (((i : Nat) : Int) / (c - a))) rfl (tdivI (by omega) (by omega) (by omega)) <| tD 0 [0] [(6, 0)] 8 [6, 5, 2, 17, 14, 13, 10, 7, 4, 3, 1, 0] [(93, iQ (IntKind.i64.wrap (b + (((i : Nat) : Int) / (c - a)))))] [] <| wI 93 (b + (((i : Nat) : Int) / (c - a))) <| tD 0 [0] [(8, 3), (11, 2)] 6 [11, 8, 6, 5, 2, 17, 14, 13, 10, 7, 4, 3, 1, 0] [(95, iQ W), (98, iQ a)] [] <| tD 0 [0] [(9, 0)] 5 [9, 11, 8, 6, 5, 2, 17, 14, 13, 10, 7, 4, 3, 1, 0] [(96, iQ (IntKind.i64.wrap ((b + (((i : Nat) : Int) / (c - a))) * W)))] [] <| wI 96 ((b + (((i : Nat) : Int) / (c - a))) * W) <| tD 0 [0] [(12, 0)] 4 [12, 9, 11, 8, 6, 5, 2, 17, 14, 13, 10, 7, 4, 3, 1, 0] [(99, iQ (IntKind.i64.wrap (((b + (((i : Nat) : Int) / (c - a))) * W) + a)))] [] <| wI 99 (((b + (((i : Nat) : Int) / (c - a))) * W) + a) <| sT 0 [0] 15 3 102 (bopS .rem 3 (.tmp 100) (.tmp 101) (iQ ((i : Nat) : Int)) (iQ (c - a))) (iQ (((i : Nat) : Int).tmod (c - a))) (fun w hT => run_rem (by omega) w) <| rC 102 (iQ (((i : Nat) : Int) % (c - a))) rfl (tmodI (by omega)) <| tD 0 [0] [(16, 0)] 2 [16, 15, 12, 9, 11, 8, 6, 5, 2, 17, 14, 13, 10, 7, 4, 3, 1, 0] [(103, iQ (IntKind.i64.wrap ((((b + (((i : Nat) : Int) / (c - a))) * W) + a) + (((i : Nat) : Int) % (c - a)))))] [] <| wI 103 ((((b + (((i : Nat) : Int) / (c - a))) * W) + a) + (((i : Nat) : Int) % (c - a))) <| rC 87 (sL g10 n cp10) rfl (by rw [hr12_a (by omega)]) <| sT 0 [0] 18 1 105 (Instr.indexAt 79 (sL g10 n cp10) (iQ ((((b + (((i : Nat) : Int) / (c - a))) * W) + a) + (((i : Nat) : Int) % (c - a))))) (.pointer (some ⟨g10, Int.toNat ((((b + (((i : Nat) : Int) / (c - a))) * W) + a) + (((i : Nat) : Int) % (c - a))), none⟩)) (fun w hT => rI 48 1 w) <| dO 19 0 <| sem_stepU (Instr.storeAt 48 (.pointer (some ⟨g10, Int.toNat ((((b + (((i : Nat) : Int) / (c - a))) * W) + a) + (((i : Nat) : Int) % (c - a))), none⟩)) (cQ (mkB xs2 i))) (fun _ => [.gen (rowE (A10) g10 n cp10 48 1 (cV ((wrS W a b wn xs2 px i).set (Int.toNat ((((b + (((i : Nat) : Int) / (c - a))) * W) + a) + (((i : Nat) : Int) % (c - a)))) (mkB xs2 i))) true), .cells b4 [iQ 0, iQ 0, .slice none 0 0] 92 true, .cells b3 [iQ a, iQ b, iQ c, iQ d] 37 true, .cells b2 [iQ W, iQ H, sL r n cap] 92 true, rD (some ⟨r, 0, none⟩) r 0 n 1 (cV px), rD (A2) g2 o2 n2 1 (ivals .u8 xs2)]) (fun _ => True) (by kernel_rfl) (fun w hT => store_row hT (i := 0) rfl (by kernel_rfl) (by omega)) (fun _ _ => ?_)
    refine dX 0 [0] <| dD <| blk_normal <| zN <| cRg 3 rfl <| bD [0, 0] 2 1 [(53, iQ (IntKind.i64.wrap (((i : Nat) : Int) + 1)))] [52] <| wI 53 (((i : Nat) : Int) + 1) <| bD [0] 3 0 [(12, iQ (((i : Nat) : Int) + 1))] [] <| zDN <| cont_rowEq (k := .u32) 0 ((wrS W a b wn xs2 px i).set (Int.toNat ((((b + (((i : Nat) : Int) / (c - a))) * W) + a) + (((i : Nat) : Int) % (c - a)))) (mkB xs2 i)) (wrS W a b wn xs2 px (i + 1)) rfl (congrArg (fun z_ => (wrS W a b wn xs2 px i).set z_ (mkB xs2 i)) (wIdx_eq hwn (by omega))) ?_
    refine cA (i + 1) (show (i + 1) ≤ N ∧ okN xs2 (i + 1) from ⟨by omega, hokn.step hmy⟩)
  refine zFXxxeNSR 3 <| bZ [0, 0, 3] 3 0 [(3, pT b2), (6, pT b4)] [.gen (rowE (A10) g10 n cp10 48 1 (cV (wrS W a b wn xs2 px i)) true), .cells b4 [iQ 0, iQ 0, .slice none 0 0] 92 true, .cells b3 [iQ a, iQ b, iQ c, iQ d] 37 true, .cells b2 [iQ W, iQ H, .slice A10 n cp10] 92 true, rD (some ⟨r, 0, none⟩) r 0 n 1 (cV px), rD (A2) g2 o2 n2 1 (ivals .u8 xs2)] <| fG 2 <| zDNSR 3 <| bZ [2, 1, 0] 3 0 [(6, pT b4), (7, iQ 0)] [.gen (rowE (A10) g10 n cp10 48 1 (cV (wrS W a b wn xs2 px i)) true), .cells b4 [iQ W, iQ H, .slice A10 n cp10] 92 true, .cells b2 [iQ W, iQ H, .slice A10 n cp10] 92 true, rD (some ⟨r, 0, none⟩) r 0 n 1 (cV px), rD (A2) g2 o2 n2 1 (ivals .u8 xs2)] <| fG 2 <| zDNr <| rB rfl 1 0 (.agg #[iQ W, iQ H, .slice A10 n cp10]) (iQ 0) fun w hT => ?_
  have hE2 : wrE W H a b c d xs2 = 0 := wrE_ok hg (by omega) (N := N) (by omega) (by rw [show N = i by omega]; exact hokn)
  exact (hE hE2).elim
theorem refWriteG (W H : Int) (r n cap : Nat) (px : List Int) (a b c d : Int) (A2 : Option Addr) (g2 o2 n2 cap2 : Nat) (xs2 : List Int) (w : World) (hT0 : Tab w w [rD (some ⟨r, 0, none⟩) r 0 n 1 (cV px), rD (A2) g2 o2 n2 1 (ivals .u8 xs2)]) (hok : ImgOk W H n px) (hc2 : n2 ≤ cap2) (hx2 : ∀ x ∈ xs2, 0 ≤ x ∧ x ≤ 255) (hE : wrE W H a b c d xs2 = 0) :
    Calls Try.prog 48 #[.agg #[iQ W, iQ H, sL r n cap], .agg #[iQ a, iQ b, iQ c, iQ d], .slice A2 n2 cap2] w fun e w' => ∃ g cp : Nat, e = .returned (.tuple #[.agg #[iQ W, iQ H, sL g n cp], iQ 0]) ∧ Tab w w' [oE g n cp 48 1 (cV (wrA W H px a b c d xs2))] := by
  have hw1 := hok.w1
  have hw2 := hok.w2
  have hh1 := hok.h1
  have hh2 := hok.h2
  have hnum := hok.num
  have hlen := hok.len
  have hle := hok.le
  have hra2 := ((hT0.ok 1 _ rfl : Rd w A2 g2 o2 n2 1 (ivals .u8 xs2)).at_)
  have hl2 : xs2.length = n2 := Rd.flen (hT0.ok 1 _ rfl)
  refine eN [(0, .agg #[iQ W, iQ H, sL r n cap]), (1, .agg #[iQ a, iQ b, iQ c, iQ d]), (2, .slice A2 n2 cap2)] Try.func48 Try.ntmps48 rfl hT0 ?_
  refine cont_fact (F := (0 < n2 → (A2 : Option Addr) = some ⟨g2, o2, none⟩) ∧ xs2.length = n2) (fun w hT => Rd.facts (hT.ok 1 _ rfl)) (fun hl1_ => ?_)
  obtain ⟨hl1_a, hl1_l⟩ := hl1_
  refine zSR 4 <| batch3 [0, 0, 0, 0] 4 0 (fun b2 b3 b4 => [(2, .slice A2 n2 cap2), (3, pT b2), (4, pT b3), (6, pT b4)]) (fun b2 b3 b4 => [.cells b4 [iQ 0, iQ 0, .slice none 0 0] 92 true, .cells b3 [iQ a, iQ b, iQ c, iQ d] 37 true, .cells b2 [iQ W, iQ H, sL r n cap] 92 true, rD (some ⟨r, 0, none⟩) r 0 n 1 (cV px), rD (A2) g2 o2 n2 1 (ivals .u8 xs2)]) rfl rfl [2, 3, 4, 6] (fun _ _ _ => rfl) (fun b2 b3 b4 => by kernel_rfl) (fun b2 b3 b4 => by kernel_rfl) (fun b2 b3 b4 => ?_)
  refine zDNS <| drawn_enter 5 [] rfl (by kernel_rfl) ?_
  refine tD 0 [] [(0, 2), (2, 1)] 3 [2, 0] [(15, .agg #[iQ W, iQ H, sL r n cap]), (17, .agg #[iQ a, iQ b, iQ c, iQ d])] [] <| dO 1 2 <| cP 16 (.agg #[iQ 0, iQ 0, iQ W, iQ H]) (fun w hT => refBox W H (sL r n cap) w) <| dX 0 [] <| dO 3 1 <| cP 18 (.bool (coversB 0 0 W H a b c d)) (fun w hT => refCovers 0 0 W H a b c d w) <| dX 0 [] <| tD 0 [] [(4, 0)] 0 [4, 3, 1, 2, 0] [(8, .bool (coversB 0 0 W H a b c d))] [] <| dD <| zN <| cSq <| zSR 6 <| bD [1] 1 5 [(19, .agg #[iQ a, iQ b, iQ c, iQ d])] [] <| pS 2 4 <| cP 20 (.bool (emptyB a b c d)) (fun w hT => refEmpty a b c d w) <| bD [0] 3 3 [(21, .bool (emptyB a b c d))] [] <| cSp 21 _ rfl (fun c5_ => ?_) fun c5_ => ?_
  ·
    have hem_ : emptyB a b c d = true := c5_
    refine bD [0, 0, 0] 6 0 [(24, .bool true)] [22, 23] <| zDNTSR 3 <| bZ [2, 0, 0] 3 0 [(6, pT b4), (7, iQ 4)] [.cells b4 [iQ W, iQ H, sL r n cap] 92 true, .cells b3 [iQ a, iQ b, iQ c, iQ d] 37 true, .cells b2 [iQ W, iQ H, sL r n cap] 92 true, rD (some ⟨r, 0, none⟩) r 0 n 1 (cV px), rD (A2) g2 o2 n2 1 (ivals .u8 xs2)] <| fG 1 <| fG 1 <| zDNrt <| rB rfl 0 0 (.agg #[iQ W, iQ H, sL r n cap]) (iQ 4) fun w hT => ?_
    have hE2 : wrE W H a b c d xs2 = 4 := (by rcases Bool.eq_false_or_eq_true (emptyB a b c d) with h_ | h_; exact wrE_ins (by unfold insB; rw [h_]; rfl); first | exact wrE_ins hgF | exact absurd (h_.symm.trans hem_) (by decide))
    rw [hE] at hE2; cases hE2
  have hem_ : emptyB a b c d = false := c5_
  refine bD [0, 0, 0] 6 0 [(24, .bool (!(coversB 0 0 W H a b c d)))] [22, 23] <| zDN <| cSp 24 _ rfl (fun c6_ => ?_) fun c6_ => ?_
  ·
    replace c6_ : (coversB 0 0 W H a b c d) = false := by simpa using c6_
    have hgF : insB W H a b c d = false := by unfold insB; rw [show coversB 0 0 W H a b c d = false from c6_, Bool.and_false]
    refine zTSR 3 <| bZ [2, 0, 0] 3 0 [(6, pT b4), (7, iQ 4)] [.cells b4 [iQ W, iQ H, sL r n cap] 92 true, .cells b3 [iQ a, iQ b, iQ c, iQ d] 37 true, .cells b2 [iQ W, iQ H, sL r n cap] 92 true, rD (some ⟨r, 0, none⟩) r 0 n 1 (cV px), rD (A2) g2 o2 n2 1 (ivals .u8 xs2)] <| fG 1 <| fG 1 <| zDNrt <| rB rfl 0 0 (.agg #[iQ W, iQ H, sL r n cap]) (iQ 4) fun w hT => ?_
    have hE2 : wrE W H a b c d xs2 = 4 := (by rcases Bool.eq_false_or_eq_true (emptyB a b c d) with h_ | h_; exact wrE_ins (by unfold insB; rw [h_]; rfl); first | exact wrE_ins hgF | exact absurd (h_.symm.trans hem_) (by decide))
    rw [hE] at hE2; cases hE2
  replace c6_ : (coversB 0 0 W H a b c d) = true := by simpa using c6_
  have hg : insB W H a b c d = true := by unfold insB; rw [show coversB 0 0 W H a b c d = true from c6_, hem_]; rfl
  obtain ⟨hg1, hg2, hg3, hg4, hg5, hg6⟩ := insB_true hg
  obtain ⟨har0, har1, har2⟩ := ins_area hok hg
  refine zFKNSR 4 <| bD [1] 1 3 [(26, .agg #[iQ a, iQ b, iQ c, iQ d])] [] <| pS 2 2 <| cP 27 (iQ (areaI a b c d)) (fun w hT => refArea a b c d w (by omega) (by omega) (by omega) (by omega)) <| bD [0] 3 1 [(28, iQ (IntKind.i64.wrap (4 * (areaI a b c d))))] [] <| wI 28 (4 * (areaI a b c d)) <| bD [0] 4 0 [(9, iQ (4 * (areaI a b c d)))] [] <| zDNSSR 4 <| bD [0, 0, 0, 0] 4 0 [(32, .bool (decide ((n2 : Int) < (4 * (areaI a b c d)))))] [29, 30, 31] <| zDN <| sD 32 rfl (fun c7_ => ?_) fun c7_ => ?_
  ·
    refine zTSR 3 <| bZ [2, 0, 0] 3 0 [(6, pT b4), (7, iQ 3)] [.cells b4 [iQ W, iQ H, sL r n cap] 92 true, .cells b3 [iQ a, iQ b, iQ c, iQ d] 37 true, .cells b2 [iQ W, iQ H, sL r n cap] 92 true, rD (some ⟨r, 0, none⟩) r 0 n 1 (cV px), rD (A2) g2 o2 n2 1 (ivals .u8 xs2)] <| fG 1 <| fG 1 <| zDNrt <| rB rfl 0 0 (.agg #[iQ W, iQ H, sL r n cap]) (iQ 3) fun w hT => ?_
    have hE2 : wrE W H a b c d xs2 = 3 := wrE_short hg (by omega)
    rw [hE] at hE2; cases hE2
  refine cFa rfl <| cont_skip <| zN <| cSq <| zSR 4 <| bD [0, 0, 0, 0] 4 0 [(37, .bool (decide ((n2 : Int) > (4 * (areaI a b c d)))))] [34, 35, 36] <| zDN <| sD 37 rfl (fun c8_ => ?_) fun c8_ => ?_
  ·
    refine zTSR 3 <| bZ [2, 0, 0] 3 0 [(6, pT b4), (7, iQ 2)] [.cells b4 [iQ W, iQ H, sL r n cap] 92 true, .cells b3 [iQ a, iQ b, iQ c, iQ d] 37 true, .cells b2 [iQ W, iQ H, sL r n cap] 92 true, rD (some ⟨r, 0, none⟩) r 0 n 1 (cV px), rD (A2) g2 o2 n2 1 (ivals .u8 xs2)] <| fG 1 <| fG 1 <| zDNrt <| rB rfl 0 0 (.agg #[iQ W, iQ H, sL r n cap]) (iQ 2) fun w hT => ?_
    have hE2 : wrE W H a b c d xs2 = 2 := wrE_long hg (by omega)
    rw [hE] at hE2; cases hE2
  refine zFKNSR 1 ?_
  obtain ⟨N, hN⟩ : ∃ N : Nat, (N : Int) = areaI a b c d := ⟨Int.toNat (areaI a b c d), by omega⟩
  obtain ⟨wn, hwn⟩ : ∃ k_ : Nat, k_ = Int.toNat (c - a) := ⟨_, rfl⟩
  refine bD [0] 1 0 [(10, .slice none 0 0)] [] <| zDNSR 5 <| bD [0, 0, 2] 3 2 [(39, .slice none 0 0), (41, sL r n cap)] [40] <| pS 4 1 <| cont_nilrow 48 1 ?_
  refine sSW (α := Option Addr × Nat × Nat) 42 (Builtin.append_ #[79, 79] 79 #[.slice none 0 0, sL r n cap]) (fun x_ => .slice x_.1 n x_.2.2) (fun x_ => [.gen (rowE (x_.1) x_.2.1 n x_.2.2 48 1 (cV px) true), .cells b4 [iQ 0, iQ 0, .slice none 0 0] 92 true, .cells b3 [iQ a, iQ b, iQ c, iQ d] 37 true, .cells b2 [iQ W, iQ H, sL r n cap] 92 true, rD (some ⟨r, 0, none⟩) r 0 n 1 (cV px), rD (A2) g2 o2 n2 1 (ivals .u8 xs2)]) (fun _ => True) (by kernel_rfl) (fun w hT => append_own (n' := n) (z := cQ 0) hT (i := 0) (bytes := 4) rfl (by kernel_rfl) (by kernel_rfl) rfl (by decide) (by decide) (hT.ok 4 _ rfl) (ivals_one .u32 px) (by omega) rfl (Nat.zero_add _).symm) ?_
  rintro ⟨A10, g10, cp10⟩ -
  refine cM ?_
  refine fI 0 n A10 g10 cp10 px rfl fun hr11_a hr11_l hr11_c hr11_m => ?_
  refine bD [0] 5 0 [(10, .slice A10 n cp10)] [] <| zDNSR 6 <| bS [0, 2, 0, 2, 0] 5 1 [(2, .slice A2 n2 cap2), (3, pT b2), (4, pT b3), (6, pT b4), (9, iQ (4 * (areaI a b c d))), (10, .slice A10 n cp10), (47, iQ (IntKind.i64.wrap (c - a)))] <| wI 47 (c - a) <| bD [0] 6 0 [(11, iQ (c - a))] [] <| zDNSSR 1 <| bD [0] 1 0 [(12, iQ 0)] [] <| zDNB <| cont_rowEq (k := .u32) 0 (px) (wrS W a b wn xs2 px 0) rfl rfl ?_
  refine rC 12 (iQ ((0 : Nat) : Int)) rfl (congrArg (Value.int .i64) rfl) <| fI 0 n A10 g10 cp10 (wrS W a b wn xs2 px 0) rfl fun hr12_a hr12_l hr12_c hr12_m => ?_
  refine cL (α := Nat) (fun x_ : Nat => x_ ≤ N ∧ okN xs2 x_) (fun x_ : Nat => [(2, .slice A2 n2 cap2), (3, pT b2), (4, pT b3), (6, pT b4), (9, iQ (4 * (areaI a b c d))), (10, .slice A10 n cp10), (11, iQ (c - a)), (12, iQ ((x_ : Nat) : Int))]) (fun x_ : Nat => [.gen (rowE (A10) g10 n cp10 48 1 (cV (wrS W a b wn xs2 px x_)) true), .cells b4 [iQ 0, iQ 0, .slice none 0 0] 92 true, .cells b3 [iQ a, iQ b, iQ c, iQ d] 37 true, .cells b2 [iQ W, iQ H, sL r n cap] 92 true, rD (some ⟨r, 0, none⟩) r 0 n 1 (cV px), rD (A2) g2 o2 n2 1 (ivals .u8 xs2)]) (fun x_ : Nat => N - x_) 0 (⟨by omega, fun j hj => by omega⟩) ?_
  rintro i hinv13_
  replace hinv13_ : i ≤ N ∧ okN xs2 i := hinv13_
  refine cM ?_
  obtain ⟨hi, hokn⟩ := hinv13_
  have hmk := mkB_in xs2 i
  have hwl : (wrS W a b wn xs2 px i).length = n := by rw [wrS_length]; exact hlen
  have hb0 := getD_byte hx2 (Int.toNat (4 * ((i : Nat) : Int)))
  have hb1 := getD_byte hx2 (Int.toNat (4 * ((i : Nat) : Int) + 1))
  have hb2 := getD_byte hx2 (Int.toNat (4 * ((i : Nat) : Int) + 2))
  have hb3 := getD_byte hx2 (Int.toNat (4 * ((i : Nat) : Int) + 3))
  refine cSq <| zSR 4 <| bD [0, 0, 0] 3 1 [(48, iQ ((i : Nat) : Int)), (50, iQ (IntKind.i64.wrap ((4 * (areaI a b c d)).tdiv 4)))] [49] <| rC 50 (iQ ((4 * (areaI a b c d)) / 4)) rfl (tdivI (by omega) (by omega) (by omega)) <| bD [0] 4 0 [(51, .bool (decide (((i : Nat) : Int) < ((4 * (areaI a b c d)) / 4))))] [] <| zDN <| sD 51 rfl (fun c14_ => ?_) fun c14_ => ?_
  ·
    refine cTr rfl <| cont_skip <| zN <| cSq <| cont_block <| cSq <| drawn_enter 29 [] rfl (by kernel_rfl) ?_
    refine tD 0 [] [(0, 0), (1, 0), (6, 0), (7, 0), (13, 0), (14, 0), (20, 0), (21, 0), (2, 0)] 20 [2, 21, 20, 14, 13, 7, 6, 1, 0] [(54, .slice A2 n2 cap2), (56, iQ (IntKind.i64.wrap (4 * ((i : Nat) : Int)))), (60, .slice A2 n2 cap2), (61, iQ ((i : Nat) : Int)), (67, .slice A2 n2 cap2), (68, iQ ((i : Nat) : Int)), (74, .slice A2 n2 cap2), (75, iQ ((i : Nat) : Int))] [55] <| wI 56 (4 * ((i : Nat) : Int)) <| rC 54 (.slice (some ⟨g2, o2, none⟩) n2 cap2) rfl (by rw [hl1_a (by omega)]) <| sT 0 [] 3 19 57 (Instr.indexAt 38 (.slice (some ⟨g2, o2, none⟩) n2 cap2) (iQ (4 * ((i : Nat) : Int)))) (.pointer (some ⟨g2, o2 + Int.toNat (4 * ((i : Nat) : Int)), none⟩)) (fun w hT => rI 5 1 w) <| sT 0 [] 4 18 58 (Instr.loadAt 5 (.pointer (some ⟨g2, o2 + Int.toNat (4 * ((i : Nat) : Int)), none⟩))) (.int .u8 (xs2.getD (Int.toNat (4 * ((i : Nat) : Int))) 0)) (fun w hT => rL (Rd.cell (hT 5 _ rfl) (Int.toNat (4 * ((i : Nat) : Int))) _ (ivals_get (by omega)))) <| tD 0 [] [(5, 0)] 17 [5, 4, 3, 2, 21, 20, 14, 13, 7, 6, 1, 0] [(59, iQ (IntKind.i64.wrap (xs2.getD (Int.toNat (4 * ((i : Nat) : Int))) 0)))] [] <| wI 59 (xs2.getD (Int.toNat (4 * ((i : Nat) : Int))) 0) <| tD 0 [] [(8, 0)] 16 [8, 5, 4, 3, 2, 21, 20, 14, 13, 7, 6, 1, 0] [(62, iQ (IntKind.i64.wrap (4 * ((i : Nat) : Int))))] [] <| wI 62 (4 * ((i : Nat) : Int)) <| tD 0 [] [(9, 0)] 15 [9, 8, 5, 4, 3, 2, 21, 20, 14, 13, 7, 6, 1, 0] [(63, iQ (IntKind.i64.wrap ((4 * ((i : Nat) : Int)) + 1)))] [] <| wI 63 ((4 * ((i : Nat) : Int)) + 1) <| rC 60 (.slice (some ⟨g2, o2, none⟩) n2 cap2) rfl (by rw [hl1_a (by omega)]) <| sT 0 [] 10 14 64 (Instr.indexAt 38 (.slice (some ⟨g2, o2, none⟩) n2 cap2) (iQ ((4 * ((i : Nat) : Int)) + 1))) (.pointer (some ⟨g2, o2 + Int.toNat ((4 * ((i : Nat) : Int)) + 1), none⟩)) (fun w hT => rI 5 1 w) <| sT 0 [] 11 13 65 (Instr.loadAt 5 (.pointer (some ⟨g2, o2 + Int.toNat ((4 * ((i : Nat) : Int)) + 1), none⟩))) (.int .u8 (xs2.getD (Int.toNat ((4 * ((i : Nat) : Int)) + 1)) 0)) (fun w hT => rL (Rd.cell (hT 5 _ rfl) (Int.toNat ((4 * ((i : Nat) : Int)) + 1)) _ (ivals_get (by omega)))) <| tD 0 [] [(12, 0)] 12 [12, 11, 10, 9, 8, 5, 4, 3, 2, 21, 20, 14, 13, 7, 6, 1, 0] [(66, iQ (IntKind.i64.wrap (xs2.getD (Int.toNat ((4 * ((i : Nat) : Int)) + 1)) 0)))] [] <| wI 66 (xs2.getD (Int.toNat ((4 * ((i : Nat) : Int)) + 1)) 0) <| tD 0 [] [(15, 0)] 11 [15, 12, 11, 10, 9, 8, 5, 4, 3, 2, 21, 20, 14, 13, 7, 6, 1, 0] [(69, iQ (IntKind.i64.wrap (4 * ((i : Nat) : Int))))] [] <| wI 69 (4 * ((i : Nat) : Int)) <| tD 0 [] [(16, 0)] 10 [16, 15, 12, 11, 10, 9, 8, 5, 4, 3, 2, 21, 20, 14, 13, 7, 6, 1, 0] [(70, iQ (IntKind.i64.wrap ((4 * ((i : Nat) : Int)) + 2)))] [] <| wI 70 ((4 * ((i : Nat) : Int)) + 2) <| rC 67 (.slice (some ⟨g2, o2, none⟩) n2 cap2) rfl (by rw [hl1_a (by omega)]) <| sT 0 [] 17 9 71 (Instr.indexAt 38 (.slice (some ⟨g2, o2, none⟩) n2 cap2) (iQ ((4 * ((i : Nat) : Int)) + 2))) (.pointer (some ⟨g2, o2 + Int.toNat ((4 * ((i : Nat) : Int)) + 2), none⟩)) (fun w hT => rI 5 1 w) <| sT 0 [] 18 8 72 (Instr.loadAt 5 (.pointer (some ⟨g2, o2 + Int.toNat ((4 * ((i : Nat) : Int)) + 2), none⟩))) (.int .u8 (xs2.getD (Int.toNat ((4 * ((i : Nat) : Int)) + 2)) 0)) (fun w hT => rL (Rd.cell (hT 5 _ rfl) (Int.toNat ((4 * ((i : Nat) : Int)) + 2)) _ (ivals_get (by omega)))) <| tD 0 [] [(19, 0)] 7 [19, 18, 17, 16, 15, 12, 11, 10, 9, 8, 5, 4, 3, 2, 21, 20, 14, 13, 7, 6, 1, 0] [(73, iQ (IntKind.i64.wrap (xs2.getD (Int.toNat ((4 * ((i : Nat) : Int)) + 2)) 0)))] [] <| wI 73 (xs2.getD (Int.toNat ((4 * ((i : Nat) : Int)) + 2)) 0) <| tD 0 [] [(22, 0)] 6 [22, 19, 18, 17, 16, 15, 12, 11, 10, 9, 8, 5, 4, 3, 2, 21, 20, 14, 13, 7, 6, 1, 0] [(76, iQ (IntKind.i64.wrap (4 * ((i : Nat) : Int))))] [] <| wI 76 (4 * ((i : Nat) : Int)) <| tD 0 [] [(23, 0)] 5 [23, 22, 19, 18, 17, 16, 15, 12, 11, 10, 9, 8, 5, 4, 3, 2, 21, 20, 14, 13, 7, 6, 1, 0] [(77, iQ (IntKind.i64.wrap ((4 * ((i : Nat) : Int)) + 3)))] [] <| wI 77 ((4 * ((i : Nat) : Int)) + 3) <| rC 74 (.slice (some ⟨g2, o2, none⟩) n2 cap2) rfl (by rw [hl1_a (by omega)]) <| sT 0 [] 24 4 78 (Instr.indexAt 38 (.slice (some ⟨g2, o2, none⟩) n2 cap2) (iQ ((4 * ((i : Nat) : Int)) + 3))) (.pointer (some ⟨g2, o2 + Int.toNat ((4 * ((i : Nat) : Int)) + 3), none⟩)) (fun w hT => rI 5 1 w) <| sT 0 [] 25 3 79 (Instr.loadAt 5 (.pointer (some ⟨g2, o2 + Int.toNat ((4 * ((i : Nat) : Int)) + 3), none⟩))) (.int .u8 (xs2.getD (Int.toNat ((4 * ((i : Nat) : Int)) + 3)) 0)) (fun w hT => rL (Rd.cell (hT 5 _ rfl) (Int.toNat ((4 * ((i : Nat) : Int)) + 3)) _ (ivals_get (by omega)))) <| tD 0 [] [(26, 0)] 2 [26, 25, 24, 23, 22, 19, 18, 17, 16, 15, 12, 11, 10, 9, 8, 5, 4, 3, 2, 21, 20, 14, 13, 7, 6, 1, 0] [(80, iQ (IntKind.i64.wrap (xs2.getD (Int.toNat ((4 * ((i : Nat) : Int)) + 3)) 0)))] [] <| wI 80 (xs2.getD (Int.toNat ((4 * ((i : Nat) : Int)) + 3)) 0) <| dO 27 1 <| cP 81 (cQ (mkC (xs2.getD (Int.toNat (4 * ((i : Nat) : Int))) 0) (xs2.getD (Int.toNat ((4 * ((i : Nat) : Int)) + 1)) 0) (xs2.getD (Int.toNat ((4 * ((i : Nat) : Int)) + 2)) 0) (xs2.getD (Int.toNat ((4 * ((i : Nat) : Int)) + 3)) 0))) (fun w hT => refMake (xs2.getD (Int.toNat (4 * ((i : Nat) : Int))) 0) (xs2.getD (Int.toNat ((4 * ((i : Nat) : Int)) + 1)) 0) (xs2.getD (Int.toNat ((4 * ((i : Nat) : Int)) + 2)) 0) (xs2.getD (Int.toNat ((4 * ((i : Nat) : Int)) + 3)) 0) w) <| rC 81 (cQ (mkB xs2 i)) rfl (congrArg (Value.int .u32) (by unfold mkB; congr 1 <;> (congr 1; omega))) <| dX 0 [] <| tK 0 [] [(28, 0)] 0 [28, 27, 26, 25, 24, 23, 22, 19, 18, 17, 16, 15, 12, 11, 10, 9, 8, 5, 4, 3, 2, 21, 20, 14, 13, 7, 6, 1, 0] [(2, .slice A2 n2 cap2), (3, pT b2), (4, pT b3), (6, pT b4), (9, iQ (4 * (areaI a b c d))), (10, .slice A10 n cp10), (11, iQ (c - a)), (12, iQ ((i : Nat) : Int)), (13, cQ (mkB xs2 i))] <| dD <| zN <| zSR 3 <| bS [0] 1 2 [(2, .slice A2 n2 cap2), (3, pT b2), (4, pT b3), (6, pT b4), (9, iQ (4 * (areaI a b c d))), (10, .slice A10 n cp10), (11, iQ (c - a)), (12, iQ ((i : Nat) : Int)), (13, cQ (mkB xs2 i)), (82, cQ (mkB xs2 i))] ?_
    refine pS 2 1 <| cP 83 (.bool (mayB (mkB xs2 i))) (fun w hT => refMay (mkB xs2 i) w (by omega) (by omega)) <| bD [0] 3 0 [(14, .bool (mayB (mkB xs2 i)))] [] <| zDNSSR 2 <| bD [0, 0] 2 0 [(85, .bool (!(mayB (mkB xs2 i))))] [84] <| zDN <| cSp 85 _ rfl (fun c15_ => ?_) fun c15_ => ?_
    ·
      replace c15_ : (mayB (mkB xs2 i)) = false := by simpa using c15_
      have hmy : mayB (mkB xs2 i) = false := c15_
      refine zTSR 3 <| bZ [3, 1, 0] 3 0 [(6, pT b4), (7, iQ 1)] [.gen (rowE (A10) g10 n cp10 48 1 (cV (wrS W a b wn xs2 px i)) true), .cells b4 [iQ W, iQ H, sL r n cap] 92 true, .cells b3 [iQ a, iQ b, iQ c, iQ d] 37 true, .cells b2 [iQ W, iQ H, sL r n cap] 92 true, rD (some ⟨r, 0, none⟩) r 0 n 1 (cV px), rD (A2) g2 o2 n2 1 (ivals .u8 xs2)] <| fG 2 <| fG 2 <| zDNrt <| blk_ret <| then_ret <| then_ret <| blk_ret <| then_ret ?_
      refine rB rfl 1 0 (.agg #[iQ W, iQ H, sL r n cap]) (iQ 1) fun w hT => ?_
      have hE2 : wrE W H a b c d xs2 = 1 := wrE_bad hg (by omega) (N := N) (by omega) (k := i) (by omega) hmy
      rw [hE] at hE2; cases hE2
    replace c15_ : (mayB (mkB xs2 i)) = true := by simpa using c15_
    have hmy : mayB (mkB xs2 i) = true := c15_
    refine cFa rfl <| cont_skip <| zN ?_
    obtain ⟨hq0, hq1, hq2, hq3⟩ := row_of (N := N) (i := i) hg1 hg2 (by omega) (by omega)
    obtain ⟨hpl1, hpl2, hpl3⟩ := hok.place (x := a + (i : Int) % (c - a)) (y := b + (i : Int) / (c - a)) (by omega) (by omega) (by omega) (by omega)
    refine drawn_enter 20 [0] rfl (by kernel_rfl) ?_
    refine tD 0 [0] [(0, 0), (1, 0), (3, 0), (4, 0), (7, 0), (10, 0), (13, 0), (14, 0), (17, 0), (2, 2)] 10 [2, 17, 14, 13, 10, 7, 4, 3, 1, 0] [(87, .slice A10 n cp10), (89, iQ b), (90, iQ ((i : Nat) : Int)), (91, iQ (c - a)), (94, pT b2), (97, pT b3), (100, iQ ((i : Nat) : Int)), (101, iQ (c - a)), (104, cQ (mkB xs2 i))] [88] <| sT 0 [0] 5 9 92 (bopS .quo 3 (.tmp 90) (.tmp 91) (iQ ((i : Nat) : Int)) (iQ (c - a))) (iQ (IntKind.i64.wrap (((i : Nat) : Int).tdiv (c - a)))) (fun w hT => run_quo (by omega) w) <| rC 92 (iQ (((i : Nat) : Int) / (c - a))) rfl (tdivI (by omega) (by omega) (by omega)) <| tD 0 [0] [(6, 0)] 8 [6, 5, 2, 17, 14, 13, 10, 7, 4, 3, 1, 0] [(93, iQ (IntKind.i64.wrap (b + (((i : Nat) : Int) / (c - a)))))] [] <| wI 93 (b + (((i : Nat) : Int) / (c - a))) <| tD 0 [0] [(8, 3), (11, 2)] 6 [11, 8, 6, 5, 2, 17, 14, 13, 10, 7, 4, 3, 1, 0] [(95, iQ W), (98, iQ a)] [] <| tD 0 [0] [(9, 0)] 5 [9, 11, 8, 6, 5, 2, 17, 14, 13, 10, 7, 4, 3, 1, 0] [(96, iQ (IntKind.i64.wrap ((b + (((i : Nat) : Int) / (c - a))) * W)))] [] <| wI 96 ((b + (((i : Nat) : Int) / (c - a))) * W) <| tD 0 [0] [(12, 0)] 4 [12, 9, 11, 8, 6, 5, 2, 17, 14, 13, 10, 7, 4, 3, 1, 0] [(99, iQ (IntKind.i64.wrap (((b + (((i : Nat) : Int) / (c - a))) * W) + a)))] [] <| wI 99 (((b + (((i : Nat) : Int) / (c - a))) * W) + a) <| sT 0 [0] 15 3 102 (bopS .rem 3 (.tmp 100) (.tmp 101) (iQ ((i : Nat) : Int)) (iQ (c - a))) (iQ (((i : Nat) : Int).tmod (c - a))) (fun w hT => run_rem (by omega) w) <| rC 102 (iQ (((i : Nat) : Int) % (c - a))) rfl (tmodI (by omega)) <| tD 0 [0] [(16, 0)] 2 [16, 15, 12, 9, 11, 8, 6, 5, 2, 17, 14, 13, 10, 7, 4, 3, 1, 0] [(103, iQ (IntKind.i64.wrap ((((b + (((i : Nat) : Int) / (c - a))) * W) + a) + (((i : Nat) : Int) % (c - a)))))] [] <| wI 103 ((((b + (((i : Nat) : Int) / (c - a))) * W) + a) + (((i : Nat) : Int) % (c - a))) <| rC 87 (sL g10 n cp10) rfl (by rw [hr12_a (by omega)]) <| sT 0 [0] 18 1 105 (Instr.indexAt 79 (sL g10 n cp10) (iQ ((((b + (((i : Nat) : Int) / (c - a))) * W) + a) + (((i : Nat) : Int) % (c - a))))) (.pointer (some ⟨g10, Int.toNat ((((b + (((i : Nat) : Int) / (c - a))) * W) + a) + (((i : Nat) : Int) % (c - a))), none⟩)) (fun w hT => rI 48 1 w) <| dO 19 0 <| sem_stepU (Instr.storeAt 48 (.pointer (some ⟨g10, Int.toNat ((((b + (((i : Nat) : Int) / (c - a))) * W) + a) + (((i : Nat) : Int) % (c - a))), none⟩)) (cQ (mkB xs2 i))) (fun _ => [.gen (rowE (A10) g10 n cp10 48 1 (cV ((wrS W a b wn xs2 px i).set (Int.toNat ((((b + (((i : Nat) : Int) / (c - a))) * W) + a) + (((i : Nat) : Int) % (c - a)))) (mkB xs2 i))) true), .cells b4 [iQ 0, iQ 0, .slice none 0 0] 92 true, .cells b3 [iQ a, iQ b, iQ c, iQ d] 37 true, .cells b2 [iQ W, iQ H, sL r n cap] 92 true, rD (some ⟨r, 0, none⟩) r 0 n 1 (cV px), rD (A2) g2 o2 n2 1 (ivals .u8 xs2)]) (fun _ => True) (by kernel_rfl) (fun w hT => store_row hT (i := 0) rfl (by kernel_rfl) (by omega)) (fun _ _ => ?_)
    refine dX 0 [0] <| dD <| blk_normal <| zN <| cRg 3 rfl <| bD [0, 0] 2 1 [(53, iQ (IntKind.i64.wrap (((i : Nat) : Int) + 1)))] [52] <| wI 53 (((i : Nat) : Int) + 1) <| bD [0] 3 0 [(12, iQ (((i : Nat) : Int) + 1))] [] <| zDN <| cont_rowEq (k := .u32) 0 ((wrS W a b wn xs2 px i).set (Int.toNat ((((b + (((i : Nat) : Int) / (c - a))) * W) + a) + (((i : Nat) : Int) % (c - a)))) (mkB xs2 i)) (wrS W a b wn xs2 px (i + 1)) rfl (congrArg (fun z_ => (wrS W a b wn xs2 px i).set z_ (mkB xs2 i)) (wIdx_eq hwn (by omega))) ?_
    refine cA (i + 1) (show (i + 1) ≤ N ∧ okN xs2 (i + 1) from ⟨by omega, hokn.step hmy⟩)
  refine zFXxxeNSR 3 <| bZ [0, 0, 3] 3 0 [(3, pT b2), (6, pT b4)] [.gen (rowE (A10) g10 n cp10 48 1 (cV (wrS W a b wn xs2 px i)) true), .cells b4 [iQ 0, iQ 0, .slice none 0 0] 92 true, .cells b3 [iQ a, iQ b, iQ c, iQ d] 37 true, .cells b2 [iQ W, iQ H, .slice A10 n cp10] 92 true, rD (some ⟨r, 0, none⟩) r 0 n 1 (cV px), rD (A2) g2 o2 n2 1 (ivals .u8 xs2)] <| fG 2 <| zDNSR 3 <| bZ [2, 1, 0] 3 0 [(6, pT b4), (7, iQ 0)] [.gen (rowE (A10) g10 n cp10 48 1 (cV (wrS W a b wn xs2 px i)) true), .cells b4 [iQ W, iQ H, .slice A10 n cp10] 92 true, .cells b2 [iQ W, iQ H, .slice A10 n cp10] 92 true, rD (some ⟨r, 0, none⟩) r 0 n 1 (cV px), rD (A2) g2 o2 n2 1 (ivals .u8 xs2)] <| fG 2 <| zDNr <| rB rfl 1 0 (.agg #[iQ W, iQ H, .slice A10 n cp10]) (iQ 0) fun w hT => ?_
  replace hT := hT.erase 3 (fun e h hw => by cases h; first | rfl | cases hw)
  replace hT := hT.erase 2 (fun e h hw => by cases h; first | rfl | cases hw)
  replace hT := hT.erase 1 (fun e h hw => by cases h; first | rfl | cases hw)
  rw [show i = xs2.length / 4 by omega, hwn, ← wrA_yes hE] at hT
  have hA := (Row.facts (hT.ok 0 _ rfl)).1 (by omega)
  subst hA
  exact ⟨_, _, rfl, hT⟩
end Go.Proofs.Ytkfdmfclndaanaa
