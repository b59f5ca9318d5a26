/- Contracts of functions of the given program, printed by a program of this project. -/
import Derived.Test.YtgpcgfjfmjehgaaPgL5p1
import Derived.Test.YtgpcgfjfmjehgaaProg
set_option linter.unusedVariables false
set_option linter.unusedSimpArgs false
namespace Go.Proofs.Ytgpcgfjfmjehgaa
open Go Go.RowKit
set_option maxRecDepth 100000
set_option maxHeartbeats 8000000

theorem refGood5 (A1 : Option Addr) (g1 o1 n1 cap1 : Nat) (xs1 : List Int) (sm : Bool) (mw mh : Int) (ms : Value) (X Y s al ca cb cc cd : Int) (a b : Int) (w : World) (hT0 : Tab w w [.gen (rdE (A1) g1 o1 n1 1 (ivals .u32 xs1))]) (hh : GoodIn a b A1 g1 o1 n1 cap1 xs1) (hX : -9223372036854775808 ≤ X ∧ X ≤ 9223372036854775807) (hY : -9223372036854775808 ≤ Y ∧ Y ≤ 9223372036854775807) (hs : -9223372036854775808 ≤ s ∧ s ≤ 9223372036854775807) (hal : -9223372036854775808 ≤ al ∧ al ≤ 9223372036854775807) :
    Calls Try.prog 10 #[.agg #[.bool sm, .int .i64 mw, .int .i64 mh, ms, .int .i64 X, .int .i64 Y, .int .i64 s, .int .i64 al, .int .i64 ca, .int .i64 cb, .int .i64 cc, .int .i64 cd], .int .i64 a, .int .i64 b, .slice A1 n1 cap1] w fun e w' => ∃ r n : Nat, e = .returned (.agg #[.bool true, .int .i64 (1 + aroundI (aroundI a 6) 16), .int .i64 (1 + aroundI (aroundI b 6) 16), .slice (some ⟨r, 0, none⟩) n n, .int .i64 (aroundI X 24 - 6), .int .i64 (aroundI Y 24 - 6), .int .i64 (1 + aroundI s 3), .int .i64 (aroundI al 256), .int .i64 ca, .int .i64 cb, .int .i64 cc, .int .i64 cd]) ∧ (n : Int) = (1 + aroundI (aroundI a 6) 16) * (1 + aroundI (aroundI b 6) 16) ∧ Tab w w' [.gen (rowE (some ⟨r, 0, none⟩) r n n 45 1 (ivals .u32 (goodP n xs1 n)) true)] := by
  obtain ⟨ha, hb, hl1, hc1, hm1, hx1, hat1⟩ := hh
  have hqa := aroundI_range a (m := 6) (by omega)
  have hqb := aroundI_range b (m := 6) (by omega)
  refine enter 39 [(0, .agg #[.bool sm, .int .i64 mw, .int .i64 mh, ms, .int .i64 X, .int .i64 Y, .int .i64 s, .int .i64 al, .int .i64 ca, .int .i64 cb, .int .i64 cc, .int .i64 cd]), (1, .int .i64 a), (2, .int .i64 b), (3, .slice A1 n1 cap1)] [.gen (rdE (A1) g1 o1 n1 1 (ivals .u32 xs1))] Try.func10 rfl Try.ntmps10 rfl (by kernel_rfl) hT0 ?_
  refine cont_seq ?_
  refine cont_region 2 rfl ?_
  refine batch2 [0, 0] 2 0 (fun b1 b2 => [(1, .int .i64 a), (2, .int .i64 b), (3, .slice A1 n1 cap1), (4, .pointer (some ⟨b1, 0, none⟩)), (8, .pointer (some ⟨b2, 0, none⟩))]) (fun b1 b2 => [.cells b2 [.bool false, .int .i64 0, .int .i64 0, .slice none 0 0, .int .i64 0, .int .i64 0, .int .i64 0, .int .i64 0, .int .i64 0, .int .i64 0, .int .i64 0, .int .i64 0] 30 true, .cells b1 [.bool sm, .int .i64 mw, .int .i64 mh, ms, .int .i64 X, .int .i64 Y, .int .i64 s, .int .i64 al, .int .i64 ca, .int .i64 cb, .int .i64 cc, .int .i64 cd] 30 true, .gen (rdE (A1) g1 o1 n1 1 (ivals .u32 xs1))]) rfl rfl [1, 2, 3, 4, 8] (fun _ _ => rfl) (fun b1 b2 => by kernel_rfl) (fun b1 b2 => by kernel_rfl) (fun b1 b2 => ?_)
  refine cont_done ?_
  refine then_normal ?_
  refine cont_seq ?_
  refine cont_region 2 rfl ?_
  refine batch0 [0, 1] 2 0 [(1, .int .i64 a), (2, .int .i64 b), (3, .slice A1 n1 cap1), (4, .pointer (some ⟨b1, 0, none⟩)), (8, .pointer (some ⟨b2, 0, none⟩))] [.cells b2 [.bool false, .int .i64 0, .int .i64 0, .slice none 0 0, .int .i64 0, .int .i64 0, .int .i64 0, .int .i64 0, .int .i64 0, .int .i64 0, .int .i64 0, .int .i64 0] 30 true, .cells b1 [.bool true, .int .i64 mw, .int .i64 mh, ms, .int .i64 X, .int .i64 Y, .int .i64 s, .int .i64 al, .int .i64 ca, .int .i64 cb, .int .i64 cc, .int .i64 cd] 30 true, .gen (rdE (A1) g1 o1 n1 1 (ivals .u32 xs1))] rfl rfl (by kernel_rfl) (by kernel_rfl) ?_
  refine cont_done ?_
  refine then_normal ?_
  refine cont_seq ?_
  refine cont_region 8 rfl ?_
  refine bS [0] 1 7 [(2, .int .i64 b), (3, .slice A1 n1 cap1), (4, .pointer (some ⟨b1, 0, none⟩)), (8, .pointer (some ⟨b2, 0, none⟩)), (10, .int .i64 a)] ?_
  refine pl_step 2 6 rfl rfl ?_
  refine call_pure (d := 11) (.int .i64 (aroundI a 6)) (by kernel_rfl) (fun w hT => refAround a 6 w (by omega) (by omega)) ?_
  have hq3_ := aroundI_range a (m := 6) (by omega)
  refine bS [0] 3 5 [(3, .slice A1 n1 cap1), (4, .pointer (some ⟨b1, 0, none⟩)), (8, .pointer (some ⟨b2, 0, none⟩)), (11, .int .i64 (aroundI a 6)), (12, .int .i64 b)] ?_
  refine pl_step 4 4 rfl rfl ?_
  refine call_pure (d := 13) (.int .i64 (aroundI b 6)) (by kernel_rfl) (fun w hT => refAround b 6 w (by omega) (by omega)) ?_
  have hq4_ := aroundI_range b (m := 6) (by omega)
  refine bS [0] 5 3 [(4, .pointer (some ⟨b1, 0, none⟩)), (8, .pointer (some ⟨b2, 0, none⟩)), (11, .int .i64 (aroundI a 6)), (13, .int .i64 (aroundI b 6)), (14, .slice A1 n1 cap1)] ?_
  refine pl_step 6 2 rfl rfl ?_
  refine call_gen (d := 15) (α := Nat × Nat) (fun x_ => .agg #[.int .i64 (1 + aroundI (aroundI a 6) 16), .int .i64 (1 + aroundI (aroundI b 6) 16), .slice (some ⟨x_.1, 0, none⟩) x_.2 x_.2]) (fun x_ => [.gen (rowE (some ⟨x_.1, 0, none⟩) x_.1 x_.2 x_.2 45 1 (ivals .u32 (goodP x_.2 xs1 x_.2)) true), .cells b2 [.bool false, .int .i64 0, .int .i64 0, .slice none 0 0, .int .i64 0, .int .i64 0, .int .i64 0, .int .i64 0, .int .i64 0, .int .i64 0, .int .i64 0, .int .i64 0] 30 true, .cells b1 [.bool true, .int .i64 mw, .int .i64 mh, ms, .int .i64 X, .int .i64 Y, .int .i64 s, .int .i64 al, .int .i64 ca, .int .i64 cb, .int .i64 cc, .int .i64 cd] 30 true, .gen (rdE (A1) g1 o1 n1 1 (ivals .u32 xs1))]) (fun x_ => (x_.2 : Int) = (1 + aroundI (aroundI a 6) 16) * (1 + aroundI (aroundI b 6) 16)) (by kernel_rfl) (fun w hT => (refGood4 A1 g1 o1 n1 cap1 xs1 (aroundI a 6) (aroundI b 6) w (hT.viewRo (.cons (i := 2) rfl Vw.rd .nil) rfl) ⟨by omega, by omega, hl1, hc1, hm1, hx1, hat1⟩).mono fun e w' ⟨r5, n6, he_, hf_, ht_⟩ => ⟨(r5, n6), he_, hf_, hT.news ht_ rfl⟩) ?_
  rintro ⟨r5, n6⟩ hf7_
  replace hf7_ : (n6 : Int) = (1 + aroundI (aroundI a 6) 16) * (1 + aroundI (aroundI b 6) 16) := hf7_
  refine cont_norm [(4, .pointer (some ⟨b1, 0, none⟩)), (8, .pointer (some ⟨b2, 0, none⟩)), (11, .int .i64 (aroundI a 6)), (13, .int .i64 (aroundI b 6)), (14, .slice A1 n1 cap1), (15, .agg #[.int .i64 (1 + aroundI (aroundI a 6) 16), .int .i64 (1 + aroundI (aroundI b 6) 16), .slice (some ⟨r5, 0, none⟩) n6 n6])] [.gen (rowE (some ⟨r5, 0, none⟩) r5 n6 n6 45 1 (ivals .u32 (goodP n6 xs1 n6)) true), .cells b2 [.bool false, .int .i64 0, .int .i64 0, .slice none 0 0, .int .i64 0, .int .i64 0, .int .i64 0, .int .i64 0, .int .i64 0, .int .i64 0, .int .i64 0, .int .i64 0] 30 true, .cells b1 [.bool true, .int .i64 mw, .int .i64 mh, ms, .int .i64 X, .int .i64 Y, .int .i64 s, .int .i64 al, .int .i64 ca, .int .i64 cb, .int .i64 cc, .int .i64 cd] 30 true, .gen (rdE (A1) g1 o1 n1 1 (ivals .u32 xs1))] (by kernel_rfl) rfl ?_
  refine batch0 [0, 2] 8 0 [(4, .pointer (some ⟨b1, 0, none⟩)), (8, .pointer (some ⟨b2, 0, none⟩))] [.gen (rowE (some ⟨r5, 0, none⟩) r5 n6 n6 45 1 (ivals .u32 (goodP n6 xs1 n6)) true), .cells b2 [.bool false, .int .i64 0, .int .i64 0, .slice none 0 0, .int .i64 0, .int .i64 0, .int .i64 0, .int .i64 0, .int .i64 0, .int .i64 0, .int .i64 0, .int .i64 0] 30 true, .cells b1 [.bool true, .int .i64 (1 + aroundI (aroundI a 6) 16), .int .i64 (1 + aroundI (aroundI b 6) 16), .slice (some ⟨r5, 0, none⟩) n6 n6, .int .i64 X, .int .i64 Y, .int .i64 s, .int .i64 al, .int .i64 ca, .int .i64 cb, .int .i64 cc, .int .i64 cd] 30 true, .gen (rdE (A1) g1 o1 n1 1 (ivals .u32 xs1))] rfl rfl (by kernel_rfl) (by kernel_rfl) ?_
  refine cont_done ?_
  refine then_normal ?_
  refine cont_seq ?_
  refine drawn_enter 13 [2] rfl (by kernel_rfl) ?_
  refine takes 0 [2] [(0, 0), (5, 0), (1, 0), (6, 0)] 9 [6, 1, 5, 0] [(4, .pointer (some ⟨b1, 0, none⟩)), (8, .pointer (some ⟨b2, 0, none⟩)), (18, .pointer (some ⟨b1, 4, none⟩)), (23, .pointer (some ⟨b1, 5, none⟩))] (by kernel_rfl) (pok_then pok_body) (by kernel_rfl) rfl rfl (by kernel_rfl) (by kernel_rfl) ?_
  refine drawn_two 2 7 8 rfl (by kernel_rfl) ?_ ?_
  ·
    refine one_step 2 [(4, .pointer (some ⟨b1, 0, none⟩)), (8, .pointer (some ⟨b2, 0, none⟩)), (19, .int .i64 X), (23, .pointer (some ⟨b1, 5, none⟩))] [.gen (rowE (some ⟨r5, 0, none⟩) r5 n6 n6 45 1 (ivals .u32 (goodP n6 xs1 n6)) true), .cells b2 [.bool false, .int .i64 0, .int .i64 0, .slice none 0 0, .int .i64 0, .int .i64 0, .int .i64 0, .int .i64 0, .int .i64 0, .int .i64 0, .int .i64 0, .int .i64 0] 30 true, .cells b1 [.bool true, .int .i64 (1 + aroundI (aroundI a 6) 16), .int .i64 (1 + aroundI (aroundI b 6) 16), .slice (some ⟨r5, 0, none⟩) n6 n6, .int .i64 X, .int .i64 Y, .int .i64 s, .int .i64 al, .int .i64 ca, .int .i64 cb, .int .i64 cc, .int .i64 cd] 30 true, .gen (rdE (A1) g1 o1 n1 1 (ivals .u32 xs1))] (by kernel_rfl) (by kernel_rfl) ?_
    refine drawn_next 0 [2] (by kernel_rfl) ?_
    refine drawn_two 3 7 7 rfl (by kernel_rfl) ?_ ?_
    ·
      refine call_pure (d := 20) (.int .i64 (aroundI X 24)) (by kernel_rfl) (fun w hT => refAround X 24 w (by omega) (by omega)) ?_
      have hq8_ := aroundI_range X (m := 24) (by omega)
      refine drawn_next 0 [2] (by kernel_rfl) ?_
      refine takes 0 [2] [(4, 0)] 6 [4, 3, 2, 6, 1, 5, 0] [(4, .pointer (some ⟨b1, 0, none⟩)), (8, .pointer (some ⟨b2, 0, none⟩)), (21, .int .i64 (IntKind.i64.wrap ((aroundI X 24) - 6))), (23, .pointer (some ⟨b1, 5, none⟩))] (by kernel_rfl) (pok_then pok_body) (by kernel_rfl) rfl rfl (by kernel_rfl) (by kernel_rfl) ?_
      refine cont_recast 21 (.int .i64 (IntKind.i64.wrap ((aroundI X 24) - 6))) (.int .i64 ((aroundI X 24) - 6)) rfl (wrapI (by omega) (by omega)) ?_
      refine drawn_one 7 5 rfl (by kernel_rfl) ?_
      refine one_step 2 [(4, .pointer (some ⟨b1, 0, none⟩)), (8, .pointer (some ⟨b2, 0, none⟩)), (21, .int .i64 ((aroundI X 24) - 6)), (24, .int .i64 Y)] [.gen (rowE (some ⟨r5, 0, none⟩) r5 n6 n6 45 1 (ivals .u32 (goodP n6 xs1 n6)) true), .cells b2 [.bool false, .int .i64 0, .int .i64 0, .slice none 0 0, .int .i64 0, .int .i64 0, .int .i64 0, .int .i64 0, .int .i64 0, .int .i64 0, .int .i64 0, .int .i64 0] 30 true, .cells b1 [.bool true, .int .i64 (1 + aroundI (aroundI a 6) 16), .int .i64 (1 + aroundI (aroundI b 6) 16), .slice (some ⟨r5, 0, none⟩) n6 n6, .int .i64 X, .int .i64 Y, .int .i64 s, .int .i64 al, .int .i64 ca, .int .i64 cb, .int .i64 cc, .int .i64 cd] 30 true, .gen (rdE (A1) g1 o1 n1 1 (ivals .u32 xs1))] (by kernel_rfl) (by kernel_rfl) ?_
      refine drawn_next 0 [2] (by kernel_rfl) ?_
      refine drawn_one 8 4 rfl (by kernel_rfl) ?_
      refine call_pure (d := 25) (.int .i64 (aroundI Y 24)) (by kernel_rfl) (fun w hT => refAround Y 24 w (by omega) (by omega)) ?_
      have hq9_ := aroundI_range Y (m := 24) (by omega)
      refine drawn_next 0 [2] (by kernel_rfl) ?_
      refine takes 0 [2] [(9, 0)] 3 [9, 8, 7, 4, 3, 2, 6, 1, 5, 0] [(4, .pointer (some ⟨b1, 0, none⟩)), (8, .pointer (some ⟨b2, 0, none⟩)), (21, .int .i64 ((aroundI X 24) - 6)), (26, .int .i64 (IntKind.i64.wrap ((aroundI Y 24) - 6)))] (by kernel_rfl) (pok_then pok_body) (by kernel_rfl) rfl rfl (by kernel_rfl) (by kernel_rfl) ?_
      refine cont_recast 26 (.int .i64 (IntKind.i64.wrap ((aroundI Y 24) - 6))) (.int .i64 ((aroundI Y 24) - 6)) rfl (wrapI (by omega) (by omega)) ?_
      refine takes 0 [2] [(10, 0), (11, 0)] 1 [11, 10, 9, 8, 7, 4, 3, 2, 6, 1, 5, 0] [(4, .pointer (some ⟨b1, 0, none⟩)), (8, .pointer (some ⟨b2, 0, none⟩)), (27, .agg #[.int .i64 ((aroundI X 24) - 6), .int .i64 ((aroundI Y 24) - 6)]), (28, .pointer (some ⟨b1, 4, none⟩))] (by kernel_rfl) (pok_then pok_body) (by kernel_rfl) rfl rfl (by kernel_rfl) (by kernel_rfl) ?_
      refine drawn_one 12 0 rfl (by kernel_rfl) ?_
      refine one_step 2 [(4, .pointer (some ⟨b1, 0, none⟩)), (8, .pointer (some ⟨b2, 0, none⟩))] [.gen (rowE (some ⟨r5, 0, none⟩) r5 n6 n6 45 1 (ivals .u32 (goodP n6 xs1 n6)) true), .cells b2 [.bool false, .int .i64 0, .int .i64 0, .slice none 0 0, .int .i64 0, .int .i64 0, .int .i64 0, .int .i64 0, .int .i64 0, .int .i64 0, .int .i64 0, .int .i64 0] 30 true, .cells b1 [.bool true, .int .i64 (1 + aroundI (aroundI a 6) 16), .int .i64 (1 + aroundI (aroundI b 6) 16), .slice (some ⟨r5, 0, none⟩) n6 n6, .int .i64 ((aroundI X 24) - 6), .int .i64 ((aroundI Y 24) - 6), .int .i64 s, .int .i64 al, .int .i64 ca, .int .i64 cb, .int .i64 cc, .int .i64 cd] 30 true, .gen (rdE (A1) g1 o1 n1 1 (ivals .u32 xs1))] (by kernel_rfl) (by kernel_rfl) ?_
      refine drawn_next 0 [2] (by kernel_rfl) ?_
      refine drawn_done (by kernel_rfl) ?_
      refine then_normal ?_
      refine cont_seq ?_
      refine cont_region 6 rfl ?_
      refine bS [0, 2] 2 4 [(4, .pointer (some ⟨b1, 0, none⟩)), (8, .pointer (some ⟨b2, 0, none⟩)), (30, .int .i64 s)] ?_
      refine pl_step 3 3 rfl rfl ?_
      refine call_pure (d := 31) (.int .i64 (aroundI s 3)) (by kernel_rfl) (fun w hT => refAround s 3 w (by omega) (by omega)) ?_
      have hq10_ := aroundI_range s (m := 3) (by omega)
      refine bS [0] 4 2 [(4, .pointer (some ⟨b1, 0, none⟩)), (8, .pointer (some ⟨b2, 0, none⟩)), (32, .int .i64 (IntKind.i64.wrap (1 + (aroundI s 3))))] ?_
      refine cont_recast 32 (.int .i64 (IntKind.i64.wrap (1 + (aroundI s 3)))) (.int .i64 (1 + (aroundI s 3))) rfl (wrapI (by omega) (by omega)) ?_
      refine batch0 [0, 2] 6 0 [(4, .pointer (some ⟨b1, 0, none⟩)), (8, .pointer (some ⟨b2, 0, none⟩))] [.gen (rowE (some ⟨r5, 0, none⟩) r5 n6 n6 45 1 (ivals .u32 (goodP n6 xs1 n6)) true), .cells b2 [.bool false, .int .i64 0, .int .i64 0, .slice none 0 0, .int .i64 0, .int .i64 0, .int .i64 0, .int .i64 0, .int .i64 0, .int .i64 0, .int .i64 0, .int .i64 0] 30 true, .cells b1 [.bool true, .int .i64 (1 + aroundI (aroundI a 6) 16), .int .i64 (1 + aroundI (aroundI b 6) 16), .slice (some ⟨r5, 0, none⟩) n6 n6, .int .i64 ((aroundI X 24) - 6), .int .i64 ((aroundI Y 24) - 6), .int .i64 (1 + (aroundI s 3)), .int .i64 al, .int .i64 ca, .int .i64 cb, .int .i64 cc, .int .i64 cd] 30 true, .gen (rdE (A1) g1 o1 n1 1 (ivals .u32 xs1))] rfl rfl (by kernel_rfl) (by kernel_rfl) ?_
      refine cont_done ?_
      refine then_normal ?_
      refine cont_seq ?_
      refine cont_region 5 rfl ?_
      refine bS [0, 2] 2 3 [(4, .pointer (some ⟨b1, 0, none⟩)), (8, .pointer (some ⟨b2, 0, none⟩)), (35, .int .i64 al)] ?_
      refine pl_step 3 2 rfl rfl ?_
      refine call_pure (d := 36) (.int .i64 (aroundI al 256)) (by kernel_rfl) (fun w hT => refAround al 256 w (by omega) (by omega)) ?_
      have hq11_ := aroundI_range al (m := 256) (by omega)
      refine batch0 [0, 2] 5 0 [(4, .pointer (some ⟨b1, 0, none⟩)), (8, .pointer (some ⟨b2, 0, none⟩))] [.gen (rowE (some ⟨r5, 0, none⟩) r5 n6 n6 45 1 (ivals .u32 (goodP n6 xs1 n6)) true), .cells b2 [.bool false, .int .i64 0, .int .i64 0, .slice none 0 0, .int .i64 0, .int .i64 0, .int .i64 0, .int .i64 0, .int .i64 0, .int .i64 0, .int .i64 0, .int .i64 0] 30 true, .cells b1 [.bool true, .int .i64 (1 + aroundI (aroundI a 6) 16), .int .i64 (1 + aroundI (aroundI b 6) 16), .slice (some ⟨r5, 0, none⟩) n6 n6, .int .i64 ((aroundI X 24) - 6), .int .i64 ((aroundI Y 24) - 6), .int .i64 (1 + (aroundI s 3)), .int .i64 (aroundI al 256), .int .i64 ca, .int .i64 cb, .int .i64 cc, .int .i64 cd] 30 true, .gen (rdE (A1) g1 o1 n1 1 (ivals .u32 xs1))] rfl rfl (by kernel_rfl) (by kernel_rfl) ?_
      refine cont_done ?_
      refine then_normal ?_
      refine cont_seq ?_
      refine cont_region 2 rfl ?_
      refine batch0 [2, 1] 2 0 [(8, .pointer (some ⟨b2, 0, none⟩))] [.gen (rowE (some ⟨r5, 0, none⟩) r5 n6 n6 45 1 (ivals .u32 (goodP n6 xs1 n6)) true), .cells b2 [.bool true, .int .i64 (1 + aroundI (aroundI a 6) 16), .int .i64 (1 + aroundI (aroundI b 6) 16), .slice (some ⟨r5, 0, none⟩) n6 n6, .int .i64 ((aroundI X 24) - 6), .int .i64 ((aroundI Y 24) - 6), .int .i64 (1 + (aroundI s 3)), .int .i64 (aroundI al 256), .int .i64 ca, .int .i64 cb, .int .i64 cc, .int .i64 cd] 30 true, .cells b1 [.bool true, .int .i64 (1 + aroundI (aroundI a 6) 16), .int .i64 (1 + aroundI (aroundI b 6) 16), .slice (some ⟨r5, 0, none⟩) n6 n6, .int .i64 ((aroundI X 24) - 6), .int .i64 ((aroundI Y 24) - 6), .int .i64 (1 + (aroundI s 3)), .int .i64 (aroundI al 256), .int .i64 ca, .int .i64 cb, .int .i64 cc, .int .i64 cd] 30 true, .gen (rdE (A1) g1 o1 n1 1 (ivals .u32 xs1))] rfl rfl (by kernel_rfl) (by kernel_rfl) ?_
      refine cont_forget 2 rfl ?_
      refine cont_done ?_
      refine then_normal ?_
      refine cont_ret ?_
      refine ret_one (.inl rfl) rfl 1 (.agg #[.bool true, .int .i64 (1 + aroundI (aroundI a 6) 16), .int .i64 (1 + aroundI (aroundI b 6) 16), .slice (some ⟨r5, 0, none⟩) n6 n6, .int .i64 ((aroundI X 24) - 6), .int .i64 ((aroundI Y 24) - 6), .int .i64 (1 + (aroundI s 3)), .int .i64 (aroundI al 256), .int .i64 ca, .int .i64 cb, .int .i64 cc, .int .i64 cd]) (by kernel_rfl) (by kernel_rfl) (fun w hT => ?_)
      replace hT := hT.erase 2 (fun e h hw => by cases h; first | rfl | cases hw)
      replace hT := hT.erase 1 (fun e h hw => by cases h; first | rfl | cases hw)
      exact ⟨_, _, rfl, ‹_›, hT⟩
    refine one_step 2 [(4, .pointer (some ⟨b1, 0, none⟩)), (8, .pointer (some ⟨b2, 0, none⟩)), (19, .int .i64 X), (24, .int .i64 Y)] [.gen (rowE (some ⟨r5, 0, none⟩) r5 n6 n6 45 1 (ivals .u32 (goodP n6 xs1 n6)) true), .cells b2 [.bool false, .int .i64 0, .int .i64 0, .slice none 0 0, .int .i64 0, .int .i64 0, .int .i64 0, .int .i64 0, .int .i64 0, .int .i64 0, .int .i64 0, .int .i64 0] 30 true, .cells b1 [.bool true, .int .i64 (1 + aroundI (aroundI a 6) 16), .int .i64 (1 + aroundI (aroundI b 6) 16), .slice (some ⟨r5, 0, none⟩) n6 n6, .int .i64 X, .int .i64 Y, .int .i64 s, .int .i64 al, .int .i64 ca, .int .i64 cb, .int .i64 cc, .int .i64 cd] 30 true, .gen (rdE (A1) g1 o1 n1 1 (ivals .u32 xs1))] (by kernel_rfl) (by kernel_rfl) ?_
    refine drawn_next 0 [2] (by kernel_rfl) ?_
    refine drawn_one 3 6 rfl (by kernel_rfl) ?_
    refine call_pure (d := 20) (.int .i64 (aroundI X 24)) (by kernel_rfl) (fun w hT => refAround X 24 w (by omega) (by omega)) ?_
    have hq12_ := aroundI_range X (m := 24) (by omega)
    refine drawn_next 0 [2] (by kernel_rfl) ?_
    refine takes 0 [2] [(4, 0)] 5 [4, 3, 7, 2, 6, 1, 5, 0] [(4, .pointer (some ⟨b1, 0, none⟩)), (8, .pointer (some ⟨b2, 0, none⟩)), (21, .int .i64 (IntKind.i64.wrap ((aroundI X 24) - 6))), (24, .int .i64 Y)] (by kernel_rfl) (pok_then pok_body) (by kernel_rfl) rfl rfl (by kernel_rfl) (by kernel_rfl) ?_
    refine cont_recast 21 (.int .i64 (IntKind.i64.wrap ((aroundI X 24) - 6))) (.int .i64 ((aroundI X 24) - 6)) rfl (wrapI (by omega) (by omega)) ?_
    refine drawn_one 8 4 rfl (by kernel_rfl) ?_
    refine call_pure (d := 25) (.int .i64 (aroundI Y 24)) (by kernel_rfl) (fun w hT => refAround Y 24 w (by omega) (by omega)) ?_
    have hq13_ := aroundI_range Y (m := 24) (by omega)
    refine drawn_next 0 [2] (by kernel_rfl) ?_
    refine takes 0 [2] [(9, 0)] 3 [9, 8, 4, 3, 7, 2, 6, 1, 5, 0] [(4, .pointer (some ⟨b1, 0, none⟩)), (8, .pointer (some ⟨b2, 0, none⟩)), (21, .int .i64 ((aroundI X 24) - 6)), (26, .int .i64 (IntKind.i64.wrap ((aroundI Y 24) - 6)))] (by kernel_rfl) (pok_then pok_body) (by kernel_rfl) rfl rfl (by kernel_rfl) (by kernel_rfl) ?_
    refine cont_recast 26 (.int .i64 (IntKind.i64.wrap ((aroundI Y 24) - 6))) (.int .i64 ((aroundI Y 24) - 6)) rfl (wrapI (by omega) (by omega)) ?_
    refine takes 0 [2] [(10, 0), (11, 0)] 1 [11, 10, 9, 8, 4, 3, 7, 2, 6, 1, 5, 0] [(4, .pointer (some ⟨b1, 0, none⟩)), (8, .pointer (some ⟨b2, 0, none⟩)), (27, .agg #[.int .i64 ((aroundI X 24) - 6), .int .i64 ((aroundI Y 24) - 6)]), (28, .pointer (some ⟨b1, 4, none⟩))] (by kernel_rfl) (pok_then pok_body) (by kernel_rfl) rfl rfl (by kernel_rfl) (by kernel_rfl) ?_
    refine drawn_one 12 0 rfl (by kernel_rfl) ?_
    refine one_step 2 [(4, .pointer (some ⟨b1, 0, none⟩)), (8, .pointer (some ⟨b2, 0, none⟩))] [.gen (rowE (some ⟨r5, 0, none⟩) r5 n6 n6 45 1 (ivals .u32 (goodP n6 xs1 n6)) true), .cells b2 [.bool false, .int .i64 0, .int .i64 0, .slice none 0 0, .int .i64 0, .int .i64 0, .int .i64 0, .int .i64 0, .int .i64 0, .int .i64 0, .int .i64 0, .int .i64 0] 30 true, .cells b1 [.bool true, .int .i64 (1 + aroundI (aroundI a 6) 16), .int .i64 (1 + aroundI (aroundI b 6) 16), .slice (some ⟨r5, 0, none⟩) n6 n6, .int .i64 ((aroundI X 24) - 6), .int .i64 ((aroundI Y 24) - 6), .int .i64 s, .int .i64 al, .int .i64 ca, .int .i64 cb, .int .i64 cc, .int .i64 cd] 30 true, .gen (rdE (A1) g1 o1 n1 1 (ivals .u32 xs1))] (by kernel_rfl) (by kernel_rfl) ?_
    refine drawn_next 0 [2] (by kernel_rfl) ?_
    refine drawn_done (by kernel_rfl) ?_
    refine then_normal ?_
    refine cont_seq ?_
    refine cont_region 6 rfl ?_
    refine bS [0, 2] 2 4 [(4, .pointer (some ⟨b1, 0, none⟩)), (8, .pointer (some ⟨b2, 0, none⟩)), (30, .int .i64 s)] ?_
    refine pl_step 3 3 rfl rfl ?_
    refine call_pure (d := 31) (.int .i64 (aroundI s 3)) (by kernel_rfl) (fun w hT => refAround s 3 w (by omega) (by omega)) ?_
    have hq14_ := aroundI_range s (m := 3) (by omega)
    refine bS [0] 4 2 [(4, .pointer (some ⟨b1, 0, none⟩)), (8, .pointer (some ⟨b2, 0, none⟩)), (32, .int .i64 (IntKind.i64.wrap (1 + (aroundI s 3))))] ?_
    refine cont_recast 32 (.int .i64 (IntKind.i64.wrap (1 + (aroundI s 3)))) (.int .i64 (1 + (aroundI s 3))) rfl (wrapI (by omega) (by omega)) ?_
    refine batch0 [0, 2] 6 0 [(4, .pointer (some ⟨b1, 0, none⟩)), (8, .pointer (some ⟨b2, 0, none⟩))] [.gen (rowE (some ⟨r5, 0, none⟩) r5 n6 n6 45 1 (ivals .u32 (goodP n6 xs1 n6)) true), .cells b2 [.bool false, .int .i64 0, .int .i64 0, .slice none 0 0, .int .i64 0, .int .i64 0, .int .i64 0, .int .i64 0, .int .i64 0, .int .i64 0, .int .i64 0, .int .i64 0] 30 true, .cells b1 [.bool true, .int .i64 (1 + aroundI (aroundI a 6) 16), .int .i64 (1 + aroundI (aroundI b 6) 16), .slice (some ⟨r5, 0, none⟩) n6 n6, .int .i64 ((aroundI X 24) - 6), .int .i64 ((aroundI Y 24) - 6), .int .i64 (1 + (aroundI s 3)), .int .i64 al, .int .i64 ca, .int .i64 cb, .int .i64 cc, .int .i64 cd] 30 true, .gen (rdE (A1) g1 o1 n1 1 (ivals .u32 xs1))] rfl rfl (by kernel_rfl) (by kernel_rfl) ?_
    refine cont_done ?_
    refine then_normal ?_
    refine cont_seq ?_
    refine cont_region 5 rfl ?_
    refine bS [0, 2] 2 3 [(4, .pointer (some ⟨b1, 0, none⟩)), (8, .pointer (some ⟨b2, 0, none⟩)), (35, .int .i64 al)] ?_
    refine pl_step 3 2 rfl rfl ?_
    refine call_pure (d := 36) (.int .i64 (aroundI al 256)) (by kernel_rfl) (fun w hT => refAround al 256 w (by omega) (by omega)) ?_
    have hq15_ := aroundI_range al (m := 256) (by omega)
    refine batch0 [0, 2] 5 0 [(4, .pointer (some ⟨b1, 0, none⟩)), (8, .pointer (some ⟨b2, 0, none⟩))] [.gen (rowE (some ⟨r5, 0, none⟩) r5 n6 n6 45 1 (ivals .u32 (goodP n6 xs1 n6)) true), .cells b2 [.bool false, .int .i64 0, .int .i64 0, .slice none 0 0, .int .i64 0, .int .i64 0, .int .i64 0, .int .i64 0, .int .i64 0, .int .i64 0, .int .i64 0, .int .i64 0] 30 true, .cells b1 [.bool true, .int .i64 (1 + aroundI (aroundI a 6) 16), .int .i64 (1 + aroundI (aroundI b 6) 16), .slice (some ⟨r5, 0, none⟩) n6 n6, .int .i64 ((aroundI X 24) - 6), .int .i64 ((aroundI Y 24) - 6), .int .i64 (1 + (aroundI s 3)), .int .i64 (aroundI al 256), .int .i64 ca, .int .i64 cb, .int .i64 cc, .int .i64 cd] 30 true, .gen (rdE (A1) g1 o1 n1 1 (ivals .u32 xs1))] rfl rfl (by kernel_rfl) (by kernel_rfl) ?_
    refine cont_done ?_
    refine then_normal ?_
    refine cont_seq ?_
    refine cont_region 2 rfl ?_
    refine batch0 [2, 1] 2 0 [(8, .pointer (some ⟨b2, 0, none⟩))] [.gen (rowE (some ⟨r5, 0, none⟩) r5 n6 n6 45 1 (ivals .u32 (goodP n6 xs1 n6)) true), .cells b2 [.bool true, .int .i64 (1 + aroundI (aroundI a 6) 16), .int .i64 (1 + aroundI (aroundI b 6) 16), .slice (some ⟨r5, 0, none⟩) n6 n6, .int .i64 ((aroundI X 24) - 6), .int .i64 ((aroundI Y 24) - 6), .int .i64 (1 + (aroundI s 3)), .int .i64 (aroundI al 256), .int .i64 ca, .int .i64 cb, .int .i64 cc, .int .i64 cd] 30 true, .cells b1 [.bool true, .int .i64 (1 + aroundI (aroundI a 6) 16), .int .i64 (1 + aroundI (aroundI b 6) 16), .slice (some ⟨r5, 0, none⟩) n6 n6, .int .i64 ((aroundI X 24) - 6), .int .i64 ((aroundI Y 24) - 6), .int .i64 (1 + (aroundI s 3)), .int .i64 (aroundI al 256), .int .i64 ca, .int .i64 cb, .int .i64 cc, .int .i64 cd] 30 true, .gen (rdE (A1) g1 o1 n1 1 (ivals .u32 xs1))] rfl rfl (by kernel_rfl) (by kernel_rfl) ?_
    refine cont_forget 2 rfl ?_
    refine cont_done ?_
    refine then_normal ?_
    refine cont_ret ?_
    refine ret_one (.inl rfl) rfl 1 (.agg #[.bool true, .int .i64 (1 + aroundI (aroundI a 6) 16), .int .i64 (1 + aroundI (aroundI b 6) 16), .slice (some ⟨r5, 0, none⟩) n6 n6, .int .i64 ((aroundI X 24) - 6), .int .i64 ((aroundI Y 24) - 6), .int .i64 (1 + (aroundI s 3)), .int .i64 (aroundI al 256), .int .i64 ca, .int .i64 cb, .int .i64 cc, .int .i64 cd]) (by kernel_rfl) (by kernel_rfl) (fun w hT => ?_)
    replace hT := hT.erase 2 (fun e h hw => by cases h; first | rfl | cases hw)
    replace hT := hT.erase 1 (fun e h hw => by cases h; first | rfl | cases hw)
    exact ⟨_, _, rfl, ‹_›, hT⟩
  refine one_step 2 [(4, .pointer (some ⟨b1, 0, none⟩)), (8, .pointer (some ⟨b2, 0, none⟩)), (18, .pointer (some ⟨b1, 4, none⟩)), (24, .int .i64 Y)] [.gen (rowE (some ⟨r5, 0, none⟩) r5 n6 n6 45 1 (ivals .u32 (goodP n6 xs1 n6)) true), .cells b2 [.bool false, .int .i64 0, .int .i64 0, .slice none 0 0, .int .i64 0, .int .i64 0, .int .i64 0, .int .i64 0, .int .i64 0, .int .i64 0, .int .i64 0, .int .i64 0] 30 true, .cells b1 [.bool true, .int .i64 (1 + aroundI (aroundI a 6) 16), .int .i64 (1 + aroundI (aroundI b 6) 16), .slice (some ⟨r5, 0, none⟩) n6 n6, .int .i64 X, .int .i64 Y, .int .i64 s, .int .i64 al, .int .i64 ca, .int .i64 cb, .int .i64 cc, .int .i64 cd] 30 true, .gen (rdE (A1) g1 o1 n1 1 (ivals .u32 xs1))] (by kernel_rfl) (by kernel_rfl) ?_
  refine drawn_next 0 [2] (by kernel_rfl) ?_
  refine drawn_one 2 7 rfl (by kernel_rfl) ?_
  refine one_step 2 [(4, .pointer (some ⟨b1, 0, none⟩)), (8, .pointer (some ⟨b2, 0, none⟩)), (19, .int .i64 X), (24, .int .i64 Y)] [.gen (rowE (some ⟨r5, 0, none⟩) r5 n6 n6 45 1 (ivals .u32 (goodP n6 xs1 n6)) true), .cells b2 [.bool false, .int .i64 0, .int .i64 0, .slice none 0 0, .int .i64 0, .int .i64 0, .int .i64 0, .int .i64 0, .int .i64 0, .int .i64 0, .int .i64 0, .int .i64 0] 30 true, .cells b1 [.bool true, .int .i64 (1 + aroundI (aroundI a 6) 16), .int .i64 (1 + aroundI (aroundI b 6) 16), .slice (some ⟨r5, 0, none⟩) n6 n6, .int .i64 X, .int .i64 Y, .int .i64 s, .int .i64 al, .int .i64 ca, .int .i64 cb, .int .i64 cc, .int .i64 cd] 30 true, .gen (rdE (A1) g1 o1 n1 1 (ivals .u32 xs1))] (by kernel_rfl) (by kernel_rfl) ?_
  refine drawn_next 0 [2] (by kernel_rfl) ?_
  refine drawn_one 3 6 rfl (by kernel_rfl) ?_
  refine call_pure (d := 20) (.int .i64 (aroundI X 24)) (by kernel_rfl) (fun w hT => refAround X 24 w (by omega) (by omega)) ?_
  have hq16_ := aroundI_range X (m := 24) (by omega)
  refine drawn_next 0 [2] (by kernel_rfl) ?_
  refine takes 0 [2] [(4, 0)] 5 [4, 3, 2, 7, 6, 1, 5, 0] [(4, .pointer (some ⟨b1, 0, none⟩)), (8, .pointer (some ⟨b2, 0, none⟩)), (21, .int .i64 (IntKind.i64.wrap ((aroundI X 24) - 6))), (24, .int .i64 Y)] (by kernel_rfl) (pok_then pok_body) (by kernel_rfl) rfl rfl (by kernel_rfl) (by kernel_rfl) ?_
  refine cont_recast 21 (.int .i64 (IntKind.i64.wrap ((aroundI X 24) - 6))) (.int .i64 ((aroundI X 24) - 6)) rfl (wrapI (by omega) (by omega)) ?_
  refine drawn_one 8 4 rfl (by kernel_rfl) ?_
  refine call_pure (d := 25) (.int .i64 (aroundI Y 24)) (by kernel_rfl) (fun w hT => refAround Y 24 w (by omega) (by omega)) ?_
  have hq17_ := aroundI_range Y (m := 24) (by omega)
  refine drawn_next 0 [2] (by kernel_rfl) ?_
  refine takes 0 [2] [(9, 0)] 3 [9, 8, 4, 3, 2, 7, 6, 1, 5, 0] [(4, .pointer (some ⟨b1, 0, none⟩)), (8, .pointer (some ⟨b2, 0, none⟩)), (21, .int .i64 ((aroundI X 24) - 6)), (26, .int .i64 (IntKind.i64.wrap ((aroundI Y 24) - 6)))] (by kernel_rfl) (pok_then pok_body) (by kernel_rfl) rfl rfl (by kernel_rfl) (by kernel_rfl) ?_
  refine cont_recast 26 (.int .i64 (IntKind.i64.wrap ((aroundI Y 24) - 6))) (.int .i64 ((aroundI Y 24) - 6)) rfl (wrapI (by omega) (by omega)) ?_
  refine takes 0 [2] [(10, 0), (11, 0)] 1 [11, 10, 9, 8, 4, 3, 2, 7, 6, 1, 5, 0] [(4, .pointer (some ⟨b1, 0, none⟩)), (8, .pointer (some ⟨b2, 0, none⟩)), (27, .agg #[.int .i64 ((aroundI X 24) - 6), .int .i64 ((aroundI Y 24) - 6)]), (28, .pointer (some ⟨b1, 4, none⟩))] (by kernel_rfl) (pok_then pok_body) (by kernel_rfl) rfl rfl (by kernel_rfl) (by kernel_rfl) ?_
  refine drawn_one 12 0 rfl (by kernel_rfl) ?_
  refine one_step 2 [(4, .pointer (some ⟨b1, 0, none⟩)), (8, .pointer (some ⟨b2, 0, none⟩))] [.gen (rowE (some ⟨r5, 0, none⟩) r5 n6 n6 45 1 (ivals .u32 (goodP n6 xs1 n6)) true), .cells b2 [.bool false, .int .i64 0, .int .i64 0, .slice none 0 0, .int .i64 0, .int .i64 0, .int .i64 0, .int .i64 0, .int .i64 0, .int .i64 0, .int .i64 0, .int .i64 0] 30 true, .cells b1 [.bool true, .int .i64 (1 + aroundI (aroundI a 6) 16), .int .i64 (1 + aroundI (aroundI b 6) 16), .slice (some ⟨r5, 0, none⟩) n6 n6, .int .i64 ((aroundI X 24) - 6), .int .i64 ((aroundI Y 24) - 6), .int .i64 s, .int .i64 al, .int .i64 ca, .int .i64 cb, .int .i64 cc, .int .i64 cd] 30 true, .gen (rdE (A1) g1 o1 n1 1 (ivals .u32 xs1))] (by kernel_rfl) (by kernel_rfl) ?_
  refine drawn_next 0 [2] (by kernel_rfl) ?_
  refine drawn_done (by kernel_rfl) ?_
  refine then_normal ?_
  refine cont_seq ?_
  refine cont_region 6 rfl ?_
  refine bS [0, 2] 2 4 [(4, .pointer (some ⟨b1, 0, none⟩)), (8, .pointer (some ⟨b2, 0, none⟩)), (30, .int .i64 s)] ?_
  refine pl_step 3 3 rfl rfl ?_
  refine call_pure (d := 31) (.int .i64 (aroundI s 3)) (by kernel_rfl) (fun w hT => refAround s 3 w (by omega) (by omega)) ?_
  have hq18_ := aroundI_range s (m := 3) (by omega)
  refine bS [0] 4 2 [(4, .pointer (some ⟨b1, 0, none⟩)), (8, .pointer (some ⟨b2, 0, none⟩)), (32, .int .i64 (IntKind.i64.wrap (1 + (aroundI s 3))))] ?_
  refine cont_recast 32 (.int .i64 (IntKind.i64.wrap (1 + (aroundI s 3)))) (.int .i64 (1 + (aroundI s 3))) rfl (wrapI (by omega) (by omega)) ?_
  refine batch0 [0, 2] 6 0 [(4, .pointer (some ⟨b1, 0, none⟩)), (8, .pointer (some ⟨b2, 0, none⟩))] [.gen (rowE (some ⟨r5, 0, none⟩) r5 n6 n6 45 1 (ivals .u32 (goodP n6 xs1 n6)) true), .cells b2 [.bool false, .int .i64 0, .int .i64 0, .slice none 0 0, .int .i64 0, .int .i64 0, .int .i64 0, .int .i64 0, .int .i64 0, .int .i64 0, .int .i64 0, .int .i64 0] 30 true, .cells b1 [.bool true, .int .i64 (1 + aroundI (aroundI a 6) 16), .int .i64 (1 + aroundI (aroundI b 6) 16), .slice (some ⟨r5, 0, none⟩) n6 n6, .int .i64 ((aroundI X 24) - 6), .int .i64 ((aroundI Y 24) - 6), .int .i64 (1 + (aroundI s 3)), .int .i64 al, .int .i64 ca, .int .i64 cb, .int .i64 cc, .int .i64 cd] 30 true, .gen (rdE (A1) g1 o1 n1 1 (ivals .u32 xs1))] rfl rfl (by kernel_rfl) (by kernel_rfl) ?_
  refine cont_done ?_
  refine then_normal ?_
  refine cont_seq ?_
  refine cont_region 5 rfl ?_
  refine bS [0, 2] 2 3 [(4, .pointer (some ⟨b1, 0, none⟩)), (8, .pointer (some ⟨b2, 0, none⟩)), (35, .int .i64 al)] ?_
  refine pl_step 3 2 rfl rfl ?_
  refine call_pure (d := 36) (.int .i64 (aroundI al 256)) (by kernel_rfl) (fun w hT => refAround al 256 w (by omega) (by omega)) ?_
  have hq19_ := aroundI_range al (m := 256) (by omega)
  refine batch0 [0, 2] 5 0 [(4, .pointer (some ⟨b1, 0, none⟩)), (8, .pointer (some ⟨b2, 0, none⟩))] [.gen (rowE (some ⟨r5, 0, none⟩) r5 n6 n6 45 1 (ivals .u32 (goodP n6 xs1 n6)) true), .cells b2 [.bool false, .int .i64 0, .int .i64 0, .slice none 0 0, .int .i64 0, .int .i64 0, .int .i64 0, .int .i64 0, .int .i64 0, .int .i64 0, .int .i64 0, .int .i64 0] 30 true, .cells b1 [.bool true, .int .i64 (1 + aroundI (aroundI a 6) 16), .int .i64 (1 + aroundI (aroundI b 6) 16), .slice (some ⟨r5, 0, none⟩) n6 n6, .int .i64 ((aroundI X 24) - 6), .int .i64 ((aroundI Y 24) - 6), .int .i64 (1 + (aroundI s 3)), .int .i64 (aroundI al 256), .int .i64 ca, .int .i64 cb, .int .i64 cc, .int .i64 cd] 30 true, .gen (rdE (A1) g1 o1 n1 1 (ivals .u32 xs1))] rfl rfl (by kernel_rfl) (by kernel_rfl) ?_
  refine cont_done ?_
  refine then_normal ?_
  refine cont_seq ?_
  refine cont_region 2 rfl ?_
  refine batch0 [2, 1] 2 0 [(8, .pointer (some ⟨b2, 0, none⟩))] [.gen (rowE (some ⟨r5, 0, none⟩) r5 n6 n6 45 1 (ivals .u32 (goodP n6 xs1 n6)) true), .cells b2 [.bool true, .int .i64 (1 + aroundI (aroundI a 6) 16), .int .i64 (1 + aroundI (aroundI b 6) 16), .slice (some ⟨r5, 0, none⟩) n6 n6, .int .i64 ((aroundI X 24) - 6), .int .i64 ((aroundI Y 24) - 6), .int .i64 (1 + (aroundI s 3)), .int .i64 (aroundI al 256), .int .i64 ca, .int .i64 cb, .int .i64 cc, .int .i64 cd] 30 true, .cells b1 [.bool true, .int .i64 (1 + aroundI (aroundI a 6) 16), .int .i64 (1 + aroundI (aroundI b 6) 16), .slice (some ⟨r5, 0, none⟩) n6 n6, .int .i64 ((aroundI X 24) - 6), .int .i64 ((aroundI Y 24) - 6), .int .i64 (1 + (aroundI s 3)), .int .i64 (aroundI al 256), .int .i64 ca, .int .i64 cb, .int .i64 cc, .int .i64 cd] 30 true, .gen (rdE (A1) g1 o1 n1 1 (ivals .u32 xs1))] rfl rfl (by kernel_rfl) (by kernel_rfl) ?_
  refine cont_forget 2 rfl ?_
  refine cont_done ?_
  refine then_normal ?_
  refine cont_ret ?_
  refine ret_one (.inl rfl) rfl 1 (.agg #[.bool true, .int .i64 (1 + aroundI (aroundI a 6) 16), .int .i64 (1 + aroundI (aroundI b 6) 16), .slice (some ⟨r5, 0, none⟩) n6 n6, .int .i64 ((aroundI X 24) - 6), .int .i64 ((aroundI Y 24) - 6), .int .i64 (1 + (aroundI s 3)), .int .i64 (aroundI al 256), .int .i64 ca, .int .i64 cb, .int .i64 cc, .int .i64 cd]) (by kernel_rfl) (by kernel_rfl) (fun w hT => ?_)
  replace hT := hT.erase 2 (fun e h hw => by cases h; first | rfl | cases hw)
  replace hT := hT.erase 1 (fun e h hw => by cases h; first | rfl | cases hw)
  exact ⟨_, _, rfl, ‹_›, hT⟩

end Go.Proofs.Ytgpcgfjfmjehgaa

