/- Contracts of functions of the given program, printed by a program of this project. -/
import Derived.Test.YtommojgfkkoghaaW4w
import Derived.Test.YtommojgfkkoghaaProg
set_option linter.unusedVariables false
set_option linter.unusedSimpArgs false
namespace Go.Proofs.Ytommojgfkkoghaa
open Go Go.RowKit
set_option maxRecDepth 100000
set_option maxHeartbeats 8000000

theorem walkImageRefuses (w_ h_ : Int) (A1 : Option Addr) (g1 o1 n1 cap1 : Nat) (xs1 : List Int) (ra rb rc rd how_ : Int) (A2 : Option Addr) (g2 o2 n2 cap2 : Nat) (xs2 : List Int) (w : World) (hw : -9223372036854775808 ≤ w_ ∧ w_ ≤ 9223372036854775807) (hh : -9223372036854775808 ≤ h_ ∧ h_ ≤ 9223372036854775807) (hr1 : Rd w A1 g1 o1 n1 1 (ivals .u32 xs1)) (hl1 : xs1.length = n1) (hc1 : n1 ≤ cap1) (hm1 : cap1 ≤ maxLen) (hx1 : ∀ x ∈ xs1, 0 ≤ x ∧ x < 4294967296) (hra : -9223372036854775808 ≤ ra ∧ ra ≤ 9223372036854775807) (hrb : -9223372036854775808 ≤ rb ∧ rb ≤ 9223372036854775807) (hrc : -9223372036854775808 ≤ rc ∧ rc ≤ 9223372036854775807) (hrd : -9223372036854775808 ≤ rd ∧ rd ≤ 9223372036854775807) (hhow_ : -9223372036854775808 ≤ how_ ∧ how_ ≤ 9223372036854775807) (hr2 : Rd w A2 g2 o2 n2 1 (ivals .u8 xs2)) (hl2 : xs2.length = n2) (hc2 : n2 ≤ cap2) (hm2 : cap2 ≤ maxLen) (hx2 : ∀ x ∈ xs2, 0 ≤ x ∧ x ≤ 255) :
    Calls Try.prog 9 #[.int .i64 w_, .int .i64 h_, .slice A1 n1 cap1, .agg #[.int .i64 ra, .int .i64 rb, .int .i64 rc, .int .i64 rd], .int .i64 how_, .slice A2 n2 cap2] w fun e w' => e = .returned (.bool true) ∧ Below w.heap.size w w' := by
  unfold maxLen at hm1 hm2
  refine enter 83 [(0, .int .i64 w_), (1, .int .i64 h_), (2, .slice A1 n1 cap1), (3, .agg #[.int .i64 ra, .int .i64 rb, .int .i64 rc, .int .i64 rd]), (4, .int .i64 how_), (5, .slice A2 n2 cap2)] [.gen (rdE (A1) g1 o1 n1 1 (ivals .u32 xs1)), .gen (rdE (A2) g2 o2 n2 1 (ivals .u8 xs2))] Try.func9 rfl Try.ntmps9 rfl (by kernel_rfl) (Rd.tab2 hr1 hr2) ?_
  refine cont_seq ?_
  refine cont_region 2 rfl ?_
  refine batch1 [0, 0] 2 0 (fun b1 => [(0, .int .i64 w_), (1, .int .i64 h_), (2, .slice A1 n1 cap1), (4, .int .i64 how_), (5, .slice A2 n2 cap2), (9, .pointer (some ⟨b1, 0, none⟩))]) (fun b1 => [.cells b1 [.int .i64 ra, .int .i64 rb, .int .i64 rc, .int .i64 rd] 32 true, .gen (rdE (A1) g1 o1 n1 1 (ivals .u32 xs1)), .gen (rdE (A2) g2 o2 n2 1 (ivals .u8 xs2))]) rfl rfl [0, 1, 2, 4, 5, 9] (fun _ => rfl) (fun b1 => by kernel_rfl) (fun b1 => by kernel_rfl) (fun b1 => ?_)
  refine cont_done ?_
  refine then_normal ?_
  refine cont_seq ?_
  refine cont_region 6 rfl ?_
  refine bS [0, 0, 0] 3 3 [(4, .int .i64 how_), (5, .slice A2 n2 cap2), (9, .pointer (some ⟨b1, 0, none⟩)), (19, .int .i64 w_), (20, .int .i64 h_), (21, .slice A1 n1 cap1)] ?_
  refine pl_step 4 2 rfl rfl ?_
  refine call_gen (d := 22) (α := Nat × Nat) (fun x_ => .agg #[.int .i64 (1 + aroundI w_ 16), .int .i64 (1 + aroundI h_ 16), .slice (some ⟨x_.1, 0, none⟩) x_.2 x_.2]) (fun x_ => [.gen (rowE (some ⟨x_.1, 0, none⟩) x_.1 x_.2 x_.2 28 1 (ivals .u32 (goodP x_.2 xs1 x_.2)) true), .cells b1 [.int .i64 ra, .int .i64 rb, .int .i64 rc, .int .i64 rd] 32 true, .gen (rdE (A1) g1 o1 n1 1 (ivals .u32 xs1)), .gen (rdE (A2) g2 o2 n2 1 (ivals .u8 xs2))]) (fun x_ => (x_.2 : Int) = (1 + aroundI w_ 16) * (1 + aroundI h_ 16)) (by kernel_rfl) (fun w hT => (refGood4 A1 g1 o1 n1 cap1 xs1 w_ h_ w (hT.viewRo (.cons (i := 1) rfl Vw.rd .nil) rfl) ⟨hw, hh, hl1, hc1, hm1, hx1, hr1.at_⟩).mono fun e w' ⟨r2, n3, he_, hf_, ht_⟩ => ⟨(r2, n3), he_, hf_, hT.news ht_ rfl⟩) ?_
  rintro ⟨r2, n3⟩ hf4_
  replace hf4_ : (n3 : Int) = (1 + aroundI w_ 16) * (1 + aroundI h_ 16) := hf4_
  refine cont_norm [(4, .int .i64 how_), (5, .slice A2 n2 cap2), (9, .pointer (some ⟨b1, 0, none⟩)), (19, .int .i64 w_), (20, .int .i64 h_), (21, .slice A1 n1 cap1), (22, .agg #[.int .i64 (1 + aroundI w_ 16), .int .i64 (1 + aroundI h_ 16), .slice (some ⟨r2, 0, none⟩) n3 n3])] [.gen (rowE (some ⟨r2, 0, none⟩) r2 n3 n3 28 1 (ivals .u32 (goodP n3 xs1 n3)) true), .cells b1 [.int .i64 ra, .int .i64 rb, .int .i64 rc, .int .i64 rd] 32 true, .gen (rdE (A1) g1 o1 n1 1 (ivals .u32 xs1)), .gen (rdE (A2) g2 o2 n2 1 (ivals .u8 xs2))] (by kernel_rfl) rfl ?_
  have hq6_ := aroundI_range w_ (m := 16) (by omega)
  have hq7_ := aroundI_range h_ (m := 16) (by omega)
  have hM5_m : AllMay (goodP n3 xs1 n3) := goodP_may _ hx1
  have hM5_ : ImgOk (1 + aroundI w_ 16) (1 + aroundI h_ 16) n3 (goodP n3 xs1 n3) := imgOk_of (by omega) hf4_ (by simp [goodP_length]) hM5_m
  have hM5_w1 := hM5_.w1
  have hM5_h1 := hM5_.h1
  have hM5_le := hM5_.le
  have hM5_num := hM5_.num
  have hM5_len := hM5_.len
  refine batch1 [0, 0] 6 0 (fun b8 => [(4, .int .i64 how_), (5, .slice A2 n2 cap2), (9, .pointer (some ⟨b1, 0, none⟩)), (13, .pointer (some ⟨b8, 0, none⟩))]) (fun b8 => [.cells b8 [.int .i64 (1 + aroundI w_ 16), .int .i64 (1 + aroundI h_ 16), .slice (some ⟨r2, 0, none⟩) n3 n3] 37 true, .gen (rowE (some ⟨r2, 0, none⟩) r2 n3 n3 28 1 (ivals .u32 (goodP n3 xs1 n3)) true), .cells b1 [.int .i64 ra, .int .i64 rb, .int .i64 rc, .int .i64 rd] 32 true, .gen (rdE (A1) g1 o1 n1 1 (ivals .u32 xs1)), .gen (rdE (A2) g2 o2 n2 1 (ivals .u8 xs2))]) rfl rfl [4, 5, 9, 13] (fun _ => rfl) (fun b8 => by kernel_rfl) (fun b8 => by kernel_rfl) (fun b8 => ?_)
  refine cont_done ?_
  refine then_normal ?_
  refine cont_seq ?_
  refine cont_region 3 rfl ?_
  refine bS [0] 1 2 [(4, .int .i64 how_), (5, .slice A2 n2 cap2), (9, .pointer (some ⟨b1, 0, none⟩)), (13, .pointer (some ⟨b8, 0, none⟩)), (23, .agg #[.int .i64 (1 + aroundI w_ 16), .int .i64 (1 + aroundI h_ 16), .slice (some ⟨r2, 0, none⟩) n3 n3])] ?_
  refine pl_step 2 1 rfl rfl ?_
  refine call_gen (d := 24) (α := Nat × Nat) (fun x_ => .pointer (some ⟨x_.1, 0, none⟩)) (fun x_ => [.cells x_.1 [.int .i64 (1 + aroundI w_ 16), .int .i64 (1 + aroundI h_ 16), .slice (some ⟨x_.2, 0, none⟩) n3 n3] 84 true, .gen (rowE (some ⟨x_.2, 0, none⟩) x_.2 n3 n3 28 1 (ivals .u32 (goodP n3 xs1 n3)) true), .cells b8 [.int .i64 (1 + aroundI w_ 16), .int .i64 (1 + aroundI h_ 16), .slice (some ⟨r2, 0, none⟩) n3 n3] 37 true, .gen (rowE (some ⟨r2, 0, none⟩) r2 n3 n3 28 1 (ivals .u32 (goodP n3 xs1 n3)) true), .cells b1 [.int .i64 ra, .int .i64 rb, .int .i64 rc, .int .i64 rd] 32 true, .gen (rdE (A1) g1 o1 n1 1 (ivals .u32 xs1)), .gen (rdE (A2) g2 o2 n2 1 (ivals .u8 xs2))]) (fun _ => True) (by kernel_rfl) (fun w hT => (bld (1 + aroundI w_ 16) (1 + aroundI h_ 16) r2 n3 n3 (goodP n3 xs1 n3) w (hT.view (.cons (i := 1) rfl Vw.rowRd .nil) (by decide)) hM5_ hM5_m).mono fun e w' ⟨b_, q_, he_, hi_⟩ => ⟨(b_, q_), he_, trivial, hT.addImg hi_⟩) ?_
  rintro ⟨bl9, bq9⟩ -
  refine cont_norm [(4, .int .i64 how_), (5, .slice A2 n2 cap2), (9, .pointer (some ⟨b1, 0, none⟩)), (13, .pointer (some ⟨b8, 0, none⟩)), (23, .agg #[.int .i64 (1 + aroundI w_ 16), .int .i64 (1 + aroundI h_ 16), .slice (some ⟨r2, 0, none⟩) n3 n3]), (24, .pointer (some ⟨bl9, 0, none⟩))] [.cells bl9 [.int .i64 (1 + aroundI w_ 16), .int .i64 (1 + aroundI h_ 16), .slice (some ⟨bq9, 0, none⟩) n3 n3] 84 true, .gen (rowE (some ⟨bq9, 0, none⟩) bq9 n3 n3 28 1 (ivals .u32 (goodP n3 xs1 n3)) true), .cells b8 [.int .i64 (1 + aroundI w_ 16), .int .i64 (1 + aroundI h_ 16), .slice (some ⟨r2, 0, none⟩) n3 n3] 37 true, .gen (rowE (some ⟨r2, 0, none⟩) r2 n3 n3 28 1 (ivals .u32 (goodP n3 xs1 n3)) true), .cells b1 [.int .i64 ra, .int .i64 rb, .int .i64 rc, .int .i64 rd] 32 true, .gen (rdE (A1) g1 o1 n1 1 (ivals .u32 xs1)), .gen (rdE (A2) g2 o2 n2 1 (ivals .u8 xs2))] (by kernel_rfl) rfl ?_
  refine bS [0] 3 0 [(4, .int .i64 how_), (5, .slice A2 n2 cap2), (9, .pointer (some ⟨b1, 0, none⟩)), (13, .pointer (some ⟨b8, 0, none⟩)), (14, .pointer (some ⟨bl9, 0, none⟩))] ?_
  refine cont_done ?_
  refine then_normal ?_
  refine cont_seq ?_
  refine cont_seq ?_
  refine cont_region 2 rfl ?_
  refine bS [0, 0] 2 0 [(4, .int .i64 how_), (5, .slice A2 n2 cap2), (9, .pointer (some ⟨b1, 0, none⟩)), (13, .pointer (some ⟨b8, 0, none⟩)), (14, .pointer (some ⟨bl9, 0, none⟩)), (26, .bool false)] ?_
  refine cont_done ?_
  refine then_normal ?_
  refine cont_false rfl ?_
  refine cont_skip ?_
  refine then_normal ?_
  refine cont_seq ?_
  refine drawn_enter 7 [] rfl (by kernel_rfl) ?_
  refine takes 0 [] [(0, 4), (2, 2)] 5 [2, 0] [(4, .int .i64 how_), (5, .slice A2 n2 cap2), (13, .pointer (some ⟨b8, 0, none⟩)), (14, .pointer (some ⟨bl9, 0, none⟩)), (27, .agg #[.int .i64 ra, .int .i64 rb, .int .i64 rc, .int .i64 rd]), (29, .agg #[.int .i64 (1 + aroundI w_ 16), .int .i64 (1 + aroundI h_ 16), .slice (some ⟨r2, 0, none⟩) n3 n3])] (by kernel_rfl) (pok_then pok_body) (by kernel_rfl) rfl rfl (by kernel_rfl) (by kernel_rfl) ?_
  refine drawn_two 1 5 4 rfl (by kernel_rfl) ?_ ?_
  ·
    refine call_pure (d := 28) (.agg #[.int .i64 (aroundI ra 24 - 4), .int .i64 (aroundI rb 24 - 4), .int .i64 ((aroundI ra 24 - 4) + aroundI rc 13), .int .i64 ((aroundI rb 24 - 4) + aroundI rd 13)]) (by kernel_rfl) (fun w hT => refSmall ra rb rc rd w (by omega) (by omega) (by omega) (by omega)) ?_
    have hq10_ := aroundI_range ra (m := 24) (by omega)
    have hq11_ := aroundI_range rb (m := 24) (by omega)
    have hq12_ := aroundI_range rc (m := 13) (by omega)
    have hq13_ := aroundI_range rd (m := 13) (by omega)
    refine drawn_next 0 [] (by kernel_rfl) ?_
    refine drawn_two 3 5 3 rfl (by kernel_rfl) ?_ ?_
    ·
      refine call_pure (d := 30) (.agg #[.int .i64 0, .int .i64 0, .int .i64 (1 + aroundI w_ 16), .int .i64 (1 + aroundI h_ 16)]) (by kernel_rfl) (fun w hT => refBox (1 + aroundI w_ 16) (1 + aroundI h_ 16) (.slice (some ⟨r2, 0, none⟩) n3 n3) w) ?_
      refine drawn_next 0 [] (by kernel_rfl) ?_
      refine drawn_two 4 5 2 rfl (by kernel_rfl) ?_ ?_
      ·
        refine call_pure (d := 31) (.agg #[.int .i64 ((cutR (aroundI ra 24 - 4) (aroundI rb 24 - 4) ((aroundI ra 24 - 4) + aroundI rc 13) ((aroundI rb 24 - 4) + aroundI rd 13) 0 0 (1 + aroundI w_ 16) (1 + aroundI h_ 16)).x0), .int .i64 ((cutR (aroundI ra 24 - 4) (aroundI rb 24 - 4) ((aroundI ra 24 - 4) + aroundI rc 13) ((aroundI rb 24 - 4) + aroundI rd 13) 0 0 (1 + aroundI w_ 16) (1 + aroundI h_ 16)).y0), .int .i64 ((cutR (aroundI ra 24 - 4) (aroundI rb 24 - 4) ((aroundI ra 24 - 4) + aroundI rc 13) ((aroundI rb 24 - 4) + aroundI rd 13) 0 0 (1 + aroundI w_ 16) (1 + aroundI h_ 16)).x1), .int .i64 ((cutR (aroundI ra 24 - 4) (aroundI rb 24 - 4) ((aroundI ra 24 - 4) + aroundI rc 13) ((aroundI rb 24 - 4) + aroundI rd 13) 0 0 (1 + aroundI w_ 16) (1 + aroundI h_ 16)).y1)]) (by kernel_rfl) (fun w hT => refCut (aroundI ra 24 - 4) (aroundI rb 24 - 4) ((aroundI ra 24 - 4) + aroundI rc 13) ((aroundI rb 24 - 4) + aroundI rd 13) 0 0 (1 + aroundI w_ 16) (1 + aroundI h_ 16) w) ?_
        obtain ⟨R, hR⟩ : ∃ R : Rect, R = (cutR (aroundI ra 24 - 4) (aroundI rb 24 - 4) ((aroundI ra 24 - 4) + aroundI rc 13) ((aroundI rb 24 - 4) + aroundI rd 13) 0 0 (1 + aroundI w_ 16) (1 + aroundI h_ 16)) := ⟨_, rfl⟩
        have hcs := cut_ins hR hM5_w1 hM5_h1
        refine cont_recast 31 (.agg #[.int .i64 ((cutR (aroundI ra 24 - 4) (aroundI rb 24 - 4) ((aroundI ra 24 - 4) + aroundI rc 13) ((aroundI rb 24 - 4) + aroundI rd 13) 0 0 (1 + aroundI w_ 16) (1 + aroundI h_ 16)).x0), .int .i64 ((cutR (aroundI ra 24 - 4) (aroundI rb 24 - 4) ((aroundI ra 24 - 4) + aroundI rc 13) ((aroundI rb 24 - 4) + aroundI rd 13) 0 0 (1 + aroundI w_ 16) (1 + aroundI h_ 16)).y0), .int .i64 ((cutR (aroundI ra 24 - 4) (aroundI rb 24 - 4) ((aroundI ra 24 - 4) + aroundI rc 13) ((aroundI rb 24 - 4) + aroundI rd 13) 0 0 (1 + aroundI w_ 16) (1 + aroundI h_ 16)).x1), .int .i64 ((cutR (aroundI ra 24 - 4) (aroundI rb 24 - 4) ((aroundI ra 24 - 4) + aroundI rc 13) ((aroundI rb 24 - 4) + aroundI rd 13) 0 0 (1 + aroundI w_ 16) (1 + aroundI h_ 16)).y1)]) (.agg #[.int .i64 R.x0, .int .i64 R.y0, .int .i64 R.x1, .int .i64 R.y1]) rfl (by rw [hR]) ?_
        have hWb : (1 + aroundI w_ 16) ≤ 256 := hM5_.w2
        have hHb : (1 + aroundI h_ 16) ≤ 256 := hM5_.h2
        refine drawn_next 0 [] (by kernel_rfl) ?_
        refine drawn_one 5 1 rfl (by kernel_rfl) ?_
        refine one_step1 0 (fun b14 => [(4, .int .i64 how_), (5, .slice A2 n2 cap2), (13, .pointer (some ⟨b8, 0, none⟩)), (14, .pointer (some ⟨bl9, 0, none⟩)), (15, .pointer (some ⟨b14, 0, none⟩)), (31, .agg #[.int .i64 R.x0, .int .i64 R.y0, .int .i64 R.x1, .int .i64 R.y1])]) (fun b14 => [.cells b14 [.int .i64 0, .int .i64 0, .int .i64 0, .int .i64 0] 32 true, .cells bl9 [.int .i64 (1 + aroundI w_ 16), .int .i64 (1 + aroundI h_ 16), .slice (some ⟨bq9, 0, none⟩) n3 n3] 84 true, .gen (rowE (some ⟨bq9, 0, none⟩) bq9 n3 n3 28 1 (ivals .u32 (goodP n3 xs1 n3)) true), .cells b8 [.int .i64 (1 + aroundI w_ 16), .int .i64 (1 + aroundI h_ 16), .slice (some ⟨r2, 0, none⟩) n3 n3] 37 true, .gen (rowE (some ⟨r2, 0, none⟩) r2 n3 n3 28 1 (ivals .u32 (goodP n3 xs1 n3)) true), .cells b1 [.int .i64 ra, .int .i64 rb, .int .i64 rc, .int .i64 rd] 32 true, .gen (rdE (A1) g1 o1 n1 1 (ivals .u32 xs1)), .gen (rdE (A2) g2 o2 n2 1 (ivals .u8 xs2))]) (fun b14 => by kernel_rfl) (fun b14 => by kernel_rfl) (fun b14 => ?_)
        refine drawn_next 1 [] (by kernel_rfl) ?_
        refine drawn_one 6 0 rfl (by kernel_rfl) ?_
        refine one_step 0 [(4, .int .i64 how_), (5, .slice A2 n2 cap2), (13, .pointer (some ⟨b8, 0, none⟩)), (14, .pointer (some ⟨bl9, 0, none⟩)), (15, .pointer (some ⟨b14, 0, none⟩))] [.cells b14 [.int .i64 R.x0, .int .i64 R.y0, .int .i64 R.x1, .int .i64 R.y1] 32 true, .cells bl9 [.int .i64 (1 + aroundI w_ 16), .int .i64 (1 + aroundI h_ 16), .slice (some ⟨bq9, 0, none⟩) n3 n3] 84 true, .gen (rowE (some ⟨bq9, 0, none⟩) bq9 n3 n3 28 1 (ivals .u32 (goodP n3 xs1 n3)) true), .cells b8 [.int .i64 (1 + aroundI w_ 16), .int .i64 (1 + aroundI h_ 16), .slice (some ⟨r2, 0, none⟩) n3 n3] 37 true, .gen (rowE (some ⟨r2, 0, none⟩) r2 n3 n3 28 1 (ivals .u32 (goodP n3 xs1 n3)) true), .cells b1 [.int .i64 ra, .int .i64 rb, .int .i64 rc, .int .i64 rd] 32 true, .gen (rdE (A1) g1 o1 n1 1 (ivals .u32 xs1)), .gen (rdE (A2) g2 o2 n2 1 (ivals .u8 xs2))] (by kernel_rfl) (by kernel_rfl) ?_
        refine drawn_next 1 [] (by kernel_rfl) ?_
        refine drawn_done (by kernel_rfl) ?_
        refine then_normal ?_
        refine cont_seq ?_
        refine cont_region 4 rfl ?_
        refine bS [0] 1 3 [(4, .int .i64 how_), (5, .slice A2 n2 cap2), (13, .pointer (some ⟨b8, 0, none⟩)), (14, .pointer (some ⟨bl9, 0, none⟩)), (15, .pointer (some ⟨b14, 0, none⟩)), (32, .agg #[.int .i64 R.x0, .int .i64 R.y0, .int .i64 R.x1, .int .i64 R.y1])] ?_
        refine cont_forget 5 rfl ?_
        refine pl_step 2 2 rfl rfl ?_
        rcases hcs with ⟨hin, hq1, hq2, hq3, hq4, hq5, hq6⟩ | ⟨hin, hq1, hq2, hq3, hq4⟩
        ·
          refine call_pure (d := 33) (.int .i64 (areaI R.x0 R.y0 R.x1 R.y1)) (by kernel_rfl) (fun w hT => refArea R.x0 R.y0 R.x1 R.y1 w (by omega) (by omega) (by omega) (by omega)) ?_
          obtain ⟨hae, har1, har2⟩ := ins_area hM5_ hin
          obtain ⟨Ar, hAr⟩ : ∃ y_ : Nat, (y_ : Int) = areaI R.x0 R.y0 R.x1 R.y1 := ⟨Int.toNat (areaI R.x0 R.y0 R.x1 R.y1), by omega⟩
          refine cont_recast 33 (.int .i64 (areaI R.x0 R.y0 R.x1 R.y1)) (.int .i64 ((Ar : Nat) : Int)) rfl (congrArg (Value.int .i64) hAr.symm) ?_
          refine bS [0] 3 1 [(4, .int .i64 how_), (5, .slice A2 n2 cap2), (13, .pointer (some ⟨b8, 0, none⟩)), (14, .pointer (some ⟨bl9, 0, none⟩)), (15, .pointer (some ⟨b14, 0, none⟩)), (34, .int .i64 (IntKind.i64.wrap (4 * ((Ar : Nat) : Int))))] ?_
          refine cont_recast 34 (.int .i64 (IntKind.i64.wrap (4 * ((Ar : Nat) : Int)))) (.int .i64 (4 * ((Ar : Nat) : Int))) rfl (wrapI (by omega) (by omega)) ?_
          refine bS [0] 4 0 [(4, .int .i64 how_), (5, .slice A2 n2 cap2), (13, .pointer (some ⟨b8, 0, none⟩)), (14, .pointer (some ⟨bl9, 0, none⟩)), (15, .pointer (some ⟨b14, 0, none⟩)), (16, .int .i64 (4 * ((Ar : Nat) : Int)))] ?_
          refine cont_done ?_
          refine then_normal ?_
          refine cont_seq ?_
          refine cont_seq ?_
          refine cont_region 2 rfl ?_
          obtain ⟨NB, hNB⟩ : ∃ y_ : Nat, (y_ : Int) = 4 * ((Ar : Nat) : Int) := ⟨4 * Ar, by omega⟩
          refine cont_recast 16 (.int .i64 (4 * ((Ar : Nat) : Int))) (.int .i64 ((NB : Nat) : Int)) rfl (congrArg (Value.int .i64) hNB.symm) ?_
          refine bS [0, 0] 2 0 [(4, .int .i64 how_), (5, .slice A2 n2 cap2), (13, .pointer (some ⟨b8, 0, none⟩)), (14, .pointer (some ⟨bl9, 0, none⟩)), (15, .pointer (some ⟨b14, 0, none⟩)), (16, .int .i64 ((NB : Nat) : Int)), (36, .bool (((NB : Nat) : Int) == 0))] ?_
          refine cont_done ?_
          refine then_normal ?_
          refine cont_recast 36 (.bool (((NB : Nat) : Int) == 0)) (.bool false) rfl (congrArg Value.bool (beq_eq_false_iff_ne.2 (by omega))) ?_
          refine cont_false rfl ?_
          refine cont_skip ?_
          refine then_normal ?_
          refine cont_seq ?_
          refine cont_region 3 rfl ?_
          refine bS [0] 1 2 [(4, .int .i64 how_), (13, .pointer (some ⟨b8, 0, none⟩)), (14, .pointer (some ⟨bl9, 0, none⟩)), (15, .pointer (some ⟨b14, 0, none⟩)), (16, .int .i64 ((NB : Nat) : Int)), (50, .int .i64 ((NB : Nat) : Int))] ?_
          refine pl_step 2 1 rfl rfl ?_
          refine sem_stepW 51 (Instr.makeSlice 43 (.int .i64 ((NB : Nat) : Int)) (.int .i64 ((NB : Nat) : Int))) (fun r16 => .slice (some ⟨r16, 0, none⟩) (NB : Nat) (NB : Nat)) (fun r16 => [.gen (rowE (some ⟨r16, 0, none⟩) r16 (NB : Nat) (NB : Nat) 5 1 (ivals .u8 (List.replicate (NB : Nat) 0)) true), .cells b14 [.int .i64 R.x0, .int .i64 R.y0, .int .i64 R.x1, .int .i64 R.y1] 32 true, .cells bl9 [.int .i64 (1 + aroundI w_ 16), .int .i64 (1 + aroundI h_ 16), .slice (some ⟨bq9, 0, none⟩) n3 n3] 84 true, .gen (rowE (some ⟨bq9, 0, none⟩) bq9 n3 n3 28 1 (ivals .u32 (goodP n3 xs1 n3)) true), .cells b8 [.int .i64 (1 + aroundI w_ 16), .int .i64 (1 + aroundI h_ 16), .slice (some ⟨r2, 0, none⟩) n3 n3] 37 true, .gen (rowE (some ⟨r2, 0, none⟩) r2 n3 n3 28 1 (ivals .u32 (goodP n3 xs1 n3)) true), .gen (rdE (A1) g1 o1 n1 1 (ivals .u32 xs1)), .gen (rdE (A2) g2 o2 n2 1 (ivals .u8 xs2))]) (fun _ => True) (by kernel_rfl) (fun w hT => make_row hT (bytes := 1) (NB : Nat) (by kernel_rfl) (by kernel_rfl) (by omega) (by omega)) (fun r16 _ => ?_)
          refine bS [0] 3 0 [(4, .int .i64 how_), (13, .pointer (some ⟨b8, 0, none⟩)), (14, .pointer (some ⟨bl9, 0, none⟩)), (15, .pointer (some ⟨b14, 0, none⟩)), (16, .int .i64 ((NB : Nat) : Int)), (17, .slice (some ⟨r16, 0, none⟩) (NB : Nat) (NB : Nat))] ?_
          refine cont_done ?_
          refine then_normal ?_
          refine cont_seq ?_
          refine cont_region 1 rfl ?_
          refine bS [0] 1 0 [(4, .int .i64 how_), (13, .pointer (some ⟨b8, 0, none⟩)), (14, .pointer (some ⟨bl9, 0, none⟩)), (15, .pointer (some ⟨b14, 0, none⟩)), (16, .int .i64 ((NB : Nat) : Int)), (17, .slice (some ⟨r16, 0, none⟩) (NB : Nat) (NB : Nat)), (18, .int .i64 1)] ?_
          refine cont_done ?_
          refine then_normal ?_
          refine cont_seq ?_
          refine cont_seq ?_
          refine cont_region 2 rfl ?_
          refine bS [0, 0] 2 0 [(13, .pointer (some ⟨b8, 0, none⟩)), (14, .pointer (some ⟨bl9, 0, none⟩)), (15, .pointer (some ⟨b14, 0, none⟩)), (16, .int .i64 ((NB : Nat) : Int)), (17, .slice (some ⟨r16, 0, none⟩) (NB : Nat) (NB : Nat)), (18, .int .i64 1), (53, .int .i64 (how_.tmod 3))] ?_
          refine cont_done ?_
          refine then_normal ?_
          refine cont_block ?_
          refine cont_seq ?_
          refine cont_region 2 rfl ?_
          refine bS [0, 0] 2 0 [(13, .pointer (some ⟨b8, 0, none⟩)), (14, .pointer (some ⟨bl9, 0, none⟩)), (15, .pointer (some ⟨b14, 0, none⟩)), (16, .int .i64 ((NB : Nat) : Int)), (17, .slice (some ⟨r16, 0, none⟩) (NB : Nat) (NB : Nat)), (18, .int .i64 1), (53, .int .i64 (how_.tmod 3)), (58, .bool ((how_.tmod 3) == 0))] ?_
          refine cont_done ?_
          refine then_normal ?_
          refine cont_split 58 ((how_.tmod 3) == 0) rfl (fun c17_ => ?_) (fun c17_ => ?_)
          ·
            replace c17_ := eq_of_beqt c17_
            refine cont_true rfl ?_
            refine cont_seq ?_
            refine cont_region 5 rfl ?_
            refine bS [0, 0, 0] 3 2 [(13, .pointer (some ⟨b8, 0, none⟩)), (14, .pointer (some ⟨bl9, 0, none⟩)), (15, .pointer (some ⟨b14, 0, none⟩)), (60, .slice (some ⟨r16, 0, none⟩) (NB : Nat) (NB : Nat)), (62, .int .i64 (IntKind.i64.wrap (((NB : Nat) : Int) - 1)))] ?_
            refine cont_recast 62 (.int .i64 (IntKind.i64.wrap (((NB : Nat) : Int) - 1))) (.int .i64 (((NB : Nat) : Int) - 1)) rfl (wrapI (by omega) (by omega)) ?_
            refine pl_step 4 1 rfl rfl ?_
            refine sem_step 63 (Instr.sliceAt 43 (.slice (some ⟨r16, 0, none⟩) (NB : Nat) (NB : Nat)) none (some (.int .i64 (((NB : Nat) : Int) - 1))) none) (.slice (some ⟨r16, 0, none⟩) (Int.toNat (((NB : Nat) : Int) - 1)) (NB : Nat)) (by kernel_rfl) (fun w hT => run_sliceHiC (e := 5) (sz := 1) _ (by kernel_rfl) (by kernel_rfl) (by omega) (by omega) (by omega) w) ?_
            refine bS [0] 5 0 [(13, .pointer (some ⟨b8, 0, none⟩)), (14, .pointer (some ⟨bl9, 0, none⟩)), (15, .pointer (some ⟨b14, 0, none⟩)), (17, .slice (some ⟨r16, 0, none⟩) (Int.toNat (((NB : Nat) : Int) - 1)) (NB : Nat))] ?_
            refine cont_done ?_
            refine then_normal ?_
            refine cont_region 1 rfl ?_
            refine bS [0] 1 0 [(13, .pointer (some ⟨b8, 0, none⟩)), (14, .pointer (some ⟨bl9, 0, none⟩)), (15, .pointer (some ⟨b14, 0, none⟩)), (17, .slice (some ⟨r16, 0, none⟩) (Int.toNat (((NB : Nat) : Int) - 1)) (NB : Nat)), (18, .int .i64 3)] ?_
            refine cont_done ?_
            refine blk_normal ?_
            refine then_normal ?_
            refine cont_seq ?_
            refine cont_region 15 rfl ?_
            refine bS [0, 1, 0] 3 12 [(13, .pointer (some ⟨b8, 0, none⟩)), (14, .pointer (some ⟨bl9, 0, none⟩)), (18, .int .i64 3), (69, .pointer (some ⟨bl9, 0, none⟩)), (70, .agg #[.int .i64 R.x0, .int .i64 R.y0, .int .i64 R.x1, .int .i64 R.y1]), (71, .slice (some ⟨r16, 0, none⟩) (Int.toNat (((NB : Nat) : Int) - 1)) (NB : Nat))] ?_
            refine cont_forget 1 rfl ?_
            refine pl_step 4 11 rfl rfl ?_
            refine call_gen (d := 72) (α := Unit) (fun _ => .int .i64 (wrE (1 + aroundI w_ 16) (1 + aroundI h_ 16) R.x0 R.y0 R.x1 R.y1 ((List.replicate (NB : Nat) 0).take (Int.toNat (((NB : Nat) : Int) - 1))))) (fun _ => [.gen (rowE (some ⟨r16, 0, none⟩) r16 (NB : Nat) (NB : Nat) 5 1 (ivals .u8 (List.replicate (NB : Nat) 0)) true), .cells bl9 [.int .i64 (1 + aroundI w_ 16), .int .i64 (1 + aroundI h_ 16), .slice (some ⟨bq9, 0, none⟩) n3 n3] 84 true, .gen (rowE (some ⟨bq9, 0, none⟩) bq9 n3 n3 28 1 (ivals .u32 (wrA (1 + aroundI w_ 16) (1 + aroundI h_ 16) (goodP n3 xs1 n3) R.x0 R.y0 R.x1 R.y1 ((List.replicate (NB : Nat) 0).take (Int.toNat (((NB : Nat) : Int) - 1))))) true), .cells b8 [.int .i64 (1 + aroundI w_ 16), .int .i64 (1 + aroundI h_ 16), .slice (some ⟨r2, 0, none⟩) n3 n3] 37 true, .gen (rowE (some ⟨r2, 0, none⟩) r2 n3 n3 28 1 (ivals .u32 (goodP n3 xs1 n3)) true), .gen (rdE (A1) g1 o1 n1 1 (ivals .u32 xs1)), .gen (rdE (A2) g2 o2 n2 1 (ivals .u8 xs2))]) (fun _ => True) (by kernel_rfl) (fun w hT => (imgWrite bl9 (1 + aroundI w_ 16) (1 + aroundI h_ 16) bq9 n3 n3 (goodP n3 xs1 n3) R.x0 R.y0 R.x1 R.y1 (some ⟨r16, 0, none⟩) r16 0 (Int.toNat (((NB : Nat) : Int) - 1)) (NB : Nat) ((List.replicate (NB : Nat) 0).take (Int.toNat (((NB : Nat) : Int) - 1))) w (hT.view (.cons (i := 1) rfl Vw.roc (.cons (i := 2) rfl Vw.row (.cons (i := 0) rfl (Vw.rowHeadN (by omega)) .nil))) (by decide)) hM5_ (Row.capLe (hT.ok 2 _ rfl)) (by omega) (rep_byte _ _)).mono fun e w' ⟨he_, ht_⟩ => ⟨(), he_, trivial, hT.merge (N := []) (s := [1, 2]) ht_ (.skip rfl (.cons (i := 2) rfl Mg.row .nil)) (by decide) (fun i e h => by simp at h)⟩) (fun _ _ => ?_)
            have hE_ := show wrE (1 + aroundI w_ 16) (1 + aroundI h_ 16) R.x0 R.y0 R.x1 R.y1 ((List.replicate (NB : Nat) 0).take (Int.toNat (((NB : Nat) : Int) - 1))) = 3 from (wrE_short hin (by rw [List.length_take, List.length_replicate]; omega))
            refine cont_recast 72 (.int .i64 (wrE (1 + aroundI w_ 16) (1 + aroundI h_ 16) R.x0 R.y0 R.x1 R.y1 ((List.replicate (NB : Nat) 0).take (Int.toNat (((NB : Nat) : Int) - 1))))) (.int .i64 3) rfl (congrArg (Value.int .i64) hE_) ?_
            refine bS [0, 0, 0, 0, 3] 9 6 [(75, .bool true), (76, .pointer (some ⟨bl9, 0, none⟩)), (77, .agg #[.int .i64 (1 + aroundI w_ 16), .int .i64 (1 + aroundI h_ 16), .slice (some ⟨r2, 0, none⟩) n3 n3])] ?_
            refine cont_forget 3 rfl ?_
            refine pl_step 10 5 rfl rfl ?_
            refine cont_rowEq (k := .u32) 2 (wrA (1 + aroundI w_ 16) (1 + aroundI h_ 16) (goodP n3 xs1 n3) R.x0 R.y0 R.x1 R.y1 ((List.replicate (NB : Nat) 0).take (Int.toNat (((NB : Nat) : Int) - 1)))) (goodP n3 xs1 n3) rfl (wrA_no (by rw [hE_]; decide)) ?_
            refine call_pure (d := 78) (.bool true) (by kernel_rfl) (fun w hT => likeT bl9 (1 + aroundI w_ 16) (1 + aroundI h_ 16) bq9 n3 n3 (goodP n3 xs1 n3) r2 n3 n3 w (hT.viewRo (.cons (i := 1) rfl Vw.roc (.cons (i := 2) rfl Vw.rowRd (.cons (i := 3) rfl Vw.rowRd .nil))) rfl) hM5_ (Row.capLe (hT.ok 2 _ rfl))) ?_
            refine bS [0, 0] 12 3 [(80, .bool true)] ?_
            refine cont_forget 1 rfl ?_
            refine pl_step 13 2 rfl rfl ?_
            refine call_pure (d := 81) (.bool true) (by kernel_rfl) (fun w hT => lives4  w) ?_
            refine bS [0, 0] 15 0 [(12, .bool true)] ?_
            refine cont_done ?_
            refine then_normal ?_
            refine cont_ret ?_
            refine ret_one (.inl rfl) rfl 0 (.bool true) (by kernel_rfl) (by kernel_rfl) (fun w hT => ?_)
            exact ⟨rfl, hT.post rfl⟩
          replace c17_ := ne_of_beqf c17_
          refine cont_false rfl ?_
          refine cont_seq ?_
          refine cont_region 2 rfl ?_
          refine bS [0, 0] 2 0 [(13, .pointer (some ⟨b8, 0, none⟩)), (14, .pointer (some ⟨bl9, 0, none⟩)), (15, .pointer (some ⟨b14, 0, none⟩)), (16, .int .i64 ((NB : Nat) : Int)), (17, .slice (some ⟨r16, 0, none⟩) (NB : Nat) (NB : Nat)), (18, .int .i64 1), (64, .bool ((how_.tmod 3) == 1))] ?_
          refine cont_done ?_
          refine then_normal ?_
          refine cont_split 64 ((how_.tmod 3) == 1) rfl (fun c18_ => ?_) (fun c18_ => ?_)
          ·
            replace c18_ := eq_of_beqt c18_
            refine cont_true rfl ?_
            refine cont_seq ?_
            refine cont_region 4 rfl ?_
            refine batch1 [0, 0] 2 2 (fun b19 => [(13, .pointer (some ⟨b8, 0, none⟩)), (14, .pointer (some ⟨bl9, 0, none⟩)), (15, .pointer (some ⟨b14, 0, none⟩)), (66, .slice (some ⟨r16, 0, none⟩) (NB : Nat) (NB : Nat)), (67, .slice (some ⟨b19, 0, none⟩) 1 1)]) (fun b19 => [.cells b19 [.int .u8 0] 5 true, .gen (rowE (some ⟨r16, 0, none⟩) r16 (NB : Nat) (NB : Nat) 5 1 (ivals .u8 (List.replicate (NB : Nat) 0)) true), .cells b14 [.int .i64 R.x0, .int .i64 R.y0, .int .i64 R.x1, .int .i64 R.y1] 32 true, .cells bl9 [.int .i64 (1 + aroundI w_ 16), .int .i64 (1 + aroundI h_ 16), .slice (some ⟨bq9, 0, none⟩) n3 n3] 84 true, .gen (rowE (some ⟨bq9, 0, none⟩) bq9 n3 n3 28 1 (ivals .u32 (goodP n3 xs1 n3)) true), .cells b8 [.int .i64 (1 + aroundI w_ 16), .int .i64 (1 + aroundI h_ 16), .slice (some ⟨r2, 0, none⟩) n3 n3] 37 true, .gen (rowE (some ⟨r2, 0, none⟩) r2 n3 n3 28 1 (ivals .u32 (goodP n3 xs1 n3)) true), .gen (rdE (A1) g1 o1 n1 1 (ivals .u32 xs1)), .gen (rdE (A2) g2 o2 n2 1 (ivals .u8 xs2))]) rfl rfl [13, 14, 15, 66, 67] (fun _ => rfl) (fun b19 => by kernel_rfl) (fun b19 => by kernel_rfl) (fun b19 => ?_)
            refine pl_step 3 1 rfl rfl ?_
            refine sem_stepW (α := Option Addr × Nat × Nat) 68 (Builtin.append_ #[43, 43] 43 #[.slice (some ⟨r16, 0, none⟩) (NB : Nat) (NB : Nat), .slice (some ⟨b19, 0, none⟩) 1 1]) (fun x_ => .slice x_.1 ((NB : Nat) + 1) x_.2.2) (fun x_ => [.cells b19 [.int .u8 0] 5 true, .gen (rowE (x_.1) x_.2.1 ((NB : Nat) + 1) x_.2.2 5 1 (ivals .u8 ((List.replicate (NB : Nat) 0) ++ [0])) true), .cells b14 [.int .i64 R.x0, .int .i64 R.y0, .int .i64 R.x1, .int .i64 R.y1] 32 true, .cells bl9 [.int .i64 (1 + aroundI w_ 16), .int .i64 (1 + aroundI h_ 16), .slice (some ⟨bq9, 0, none⟩) n3 n3] 84 true, .gen (rowE (some ⟨bq9, 0, none⟩) bq9 n3 n3 28 1 (ivals .u32 (goodP n3 xs1 n3)) true), .cells b8 [.int .i64 (1 + aroundI w_ 16), .int .i64 (1 + aroundI h_ 16), .slice (some ⟨r2, 0, none⟩) n3 n3] 37 true, .gen (rowE (some ⟨r2, 0, none⟩) r2 n3 n3 28 1 (ivals .u32 (goodP n3 xs1 n3)) true), .gen (rdE (A1) g1 o1 n1 1 (ivals .u32 xs1)), .gen (rdE (A2) g2 o2 n2 1 (ivals .u8 xs2))]) (fun _ => True) (by kernel_rfl) (fun w hT => append_own (n' := ((NB : Nat) + 1)) (z := .int .u8 0) hT (i := 1) (bytes := 1) rfl (by kernel_rfl) (by kernel_rfl) rfl (by decide) (by decide) (Rd.ofCells (vals := ivals .u8 [0]) (hT.ok 0 _ rfl) rfl rfl) (ivals_one .u8 [0]) (by omega) (ivals_append .u8 (List.replicate (NB : Nat) 0) [0]) rfl) ?_
            rintro ⟨A20, g20, cp20⟩ -
            refine cont_norm [(13, .pointer (some ⟨b8, 0, none⟩)), (14, .pointer (some ⟨bl9, 0, none⟩)), (15, .pointer (some ⟨b14, 0, none⟩)), (66, .slice (some ⟨r16, 0, none⟩) (NB : Nat) (NB : Nat)), (67, .slice (some ⟨b19, 0, none⟩) 1 1), (68, .slice A20 ((NB : Nat) + 1) cp20)] [.cells b19 [.int .u8 0] 5 true, .gen (rowE (A20) g20 ((NB : Nat) + 1) cp20 5 1 (ivals .u8 ((List.replicate (NB : Nat) 0) ++ [0])) true), .cells b14 [.int .i64 R.x0, .int .i64 R.y0, .int .i64 R.x1, .int .i64 R.y1] 32 true, .cells bl9 [.int .i64 (1 + aroundI w_ 16), .int .i64 (1 + aroundI h_ 16), .slice (some ⟨bq9, 0, none⟩) n3 n3] 84 true, .gen (rowE (some ⟨bq9, 0, none⟩) bq9 n3 n3 28 1 (ivals .u32 (goodP n3 xs1 n3)) true), .cells b8 [.int .i64 (1 + aroundI w_ 16), .int .i64 (1 + aroundI h_ 16), .slice (some ⟨r2, 0, none⟩) n3 n3] 37 true, .gen (rowE (some ⟨r2, 0, none⟩) r2 n3 n3 28 1 (ivals .u32 (goodP n3 xs1 n3)) true), .gen (rdE (A1) g1 o1 n1 1 (ivals .u32 xs1)), .gen (rdE (A2) g2 o2 n2 1 (ivals .u8 xs2))] (by kernel_rfl) rfl ?_
            refine cont_fact (F := (0 < ((NB : Nat) + 1) → (A20 : Option Addr) = some ⟨g20, 0, none⟩) ∧ (((List.replicate (NB : Nat) 0) ++ [0]) : List Int).length = ((NB : Nat) + 1) ∧ ((NB : Nat) + 1) ≤ cp20 ∧ cp20 ≤ maxLen) (fun w hT => Row.facts (hT.ok 1 _ rfl)) (fun hr21_ => ?_)
            obtain ⟨hr21_a, hr21_l, hr21_c, hr21_m⟩ := hr21_
            unfold maxLen at hr21_m
            refine bS [0] 4 0 [(13, .pointer (some ⟨b8, 0, none⟩)), (14, .pointer (some ⟨bl9, 0, none⟩)), (15, .pointer (some ⟨b14, 0, none⟩)), (17, .slice A20 ((NB : Nat) + 1) cp20)] ?_
            refine cont_forget 0 rfl ?_
            refine cont_done ?_
            refine then_normal ?_
            refine cont_region 1 rfl ?_
            refine bS [0] 1 0 [(13, .pointer (some ⟨b8, 0, none⟩)), (14, .pointer (some ⟨bl9, 0, none⟩)), (15, .pointer (some ⟨b14, 0, none⟩)), (17, .slice A20 ((NB : Nat) + 1) cp20), (18, .int .i64 2)] ?_
            refine cont_done ?_
            refine blk_normal ?_
            refine then_normal ?_
            refine cont_seq ?_
            refine cont_region 15 rfl ?_
            refine bS [0, 1, 0] 3 12 [(13, .pointer (some ⟨b8, 0, none⟩)), (14, .pointer (some ⟨bl9, 0, none⟩)), (18, .int .i64 2), (69, .pointer (some ⟨bl9, 0, none⟩)), (70, .agg #[.int .i64 R.x0, .int .i64 R.y0, .int .i64 R.x1, .int .i64 R.y1]), (71, .slice A20 ((NB : Nat) + 1) cp20)] ?_
            refine cont_forget 1 rfl ?_
            refine pl_step 4 11 rfl rfl ?_
            refine call_gen (d := 72) (α := Unit) (fun _ => .int .i64 (wrE (1 + aroundI w_ 16) (1 + aroundI h_ 16) R.x0 R.y0 R.x1 R.y1 ((List.replicate (NB : Nat) 0) ++ [0]))) (fun _ => [.gen (rowE (A20) g20 ((NB : Nat) + 1) cp20 5 1 (ivals .u8 ((List.replicate (NB : Nat) 0) ++ [0])) true), .cells bl9 [.int .i64 (1 + aroundI w_ 16), .int .i64 (1 + aroundI h_ 16), .slice (some ⟨bq9, 0, none⟩) n3 n3] 84 true, .gen (rowE (some ⟨bq9, 0, none⟩) bq9 n3 n3 28 1 (ivals .u32 (wrA (1 + aroundI w_ 16) (1 + aroundI h_ 16) (goodP n3 xs1 n3) R.x0 R.y0 R.x1 R.y1 ((List.replicate (NB : Nat) 0) ++ [0]))) true), .cells b8 [.int .i64 (1 + aroundI w_ 16), .int .i64 (1 + aroundI h_ 16), .slice (some ⟨r2, 0, none⟩) n3 n3] 37 true, .gen (rowE (some ⟨r2, 0, none⟩) r2 n3 n3 28 1 (ivals .u32 (goodP n3 xs1 n3)) true), .gen (rdE (A1) g1 o1 n1 1 (ivals .u32 xs1)), .gen (rdE (A2) g2 o2 n2 1 (ivals .u8 xs2))]) (fun _ => True) (by kernel_rfl) (fun w hT => (imgWrite bl9 (1 + aroundI w_ 16) (1 + aroundI h_ 16) bq9 n3 n3 (goodP n3 xs1 n3) R.x0 R.y0 R.x1 R.y1 A20 g20 0 ((NB : Nat) + 1) cp20 ((List.replicate (NB : Nat) 0) ++ [0]) w (hT.view (.cons (i := 1) rfl Vw.roc (.cons (i := 2) rfl Vw.row (.cons (i := 0) rfl Vw.rowRd .nil))) (by decide)) hM5_ (Row.capLe (hT.ok 2 _ rfl)) (by omega) (rep_byte1 _)).mono fun e w' ⟨he_, ht_⟩ => ⟨(), he_, trivial, hT.merge (N := []) (s := [1, 2]) ht_ (.skip rfl (.cons (i := 2) rfl Mg.row .nil)) (by decide) (fun i e h => by simp at h)⟩) (fun _ _ => ?_)
            have hE_ := show wrE (1 + aroundI w_ 16) (1 + aroundI h_ 16) R.x0 R.y0 R.x1 R.y1 ((List.replicate (NB : Nat) 0) ++ [0]) = 2 from (wrE_long hin (by rw [List.length_append, List.length_replicate, List.length_singleton]; omega))
            refine cont_recast 72 (.int .i64 (wrE (1 + aroundI w_ 16) (1 + aroundI h_ 16) R.x0 R.y0 R.x1 R.y1 ((List.replicate (NB : Nat) 0) ++ [0]))) (.int .i64 2) rfl (congrArg (Value.int .i64) hE_) ?_
            refine bS [0, 0, 0, 0, 3] 9 6 [(75, .bool true), (76, .pointer (some ⟨bl9, 0, none⟩)), (77, .agg #[.int .i64 (1 + aroundI w_ 16), .int .i64 (1 + aroundI h_ 16), .slice (some ⟨r2, 0, none⟩) n3 n3])] ?_
            refine cont_forget 3 rfl ?_
            refine pl_step 10 5 rfl rfl ?_
            refine cont_rowEq (k := .u32) 2 (wrA (1 + aroundI w_ 16) (1 + aroundI h_ 16) (goodP n3 xs1 n3) R.x0 R.y0 R.x1 R.y1 ((List.replicate (NB : Nat) 0) ++ [0])) (goodP n3 xs1 n3) rfl (wrA_no (by rw [hE_]; decide)) ?_
            refine call_pure (d := 78) (.bool true) (by kernel_rfl) (fun w hT => likeT bl9 (1 + aroundI w_ 16) (1 + aroundI h_ 16) bq9 n3 n3 (goodP n3 xs1 n3) r2 n3 n3 w (hT.viewRo (.cons (i := 1) rfl Vw.roc (.cons (i := 2) rfl Vw.rowRd (.cons (i := 3) rfl Vw.rowRd .nil))) rfl) hM5_ (Row.capLe (hT.ok 2 _ rfl))) ?_
            refine bS [0, 0] 12 3 [(80, .bool true)] ?_
            refine cont_forget 1 rfl ?_
            refine pl_step 13 2 rfl rfl ?_
            refine call_pure (d := 81) (.bool true) (by kernel_rfl) (fun w hT => lives4  w) ?_
            refine bS [0, 0] 15 0 [(12, .bool true)] ?_
            refine cont_done ?_
            refine then_normal ?_
            refine cont_ret ?_
            refine ret_one (.inl rfl) rfl 0 (.bool true) (by kernel_rfl) (by kernel_rfl) (fun w hT => ?_)
            exact ⟨rfl, hT.post rfl⟩
          replace c18_ := ne_of_beqf c18_
          refine cont_false rfl ?_
          refine cont_region 5 rfl ?_
          refine bS [0, 0, 0] 3 2 [(13, .pointer (some ⟨b8, 0, none⟩)), (14, .pointer (some ⟨bl9, 0, none⟩)), (15, .pointer (some ⟨b14, 0, none⟩)), (17, .slice (some ⟨r16, 0, none⟩) (NB : Nat) (NB : Nat)), (18, .int .i64 1), (54, .slice (some ⟨r16, 0, none⟩) (NB : Nat) (NB : Nat)), (56, .int .i64 (IntKind.i64.wrap (((NB : Nat) : Int) - 1)))] ?_
          refine cont_recast 56 (.int .i64 (IntKind.i64.wrap (((NB : Nat) : Int) - 1))) (.int .i64 (((NB : Nat) : Int) - 1)) rfl (wrapI (by omega) (by omega)) ?_
          refine pl_step 4 1 rfl rfl ?_
          refine sem_step 57 (Instr.indexAt 43 (.slice (some ⟨r16, 0, none⟩) (NB : Nat) (NB : Nat)) (.int .i64 (((NB : Nat) : Int) - 1))) (.pointer (some ⟨r16, Int.toNat (((NB : Nat) : Int) - 1), none⟩)) (by kernel_rfl) (fun w hT => run_indexAt (e := 5) (sz := 1) _ (by kernel_rfl) (by kernel_rfl) (by omega) (by omega) (by omega) w) ?_
          refine pl_step 5 0 rfl rfl ?_
          refine sem_stepU (Instr.storeAt 5 (.pointer (some ⟨r16, Int.toNat (((NB : Nat) : Int) - 1), none⟩)) (.int .u8 1)) (fun _ => [.gen (rowE (some ⟨r16, 0, none⟩) r16 (NB : Nat) (NB : Nat) 5 1 (ivals .u8 ((List.replicate (NB : Nat) 0).set (Int.toNat (((NB : Nat) : Int) - 1)) 1)) true), .cells b14 [.int .i64 R.x0, .int .i64 R.y0, .int .i64 R.x1, .int .i64 R.y1] 32 true, .cells bl9 [.int .i64 (1 + aroundI w_ 16), .int .i64 (1 + aroundI h_ 16), .slice (some ⟨bq9, 0, none⟩) n3 n3] 84 true, .gen (rowE (some ⟨bq9, 0, none⟩) bq9 n3 n3 28 1 (ivals .u32 (goodP n3 xs1 n3)) true), .cells b8 [.int .i64 (1 + aroundI w_ 16), .int .i64 (1 + aroundI h_ 16), .slice (some ⟨r2, 0, none⟩) n3 n3] 37 true, .gen (rowE (some ⟨r2, 0, none⟩) r2 n3 n3 28 1 (ivals .u32 (goodP n3 xs1 n3)) true), .gen (rdE (A1) g1 o1 n1 1 (ivals .u32 xs1)), .gen (rdE (A2) g2 o2 n2 1 (ivals .u8 xs2))]) (fun _ => True) (by kernel_rfl) (fun w hT => store_row hT (i := 0) rfl (by kernel_rfl) (by simp only [List.length_replicate]; omega)) (fun _ _ => ?_)
          refine cont_done ?_
          refine blk_normal ?_
          refine then_normal ?_
          refine cont_seq ?_
          refine cont_region 15 rfl ?_
          refine bS [0, 1, 0] 3 12 [(13, .pointer (some ⟨b8, 0, none⟩)), (14, .pointer (some ⟨bl9, 0, none⟩)), (18, .int .i64 1), (69, .pointer (some ⟨bl9, 0, none⟩)), (70, .agg #[.int .i64 R.x0, .int .i64 R.y0, .int .i64 R.x1, .int .i64 R.y1]), (71, .slice (some ⟨r16, 0, none⟩) (NB : Nat) (NB : Nat))] ?_
          refine cont_forget 1 rfl ?_
          refine pl_step 4 11 rfl rfl ?_
          refine call_gen (d := 72) (α := Unit) (fun _ => .int .i64 (wrE (1 + aroundI w_ 16) (1 + aroundI h_ 16) R.x0 R.y0 R.x1 R.y1 ((List.replicate (NB : Nat) 0).set (Int.toNat (((NB : Nat) : Int) - 1)) 1))) (fun _ => [.gen (rowE (some ⟨r16, 0, none⟩) r16 (NB : Nat) (NB : Nat) 5 1 (ivals .u8 ((List.replicate (NB : Nat) 0).set (Int.toNat (((NB : Nat) : Int) - 1)) 1)) true), .cells bl9 [.int .i64 (1 + aroundI w_ 16), .int .i64 (1 + aroundI h_ 16), .slice (some ⟨bq9, 0, none⟩) n3 n3] 84 true, .gen (rowE (some ⟨bq9, 0, none⟩) bq9 n3 n3 28 1 (ivals .u32 (wrA (1 + aroundI w_ 16) (1 + aroundI h_ 16) (goodP n3 xs1 n3) R.x0 R.y0 R.x1 R.y1 ((List.replicate (NB : Nat) 0).set (Int.toNat (((NB : Nat) : Int) - 1)) 1))) true), .cells b8 [.int .i64 (1 + aroundI w_ 16), .int .i64 (1 + aroundI h_ 16), .slice (some ⟨r2, 0, none⟩) n3 n3] 37 true, .gen (rowE (some ⟨r2, 0, none⟩) r2 n3 n3 28 1 (ivals .u32 (goodP n3 xs1 n3)) true), .gen (rdE (A1) g1 o1 n1 1 (ivals .u32 xs1)), .gen (rdE (A2) g2 o2 n2 1 (ivals .u8 xs2))]) (fun _ => True) (by kernel_rfl) (fun w hT => (imgWrite bl9 (1 + aroundI w_ 16) (1 + aroundI h_ 16) bq9 n3 n3 (goodP n3 xs1 n3) R.x0 R.y0 R.x1 R.y1 (some ⟨r16, 0, none⟩) r16 0 (NB : Nat) (NB : Nat) ((List.replicate (NB : Nat) 0).set (Int.toNat (((NB : Nat) : Int) - 1)) 1) w (hT.view (.cons (i := 1) rfl Vw.roc (.cons (i := 2) rfl Vw.row (.cons (i := 0) rfl Vw.rowRd .nil))) (by decide)) hM5_ (Row.capLe (hT.ok 2 _ rfl)) (by omega) (rep_byte2 _ _)).mono fun e w' ⟨he_, ht_⟩ => ⟨(), he_, trivial, hT.merge (N := []) (s := [1, 2]) ht_ (.skip rfl (.cons (i := 2) rfl Mg.row .nil)) (by decide) (fun i e h => by simp at h)⟩) (fun _ _ => ?_)
          have hE_ := show wrE (1 + aroundI w_ 16) (1 + aroundI h_ 16) R.x0 R.y0 R.x1 R.y1 ((List.replicate (NB : Nat) 0).set (Int.toNat (((NB : Nat) : Int) - 1)) 1) = 1 from (wrE_bad hin (by rw [List.length_set, List.length_replicate]; omega) (N := Ar) (by rw [List.length_set, List.length_replicate]; omega) (k := Ar - 1) (by omega) (bad_last (by omega) (by omega) (by omega)))
          refine cont_recast 72 (.int .i64 (wrE (1 + aroundI w_ 16) (1 + aroundI h_ 16) R.x0 R.y0 R.x1 R.y1 ((List.replicate (NB : Nat) 0).set (Int.toNat (((NB : Nat) : Int) - 1)) 1))) (.int .i64 1) rfl (congrArg (Value.int .i64) hE_) ?_
          refine bS [0, 0, 0, 0, 3] 9 6 [(75, .bool true), (76, .pointer (some ⟨bl9, 0, none⟩)), (77, .agg #[.int .i64 (1 + aroundI w_ 16), .int .i64 (1 + aroundI h_ 16), .slice (some ⟨r2, 0, none⟩) n3 n3])] ?_
          refine cont_forget 3 rfl ?_
          refine pl_step 10 5 rfl rfl ?_
          refine cont_rowEq (k := .u32) 2 (wrA (1 + aroundI w_ 16) (1 + aroundI h_ 16) (goodP n3 xs1 n3) R.x0 R.y0 R.x1 R.y1 ((List.replicate (NB : Nat) 0).set (Int.toNat (((NB : Nat) : Int) - 1)) 1)) (goodP n3 xs1 n3) rfl (wrA_no (by rw [hE_]; decide)) ?_
          refine call_pure (d := 78) (.bool true) (by kernel_rfl) (fun w hT => likeT bl9 (1 + aroundI w_ 16) (1 + aroundI h_ 16) bq9 n3 n3 (goodP n3 xs1 n3) r2 n3 n3 w (hT.viewRo (.cons (i := 1) rfl Vw.roc (.cons (i := 2) rfl Vw.rowRd (.cons (i := 3) rfl Vw.rowRd .nil))) rfl) hM5_ (Row.capLe (hT.ok 2 _ rfl))) ?_
          refine bS [0, 0] 12 3 [(80, .bool true)] ?_
          refine cont_forget 1 rfl ?_
          refine pl_step 13 2 rfl rfl ?_
          refine call_pure (d := 81) (.bool true) (by kernel_rfl) (fun w hT => lives4  w) ?_
          refine bS [0, 0] 15 0 [(12, .bool true)] ?_
          refine cont_done ?_
          refine then_normal ?_
          refine cont_ret ?_
          refine ret_one (.inl rfl) rfl 0 (.bool true) (by kernel_rfl) (by kernel_rfl) (fun w hT => ?_)
          exact ⟨rfl, hT.post rfl⟩
        ·
          refine call_pure (d := 33) (.int .i64 (areaI R.x0 R.y0 R.x1 R.y1)) (by kernel_rfl) (fun w hT => refArea R.x0 R.y0 R.x1 R.y1 w (by omega) (by omega) (by omega) (by omega)) ?_
          refine cont_recast 33 (.int .i64 (areaI R.x0 R.y0 R.x1 R.y1)) (.int .i64 0) rfl (congrArg (Value.int .i64) (by rw [hq1, hq2, hq3, hq4]; decide)) ?_
          refine bS [0, 0] 4 0 [(4, .int .i64 how_), (5, .slice A2 n2 cap2), (13, .pointer (some ⟨b8, 0, none⟩)), (14, .pointer (some ⟨bl9, 0, none⟩)), (15, .pointer (some ⟨b14, 0, none⟩)), (16, .int .i64 0)] ?_
          refine cont_done ?_
          refine then_normal ?_
          refine cont_seq ?_
          refine cont_seq ?_
          refine cont_region 2 rfl ?_
          refine bS [0, 0] 2 0 [(4, .int .i64 how_), (5, .slice A2 n2 cap2), (13, .pointer (some ⟨b8, 0, none⟩)), (14, .pointer (some ⟨bl9, 0, none⟩)), (15, .pointer (some ⟨b14, 0, none⟩)), (16, .int .i64 0), (36, .bool true)] ?_
          refine cont_done ?_
          refine then_normal ?_
          refine cont_true rfl ?_
          refine cont_seq ?_
          refine cont_region 14 rfl ?_
          refine bS [0, 0, 0] 3 11 [(13, .pointer (some ⟨b8, 0, none⟩)), (14, .pointer (some ⟨bl9, 0, none⟩)), (37, .pointer (some ⟨bl9, 0, none⟩)), (38, .agg #[.int .i64 R.x0, .int .i64 R.y0, .int .i64 R.x1, .int .i64 R.y1]), (39, .slice A2 n2 cap2)] ?_
          refine cont_forget 0 rfl ?_
          refine pl_step 4 10 rfl rfl ?_
          refine call_gen (d := 40) (α := Unit) (fun _ => .int .i64 (wrE (1 + aroundI w_ 16) (1 + aroundI h_ 16) R.x0 R.y0 R.x1 R.y1 xs2)) (fun _ => [.cells bl9 [.int .i64 (1 + aroundI w_ 16), .int .i64 (1 + aroundI h_ 16), .slice (some ⟨bq9, 0, none⟩) n3 n3] 84 true, .gen (rowE (some ⟨bq9, 0, none⟩) bq9 n3 n3 28 1 (ivals .u32 (wrA (1 + aroundI w_ 16) (1 + aroundI h_ 16) (goodP n3 xs1 n3) R.x0 R.y0 R.x1 R.y1 xs2)) true), .cells b8 [.int .i64 (1 + aroundI w_ 16), .int .i64 (1 + aroundI h_ 16), .slice (some ⟨r2, 0, none⟩) n3 n3] 37 true, .gen (rowE (some ⟨r2, 0, none⟩) r2 n3 n3 28 1 (ivals .u32 (goodP n3 xs1 n3)) true), .gen (rdE (A1) g1 o1 n1 1 (ivals .u32 xs1)), .gen (rdE (A2) g2 o2 n2 1 (ivals .u8 xs2))]) (fun _ => True) (by kernel_rfl) (fun w hT => (imgWrite bl9 (1 + aroundI w_ 16) (1 + aroundI h_ 16) bq9 n3 n3 (goodP n3 xs1 n3) R.x0 R.y0 R.x1 R.y1 A2 g2 o2 n2 cap2 xs2 w (hT.view (.cons (i := 0) rfl Vw.roc (.cons (i := 1) rfl Vw.row (.cons (i := 5) rfl Vw.rd .nil))) (by decide)) hM5_ (Row.capLe (hT.ok 1 _ rfl)) (by omega) hx2).mono fun e w' ⟨he_, ht_⟩ => ⟨(), he_, trivial, hT.merge (N := []) (s := [0, 1]) ht_ (.skip rfl (.cons (i := 1) rfl Mg.row .nil)) (by decide) (fun i e h => by simp at h)⟩) (fun _ _ => ?_)
          have hE_ := (wrE_ins hin : wrE (1 + aroundI w_ 16) (1 + aroundI h_ 16) R.x0 R.y0 R.x1 R.y1 xs2 = 4)
          refine cont_recast 40 (.int .i64 (wrE (1 + aroundI w_ 16) (1 + aroundI h_ 16) R.x0 R.y0 R.x1 R.y1 xs2)) (.int .i64 4) rfl (congrArg (Value.int .i64) hE_) ?_
          refine bS [0, 0, 0, 2] 8 6 [(42, .bool true), (43, .pointer (some ⟨bl9, 0, none⟩)), (44, .agg #[.int .i64 (1 + aroundI w_ 16), .int .i64 (1 + aroundI h_ 16), .slice (some ⟨r2, 0, none⟩) n3 n3])] ?_
          refine cont_forget 2 rfl ?_
          refine pl_step 9 5 rfl rfl ?_
          refine cont_rowEq (k := .u32) 1 (wrA (1 + aroundI w_ 16) (1 + aroundI h_ 16) (goodP n3 xs1 n3) R.x0 R.y0 R.x1 R.y1 xs2) (goodP n3 xs1 n3) rfl (wrA_no (by rw [hE_]; decide)) ?_
          refine call_pure (d := 45) (.bool true) (by kernel_rfl) (fun w hT => likeT bl9 (1 + aroundI w_ 16) (1 + aroundI h_ 16) bq9 n3 n3 (goodP n3 xs1 n3) r2 n3 n3 w (hT.viewRo (.cons (i := 0) rfl Vw.roc (.cons (i := 1) rfl Vw.rowRd (.cons (i := 2) rfl Vw.rowRd .nil))) rfl) hM5_ (Row.capLe (hT.ok 1 _ rfl))) ?_
          refine bS [0, 0] 11 3 [(47, .bool true)] ?_
          refine cont_forget 0 rfl ?_
          refine pl_step 12 2 rfl rfl ?_
          refine call_pure (d := 48) (.bool true) (by kernel_rfl) (fun w hT => lives4  w) ?_
          refine bS [0, 0] 14 0 [(12, .bool true)] ?_
          refine cont_done ?_
          refine then_normal ?_
          refine cont_ret ?_
          refine then_ret ?_
          refine ret_one (.inl rfl) rfl 0 (.bool true) (by kernel_rfl) (by kernel_rfl) (fun w hT => ?_)
          exact ⟨rfl, hT.post rfl⟩
      refine one_step1 0 (fun b22 => [(4, .int .i64 how_), (5, .slice A2 n2 cap2), (13, .pointer (some ⟨b8, 0, none⟩)), (14, .pointer (some ⟨bl9, 0, none⟩)), (15, .pointer (some ⟨b22, 0, none⟩)), (28, .agg #[.int .i64 (aroundI ra 24 - 4), .int .i64 (aroundI rb 24 - 4), .int .i64 ((aroundI ra 24 - 4) + aroundI rc 13), .int .i64 ((aroundI rb 24 - 4) + aroundI rd 13)]), (30, .agg #[.int .i64 0, .int .i64 0, .int .i64 (1 + aroundI w_ 16), .int .i64 (1 + aroundI h_ 16)])]) (fun b22 => [.cells b22 [.int .i64 0, .int .i64 0, .int .i64 0, .int .i64 0] 32 true, .cells bl9 [.int .i64 (1 + aroundI w_ 16), .int .i64 (1 + aroundI h_ 16), .slice (some ⟨bq9, 0, none⟩) n3 n3] 84 true, .gen (rowE (some ⟨bq9, 0, none⟩) bq9 n3 n3 28 1 (ivals .u32 (goodP n3 xs1 n3)) true), .cells b8 [.int .i64 (1 + aroundI w_ 16), .int .i64 (1 + aroundI h_ 16), .slice (some ⟨r2, 0, none⟩) n3 n3] 37 true, .gen (rowE (some ⟨r2, 0, none⟩) r2 n3 n3 28 1 (ivals .u32 (goodP n3 xs1 n3)) true), .cells b1 [.int .i64 ra, .int .i64 rb, .int .i64 rc, .int .i64 rd] 32 true, .gen (rdE (A1) g1 o1 n1 1 (ivals .u32 xs1)), .gen (rdE (A2) g2 o2 n2 1 (ivals .u8 xs2))]) (fun b22 => by kernel_rfl) (fun b22 => by kernel_rfl) (fun b22 => ?_)
      refine drawn_next 1 [] (by kernel_rfl) ?_
      refine drawn_one 4 1 rfl (by kernel_rfl) ?_
      refine call_pure (d := 31) (.agg #[.int .i64 ((cutR (aroundI ra 24 - 4) (aroundI rb 24 - 4) ((aroundI ra 24 - 4) + aroundI rc 13) ((aroundI rb 24 - 4) + aroundI rd 13) 0 0 (1 + aroundI w_ 16) (1 + aroundI h_ 16)).x0), .int .i64 ((cutR (aroundI ra 24 - 4) (aroundI rb 24 - 4) ((aroundI ra 24 - 4) + aroundI rc 13) ((aroundI rb 24 - 4) + aroundI rd 13) 0 0 (1 + aroundI w_ 16) (1 + aroundI h_ 16)).y0), .int .i64 ((cutR (aroundI ra 24 - 4) (aroundI rb 24 - 4) ((aroundI ra 24 - 4) + aroundI rc 13) ((aroundI rb 24 - 4) + aroundI rd 13) 0 0 (1 + aroundI w_ 16) (1 + aroundI h_ 16)).x1), .int .i64 ((cutR (aroundI ra 24 - 4) (aroundI rb 24 - 4) ((aroundI ra 24 - 4) + aroundI rc 13) ((aroundI rb 24 - 4) + aroundI rd 13) 0 0 (1 + aroundI w_ 16) (1 + aroundI h_ 16)).y1)]) (by kernel_rfl) (fun w hT => refCut (aroundI ra 24 - 4) (aroundI rb 24 - 4) ((aroundI ra 24 - 4) + aroundI rc 13) ((aroundI rb 24 - 4) + aroundI rd 13) 0 0 (1 + aroundI w_ 16) (1 + aroundI h_ 16) w) ?_
      obtain ⟨R, hR⟩ : ∃ R : Rect, R = (cutR (aroundI ra 24 - 4) (aroundI rb 24 - 4) ((aroundI ra 24 - 4) + aroundI rc 13) ((aroundI rb 24 - 4) + aroundI rd 13) 0 0 (1 + aroundI w_ 16) (1 + aroundI h_ 16)) := ⟨_, rfl⟩
      have hcs := cut_ins hR hM5_w1 hM5_h1
      refine cont_recast 31 (.agg #[.int .i64 ((cutR (aroundI ra 24 - 4) (aroundI rb 24 - 4) ((aroundI ra 24 - 4) + aroundI rc 13) ((aroundI rb 24 - 4) + aroundI rd 13) 0 0 (1 + aroundI w_ 16) (1 + aroundI h_ 16)).x0), .int .i64 ((cutR (aroundI ra 24 - 4) (aroundI rb 24 - 4) ((aroundI ra 24 - 4) + aroundI rc 13) ((aroundI rb 24 - 4) + aroundI rd 13) 0 0 (1 + aroundI w_ 16) (1 + aroundI h_ 16)).y0), .int .i64 ((cutR (aroundI ra 24 - 4) (aroundI rb 24 - 4) ((aroundI ra 24 - 4) + aroundI rc 13) ((aroundI rb 24 - 4) + aroundI rd 13) 0 0 (1 + aroundI w_ 16) (1 + aroundI h_ 16)).x1), .int .i64 ((cutR (aroundI ra 24 - 4) (aroundI rb 24 - 4) ((aroundI ra 24 - 4) + aroundI rc 13) ((aroundI rb 24 - 4) + aroundI rd 13) 0 0 (1 + aroundI w_ 16) (1 + aroundI h_ 16)).y1)]) (.agg #[.int .i64 R.x0, .int .i64 R.y0, .int .i64 R.x1, .int .i64 R.y1]) rfl (by rw [hR]) ?_
      have hWb : (1 + aroundI w_ 16) ≤ 256 := hM5_.w2
      have hHb : (1 + aroundI h_ 16) ≤ 256 := hM5_.h2
      refine drawn_next 1 [] (by kernel_rfl) ?_
      refine drawn_one 6 0 rfl (by kernel_rfl) ?_
      refine one_step 0 [(4, .int .i64 how_), (5, .slice A2 n2 cap2), (13, .pointer (some ⟨b8, 0, none⟩)), (14, .pointer (some ⟨bl9, 0, none⟩)), (15, .pointer (some ⟨b22, 0, none⟩))] [.cells b22 [.int .i64 R.x0, .int .i64 R.y0, .int .i64 R.x1, .int .i64 R.y1] 32 true, .cells bl9 [.int .i64 (1 + aroundI w_ 16), .int .i64 (1 + aroundI h_ 16), .slice (some ⟨bq9, 0, none⟩) n3 n3] 84 true, .gen (rowE (some ⟨bq9, 0, none⟩) bq9 n3 n3 28 1 (ivals .u32 (goodP n3 xs1 n3)) true), .cells b8 [.int .i64 (1 + aroundI w_ 16), .int .i64 (1 + aroundI h_ 16), .slice (some ⟨r2, 0, none⟩) n3 n3] 37 true, .gen (rowE (some ⟨r2, 0, none⟩) r2 n3 n3 28 1 (ivals .u32 (goodP n3 xs1 n3)) true), .cells b1 [.int .i64 ra, .int .i64 rb, .int .i64 rc, .int .i64 rd] 32 true, .gen (rdE (A1) g1 o1 n1 1 (ivals .u32 xs1)), .gen (rdE (A2) g2 o2 n2 1 (ivals .u8 xs2))] (by kernel_rfl) (by kernel_rfl) ?_
      refine drawn_next 1 [] (by kernel_rfl) ?_
      refine drawn_done (by kernel_rfl) ?_
      refine then_normal ?_
      refine cont_seq ?_
      refine cont_region 4 rfl ?_
      refine bS [0] 1 3 [(4, .int .i64 how_), (5, .slice A2 n2 cap2), (13, .pointer (some ⟨b8, 0, none⟩)), (14, .pointer (some ⟨bl9, 0, none⟩)), (15, .pointer (some ⟨b22, 0, none⟩)), (32, .agg #[.int .i64 R.x0, .int .i64 R.y0, .int .i64 R.x1, .int .i64 R.y1])] ?_
      refine cont_forget 5 rfl ?_
      refine pl_step 2 2 rfl rfl ?_
      rcases hcs with ⟨hin, hq1, hq2, hq3, hq4, hq5, hq6⟩ | ⟨hin, hq1, hq2, hq3, hq4⟩
      ·
        refine call_pure (d := 33) (.int .i64 (areaI R.x0 R.y0 R.x1 R.y1)) (by kernel_rfl) (fun w hT => refArea R.x0 R.y0 R.x1 R.y1 w (by omega) (by omega) (by omega) (by omega)) ?_
        obtain ⟨hae, har1, har2⟩ := ins_area hM5_ hin
        obtain ⟨Ar, hAr⟩ : ∃ y_ : Nat, (y_ : Int) = areaI R.x0 R.y0 R.x1 R.y1 := ⟨Int.toNat (areaI R.x0 R.y0 R.x1 R.y1), by omega⟩
        refine cont_recast 33 (.int .i64 (areaI R.x0 R.y0 R.x1 R.y1)) (.int .i64 ((Ar : Nat) : Int)) rfl (congrArg (Value.int .i64) hAr.symm) ?_
        refine bS [0] 3 1 [(4, .int .i64 how_), (5, .slice A2 n2 cap2), (13, .pointer (some ⟨b8, 0, none⟩)), (14, .pointer (some ⟨bl9, 0, none⟩)), (15, .pointer (some ⟨b22, 0, none⟩)), (34, .int .i64 (IntKind.i64.wrap (4 * ((Ar : Nat) : Int))))] ?_
        refine cont_recast 34 (.int .i64 (IntKind.i64.wrap (4 * ((Ar : Nat) : Int)))) (.int .i64 (4 * ((Ar : Nat) : Int))) rfl (wrapI (by omega) (by omega)) ?_
        refine bS [0] 4 0 [(4, .int .i64 how_), (5, .slice A2 n2 cap2), (13, .pointer (some ⟨b8, 0, none⟩)), (14, .pointer (some ⟨bl9, 0, none⟩)), (15, .pointer (some ⟨b22, 0, none⟩)), (16, .int .i64 (4 * ((Ar : Nat) : Int)))] ?_
        refine cont_done ?_
        refine then_normal ?_
        refine cont_seq ?_
        refine cont_seq ?_
        refine cont_region 2 rfl ?_
        obtain ⟨NB, hNB⟩ : ∃ y_ : Nat, (y_ : Int) = 4 * ((Ar : Nat) : Int) := ⟨4 * Ar, by omega⟩
        refine cont_recast 16 (.int .i64 (4 * ((Ar : Nat) : Int))) (.int .i64 ((NB : Nat) : Int)) rfl (congrArg (Value.int .i64) hNB.symm) ?_
        refine bS [0, 0] 2 0 [(4, .int .i64 how_), (5, .slice A2 n2 cap2), (13, .pointer (some ⟨b8, 0, none⟩)), (14, .pointer (some ⟨bl9, 0, none⟩)), (15, .pointer (some ⟨b22, 0, none⟩)), (16, .int .i64 ((NB : Nat) : Int)), (36, .bool (((NB : Nat) : Int) == 0))] ?_
        refine cont_done ?_
        refine then_normal ?_
        refine cont_recast 36 (.bool (((NB : Nat) : Int) == 0)) (.bool false) rfl (congrArg Value.bool (beq_eq_false_iff_ne.2 (by omega))) ?_
        refine cont_false rfl ?_
        refine cont_skip ?_
        refine then_normal ?_
        refine cont_seq ?_
        refine cont_region 3 rfl ?_
        refine bS [0] 1 2 [(4, .int .i64 how_), (13, .pointer (some ⟨b8, 0, none⟩)), (14, .pointer (some ⟨bl9, 0, none⟩)), (15, .pointer (some ⟨b22, 0, none⟩)), (16, .int .i64 ((NB : Nat) : Int)), (50, .int .i64 ((NB : Nat) : Int))] ?_
        refine pl_step 2 1 rfl rfl ?_
        refine sem_stepW 51 (Instr.makeSlice 43 (.int .i64 ((NB : Nat) : Int)) (.int .i64 ((NB : Nat) : Int))) (fun r24 => .slice (some ⟨r24, 0, none⟩) (NB : Nat) (NB : Nat)) (fun r24 => [.gen (rowE (some ⟨r24, 0, none⟩) r24 (NB : Nat) (NB : Nat) 5 1 (ivals .u8 (List.replicate (NB : Nat) 0)) true), .cells b22 [.int .i64 R.x0, .int .i64 R.y0, .int .i64 R.x1, .int .i64 R.y1] 32 true, .cells bl9 [.int .i64 (1 + aroundI w_ 16), .int .i64 (1 + aroundI h_ 16), .slice (some ⟨bq9, 0, none⟩) n3 n3] 84 true, .gen (rowE (some ⟨bq9, 0, none⟩) bq9 n3 n3 28 1 (ivals .u32 (goodP n3 xs1 n3)) true), .cells b8 [.int .i64 (1 + aroundI w_ 16), .int .i64 (1 + aroundI h_ 16), .slice (some ⟨r2, 0, none⟩) n3 n3] 37 true, .gen (rowE (some ⟨r2, 0, none⟩) r2 n3 n3 28 1 (ivals .u32 (goodP n3 xs1 n3)) true), .gen (rdE (A1) g1 o1 n1 1 (ivals .u32 xs1)), .gen (rdE (A2) g2 o2 n2 1 (ivals .u8 xs2))]) (fun _ => True) (by kernel_rfl) (fun w hT => make_row hT (bytes := 1) (NB : Nat) (by kernel_rfl) (by kernel_rfl) (by omega) (by omega)) (fun r24 _ => ?_)
        refine bS [0] 3 0 [(4, .int .i64 how_), (13, .pointer (some ⟨b8, 0, none⟩)), (14, .pointer (some ⟨bl9, 0, none⟩)), (15, .pointer (some ⟨b22, 0, none⟩)), (16, .int .i64 ((NB : Nat) : Int)), (17, .slice (some ⟨r24, 0, none⟩) (NB : Nat) (NB : Nat))] ?_
        refine cont_done ?_
        refine then_normal ?_
        refine cont_seq ?_
        refine cont_region 1 rfl ?_
        refine bS [0] 1 0 [(4, .int .i64 how_), (13, .pointer (some ⟨b8, 0, none⟩)), (14, .pointer (some ⟨bl9, 0, none⟩)), (15, .pointer (some ⟨b22, 0, none⟩)), (16, .int .i64 ((NB : Nat) : Int)), (17, .slice (some ⟨r24, 0, none⟩) (NB : Nat) (NB : Nat)), (18, .int .i64 1)] ?_
        refine cont_done ?_
        refine then_normal ?_
        refine cont_seq ?_
        refine cont_seq ?_
        refine cont_region 2 rfl ?_
        refine bS [0, 0] 2 0 [(13, .pointer (some ⟨b8, 0, none⟩)), (14, .pointer (some ⟨bl9, 0, none⟩)), (15, .pointer (some ⟨b22, 0, none⟩)), (16, .int .i64 ((NB : Nat) : Int)), (17, .slice (some ⟨r24, 0, none⟩) (NB : Nat) (NB : Nat)), (18, .int .i64 1), (53, .int .i64 (how_.tmod 3))] ?_
        refine cont_done ?_
        refine then_normal ?_
        refine cont_block ?_
        refine cont_seq ?_
        refine cont_region 2 rfl ?_
        refine bS [0, 0] 2 0 [(13, .pointer (some ⟨b8, 0, none⟩)), (14, .pointer (some ⟨bl9, 0, none⟩)), (15, .pointer (some ⟨b22, 0, none⟩)), (16, .int .i64 ((NB : Nat) : Int)), (17, .slice (some ⟨r24, 0, none⟩) (NB : Nat) (NB : Nat)), (18, .int .i64 1), (53, .int .i64 (how_.tmod 3)), (58, .bool ((how_.tmod 3) == 0))] ?_
        refine cont_done ?_
        refine then_normal ?_
        refine cont_split 58 ((how_.tmod 3) == 0) rfl (fun c25_ => ?_) (fun c25_ => ?_)
        ·
          replace c25_ := eq_of_beqt c25_
          refine cont_true rfl ?_
          refine cont_seq ?_
          refine cont_region 5 rfl ?_
          refine bS [0, 0, 0] 3 2 [(13, .pointer (some ⟨b8, 0, none⟩)), (14, .pointer (some ⟨bl9, 0, none⟩)), (15, .pointer (some ⟨b22, 0, none⟩)), (60, .slice (some ⟨r24, 0, none⟩) (NB : Nat) (NB : Nat)), (62, .int .i64 (IntKind.i64.wrap (((NB : Nat) : Int) - 1)))] ?_
          refine cont_recast 62 (.int .i64 (IntKind.i64.wrap (((NB : Nat) : Int) - 1))) (.int .i64 (((NB : Nat) : Int) - 1)) rfl (wrapI (by omega) (by omega)) ?_
          refine pl_step 4 1 rfl rfl ?_
          refine sem_step 63 (Instr.sliceAt 43 (.slice (some ⟨r24, 0, none⟩) (NB : Nat) (NB : Nat)) none (some (.int .i64 (((NB : Nat) : Int) - 1))) none) (.slice (some ⟨r24, 0, none⟩) (Int.toNat (((NB : Nat) : Int) - 1)) (NB : Nat)) (by kernel_rfl) (fun w hT => run_sliceHiC (e := 5) (sz := 1) _ (by kernel_rfl) (by kernel_rfl) (by omega) (by omega) (by omega) w) ?_
          refine bS [0] 5 0 [(13, .pointer (some ⟨b8, 0, none⟩)), (14, .pointer (some ⟨bl9, 0, none⟩)), (15, .pointer (some ⟨b22, 0, none⟩)), (17, .slice (some ⟨r24, 0, none⟩) (Int.toNat (((NB : Nat) : Int) - 1)) (NB : Nat))] ?_
          refine cont_done ?_
          refine then_normal ?_
          refine cont_region 1 rfl ?_
          refine bS [0] 1 0 [(13, .pointer (some ⟨b8, 0, none⟩)), (14, .pointer (some ⟨bl9, 0, none⟩)), (15, .pointer (some ⟨b22, 0, none⟩)), (17, .slice (some ⟨r24, 0, none⟩) (Int.toNat (((NB : Nat) : Int) - 1)) (NB : Nat)), (18, .int .i64 3)] ?_
          refine cont_done ?_
          refine blk_normal ?_
          refine then_normal ?_
          refine cont_seq ?_
          refine cont_region 15 rfl ?_
          refine bS [0, 1, 0] 3 12 [(13, .pointer (some ⟨b8, 0, none⟩)), (14, .pointer (some ⟨bl9, 0, none⟩)), (18, .int .i64 3), (69, .pointer (some ⟨bl9, 0, none⟩)), (70, .agg #[.int .i64 R.x0, .int .i64 R.y0, .int .i64 R.x1, .int .i64 R.y1]), (71, .slice (some ⟨r24, 0, none⟩) (Int.toNat (((NB : Nat) : Int) - 1)) (NB : Nat))] ?_
          refine cont_forget 1 rfl ?_
          refine pl_step 4 11 rfl rfl ?_
          refine call_gen (d := 72) (α := Unit) (fun _ => .int .i64 (wrE (1 + aroundI w_ 16) (1 + aroundI h_ 16) R.x0 R.y0 R.x1 R.y1 ((List.replicate (NB : Nat) 0).take (Int.toNat (((NB : Nat) : Int) - 1))))) (fun _ => [.gen (rowE (some ⟨r24, 0, none⟩) r24 (NB : Nat) (NB : Nat) 5 1 (ivals .u8 (List.replicate (NB : Nat) 0)) true), .cells bl9 [.int .i64 (1 + aroundI w_ 16), .int .i64 (1 + aroundI h_ 16), .slice (some ⟨bq9, 0, none⟩) n3 n3] 84 true, .gen (rowE (some ⟨bq9, 0, none⟩) bq9 n3 n3 28 1 (ivals .u32 (wrA (1 + aroundI w_ 16) (1 + aroundI h_ 16) (goodP n3 xs1 n3) R.x0 R.y0 R.x1 R.y1 ((List.replicate (NB : Nat) 0).take (Int.toNat (((NB : Nat) : Int) - 1))))) true), .cells b8 [.int .i64 (1 + aroundI w_ 16), .int .i64 (1 + aroundI h_ 16), .slice (some ⟨r2, 0, none⟩) n3 n3] 37 true, .gen (rowE (some ⟨r2, 0, none⟩) r2 n3 n3 28 1 (ivals .u32 (goodP n3 xs1 n3)) true), .gen (rdE (A1) g1 o1 n1 1 (ivals .u32 xs1)), .gen (rdE (A2) g2 o2 n2 1 (ivals .u8 xs2))]) (fun _ => True) (by kernel_rfl) (fun w hT => (imgWrite bl9 (1 + aroundI w_ 16) (1 + aroundI h_ 16) bq9 n3 n3 (goodP n3 xs1 n3) R.x0 R.y0 R.x1 R.y1 (some ⟨r24, 0, none⟩) r24 0 (Int.toNat (((NB : Nat) : Int) - 1)) (NB : Nat) ((List.replicate (NB : Nat) 0).take (Int.toNat (((NB : Nat) : Int) - 1))) w (hT.view (.cons (i := 1) rfl Vw.roc (.cons (i := 2) rfl Vw.row (.cons (i := 0) rfl (Vw.rowHeadN (by omega)) .nil))) (by decide)) hM5_ (Row.capLe (hT.ok 2 _ rfl)) (by omega) (rep_byte _ _)).mono fun e w' ⟨he_, ht_⟩ => ⟨(), he_, trivial, hT.merge (N := []) (s := [1, 2]) ht_ (.skip rfl (.cons (i := 2) rfl Mg.row .nil)) (by decide) (fun i e h => by simp at h)⟩) (fun _ _ => ?_)
          have hE_ := show wrE (1 + aroundI w_ 16) (1 + aroundI h_ 16) R.x0 R.y0 R.x1 R.y1 ((List.replicate (NB : Nat) 0).take (Int.toNat (((NB : Nat) : Int) - 1))) = 3 from (wrE_short hin (by rw [List.length_take, List.length_replicate]; omega))
          refine cont_recast 72 (.int .i64 (wrE (1 + aroundI w_ 16) (1 + aroundI h_ 16) R.x0 R.y0 R.x1 R.y1 ((List.replicate (NB : Nat) 0).take (Int.toNat (((NB : Nat) : Int) - 1))))) (.int .i64 3) rfl (congrArg (Value.int .i64) hE_) ?_
          refine bS [0, 0, 0, 0, 3] 9 6 [(75, .bool true), (76, .pointer (some ⟨bl9, 0, none⟩)), (77, .agg #[.int .i64 (1 + aroundI w_ 16), .int .i64 (1 + aroundI h_ 16), .slice (some ⟨r2, 0, none⟩) n3 n3])] ?_
          refine cont_forget 3 rfl ?_
          refine pl_step 10 5 rfl rfl ?_
          refine cont_rowEq (k := .u32) 2 (wrA (1 + aroundI w_ 16) (1 + aroundI h_ 16) (goodP n3 xs1 n3) R.x0 R.y0 R.x1 R.y1 ((List.replicate (NB : Nat) 0).take (Int.toNat (((NB : Nat) : Int) - 1)))) (goodP n3 xs1 n3) rfl (wrA_no (by rw [hE_]; decide)) ?_
          refine call_pure (d := 78) (.bool true) (by kernel_rfl) (fun w hT => likeT bl9 (1 + aroundI w_ 16) (1 + aroundI h_ 16) bq9 n3 n3 (goodP n3 xs1 n3) r2 n3 n3 w (hT.viewRo (.cons (i := 1) rfl Vw.roc (.cons (i := 2) rfl Vw.rowRd (.cons (i := 3) rfl Vw.rowRd .nil))) rfl) hM5_ (Row.capLe (hT.ok 2 _ rfl))) ?_
          refine bS [0, 0] 12 3 [(80, .bool true)] ?_
          refine cont_forget 1 rfl ?_
          refine pl_step 13 2 rfl rfl ?_
          refine call_pure (d := 81) (.bool true) (by kernel_rfl) (fun w hT => lives4  w) ?_
          refine bS [0, 0] 15 0 [(12, .bool true)] ?_
          refine cont_done ?_
          refine then_normal ?_
          refine cont_ret ?_
          refine ret_one (.inl rfl) rfl 0 (.bool true) (by kernel_rfl) (by kernel_rfl) (fun w hT => ?_)
          exact ⟨rfl, hT.post rfl⟩
        replace c25_ := ne_of_beqf c25_
        refine cont_false rfl ?_
        refine cont_seq ?_
        refine cont_region 2 rfl ?_
        refine bS [0, 0] 2 0 [(13, .pointer (some ⟨b8, 0, none⟩)), (14, .pointer (some ⟨bl9, 0, none⟩)), (15, .pointer (some ⟨b22, 0, none⟩)), (16, .int .i64 ((NB : Nat) : Int)), (17, .slice (some ⟨r24, 0, none⟩) (NB : Nat) (NB : Nat)), (18, .int .i64 1), (64, .bool ((how_.tmod 3) == 1))] ?_
        refine cont_done ?_
        refine then_normal ?_
        refine cont_split 64 ((how_.tmod 3) == 1) rfl (fun c26_ => ?_) (fun c26_ => ?_)
        ·
          replace c26_ := eq_of_beqt c26_
          refine cont_true rfl ?_
          refine cont_seq ?_
          refine cont_region 4 rfl ?_
          refine batch1 [0, 0] 2 2 (fun b27 => [(13, .pointer (some ⟨b8, 0, none⟩)), (14, .pointer (some ⟨bl9, 0, none⟩)), (15, .pointer (some ⟨b22, 0, none⟩)), (66, .slice (some ⟨r24, 0, none⟩) (NB : Nat) (NB : Nat)), (67, .slice (some ⟨b27, 0, none⟩) 1 1)]) (fun b27 => [.cells b27 [.int .u8 0] 5 true, .gen (rowE (some ⟨r24, 0, none⟩) r24 (NB : Nat) (NB : Nat) 5 1 (ivals .u8 (List.replicate (NB : Nat) 0)) true), .cells b22 [.int .i64 R.x0, .int .i64 R.y0, .int .i64 R.x1, .int .i64 R.y1] 32 true, .cells bl9 [.int .i64 (1 + aroundI w_ 16), .int .i64 (1 + aroundI h_ 16), .slice (some ⟨bq9, 0, none⟩) n3 n3] 84 true, .gen (rowE (some ⟨bq9, 0, none⟩) bq9 n3 n3 28 1 (ivals .u32 (goodP n3 xs1 n3)) true), .cells b8 [.int .i64 (1 + aroundI w_ 16), .int .i64 (1 + aroundI h_ 16), .slice (some ⟨r2, 0, none⟩) n3 n3] 37 true, .gen (rowE (some ⟨r2, 0, none⟩) r2 n3 n3 28 1 (ivals .u32 (goodP n3 xs1 n3)) true), .gen (rdE (A1) g1 o1 n1 1 (ivals .u32 xs1)), .gen (rdE (A2) g2 o2 n2 1 (ivals .u8 xs2))]) rfl rfl [13, 14, 15, 66, 67] (fun _ => rfl) (fun b27 => by kernel_rfl) (fun b27 => by kernel_rfl) (fun b27 => ?_)
          refine pl_step 3 1 rfl rfl ?_
          refine sem_stepW (α := Option Addr × Nat × Nat) 68 (Builtin.append_ #[43, 43] 43 #[.slice (some ⟨r24, 0, none⟩) (NB : Nat) (NB : Nat), .slice (some ⟨b27, 0, none⟩) 1 1]) (fun x_ => .slice x_.1 ((NB : Nat) + 1) x_.2.2) (fun x_ => [.cells b27 [.int .u8 0] 5 true, .gen (rowE (x_.1) x_.2.1 ((NB : Nat) + 1) x_.2.2 5 1 (ivals .u8 ((List.replicate (NB : Nat) 0) ++ [0])) true), .cells b22 [.int .i64 R.x0, .int .i64 R.y0, .int .i64 R.x1, .int .i64 R.y1] 32 true, .cells bl9 [.int .i64 (1 + aroundI w_ 16), .int .i64 (1 + aroundI h_ 16), .slice (some ⟨bq9, 0, none⟩) n3 n3] 84 true, .gen (rowE (some ⟨bq9, 0, none⟩) bq9 n3 n3 28 1 (ivals .u32 (goodP n3 xs1 n3)) true), .cells b8 [.int .i64 (1 + aroundI w_ 16), .int .i64 (1 + aroundI h_ 16), .slice (some ⟨r2, 0, none⟩) n3 n3] 37 true, .gen (rowE (some ⟨r2, 0, none⟩) r2 n3 n3 28 1 (ivals .u32 (goodP n3 xs1 n3)) true), .gen (rdE (A1) g1 o1 n1 1 (ivals .u32 xs1)), .gen (rdE (A2) g2 o2 n2 1 (ivals .u8 xs2))]) (fun _ => True) (by kernel_rfl) (fun w hT => append_own (n' := ((NB : Nat) + 1)) (z := .int .u8 0) hT (i := 1) (bytes := 1) rfl (by kernel_rfl) (by kernel_rfl) rfl (by decide) (by decide) (Rd.ofCells (vals := ivals .u8 [0]) (hT.ok 0 _ rfl) rfl rfl) (ivals_one .u8 [0]) (by omega) (ivals_append .u8 (List.replicate (NB : Nat) 0) [0]) rfl) ?_
          rintro ⟨A28, g28, cp28⟩ -
          refine cont_norm [(13, .pointer (some ⟨b8, 0, none⟩)), (14, .pointer (some ⟨bl9, 0, none⟩)), (15, .pointer (some ⟨b22, 0, none⟩)), (66, .slice (some ⟨r24, 0, none⟩) (NB : Nat) (NB : Nat)), (67, .slice (some ⟨b27, 0, none⟩) 1 1), (68, .slice A28 ((NB : Nat) + 1) cp28)] [.cells b27 [.int .u8 0] 5 true, .gen (rowE (A28) g28 ((NB : Nat) + 1) cp28 5 1 (ivals .u8 ((List.replicate (NB : Nat) 0) ++ [0])) true), .cells b22 [.int .i64 R.x0, .int .i64 R.y0, .int .i64 R.x1, .int .i64 R.y1] 32 true, .cells bl9 [.int .i64 (1 + aroundI w_ 16), .int .i64 (1 + aroundI h_ 16), .slice (some ⟨bq9, 0, none⟩) n3 n3] 84 true, .gen (rowE (some ⟨bq9, 0, none⟩) bq9 n3 n3 28 1 (ivals .u32 (goodP n3 xs1 n3)) true), .cells b8 [.int .i64 (1 + aroundI w_ 16), .int .i64 (1 + aroundI h_ 16), .slice (some ⟨r2, 0, none⟩) n3 n3] 37 true, .gen (rowE (some ⟨r2, 0, none⟩) r2 n3 n3 28 1 (ivals .u32 (goodP n3 xs1 n3)) true), .gen (rdE (A1) g1 o1 n1 1 (ivals .u32 xs1)), .gen (rdE (A2) g2 o2 n2 1 (ivals .u8 xs2))] (by kernel_rfl) rfl ?_
          refine cont_fact (F := (0 < ((NB : Nat) + 1) → (A28 : Option Addr) = some ⟨g28, 0, none⟩) ∧ (((List.replicate (NB : Nat) 0) ++ [0]) : List Int).length = ((NB : Nat) + 1) ∧ ((NB : Nat) + 1) ≤ cp28 ∧ cp28 ≤ maxLen) (fun w hT => Row.facts (hT.ok 1 _ rfl)) (fun hr29_ => ?_)
          obtain ⟨hr29_a, hr29_l, hr29_c, hr29_m⟩ := hr29_
          unfold maxLen at hr29_m
          refine bS [0] 4 0 [(13, .pointer (some ⟨b8, 0, none⟩)), (14, .pointer (some ⟨bl9, 0, none⟩)), (15, .pointer (some ⟨b22, 0, none⟩)), (17, .slice A28 ((NB : Nat) + 1) cp28)] ?_
          refine cont_forget 0 rfl ?_
          refine cont_done ?_
          refine then_normal ?_
          refine cont_region 1 rfl ?_
          refine bS [0] 1 0 [(13, .pointer (some ⟨b8, 0, none⟩)), (14, .pointer (some ⟨bl9, 0, none⟩)), (15, .pointer (some ⟨b22, 0, none⟩)), (17, .slice A28 ((NB : Nat) + 1) cp28), (18, .int .i64 2)] ?_
          refine cont_done ?_
          refine blk_normal ?_
          refine then_normal ?_
          refine cont_seq ?_
          refine cont_region 15 rfl ?_
          refine bS [0, 1, 0] 3 12 [(13, .pointer (some ⟨b8, 0, none⟩)), (14, .pointer (some ⟨bl9, 0, none⟩)), (18, .int .i64 2), (69, .pointer (some ⟨bl9, 0, none⟩)), (70, .agg #[.int .i64 R.x0, .int .i64 R.y0, .int .i64 R.x1, .int .i64 R.y1]), (71, .slice A28 ((NB : Nat) + 1) cp28)] ?_
          refine cont_forget 1 rfl ?_
          refine pl_step 4 11 rfl rfl ?_
          refine call_gen (d := 72) (α := Unit) (fun _ => .int .i64 (wrE (1 + aroundI w_ 16) (1 + aroundI h_ 16) R.x0 R.y0 R.x1 R.y1 ((List.replicate (NB : Nat) 0) ++ [0]))) (fun _ => [.gen (rowE (A28) g28 ((NB : Nat) + 1) cp28 5 1 (ivals .u8 ((List.replicate (NB : Nat) 0) ++ [0])) true), .cells bl9 [.int .i64 (1 + aroundI w_ 16), .int .i64 (1 + aroundI h_ 16), .slice (some ⟨bq9, 0, none⟩) n3 n3] 84 true, .gen (rowE (some ⟨bq9, 0, none⟩) bq9 n3 n3 28 1 (ivals .u32 (wrA (1 + aroundI w_ 16) (1 + aroundI h_ 16) (goodP n3 xs1 n3) R.x0 R.y0 R.x1 R.y1 ((List.replicate (NB : Nat) 0) ++ [0]))) true), .cells b8 [.int .i64 (1 + aroundI w_ 16), .int .i64 (1 + aroundI h_ 16), .slice (some ⟨r2, 0, none⟩) n3 n3] 37 true, .gen (rowE (some ⟨r2, 0, none⟩) r2 n3 n3 28 1 (ivals .u32 (goodP n3 xs1 n3)) true), .gen (rdE (A1) g1 o1 n1 1 (ivals .u32 xs1)), .gen (rdE (A2) g2 o2 n2 1 (ivals .u8 xs2))]) (fun _ => True) (by kernel_rfl) (fun w hT => (imgWrite bl9 (1 + aroundI w_ 16) (1 + aroundI h_ 16) bq9 n3 n3 (goodP n3 xs1 n3) R.x0 R.y0 R.x1 R.y1 A28 g28 0 ((NB : Nat) + 1) cp28 ((List.replicate (NB : Nat) 0) ++ [0]) w (hT.view (.cons (i := 1) rfl Vw.roc (.cons (i := 2) rfl Vw.row (.cons (i := 0) rfl Vw.rowRd .nil))) (by decide)) hM5_ (Row.capLe (hT.ok 2 _ rfl)) (by omega) (rep_byte1 _)).mono fun e w' ⟨he_, ht_⟩ => ⟨(), he_, trivial, hT.merge (N := []) (s := [1, 2]) ht_ (.skip rfl (.cons (i := 2) rfl Mg.row .nil)) (by decide) (fun i e h => by simp at h)⟩) (fun _ _ => ?_)
          have hE_ := show wrE (1 + aroundI w_ 16) (1 + aroundI h_ 16) R.x0 R.y0 R.x1 R.y1 ((List.replicate (NB : Nat) 0) ++ [0]) = 2 from (wrE_long hin (by rw [List.length_append, List.length_replicate, List.length_singleton]; omega))
          refine cont_recast 72 (.int .i64 (wrE (1 + aroundI w_ 16) (1 + aroundI h_ 16) R.x0 R.y0 R.x1 R.y1 ((List.replicate (NB : Nat) 0) ++ [0]))) (.int .i64 2) rfl (congrArg (Value.int .i64) hE_) ?_
          refine bS [0, 0, 0, 0, 3] 9 6 [(75, .bool true), (76, .pointer (some ⟨bl9, 0, none⟩)), (77, .agg #[.int .i64 (1 + aroundI w_ 16), .int .i64 (1 + aroundI h_ 16), .slice (some ⟨r2, 0, none⟩) n3 n3])] ?_
          refine cont_forget 3 rfl ?_
          refine pl_step 10 5 rfl rfl ?_
          refine cont_rowEq (k := .u32) 2 (wrA (1 + aroundI w_ 16) (1 + aroundI h_ 16) (goodP n3 xs1 n3) R.x0 R.y0 R.x1 R.y1 ((List.replicate (NB : Nat) 0) ++ [0])) (goodP n3 xs1 n3) rfl (wrA_no (by rw [hE_]; decide)) ?_
          refine call_pure (d := 78) (.bool true) (by kernel_rfl) (fun w hT => likeT bl9 (1 + aroundI w_ 16) (1 + aroundI h_ 16) bq9 n3 n3 (goodP n3 xs1 n3) r2 n3 n3 w (hT.viewRo (.cons (i := 1) rfl Vw.roc (.cons (i := 2) rfl Vw.rowRd (.cons (i := 3) rfl Vw.rowRd .nil))) rfl) hM5_ (Row.capLe (hT.ok 2 _ rfl))) ?_
          refine bS [0, 0] 12 3 [(80, .bool true)] ?_
          refine cont_forget 1 rfl ?_
          refine pl_step 13 2 rfl rfl ?_
          refine call_pure (d := 81) (.bool true) (by kernel_rfl) (fun w hT => lives4  w) ?_
          refine bS [0, 0] 15 0 [(12, .bool true)] ?_
          refine cont_done ?_
          refine then_normal ?_
          refine cont_ret ?_
          refine ret_one (.inl rfl) rfl 0 (.bool true) (by kernel_rfl) (by kernel_rfl) (fun w hT => ?_)
          exact ⟨rfl, hT.post rfl⟩
        replace c26_ := ne_of_beqf c26_
        refine cont_false rfl ?_
        refine cont_region 5 rfl ?_
        refine bS [0, 0, 0] 3 2 [(13, .pointer (some ⟨b8, 0, none⟩)), (14, .pointer (some ⟨bl9, 0, none⟩)), (15, .pointer (some ⟨b22, 0, none⟩)), (17, .slice (some ⟨r24, 0, none⟩) (NB : Nat) (NB : Nat)), (18, .int .i64 1), (54, .slice (some ⟨r24, 0, none⟩) (NB : Nat) (NB : Nat)), (56, .int .i64 (IntKind.i64.wrap (((NB : Nat) : Int) - 1)))] ?_
        refine cont_recast 56 (.int .i64 (IntKind.i64.wrap (((NB : Nat) : Int) - 1))) (.int .i64 (((NB : Nat) : Int) - 1)) rfl (wrapI (by omega) (by omega)) ?_
        refine pl_step 4 1 rfl rfl ?_
        refine sem_step 57 (Instr.indexAt 43 (.slice (some ⟨r24, 0, none⟩) (NB : Nat) (NB : Nat)) (.int .i64 (((NB : Nat) : Int) - 1))) (.pointer (some ⟨r24, Int.toNat (((NB : Nat) : Int) - 1), none⟩)) (by kernel_rfl) (fun w hT => run_indexAt (e := 5) (sz := 1) _ (by kernel_rfl) (by kernel_rfl) (by omega) (by omega) (by omega) w) ?_
        refine pl_step 5 0 rfl rfl ?_
        refine sem_stepU (Instr.storeAt 5 (.pointer (some ⟨r24, Int.toNat (((NB : Nat) : Int) - 1), none⟩)) (.int .u8 1)) (fun _ => [.gen (rowE (some ⟨r24, 0, none⟩) r24 (NB : Nat) (NB : Nat) 5 1 (ivals .u8 ((List.replicate (NB : Nat) 0).set (Int.toNat (((NB : Nat) : Int) - 1)) 1)) true), .cells b22 [.int .i64 R.x0, .int .i64 R.y0, .int .i64 R.x1, .int .i64 R.y1] 32 true, .cells bl9 [.int .i64 (1 + aroundI w_ 16), .int .i64 (1 + aroundI h_ 16), .slice (some ⟨bq9, 0, none⟩) n3 n3] 84 true, .gen (rowE (some ⟨bq9, 0, none⟩) bq9 n3 n3 28 1 (ivals .u32 (goodP n3 xs1 n3)) true), .cells b8 [.int .i64 (1 + aroundI w_ 16), .int .i64 (1 + aroundI h_ 16), .slice (some ⟨r2, 0, none⟩) n3 n3] 37 true, .gen (rowE (some ⟨r2, 0, none⟩) r2 n3 n3 28 1 (ivals .u32 (goodP n3 xs1 n3)) true), .gen (rdE (A1) g1 o1 n1 1 (ivals .u32 xs1)), .gen (rdE (A2) g2 o2 n2 1 (ivals .u8 xs2))]) (fun _ => True) (by kernel_rfl) (fun w hT => store_row hT (i := 0) rfl (by kernel_rfl) (by simp only [List.length_replicate]; omega)) (fun _ _ => ?_)
        refine cont_done ?_
        refine blk_normal ?_
        refine then_normal ?_
        refine cont_seq ?_
        refine cont_region 15 rfl ?_
        refine bS [0, 1, 0] 3 12 [(13, .pointer (some ⟨b8, 0, none⟩)), (14, .pointer (some ⟨bl9, 0, none⟩)), (18, .int .i64 1), (69, .pointer (some ⟨bl9, 0, none⟩)), (70, .agg #[.int .i64 R.x0, .int .i64 R.y0, .int .i64 R.x1, .int .i64 R.y1]), (71, .slice (some ⟨r24, 0, none⟩) (NB : Nat) (NB : Nat))] ?_
        refine cont_forget 1 rfl ?_
        refine pl_step 4 11 rfl rfl ?_
        refine call_gen (d := 72) (α := Unit) (fun _ => .int .i64 (wrE (1 + aroundI w_ 16) (1 + aroundI h_ 16) R.x0 R.y0 R.x1 R.y1 ((List.replicate (NB : Nat) 0).set (Int.toNat (((NB : Nat) : Int) - 1)) 1))) (fun _ => [.gen (rowE (some ⟨r24, 0, none⟩) r24 (NB : Nat) (NB : Nat) 5 1 (ivals .u8 ((List.replicate (NB : Nat) 0).set (Int.toNat (((NB : Nat) : Int) - 1)) 1)) true), .cells bl9 [.int .i64 (1 + aroundI w_ 16), .int .i64 (1 + aroundI h_ 16), .slice (some ⟨bq9, 0, none⟩) n3 n3] 84 true, .gen (rowE (some ⟨bq9, 0, none⟩) bq9 n3 n3 28 1 (ivals .u32 (wrA (1 + aroundI w_ 16) (1 + aroundI h_ 16) (goodP n3 xs1 n3) R.x0 R.y0 R.x1 R.y1 ((List.replicate (NB : Nat) 0).set (Int.toNat (((NB : Nat) : Int) - 1)) 1))) true), .cells b8 [.int .i64 (1 + aroundI w_ 16), .int .i64 (1 + aroundI h_ 16), .slice (some ⟨r2, 0, none⟩) n3 n3] 37 true, .gen (rowE (some ⟨r2, 0, none⟩) r2 n3 n3 28 1 (ivals .u32 (goodP n3 xs1 n3)) true), .gen (rdE (A1) g1 o1 n1 1 (ivals .u32 xs1)), .gen (rdE (A2) g2 o2 n2 1 (ivals .u8 xs2))]) (fun _ => True) (by kernel_rfl) (fun w hT => (imgWrite bl9 (1 + aroundI w_ 16) (1 + aroundI h_ 16) bq9 n3 n3 (goodP n3 xs1 n3) R.x0 R.y0 R.x1 R.y1 (some ⟨r24, 0, none⟩) r24 0 (NB : Nat) (NB : Nat) ((List.replicate (NB : Nat) 0).set (Int.toNat (((NB : Nat) : Int) - 1)) 1) w (hT.view (.cons (i := 1) rfl Vw.roc (.cons (i := 2) rfl Vw.row (.cons (i := 0) rfl Vw.rowRd .nil))) (by decide)) hM5_ (Row.capLe (hT.ok 2 _ rfl)) (by omega) (rep_byte2 _ _)).mono fun e w' ⟨he_, ht_⟩ => ⟨(), he_, trivial, hT.merge (N := []) (s := [1, 2]) ht_ (.skip rfl (.cons (i := 2) rfl Mg.row .nil)) (by decide) (fun i e h => by simp at h)⟩) (fun _ _ => ?_)
        have hE_ := show wrE (1 + aroundI w_ 16) (1 + aroundI h_ 16) R.x0 R.y0 R.x1 R.y1 ((List.replicate (NB : Nat) 0).set (Int.toNat (((NB : Nat) : Int) - 1)) 1) = 1 from (wrE_bad hin (by rw [List.length_set, List.length_replicate]; omega) (N := Ar) (by rw [List.length_set, List.length_replicate]; omega) (k := Ar - 1) (by omega) (bad_last (by omega) (by omega) (by omega)))
        refine cont_recast 72 (.int .i64 (wrE (1 + aroundI w_ 16) (1 + aroundI h_ 16) R.x0 R.y0 R.x1 R.y1 ((List.replicate (NB : Nat) 0).set (Int.toNat (((NB : Nat) : Int) - 1)) 1))) (.int .i64 1) rfl (congrArg (Value.int .i64) hE_) ?_
        refine bS [0, 0, 0, 0, 3] 9 6 [(75, .bool true), (76, .pointer (some ⟨bl9, 0, none⟩)), (77, .agg #[.int .i64 (1 + aroundI w_ 16), .int .i64 (1 + aroundI h_ 16), .slice (some ⟨r2, 0, none⟩) n3 n3])] ?_
        refine cont_forget 3 rfl ?_
        refine pl_step 10 5 rfl rfl ?_
        refine cont_rowEq (k := .u32) 2 (wrA (1 + aroundI w_ 16) (1 + aroundI h_ 16) (goodP n3 xs1 n3) R.x0 R.y0 R.x1 R.y1 ((List.replicate (NB : Nat) 0).set (Int.toNat (((NB : Nat) : Int) - 1)) 1)) (goodP n3 xs1 n3) rfl (wrA_no (by rw [hE_]; decide)) ?_
        refine call_pure (d := 78) (.bool true) (by kernel_rfl) (fun w hT => likeT bl9 (1 + aroundI w_ 16) (1 + aroundI h_ 16) bq9 n3 n3 (goodP n3 xs1 n3) r2 n3 n3 w (hT.viewRo (.cons (i := 1) rfl Vw.roc (.cons (i := 2) rfl Vw.rowRd (.cons (i := 3) rfl Vw.rowRd .nil))) rfl) hM5_ (Row.capLe (hT.ok 2 _ rfl))) ?_
        refine bS [0, 0] 12 3 [(80, .bool true)] ?_
        refine cont_forget 1 rfl ?_
        refine pl_step 13 2 rfl rfl ?_
        refine call_pure (d := 81) (.bool true) (by kernel_rfl) (fun w hT => lives4  w) ?_
        refine bS [0, 0] 15 0 [(12, .bool true)] ?_
        refine cont_done ?_
        refine then_normal ?_
        refine cont_ret ?_
        refine ret_one (.inl rfl) rfl 0 (.bool true) (by kernel_rfl) (by kernel_rfl) (fun w hT => ?_)
        exact ⟨rfl, hT.post rfl⟩
      ·
        refine call_pure (d := 33) (.int .i64 (areaI R.x0 R.y0 R.x1 R.y1)) (by kernel_rfl) (fun w hT => refArea R.x0 R.y0 R.x1 R.y1 w (by omega) (by omega) (by omega) (by omega)) ?_
        refine cont_recast 33 (.int .i64 (areaI R.x0 R.y0 R.x1 R.y1)) (.int .i64 0) rfl (congrArg (Value.int .i64) (by rw [hq1, hq2, hq3, hq4]; decide)) ?_
        refine bS [0, 0] 4 0 [(4, .int .i64 how_), (5, .slice A2 n2 cap2), (13, .pointer (some ⟨b8, 0, none⟩)), (14, .pointer (some ⟨bl9, 0, none⟩)), (15, .pointer (some ⟨b22, 0, none⟩)), (16, .int .i64 0)] ?_
        refine cont_done ?_
        refine then_normal ?_
        refine cont_seq ?_
        refine cont_seq ?_
        refine cont_region 2 rfl ?_
        refine bS [0, 0] 2 0 [(4, .int .i64 how_), (5, .slice A2 n2 cap2), (13, .pointer (some ⟨b8, 0, none⟩)), (14, .pointer (some ⟨bl9, 0, none⟩)), (15, .pointer (some ⟨b22, 0, none⟩)), (16, .int .i64 0), (36, .bool true)] ?_
        refine cont_done ?_
        refine then_normal ?_
        refine cont_true rfl ?_
        refine cont_seq ?_
        refine cont_region 14 rfl ?_
        refine bS [0, 0, 0] 3 11 [(13, .pointer (some ⟨b8, 0, none⟩)), (14, .pointer (some ⟨bl9, 0, none⟩)), (37, .pointer (some ⟨bl9, 0, none⟩)), (38, .agg #[.int .i64 R.x0, .int .i64 R.y0, .int .i64 R.x1, .int .i64 R.y1]), (39, .slice A2 n2 cap2)] ?_
        refine cont_forget 0 rfl ?_
        refine pl_step 4 10 rfl rfl ?_
        refine call_gen (d := 40) (α := Unit) (fun _ => .int .i64 (wrE (1 + aroundI w_ 16) (1 + aroundI h_ 16) R.x0 R.y0 R.x1 R.y1 xs2)) (fun _ => [.cells bl9 [.int .i64 (1 + aroundI w_ 16), .int .i64 (1 + aroundI h_ 16), .slice (some ⟨bq9, 0, none⟩) n3 n3] 84 true, .gen (rowE (some ⟨bq9, 0, none⟩) bq9 n3 n3 28 1 (ivals .u32 (wrA (1 + aroundI w_ 16) (1 + aroundI h_ 16) (goodP n3 xs1 n3) R.x0 R.y0 R.x1 R.y1 xs2)) true), .cells b8 [.int .i64 (1 + aroundI w_ 16), .int .i64 (1 + aroundI h_ 16), .slice (some ⟨r2, 0, none⟩) n3 n3] 37 true, .gen (rowE (some ⟨r2, 0, none⟩) r2 n3 n3 28 1 (ivals .u32 (goodP n3 xs1 n3)) true), .gen (rdE (A1) g1 o1 n1 1 (ivals .u32 xs1)), .gen (rdE (A2) g2 o2 n2 1 (ivals .u8 xs2))]) (fun _ => True) (by kernel_rfl) (fun w hT => (imgWrite bl9 (1 + aroundI w_ 16) (1 + aroundI h_ 16) bq9 n3 n3 (goodP n3 xs1 n3) R.x0 R.y0 R.x1 R.y1 A2 g2 o2 n2 cap2 xs2 w (hT.view (.cons (i := 0) rfl Vw.roc (.cons (i := 1) rfl Vw.row (.cons (i := 5) rfl Vw.rd .nil))) (by decide)) hM5_ (Row.capLe (hT.ok 1 _ rfl)) (by omega) hx2).mono fun e w' ⟨he_, ht_⟩ => ⟨(), he_, trivial, hT.merge (N := []) (s := [0, 1]) ht_ (.skip rfl (.cons (i := 1) rfl Mg.row .nil)) (by decide) (fun i e h => by simp at h)⟩) (fun _ _ => ?_)
        have hE_ := (wrE_ins hin : wrE (1 + aroundI w_ 16) (1 + aroundI h_ 16) R.x0 R.y0 R.x1 R.y1 xs2 = 4)
        refine cont_recast 40 (.int .i64 (wrE (1 + aroundI w_ 16) (1 + aroundI h_ 16) R.x0 R.y0 R.x1 R.y1 xs2)) (.int .i64 4) rfl (congrArg (Value.int .i64) hE_) ?_
        refine bS [0, 0, 0, 2] 8 6 [(42, .bool true), (43, .pointer (some ⟨bl9, 0, none⟩)), (44, .agg #[.int .i64 (1 + aroundI w_ 16), .int .i64 (1 + aroundI h_ 16), .slice (some ⟨r2, 0, none⟩) n3 n3])] ?_
        refine cont_forget 2 rfl ?_
        refine pl_step 9 5 rfl rfl ?_
        refine cont_rowEq (k := .u32) 1 (wrA (1 + aroundI w_ 16) (1 + aroundI h_ 16) (goodP n3 xs1 n3) R.x0 R.y0 R.x1 R.y1 xs2) (goodP n3 xs1 n3) rfl (wrA_no (by rw [hE_]; decide)) ?_
        refine call_pure (d := 45) (.bool true) (by kernel_rfl) (fun w hT => likeT bl9 (1 + aroundI w_ 16) (1 + aroundI h_ 16) bq9 n3 n3 (goodP n3 xs1 n3) r2 n3 n3 w (hT.viewRo (.cons (i := 0) rfl Vw.roc (.cons (i := 1) rfl Vw.rowRd (.cons (i := 2) rfl Vw.rowRd .nil))) rfl) hM5_ (Row.capLe (hT.ok 1 _ rfl))) ?_
        refine bS [0, 0] 11 3 [(47, .bool true)] ?_
        refine cont_forget 0 rfl ?_
        refine pl_step 12 2 rfl rfl ?_
        refine call_pure (d := 48) (.bool true) (by kernel_rfl) (fun w hT => lives4  w) ?_
        refine bS [0, 0] 14 0 [(12, .bool true)] ?_
        refine cont_done ?_
        refine then_normal ?_
        refine cont_ret ?_
        refine then_ret ?_
        refine ret_one (.inl rfl) rfl 0 (.bool true) (by kernel_rfl) (by kernel_rfl) (fun w hT => ?_)
        exact ⟨rfl, hT.post rfl⟩
    refine one_step1 0 (fun b30 => [(4, .int .i64 how_), (5, .slice A2 n2 cap2), (13, .pointer (some ⟨b8, 0, none⟩)), (14, .pointer (some ⟨bl9, 0, none⟩)), (15, .pointer (some ⟨b30, 0, none⟩)), (28, .agg #[.int .i64 (aroundI ra 24 - 4), .int .i64 (aroundI rb 24 - 4), .int .i64 ((aroundI ra 24 - 4) + aroundI rc 13), .int .i64 ((aroundI rb 24 - 4) + aroundI rd 13)]), (29, .agg #[.int .i64 (1 + aroundI w_ 16), .int .i64 (1 + aroundI h_ 16), .slice (some ⟨r2, 0, none⟩) n3 n3])]) (fun b30 => [.cells b30 [.int .i64 0, .int .i64 0, .int .i64 0, .int .i64 0] 32 true, .cells bl9 [.int .i64 (1 + aroundI w_ 16), .int .i64 (1 + aroundI h_ 16), .slice (some ⟨bq9, 0, none⟩) n3 n3] 84 true, .gen (rowE (some ⟨bq9, 0, none⟩) bq9 n3 n3 28 1 (ivals .u32 (goodP n3 xs1 n3)) true), .cells b8 [.int .i64 (1 + aroundI w_ 16), .int .i64 (1 + aroundI h_ 16), .slice (some ⟨r2, 0, none⟩) n3 n3] 37 true, .gen (rowE (some ⟨r2, 0, none⟩) r2 n3 n3 28 1 (ivals .u32 (goodP n3 xs1 n3)) true), .cells b1 [.int .i64 ra, .int .i64 rb, .int .i64 rc, .int .i64 rd] 32 true, .gen (rdE (A1) g1 o1 n1 1 (ivals .u32 xs1)), .gen (rdE (A2) g2 o2 n2 1 (ivals .u8 xs2))]) (fun b30 => by kernel_rfl) (fun b30 => by kernel_rfl) (fun b30 => ?_)
    refine drawn_next 1 [] (by kernel_rfl) ?_
    refine drawn_one 3 2 rfl (by kernel_rfl) ?_
    refine call_pure (d := 30) (.agg #[.int .i64 0, .int .i64 0, .int .i64 (1 + aroundI w_ 16), .int .i64 (1 + aroundI h_ 16)]) (by kernel_rfl) (fun w hT => refBox (1 + aroundI w_ 16) (1 + aroundI h_ 16) (.slice (some ⟨r2, 0, none⟩) n3 n3) w) ?_
    refine drawn_next 1 [] (by kernel_rfl) ?_
    refine drawn_one 4 1 rfl (by kernel_rfl) ?_
    refine call_pure (d := 31) (.agg #[.int .i64 ((cutR (aroundI ra 24 - 4) (aroundI rb 24 - 4) ((aroundI ra 24 - 4) + aroundI rc 13) ((aroundI rb 24 - 4) + aroundI rd 13) 0 0 (1 + aroundI w_ 16) (1 + aroundI h_ 16)).x0), .int .i64 ((cutR (aroundI ra 24 - 4) (aroundI rb 24 - 4) ((aroundI ra 24 - 4) + aroundI rc 13) ((aroundI rb 24 - 4) + aroundI rd 13) 0 0 (1 + aroundI w_ 16) (1 + aroundI h_ 16)).y0), .int .i64 ((cutR (aroundI ra 24 - 4) (aroundI rb 24 - 4) ((aroundI ra 24 - 4) + aroundI rc 13) ((aroundI rb 24 - 4) + aroundI rd 13) 0 0 (1 + aroundI w_ 16) (1 + aroundI h_ 16)).x1), .int .i64 ((cutR (aroundI ra 24 - 4) (aroundI rb 24 - 4) ((aroundI ra 24 - 4) + aroundI rc 13) ((aroundI rb 24 - 4) + aroundI rd 13) 0 0 (1 + aroundI w_ 16) (1 + aroundI h_ 16)).y1)]) (by kernel_rfl) (fun w hT => refCut (aroundI ra 24 - 4) (aroundI rb 24 - 4) ((aroundI ra 24 - 4) + aroundI rc 13) ((aroundI rb 24 - 4) + aroundI rd 13) 0 0 (1 + aroundI w_ 16) (1 + aroundI h_ 16) w) ?_
    obtain ⟨R, hR⟩ : ∃ R : Rect, R = (cutR (aroundI ra 24 - 4) (aroundI rb 24 - 4) ((aroundI ra 24 - 4) + aroundI rc 13) ((aroundI rb 24 - 4) + aroundI rd 13) 0 0 (1 + aroundI w_ 16) (1 + aroundI h_ 16)) := ⟨_, rfl⟩
    have hcs := cut_ins hR hM5_w1 hM5_h1
    refine cont_recast 31 (.agg #[.int .i64 ((cutR (aroundI ra 24 - 4) (aroundI rb 24 - 4) ((aroundI ra 24 - 4) + aroundI rc 13) ((aroundI rb 24 - 4) + aroundI rd 13) 0 0 (1 + aroundI w_ 16) (1 + aroundI h_ 16)).x0), .int .i64 ((cutR (aroundI ra 24 - 4) (aroundI rb 24 - 4) ((aroundI ra 24 - 4) + aroundI rc 13) ((aroundI rb 24 - 4) + aroundI rd 13) 0 0 (1 + aroundI w_ 16) (1 + aroundI h_ 16)).y0), .int .i64 ((cutR (aroundI ra 24 - 4) (aroundI rb 24 - 4) ((aroundI ra 24 - 4) + aroundI rc 13) ((aroundI rb 24 - 4) + aroundI rd 13) 0 0 (1 + aroundI w_ 16) (1 + aroundI h_ 16)).x1), .int .i64 ((cutR (aroundI ra 24 - 4) (aroundI rb 24 - 4) ((aroundI ra 24 - 4) + aroundI rc 13) ((aroundI rb 24 - 4) + aroundI rd 13) 0 0 (1 + aroundI w_ 16) (1 + aroundI h_ 16)).y1)]) (.agg #[.int .i64 R.x0, .int .i64 R.y0, .int .i64 R.x1, .int .i64 R.y1]) rfl (by rw [hR]) ?_
    have hWb : (1 + aroundI w_ 16) ≤ 256 := hM5_.w2
    have hHb : (1 + aroundI h_ 16) ≤ 256 := hM5_.h2
    refine drawn_next 1 [] (by kernel_rfl) ?_
    refine drawn_one 6 0 rfl (by kernel_rfl) ?_
    refine one_step 0 [(4, .int .i64 how_), (5, .slice A2 n2 cap2), (13, .pointer (some ⟨b8, 0, none⟩)), (14, .pointer (some ⟨bl9, 0, none⟩)), (15, .pointer (some ⟨b30, 0, none⟩))] [.cells b30 [.int .i64 R.x0, .int .i64 R.y0, .int .i64 R.x1, .int .i64 R.y1] 32 true, .cells bl9 [.int .i64 (1 + aroundI w_ 16), .int .i64 (1 + aroundI h_ 16), .slice (some ⟨bq9, 0, none⟩) n3 n3] 84 true, .gen (rowE (some ⟨bq9, 0, none⟩) bq9 n3 n3 28 1 (ivals .u32 (goodP n3 xs1 n3)) true), .cells b8 [.int .i64 (1 + aroundI w_ 16), .int .i64 (1 + aroundI h_ 16), .slice (some ⟨r2, 0, none⟩) n3 n3] 37 true, .gen (rowE (some ⟨r2, 0, none⟩) r2 n3 n3 28 1 (ivals .u32 (goodP n3 xs1 n3)) true), .cells b1 [.int .i64 ra, .int .i64 rb, .int .i64 rc, .int .i64 rd] 32 true, .gen (rdE (A1) g1 o1 n1 1 (ivals .u32 xs1)), .gen (rdE (A2) g2 o2 n2 1 (ivals .u8 xs2))] (by kernel_rfl) (by kernel_rfl) ?_
    refine drawn_next 1 [] (by kernel_rfl) ?_
    refine drawn_done (by kernel_rfl) ?_
    refine then_normal ?_
    refine cont_seq ?_
    refine cont_region 4 rfl ?_
    refine bS [0] 1 3 [(4, .int .i64 how_), (5, .slice A2 n2 cap2), (13, .pointer (some ⟨b8, 0, none⟩)), (14, .pointer (some ⟨bl9, 0, none⟩)), (15, .pointer (some ⟨b30, 0, none⟩)), (32, .agg #[.int .i64 R.x0, .int .i64 R.y0, .int .i64 R.x1, .int .i64 R.y1])] ?_
    refine cont_forget 5 rfl ?_
    refine pl_step 2 2 rfl rfl ?_
    rcases hcs with ⟨hin, hq1, hq2, hq3, hq4, hq5, hq6⟩ | ⟨hin, hq1, hq2, hq3, hq4⟩
    ·
      refine call_pure (d := 33) (.int .i64 (areaI R.x0 R.y0 R.x1 R.y1)) (by kernel_rfl) (fun w hT => refArea R.x0 R.y0 R.x1 R.y1 w (by omega) (by omega) (by omega) (by omega)) ?_
      obtain ⟨hae, har1, har2⟩ := ins_area hM5_ hin
      obtain ⟨Ar, hAr⟩ : ∃ y_ : Nat, (y_ : Int) = areaI R.x0 R.y0 R.x1 R.y1 := ⟨Int.toNat (areaI R.x0 R.y0 R.x1 R.y1), by omega⟩
      refine cont_recast 33 (.int .i64 (areaI R.x0 R.y0 R.x1 R.y1)) (.int .i64 ((Ar : Nat) : Int)) rfl (congrArg (Value.int .i64) hAr.symm) ?_
      refine bS [0] 3 1 [(4, .int .i64 how_), (5, .slice A2 n2 cap2), (13, .pointer (some ⟨b8, 0, none⟩)), (14, .pointer (some ⟨bl9, 0, none⟩)), (15, .pointer (some ⟨b30, 0, none⟩)), (34, .int .i64 (IntKind.i64.wrap (4 * ((Ar : Nat) : Int))))] ?_
      refine cont_recast 34 (.int .i64 (IntKind.i64.wrap (4 * ((Ar : Nat) : Int)))) (.int .i64 (4 * ((Ar : Nat) : Int))) rfl (wrapI (by omega) (by omega)) ?_
      refine bS [0] 4 0 [(4, .int .i64 how_), (5, .slice A2 n2 cap2), (13, .pointer (some ⟨b8, 0, none⟩)), (14, .pointer (some ⟨bl9, 0, none⟩)), (15, .pointer (some ⟨b30, 0, none⟩)), (16, .int .i64 (4 * ((Ar : Nat) : Int)))] ?_
      refine cont_done ?_
      refine then_normal ?_
      refine cont_seq ?_
      refine cont_seq ?_
      refine cont_region 2 rfl ?_
      obtain ⟨NB, hNB⟩ : ∃ y_ : Nat, (y_ : Int) = 4 * ((Ar : Nat) : Int) := ⟨4 * Ar, by omega⟩
      refine cont_recast 16 (.int .i64 (4 * ((Ar : Nat) : Int))) (.int .i64 ((NB : Nat) : Int)) rfl (congrArg (Value.int .i64) hNB.symm) ?_
      refine bS [0, 0] 2 0 [(4, .int .i64 how_), (5, .slice A2 n2 cap2), (13, .pointer (some ⟨b8, 0, none⟩)), (14, .pointer (some ⟨bl9, 0, none⟩)), (15, .pointer (some ⟨b30, 0, none⟩)), (16, .int .i64 ((NB : Nat) : Int)), (36, .bool (((NB : Nat) : Int) == 0))] ?_
      refine cont_done ?_
      refine then_normal ?_
      refine cont_recast 36 (.bool (((NB : Nat) : Int) == 0)) (.bool false) rfl (congrArg Value.bool (beq_eq_false_iff_ne.2 (by omega))) ?_
      refine cont_false rfl ?_
      refine cont_skip ?_
      refine then_normal ?_
      refine cont_seq ?_
      refine cont_region 3 rfl ?_
      refine bS [0] 1 2 [(4, .int .i64 how_), (13, .pointer (some ⟨b8, 0, none⟩)), (14, .pointer (some ⟨bl9, 0, none⟩)), (15, .pointer (some ⟨b30, 0, none⟩)), (16, .int .i64 ((NB : Nat) : Int)), (50, .int .i64 ((NB : Nat) : Int))] ?_
      refine pl_step 2 1 rfl rfl ?_
      refine sem_stepW 51 (Instr.makeSlice 43 (.int .i64 ((NB : Nat) : Int)) (.int .i64 ((NB : Nat) : Int))) (fun r32 => .slice (some ⟨r32, 0, none⟩) (NB : Nat) (NB : Nat)) (fun r32 => [.gen (rowE (some ⟨r32, 0, none⟩) r32 (NB : Nat) (NB : Nat) 5 1 (ivals .u8 (List.replicate (NB : Nat) 0)) true), .cells b30 [.int .i64 R.x0, .int .i64 R.y0, .int .i64 R.x1, .int .i64 R.y1] 32 true, .cells bl9 [.int .i64 (1 + aroundI w_ 16), .int .i64 (1 + aroundI h_ 16), .slice (some ⟨bq9, 0, none⟩) n3 n3] 84 true, .gen (rowE (some ⟨bq9, 0, none⟩) bq9 n3 n3 28 1 (ivals .u32 (goodP n3 xs1 n3)) true), .cells b8 [.int .i64 (1 + aroundI w_ 16), .int .i64 (1 + aroundI h_ 16), .slice (some ⟨r2, 0, none⟩) n3 n3] 37 true, .gen (rowE (some ⟨r2, 0, none⟩) r2 n3 n3 28 1 (ivals .u32 (goodP n3 xs1 n3)) true), .gen (rdE (A1) g1 o1 n1 1 (ivals .u32 xs1)), .gen (rdE (A2) g2 o2 n2 1 (ivals .u8 xs2))]) (fun _ => True) (by kernel_rfl) (fun w hT => make_row hT (bytes := 1) (NB : Nat) (by kernel_rfl) (by kernel_rfl) (by omega) (by omega)) (fun r32 _ => ?_)
      refine bS [0] 3 0 [(4, .int .i64 how_), (13, .pointer (some ⟨b8, 0, none⟩)), (14, .pointer (some ⟨bl9, 0, none⟩)), (15, .pointer (some ⟨b30, 0, none⟩)), (16, .int .i64 ((NB : Nat) : Int)), (17, .slice (some ⟨r32, 0, none⟩) (NB : Nat) (NB : Nat))] ?_
      refine cont_done ?_
      refine then_normal ?_
      refine cont_seq ?_
      refine cont_region 1 rfl ?_
      refine bS [0] 1 0 [(4, .int .i64 how_), (13, .pointer (some ⟨b8, 0, none⟩)), (14, .pointer (some ⟨bl9, 0, none⟩)), (15, .pointer (some ⟨b30, 0, none⟩)), (16, .int .i64 ((NB : Nat) : Int)), (17, .slice (some ⟨r32, 0, none⟩) (NB : Nat) (NB : Nat)), (18, .int .i64 1)] ?_
      refine cont_done ?_
      refine then_normal ?_
      refine cont_seq ?_
      refine cont_seq ?_
      refine cont_region 2 rfl ?_
      refine bS [0, 0] 2 0 [(13, .pointer (some ⟨b8, 0, none⟩)), (14, .pointer (some ⟨bl9, 0, none⟩)), (15, .pointer (some ⟨b30, 0, none⟩)), (16, .int .i64 ((NB : Nat) : Int)), (17, .slice (some ⟨r32, 0, none⟩) (NB : Nat) (NB : Nat)), (18, .int .i64 1), (53, .int .i64 (how_.tmod 3))] ?_
      refine cont_done ?_
      refine then_normal ?_
      refine cont_block ?_
      refine cont_seq ?_
      refine cont_region 2 rfl ?_
      refine bS [0, 0] 2 0 [(13, .pointer (some ⟨b8, 0, none⟩)), (14, .pointer (some ⟨bl9, 0, none⟩)), (15, .pointer (some ⟨b30, 0, none⟩)), (16, .int .i64 ((NB : Nat) : Int)), (17, .slice (some ⟨r32, 0, none⟩) (NB : Nat) (NB : Nat)), (18, .int .i64 1), (53, .int .i64 (how_.tmod 3)), (58, .bool ((how_.tmod 3) == 0))] ?_
      refine cont_done ?_
      refine then_normal ?_
      refine cont_split 58 ((how_.tmod 3) == 0) rfl (fun c33_ => ?_) (fun c33_ => ?_)
      ·
        replace c33_ := eq_of_beqt c33_
        refine cont_true rfl ?_
        refine cont_seq ?_
        refine cont_region 5 rfl ?_
        refine bS [0, 0, 0] 3 2 [(13, .pointer (some ⟨b8, 0, none⟩)), (14, .pointer (some ⟨bl9, 0, none⟩)), (15, .pointer (some ⟨b30, 0, none⟩)), (60, .slice (some ⟨r32, 0, none⟩) (NB : Nat) (NB : Nat)), (62, .int .i64 (IntKind.i64.wrap (((NB : Nat) : Int) - 1)))] ?_
        refine cont_recast 62 (.int .i64 (IntKind.i64.wrap (((NB : Nat) : Int) - 1))) (.int .i64 (((NB : Nat) : Int) - 1)) rfl (wrapI (by omega) (by omega)) ?_
        refine pl_step 4 1 rfl rfl ?_
        refine sem_step 63 (Instr.sliceAt 43 (.slice (some ⟨r32, 0, none⟩) (NB : Nat) (NB : Nat)) none (some (.int .i64 (((NB : Nat) : Int) - 1))) none) (.slice (some ⟨r32, 0, none⟩) (Int.toNat (((NB : Nat) : Int) - 1)) (NB : Nat)) (by kernel_rfl) (fun w hT => run_sliceHiC (e := 5) (sz := 1) _ (by kernel_rfl) (by kernel_rfl) (by omega) (by omega) (by omega) w) ?_
        refine bS [0] 5 0 [(13, .pointer (some ⟨b8, 0, none⟩)), (14, .pointer (some ⟨bl9, 0, none⟩)), (15, .pointer (some ⟨b30, 0, none⟩)), (17, .slice (some ⟨r32, 0, none⟩) (Int.toNat (((NB : Nat) : Int) - 1)) (NB : Nat))] ?_
        refine cont_done ?_
        refine then_normal ?_
        refine cont_region 1 rfl ?_
        refine bS [0] 1 0 [(13, .pointer (some ⟨b8, 0, none⟩)), (14, .pointer (some ⟨bl9, 0, none⟩)), (15, .pointer (some ⟨b30, 0, none⟩)), (17, .slice (some ⟨r32, 0, none⟩) (Int.toNat (((NB : Nat) : Int) - 1)) (NB : Nat)), (18, .int .i64 3)] ?_
        refine cont_done ?_
        refine blk_normal ?_
        refine then_normal ?_
        refine cont_seq ?_
        refine cont_region 15 rfl ?_
        refine bS [0, 1, 0] 3 12 [(13, .pointer (some ⟨b8, 0, none⟩)), (14, .pointer (some ⟨bl9, 0, none⟩)), (18, .int .i64 3), (69, .pointer (some ⟨bl9, 0, none⟩)), (70, .agg #[.int .i64 R.x0, .int .i64 R.y0, .int .i64 R.x1, .int .i64 R.y1]), (71, .slice (some ⟨r32, 0, none⟩) (Int.toNat (((NB : Nat) : Int) - 1)) (NB : Nat))] ?_
        refine cont_forget 1 rfl ?_
        refine pl_step 4 11 rfl rfl ?_
        refine call_gen (d := 72) (α := Unit) (fun _ => .int .i64 (wrE (1 + aroundI w_ 16) (1 + aroundI h_ 16) R.x0 R.y0 R.x1 R.y1 ((List.replicate (NB : Nat) 0).take (Int.toNat (((NB : Nat) : Int) - 1))))) (fun _ => [.gen (rowE (some ⟨r32, 0, none⟩) r32 (NB : Nat) (NB : Nat) 5 1 (ivals .u8 (List.replicate (NB : Nat) 0)) true), .cells bl9 [.int .i64 (1 + aroundI w_ 16), .int .i64 (1 + aroundI h_ 16), .slice (some ⟨bq9, 0, none⟩) n3 n3] 84 true, .gen (rowE (some ⟨bq9, 0, none⟩) bq9 n3 n3 28 1 (ivals .u32 (wrA (1 + aroundI w_ 16) (1 + aroundI h_ 16) (goodP n3 xs1 n3) R.x0 R.y0 R.x1 R.y1 ((List.replicate (NB : Nat) 0).take (Int.toNat (((NB : Nat) : Int) - 1))))) true), .cells b8 [.int .i64 (1 + aroundI w_ 16), .int .i64 (1 + aroundI h_ 16), .slice (some ⟨r2, 0, none⟩) n3 n3] 37 true, .gen (rowE (some ⟨r2, 0, none⟩) r2 n3 n3 28 1 (ivals .u32 (goodP n3 xs1 n3)) true), .gen (rdE (A1) g1 o1 n1 1 (ivals .u32 xs1)), .gen (rdE (A2) g2 o2 n2 1 (ivals .u8 xs2))]) (fun _ => True) (by kernel_rfl) (fun w hT => (imgWrite bl9 (1 + aroundI w_ 16) (1 + aroundI h_ 16) bq9 n3 n3 (goodP n3 xs1 n3) R.x0 R.y0 R.x1 R.y1 (some ⟨r32, 0, none⟩) r32 0 (Int.toNat (((NB : Nat) : Int) - 1)) (NB : Nat) ((List.replicate (NB : Nat) 0).take (Int.toNat (((NB : Nat) : Int) - 1))) w (hT.view (.cons (i := 1) rfl Vw.roc (.cons (i := 2) rfl Vw.row (.cons (i := 0) rfl (Vw.rowHeadN (by omega)) .nil))) (by decide)) hM5_ (Row.capLe (hT.ok 2 _ rfl)) (by omega) (rep_byte _ _)).mono fun e w' ⟨he_, ht_⟩ => ⟨(), he_, trivial, hT.merge (N := []) (s := [1, 2]) ht_ (.skip rfl (.cons (i := 2) rfl Mg.row .nil)) (by decide) (fun i e h => by simp at h)⟩) (fun _ _ => ?_)
        have hE_ := show wrE (1 + aroundI w_ 16) (1 + aroundI h_ 16) R.x0 R.y0 R.x1 R.y1 ((List.replicate (NB : Nat) 0).take (Int.toNat (((NB : Nat) : Int) - 1))) = 3 from (wrE_short hin (by rw [List.length_take, List.length_replicate]; omega))
        refine cont_recast 72 (.int .i64 (wrE (1 + aroundI w_ 16) (1 + aroundI h_ 16) R.x0 R.y0 R.x1 R.y1 ((List.replicate (NB : Nat) 0).take (Int.toNat (((NB : Nat) : Int) - 1))))) (.int .i64 3) rfl (congrArg (Value.int .i64) hE_) ?_
        refine bS [0, 0, 0, 0, 3] 9 6 [(75, .bool true), (76, .pointer (some ⟨bl9, 0, none⟩)), (77, .agg #[.int .i64 (1 + aroundI w_ 16), .int .i64 (1 + aroundI h_ 16), .slice (some ⟨r2, 0, none⟩) n3 n3])] ?_
        refine cont_forget 3 rfl ?_
        refine pl_step 10 5 rfl rfl ?_
        refine cont_rowEq (k := .u32) 2 (wrA (1 + aroundI w_ 16) (1 + aroundI h_ 16) (goodP n3 xs1 n3) R.x0 R.y0 R.x1 R.y1 ((List.replicate (NB : Nat) 0).take (Int.toNat (((NB : Nat) : Int) - 1)))) (goodP n3 xs1 n3) rfl (wrA_no (by rw [hE_]; decide)) ?_
        refine call_pure (d := 78) (.bool true) (by kernel_rfl) (fun w hT => likeT bl9 (1 + aroundI w_ 16) (1 + aroundI h_ 16) bq9 n3 n3 (goodP n3 xs1 n3) r2 n3 n3 w (hT.viewRo (.cons (i := 1) rfl Vw.roc (.cons (i := 2) rfl Vw.rowRd (.cons (i := 3) rfl Vw.rowRd .nil))) rfl) hM5_ (Row.capLe (hT.ok 2 _ rfl))) ?_
        refine bS [0, 0] 12 3 [(80, .bool true)] ?_
        refine cont_forget 1 rfl ?_
        refine pl_step 13 2 rfl rfl ?_
        refine call_pure (d := 81) (.bool true) (by kernel_rfl) (fun w hT => lives4  w) ?_
        refine bS [0, 0] 15 0 [(12, .bool true)] ?_
        refine cont_done ?_
        refine then_normal ?_
        refine cont_ret ?_
        refine ret_one (.inl rfl) rfl 0 (.bool true) (by kernel_rfl) (by kernel_rfl) (fun w hT => ?_)
        exact ⟨rfl, hT.post rfl⟩
      replace c33_ := ne_of_beqf c33_
      refine cont_false rfl ?_
      refine cont_seq ?_
      refine cont_region 2 rfl ?_
      refine bS [0, 0] 2 0 [(13, .pointer (some ⟨b8, 0, none⟩)), (14, .pointer (some ⟨bl9, 0, none⟩)), (15, .pointer (some ⟨b30, 0, none⟩)), (16, .int .i64 ((NB : Nat) : Int)), (17, .slice (some ⟨r32, 0, none⟩) (NB : Nat) (NB : Nat)), (18, .int .i64 1), (64, .bool ((how_.tmod 3) == 1))] ?_
      refine cont_done ?_
      refine then_normal ?_
      refine cont_split 64 ((how_.tmod 3) == 1) rfl (fun c34_ => ?_) (fun c34_ => ?_)
      ·
        replace c34_ := eq_of_beqt c34_
        refine cont_true rfl ?_
        refine cont_seq ?_
        refine cont_region 4 rfl ?_
        refine batch1 [0, 0] 2 2 (fun b35 => [(13, .pointer (some ⟨b8, 0, none⟩)), (14, .pointer (some ⟨bl9, 0, none⟩)), (15, .pointer (some ⟨b30, 0, none⟩)), (66, .slice (some ⟨r32, 0, none⟩) (NB : Nat) (NB : Nat)), (67, .slice (some ⟨b35, 0, none⟩) 1 1)]) (fun b35 => [.cells b35 [.int .u8 0] 5 true, .gen (rowE (some ⟨r32, 0, none⟩) r32 (NB : Nat) (NB : Nat) 5 1 (ivals .u8 (List.replicate (NB : Nat) 0)) true), .cells b30 [.int .i64 R.x0, .int .i64 R.y0, .int .i64 R.x1, .int .i64 R.y1] 32 true, .cells bl9 [.int .i64 (1 + aroundI w_ 16), .int .i64 (1 + aroundI h_ 16), .slice (some ⟨bq9, 0, none⟩) n3 n3] 84 true, .gen (rowE (some ⟨bq9, 0, none⟩) bq9 n3 n3 28 1 (ivals .u32 (goodP n3 xs1 n3)) true), .cells b8 [.int .i64 (1 + aroundI w_ 16), .int .i64 (1 + aroundI h_ 16), .slice (some ⟨r2, 0, none⟩) n3 n3] 37 true, .gen (rowE (some ⟨r2, 0, none⟩) r2 n3 n3 28 1 (ivals .u32 (goodP n3 xs1 n3)) true), .gen (rdE (A1) g1 o1 n1 1 (ivals .u32 xs1)), .gen (rdE (A2) g2 o2 n2 1 (ivals .u8 xs2))]) rfl rfl [13, 14, 15, 66, 67] (fun _ => rfl) (fun b35 => by kernel_rfl) (fun b35 => by kernel_rfl) (fun b35 => ?_)
        refine pl_step 3 1 rfl rfl ?_
        refine sem_stepW (α := Option Addr × Nat × Nat) 68 (Builtin.append_ #[43, 43] 43 #[.slice (some ⟨r32, 0, none⟩) (NB : Nat) (NB : Nat), .slice (some ⟨b35, 0, none⟩) 1 1]) (fun x_ => .slice x_.1 ((NB : Nat) + 1) x_.2.2) (fun x_ => [.cells b35 [.int .u8 0] 5 true, .gen (rowE (x_.1) x_.2.1 ((NB : Nat) + 1) x_.2.2 5 1 (ivals .u8 ((List.replicate (NB : Nat) 0) ++ [0])) true), .cells b30 [.int .i64 R.x0, .int .i64 R.y0, .int .i64 R.x1, .int .i64 R.y1] 32 true, .cells bl9 [.int .i64 (1 + aroundI w_ 16), .int .i64 (1 + aroundI h_ 16), .slice (some ⟨bq9, 0, none⟩) n3 n3] 84 true, .gen (rowE (some ⟨bq9, 0, none⟩) bq9 n3 n3 28 1 (ivals .u32 (goodP n3 xs1 n3)) true), .cells b8 [.int .i64 (1 + aroundI w_ 16), .int .i64 (1 + aroundI h_ 16), .slice (some ⟨r2, 0, none⟩) n3 n3] 37 true, .gen (rowE (some ⟨r2, 0, none⟩) r2 n3 n3 28 1 (ivals .u32 (goodP n3 xs1 n3)) true), .gen (rdE (A1) g1 o1 n1 1 (ivals .u32 xs1)), .gen (rdE (A2) g2 o2 n2 1 (ivals .u8 xs2))]) (fun _ => True) (by kernel_rfl) (fun w hT => append_own (n' := ((NB : Nat) + 1)) (z := .int .u8 0) hT (i := 1) (bytes := 1) rfl (by kernel_rfl) (by kernel_rfl) rfl (by decide) (by decide) (Rd.ofCells (vals := ivals .u8 [0]) (hT.ok 0 _ rfl) rfl rfl) (ivals_one .u8 [0]) (by omega) (ivals_append .u8 (List.replicate (NB : Nat) 0) [0]) rfl) ?_
        rintro ⟨A36, g36, cp36⟩ -
        refine cont_norm [(13, .pointer (some ⟨b8, 0, none⟩)), (14, .pointer (some ⟨bl9, 0, none⟩)), (15, .pointer (some ⟨b30, 0, none⟩)), (66, .slice (some ⟨r32, 0, none⟩) (NB : Nat) (NB : Nat)), (67, .slice (some ⟨b35, 0, none⟩) 1 1), (68, .slice A36 ((NB : Nat) + 1) cp36)] [.cells b35 [.int .u8 0] 5 true, .gen (rowE (A36) g36 ((NB : Nat) + 1) cp36 5 1 (ivals .u8 ((List.replicate (NB : Nat) 0) ++ [0])) true), .cells b30 [.int .i64 R.x0, .int .i64 R.y0, .int .i64 R.x1, .int .i64 R.y1] 32 true, .cells bl9 [.int .i64 (1 + aroundI w_ 16), .int .i64 (1 + aroundI h_ 16), .slice (some ⟨bq9, 0, none⟩) n3 n3] 84 true, .gen (rowE (some ⟨bq9, 0, none⟩) bq9 n3 n3 28 1 (ivals .u32 (goodP n3 xs1 n3)) true), .cells b8 [.int .i64 (1 + aroundI w_ 16), .int .i64 (1 + aroundI h_ 16), .slice (some ⟨r2, 0, none⟩) n3 n3] 37 true, .gen (rowE (some ⟨r2, 0, none⟩) r2 n3 n3 28 1 (ivals .u32 (goodP n3 xs1 n3)) true), .gen (rdE (A1) g1 o1 n1 1 (ivals .u32 xs1)), .gen (rdE (A2) g2 o2 n2 1 (ivals .u8 xs2))] (by kernel_rfl) rfl ?_
        refine cont_fact (F := (0 < ((NB : Nat) + 1) → (A36 : Option Addr) = some ⟨g36, 0, none⟩) ∧ (((List.replicate (NB : Nat) 0) ++ [0]) : List Int).length = ((NB : Nat) + 1) ∧ ((NB : Nat) + 1) ≤ cp36 ∧ cp36 ≤ maxLen) (fun w hT => Row.facts (hT.ok 1 _ rfl)) (fun hr37_ => ?_)
        obtain ⟨hr37_a, hr37_l, hr37_c, hr37_m⟩ := hr37_
        unfold maxLen at hr37_m
        refine bS [0] 4 0 [(13, .pointer (some ⟨b8, 0, none⟩)), (14, .pointer (some ⟨bl9, 0, none⟩)), (15, .pointer (some ⟨b30, 0, none⟩)), (17, .slice A36 ((NB : Nat) + 1) cp36)] ?_
        refine cont_forget 0 rfl ?_
        refine cont_done ?_
        refine then_normal ?_
        refine cont_region 1 rfl ?_
        refine bS [0] 1 0 [(13, .pointer (some ⟨b8, 0, none⟩)), (14, .pointer (some ⟨bl9, 0, none⟩)), (15, .pointer (some ⟨b30, 0, none⟩)), (17, .slice A36 ((NB : Nat) + 1) cp36), (18, .int .i64 2)] ?_
        refine cont_done ?_
        refine blk_normal ?_
        refine then_normal ?_
        refine cont_seq ?_
        refine cont_region 15 rfl ?_
        refine bS [0, 1, 0] 3 12 [(13, .pointer (some ⟨b8, 0, none⟩)), (14, .pointer (some ⟨bl9, 0, none⟩)), (18, .int .i64 2), (69, .pointer (some ⟨bl9, 0, none⟩)), (70, .agg #[.int .i64 R.x0, .int .i64 R.y0, .int .i64 R.x1, .int .i64 R.y1]), (71, .slice A36 ((NB : Nat) + 1) cp36)] ?_
        refine cont_forget 1 rfl ?_
        refine pl_step 4 11 rfl rfl ?_
        refine call_gen (d := 72) (α := Unit) (fun _ => .int .i64 (wrE (1 + aroundI w_ 16) (1 + aroundI h_ 16) R.x0 R.y0 R.x1 R.y1 ((List.replicate (NB : Nat) 0) ++ [0]))) (fun _ => [.gen (rowE (A36) g36 ((NB : Nat) + 1) cp36 5 1 (ivals .u8 ((List.replicate (NB : Nat) 0) ++ [0])) true), .cells bl9 [.int .i64 (1 + aroundI w_ 16), .int .i64 (1 + aroundI h_ 16), .slice (some ⟨bq9, 0, none⟩) n3 n3] 84 true, .gen (rowE (some ⟨bq9, 0, none⟩) bq9 n3 n3 28 1 (ivals .u32 (wrA (1 + aroundI w_ 16) (1 + aroundI h_ 16) (goodP n3 xs1 n3) R.x0 R.y0 R.x1 R.y1 ((List.replicate (NB : Nat) 0) ++ [0]))) true), .cells b8 [.int .i64 (1 + aroundI w_ 16), .int .i64 (1 + aroundI h_ 16), .slice (some ⟨r2, 0, none⟩) n3 n3] 37 true, .gen (rowE (some ⟨r2, 0, none⟩) r2 n3 n3 28 1 (ivals .u32 (goodP n3 xs1 n3)) true), .gen (rdE (A1) g1 o1 n1 1 (ivals .u32 xs1)), .gen (rdE (A2) g2 o2 n2 1 (ivals .u8 xs2))]) (fun _ => True) (by kernel_rfl) (fun w hT => (imgWrite bl9 (1 + aroundI w_ 16) (1 + aroundI h_ 16) bq9 n3 n3 (goodP n3 xs1 n3) R.x0 R.y0 R.x1 R.y1 A36 g36 0 ((NB : Nat) + 1) cp36 ((List.replicate (NB : Nat) 0) ++ [0]) w (hT.view (.cons (i := 1) rfl Vw.roc (.cons (i := 2) rfl Vw.row (.cons (i := 0) rfl Vw.rowRd .nil))) (by decide)) hM5_ (Row.capLe (hT.ok 2 _ rfl)) (by omega) (rep_byte1 _)).mono fun e w' ⟨he_, ht_⟩ => ⟨(), he_, trivial, hT.merge (N := []) (s := [1, 2]) ht_ (.skip rfl (.cons (i := 2) rfl Mg.row .nil)) (by decide) (fun i e h => by simp at h)⟩) (fun _ _ => ?_)
        have hE_ := show wrE (1 + aroundI w_ 16) (1 + aroundI h_ 16) R.x0 R.y0 R.x1 R.y1 ((List.replicate (NB : Nat) 0) ++ [0]) = 2 from (wrE_long hin (by rw [List.length_append, List.length_replicate, List.length_singleton]; omega))
        refine cont_recast 72 (.int .i64 (wrE (1 + aroundI w_ 16) (1 + aroundI h_ 16) R.x0 R.y0 R.x1 R.y1 ((List.replicate (NB : Nat) 0) ++ [0]))) (.int .i64 2) rfl (congrArg (Value.int .i64) hE_) ?_
        refine bS [0, 0, 0, 0, 3] 9 6 [(75, .bool true), (76, .pointer (some ⟨bl9, 0, none⟩)), (77, .agg #[.int .i64 (1 + aroundI w_ 16), .int .i64 (1 + aroundI h_ 16), .slice (some ⟨r2, 0, none⟩) n3 n3])] ?_
        refine cont_forget 3 rfl ?_
        refine pl_step 10 5 rfl rfl ?_
        refine cont_rowEq (k := .u32) 2 (wrA (1 + aroundI w_ 16) (1 + aroundI h_ 16) (goodP n3 xs1 n3) R.x0 R.y0 R.x1 R.y1 ((List.replicate (NB : Nat) 0) ++ [0])) (goodP n3 xs1 n3) rfl (wrA_no (by rw [hE_]; decide)) ?_
        refine call_pure (d := 78) (.bool true) (by kernel_rfl) (fun w hT => likeT bl9 (1 + aroundI w_ 16) (1 + aroundI h_ 16) bq9 n3 n3 (goodP n3 xs1 n3) r2 n3 n3 w (hT.viewRo (.cons (i := 1) rfl Vw.roc (.cons (i := 2) rfl Vw.rowRd (.cons (i := 3) rfl Vw.rowRd .nil))) rfl) hM5_ (Row.capLe (hT.ok 2 _ rfl))) ?_
        refine bS [0, 0] 12 3 [(80, .bool true)] ?_
        refine cont_forget 1 rfl ?_
        refine pl_step 13 2 rfl rfl ?_
        refine call_pure (d := 81) (.bool true) (by kernel_rfl) (fun w hT => lives4  w) ?_
        refine bS [0, 0] 15 0 [(12, .bool true)] ?_
        refine cont_done ?_
        refine then_normal ?_
        refine cont_ret ?_
        refine ret_one (.inl rfl) rfl 0 (.bool true) (by kernel_rfl) (by kernel_rfl) (fun w hT => ?_)
        exact ⟨rfl, hT.post rfl⟩
      replace c34_ := ne_of_beqf c34_
      refine cont_false rfl ?_
      refine cont_region 5 rfl ?_
      refine bS [0, 0, 0] 3 2 [(13, .pointer (some ⟨b8, 0, none⟩)), (14, .pointer (some ⟨bl9, 0, none⟩)), (15, .pointer (some ⟨b30, 0, none⟩)), (17, .slice (some ⟨r32, 0, none⟩) (NB : Nat) (NB : Nat)), (18, .int .i64 1), (54, .slice (some ⟨r32, 0, none⟩) (NB : Nat) (NB : Nat)), (56, .int .i64 (IntKind.i64.wrap (((NB : Nat) : Int) - 1)))] ?_
      refine cont_recast 56 (.int .i64 (IntKind.i64.wrap (((NB : Nat) : Int) - 1))) (.int .i64 (((NB : Nat) : Int) - 1)) rfl (wrapI (by omega) (by omega)) ?_
      refine pl_step 4 1 rfl rfl ?_
      refine sem_step 57 (Instr.indexAt 43 (.slice (some ⟨r32, 0, none⟩) (NB : Nat) (NB : Nat)) (.int .i64 (((NB : Nat) : Int) - 1))) (.pointer (some ⟨r32, Int.toNat (((NB : Nat) : Int) - 1), none⟩)) (by kernel_rfl) (fun w hT => run_indexAt (e := 5) (sz := 1) _ (by kernel_rfl) (by kernel_rfl) (by omega) (by omega) (by omega) w) ?_
      refine pl_step 5 0 rfl rfl ?_
      refine sem_stepU (Instr.storeAt 5 (.pointer (some ⟨r32, Int.toNat (((NB : Nat) : Int) - 1), none⟩)) (.int .u8 1)) (fun _ => [.gen (rowE (some ⟨r32, 0, none⟩) r32 (NB : Nat) (NB : Nat) 5 1 (ivals .u8 ((List.replicate (NB : Nat) 0).set (Int.toNat (((NB : Nat) : Int) - 1)) 1)) true), .cells b30 [.int .i64 R.x0, .int .i64 R.y0, .int .i64 R.x1, .int .i64 R.y1] 32 true, .cells bl9 [.int .i64 (1 + aroundI w_ 16), .int .i64 (1 + aroundI h_ 16), .slice (some ⟨bq9, 0, none⟩) n3 n3] 84 true, .gen (rowE (some ⟨bq9, 0, none⟩) bq9 n3 n3 28 1 (ivals .u32 (goodP n3 xs1 n3)) true), .cells b8 [.int .i64 (1 + aroundI w_ 16), .int .i64 (1 + aroundI h_ 16), .slice (some ⟨r2, 0, none⟩) n3 n3] 37 true, .gen (rowE (some ⟨r2, 0, none⟩) r2 n3 n3 28 1 (ivals .u32 (goodP n3 xs1 n3)) true), .gen (rdE (A1) g1 o1 n1 1 (ivals .u32 xs1)), .gen (rdE (A2) g2 o2 n2 1 (ivals .u8 xs2))]) (fun _ => True) (by kernel_rfl) (fun w hT => store_row hT (i := 0) rfl (by kernel_rfl) (by simp only [List.length_replicate]; omega)) (fun _ _ => ?_)
      refine cont_done ?_
      refine blk_normal ?_
      refine then_normal ?_
      refine cont_seq ?_
      refine cont_region 15 rfl ?_
      refine bS [0, 1, 0] 3 12 [(13, .pointer (some ⟨b8, 0, none⟩)), (14, .pointer (some ⟨bl9, 0, none⟩)), (18, .int .i64 1), (69, .pointer (some ⟨bl9, 0, none⟩)), (70, .agg #[.int .i64 R.x0, .int .i64 R.y0, .int .i64 R.x1, .int .i64 R.y1]), (71, .slice (some ⟨r32, 0, none⟩) (NB : Nat) (NB : Nat))] ?_
      refine cont_forget 1 rfl ?_
      refine pl_step 4 11 rfl rfl ?_
      refine call_gen (d := 72) (α := Unit) (fun _ => .int .i64 (wrE (1 + aroundI w_ 16) (1 + aroundI h_ 16) R.x0 R.y0 R.x1 R.y1 ((List.replicate (NB : Nat) 0).set (Int.toNat (((NB : Nat) : Int) - 1)) 1))) (fun _ => [.gen (rowE (some ⟨r32, 0, none⟩) r32 (NB : Nat) (NB : Nat) 5 1 (ivals .u8 ((List.replicate (NB : Nat) 0).set (Int.toNat (((NB : Nat) : Int) - 1)) 1)) true), .cells bl9 [.int .i64 (1 + aroundI w_ 16), .int .i64 (1 + aroundI h_ 16), .slice (some ⟨bq9, 0, none⟩) n3 n3] 84 true, .gen (rowE (some ⟨bq9, 0, none⟩) bq9 n3 n3 28 1 (ivals .u32 (wrA (1 + aroundI w_ 16) (1 + aroundI h_ 16) (goodP n3 xs1 n3) R.x0 R.y0 R.x1 R.y1 ((List.replicate (NB : Nat) 0).set (Int.toNat (((NB : Nat) : Int) - 1)) 1))) true), .cells b8 [.int .i64 (1 + aroundI w_ 16), .int .i64 (1 + aroundI h_ 16), .slice (some ⟨r2, 0, none⟩) n3 n3] 37 true, .gen (rowE (some ⟨r2, 0, none⟩) r2 n3 n3 28 1 (ivals .u32 (goodP n3 xs1 n3)) true), .gen (rdE (A1) g1 o1 n1 1 (ivals .u32 xs1)), .gen (rdE (A2) g2 o2 n2 1 (ivals .u8 xs2))]) (fun _ => True) (by kernel_rfl) (fun w hT => (imgWrite bl9 (1 + aroundI w_ 16) (1 + aroundI h_ 16) bq9 n3 n3 (goodP n3 xs1 n3) R.x0 R.y0 R.x1 R.y1 (some ⟨r32, 0, none⟩) r32 0 (NB : Nat) (NB : Nat) ((List.replicate (NB : Nat) 0).set (Int.toNat (((NB : Nat) : Int) - 1)) 1) w (hT.view (.cons (i := 1) rfl Vw.roc (.cons (i := 2) rfl Vw.row (.cons (i := 0) rfl Vw.rowRd .nil))) (by decide)) hM5_ (Row.capLe (hT.ok 2 _ rfl)) (by omega) (rep_byte2 _ _)).mono fun e w' ⟨he_, ht_⟩ => ⟨(), he_, trivial, hT.merge (N := []) (s := [1, 2]) ht_ (.skip rfl (.cons (i := 2) rfl Mg.row .nil)) (by decide) (fun i e h => by simp at h)⟩) (fun _ _ => ?_)
      have hE_ := show wrE (1 + aroundI w_ 16) (1 + aroundI h_ 16) R.x0 R.y0 R.x1 R.y1 ((List.replicate (NB : Nat) 0).set (Int.toNat (((NB : Nat) : Int) - 1)) 1) = 1 from (wrE_bad hin (by rw [List.length_set, List.length_replicate]; omega) (N := Ar) (by rw [List.length_set, List.length_replicate]; omega) (k := Ar - 1) (by omega) (bad_last (by omega) (by omega) (by omega)))
      refine cont_recast 72 (.int .i64 (wrE (1 + aroundI w_ 16) (1 + aroundI h_ 16) R.x0 R.y0 R.x1 R.y1 ((List.replicate (NB : Nat) 0).set (Int.toNat (((NB : Nat) : Int) - 1)) 1))) (.int .i64 1) rfl (congrArg (Value.int .i64) hE_) ?_
      refine bS [0, 0, 0, 0, 3] 9 6 [(75, .bool true), (76, .pointer (some ⟨bl9, 0, none⟩)), (77, .agg #[.int .i64 (1 + aroundI w_ 16), .int .i64 (1 + aroundI h_ 16), .slice (some ⟨r2, 0, none⟩) n3 n3])] ?_
      refine cont_forget 3 rfl ?_
      refine pl_step 10 5 rfl rfl ?_
      refine cont_rowEq (k := .u32) 2 (wrA (1 + aroundI w_ 16) (1 + aroundI h_ 16) (goodP n3 xs1 n3) R.x0 R.y0 R.x1 R.y1 ((List.replicate (NB : Nat) 0).set (Int.toNat (((NB : Nat) : Int) - 1)) 1)) (goodP n3 xs1 n3) rfl (wrA_no (by rw [hE_]; decide)) ?_
      refine call_pure (d := 78) (.bool true) (by kernel_rfl) (fun w hT => likeT bl9 (1 + aroundI w_ 16) (1 + aroundI h_ 16) bq9 n3 n3 (goodP n3 xs1 n3) r2 n3 n3 w (hT.viewRo (.cons (i := 1) rfl Vw.roc (.cons (i := 2) rfl Vw.rowRd (.cons (i := 3) rfl Vw.rowRd .nil))) rfl) hM5_ (Row.capLe (hT.ok 2 _ rfl))) ?_
      refine bS [0, 0] 12 3 [(80, .bool true)] ?_
      refine cont_forget 1 rfl ?_
      refine pl_step 13 2 rfl rfl ?_
      refine call_pure (d := 81) (.bool true) (by kernel_rfl) (fun w hT => lives4  w) ?_
      refine bS [0, 0] 15 0 [(12, .bool true)] ?_
      refine cont_done ?_
      refine then_normal ?_
      refine cont_ret ?_
      refine ret_one (.inl rfl) rfl 0 (.bool true) (by kernel_rfl) (by kernel_rfl) (fun w hT => ?_)
      exact ⟨rfl, hT.post rfl⟩
    ·
      refine call_pure (d := 33) (.int .i64 (areaI R.x0 R.y0 R.x1 R.y1)) (by kernel_rfl) (fun w hT => refArea R.x0 R.y0 R.x1 R.y1 w (by omega) (by omega) (by omega) (by omega)) ?_
      refine cont_recast 33 (.int .i64 (areaI R.x0 R.y0 R.x1 R.y1)) (.int .i64 0) rfl (congrArg (Value.int .i64) (by rw [hq1, hq2, hq3, hq4]; decide)) ?_
      refine bS [0, 0] 4 0 [(4, .int .i64 how_), (5, .slice A2 n2 cap2), (13, .pointer (some ⟨b8, 0, none⟩)), (14, .pointer (some ⟨bl9, 0, none⟩)), (15, .pointer (some ⟨b30, 0, none⟩)), (16, .int .i64 0)] ?_
      refine cont_done ?_
      refine then_normal ?_
      refine cont_seq ?_
      refine cont_seq ?_
      refine cont_region 2 rfl ?_
      refine bS [0, 0] 2 0 [(4, .int .i64 how_), (5, .slice A2 n2 cap2), (13, .pointer (some ⟨b8, 0, none⟩)), (14, .pointer (some ⟨bl9, 0, none⟩)), (15, .pointer (some ⟨b30, 0, none⟩)), (16, .int .i64 0), (36, .bool true)] ?_
      refine cont_done ?_
      refine then_normal ?_
      refine cont_true rfl ?_
      refine cont_seq ?_
      refine cont_region 14 rfl ?_
      refine bS [0, 0, 0] 3 11 [(13, .pointer (some ⟨b8, 0, none⟩)), (14, .pointer (some ⟨bl9, 0, none⟩)), (37, .pointer (some ⟨bl9, 0, none⟩)), (38, .agg #[.int .i64 R.x0, .int .i64 R.y0, .int .i64 R.x1, .int .i64 R.y1]), (39, .slice A2 n2 cap2)] ?_
      refine cont_forget 0 rfl ?_
      refine pl_step 4 10 rfl rfl ?_
      refine call_gen (d := 40) (α := Unit) (fun _ => .int .i64 (wrE (1 + aroundI w_ 16) (1 + aroundI h_ 16) R.x0 R.y0 R.x1 R.y1 xs2)) (fun _ => [.cells bl9 [.int .i64 (1 + aroundI w_ 16), .int .i64 (1 + aroundI h_ 16), .slice (some ⟨bq9, 0, none⟩) n3 n3] 84 true, .gen (rowE (some ⟨bq9, 0, none⟩) bq9 n3 n3 28 1 (ivals .u32 (wrA (1 + aroundI w_ 16) (1 + aroundI h_ 16) (goodP n3 xs1 n3) R.x0 R.y0 R.x1 R.y1 xs2)) true), .cells b8 [.int .i64 (1 + aroundI w_ 16), .int .i64 (1 + aroundI h_ 16), .slice (some ⟨r2, 0, none⟩) n3 n3] 37 true, .gen (rowE (some ⟨r2, 0, none⟩) r2 n3 n3 28 1 (ivals .u32 (goodP n3 xs1 n3)) true), .gen (rdE (A1) g1 o1 n1 1 (ivals .u32 xs1)), .gen (rdE (A2) g2 o2 n2 1 (ivals .u8 xs2))]) (fun _ => True) (by kernel_rfl) (fun w hT => (imgWrite bl9 (1 + aroundI w_ 16) (1 + aroundI h_ 16) bq9 n3 n3 (goodP n3 xs1 n3) R.x0 R.y0 R.x1 R.y1 A2 g2 o2 n2 cap2 xs2 w (hT.view (.cons (i := 0) rfl Vw.roc (.cons (i := 1) rfl Vw.row (.cons (i := 5) rfl Vw.rd .nil))) (by decide)) hM5_ (Row.capLe (hT.ok 1 _ rfl)) (by omega) hx2).mono fun e w' ⟨he_, ht_⟩ => ⟨(), he_, trivial, hT.merge (N := []) (s := [0, 1]) ht_ (.skip rfl (.cons (i := 1) rfl Mg.row .nil)) (by decide) (fun i e h => by simp at h)⟩) (fun _ _ => ?_)
      have hE_ := (wrE_ins hin : wrE (1 + aroundI w_ 16) (1 + aroundI h_ 16) R.x0 R.y0 R.x1 R.y1 xs2 = 4)
      refine cont_recast 40 (.int .i64 (wrE (1 + aroundI w_ 16) (1 + aroundI h_ 16) R.x0 R.y0 R.x1 R.y1 xs2)) (.int .i64 4) rfl (congrArg (Value.int .i64) hE_) ?_
      refine bS [0, 0, 0, 2] 8 6 [(42, .bool true), (43, .pointer (some ⟨bl9, 0, none⟩)), (44, .agg #[.int .i64 (1 + aroundI w_ 16), .int .i64 (1 + aroundI h_ 16), .slice (some ⟨r2, 0, none⟩) n3 n3])] ?_
      refine cont_forget 2 rfl ?_
      refine pl_step 9 5 rfl rfl ?_
      refine cont_rowEq (k := .u32) 1 (wrA (1 + aroundI w_ 16) (1 + aroundI h_ 16) (goodP n3 xs1 n3) R.x0 R.y0 R.x1 R.y1 xs2) (goodP n3 xs1 n3) rfl (wrA_no (by rw [hE_]; decide)) ?_
      refine call_pure (d := 45) (.bool true) (by kernel_rfl) (fun w hT => likeT bl9 (1 + aroundI w_ 16) (1 + aroundI h_ 16) bq9 n3 n3 (goodP n3 xs1 n3) r2 n3 n3 w (hT.viewRo (.cons (i := 0) rfl Vw.roc (.cons (i := 1) rfl Vw.rowRd (.cons (i := 2) rfl Vw.rowRd .nil))) rfl) hM5_ (Row.capLe (hT.ok 1 _ rfl))) ?_
      refine bS [0, 0] 11 3 [(47, .bool true)] ?_
      refine cont_forget 0 rfl ?_
      refine pl_step 12 2 rfl rfl ?_
      refine call_pure (d := 48) (.bool true) (by kernel_rfl) (fun w hT => lives4  w) ?_
      refine bS [0, 0] 14 0 [(12, .bool true)] ?_
      refine cont_done ?_
      refine then_normal ?_
      refine cont_ret ?_
      refine then_ret ?_
      refine ret_one (.inl rfl) rfl 0 (.bool true) (by kernel_rfl) (by kernel_rfl) (fun w hT => ?_)
      exact ⟨rfl, hT.post rfl⟩
  refine one_step1 0 (fun b38 => [(4, .int .i64 how_), (5, .slice A2 n2 cap2), (13, .pointer (some ⟨b8, 0, none⟩)), (14, .pointer (some ⟨bl9, 0, none⟩)), (15, .pointer (some ⟨b38, 0, none⟩)), (27, .agg #[.int .i64 ra, .int .i64 rb, .int .i64 rc, .int .i64 rd]), (29, .agg #[.int .i64 (1 + aroundI w_ 16), .int .i64 (1 + aroundI h_ 16), .slice (some ⟨r2, 0, none⟩) n3 n3])]) (fun b38 => [.cells b38 [.int .i64 0, .int .i64 0, .int .i64 0, .int .i64 0] 32 true, .cells bl9 [.int .i64 (1 + aroundI w_ 16), .int .i64 (1 + aroundI h_ 16), .slice (some ⟨bq9, 0, none⟩) n3 n3] 84 true, .gen (rowE (some ⟨bq9, 0, none⟩) bq9 n3 n3 28 1 (ivals .u32 (goodP n3 xs1 n3)) true), .cells b8 [.int .i64 (1 + aroundI w_ 16), .int .i64 (1 + aroundI h_ 16), .slice (some ⟨r2, 0, none⟩) n3 n3] 37 true, .gen (rowE (some ⟨r2, 0, none⟩) r2 n3 n3 28 1 (ivals .u32 (goodP n3 xs1 n3)) true), .cells b1 [.int .i64 ra, .int .i64 rb, .int .i64 rc, .int .i64 rd] 32 true, .gen (rdE (A1) g1 o1 n1 1 (ivals .u32 xs1)), .gen (rdE (A2) g2 o2 n2 1 (ivals .u8 xs2))]) (fun b38 => by kernel_rfl) (fun b38 => by kernel_rfl) (fun b38 => ?_)
  refine drawn_next 1 [] (by kernel_rfl) ?_
  refine drawn_one 1 3 rfl (by kernel_rfl) ?_
  refine call_pure (d := 28) (.agg #[.int .i64 (aroundI ra 24 - 4), .int .i64 (aroundI rb 24 - 4), .int .i64 ((aroundI ra 24 - 4) + aroundI rc 13), .int .i64 ((aroundI rb 24 - 4) + aroundI rd 13)]) (by kernel_rfl) (fun w hT => refSmall ra rb rc rd w (by omega) (by omega) (by omega) (by omega)) ?_
  have hq39_ := aroundI_range ra (m := 24) (by omega)
  have hq40_ := aroundI_range rb (m := 24) (by omega)
  have hq41_ := aroundI_range rc (m := 13) (by omega)
  have hq42_ := aroundI_range rd (m := 13) (by omega)
  refine drawn_next 1 [] (by kernel_rfl) ?_
  refine drawn_one 3 2 rfl (by kernel_rfl) ?_
  refine call_pure (d := 30) (.agg #[.int .i64 0, .int .i64 0, .int .i64 (1 + aroundI w_ 16), .int .i64 (1 + aroundI h_ 16)]) (by kernel_rfl) (fun w hT => refBox (1 + aroundI w_ 16) (1 + aroundI h_ 16) (.slice (some ⟨r2, 0, none⟩) n3 n3) w) ?_
  refine drawn_next 1 [] (by kernel_rfl) ?_
  refine drawn_one 4 1 rfl (by kernel_rfl) ?_
  refine call_pure (d := 31) (.agg #[.int .i64 ((cutR (aroundI ra 24 - 4) (aroundI rb 24 - 4) ((aroundI ra 24 - 4) + aroundI rc 13) ((aroundI rb 24 - 4) + aroundI rd 13) 0 0 (1 + aroundI w_ 16) (1 + aroundI h_ 16)).x0), .int .i64 ((cutR (aroundI ra 24 - 4) (aroundI rb 24 - 4) ((aroundI ra 24 - 4) + aroundI rc 13) ((aroundI rb 24 - 4) + aroundI rd 13) 0 0 (1 + aroundI w_ 16) (1 + aroundI h_ 16)).y0), .int .i64 ((cutR (aroundI ra 24 - 4) (aroundI rb 24 - 4) ((aroundI ra 24 - 4) + aroundI rc 13) ((aroundI rb 24 - 4) + aroundI rd 13) 0 0 (1 + aroundI w_ 16) (1 + aroundI h_ 16)).x1), .int .i64 ((cutR (aroundI ra 24 - 4) (aroundI rb 24 - 4) ((aroundI ra 24 - 4) + aroundI rc 13) ((aroundI rb 24 - 4) + aroundI rd 13) 0 0 (1 + aroundI w_ 16) (1 + aroundI h_ 16)).y1)]) (by kernel_rfl) (fun w hT => refCut (aroundI ra 24 - 4) (aroundI rb 24 - 4) ((aroundI ra 24 - 4) + aroundI rc 13) ((aroundI rb 24 - 4) + aroundI rd 13) 0 0 (1 + aroundI w_ 16) (1 + aroundI h_ 16) w) ?_
  obtain ⟨R, hR⟩ : ∃ R : Rect, R = (cutR (aroundI ra 24 - 4) (aroundI rb 24 - 4) ((aroundI ra 24 - 4) + aroundI rc 13) ((aroundI rb 24 - 4) + aroundI rd 13) 0 0 (1 + aroundI w_ 16) (1 + aroundI h_ 16)) := ⟨_, rfl⟩
  have hcs := cut_ins hR hM5_w1 hM5_h1
  refine cont_recast 31 (.agg #[.int .i64 ((cutR (aroundI ra 24 - 4) (aroundI rb 24 - 4) ((aroundI ra 24 - 4) + aroundI rc 13) ((aroundI rb 24 - 4) + aroundI rd 13) 0 0 (1 + aroundI w_ 16) (1 + aroundI h_ 16)).x0), .int .i64 ((cutR (aroundI ra 24 - 4) (aroundI rb 24 - 4) ((aroundI ra 24 - 4) + aroundI rc 13) ((aroundI rb 24 - 4) + aroundI rd 13) 0 0 (1 + aroundI w_ 16) (1 + aroundI h_ 16)).y0), .int .i64 ((cutR (aroundI ra 24 - 4) (aroundI rb 24 - 4) ((aroundI ra 24 - 4) + aroundI rc 13) ((aroundI rb 24 - 4) + aroundI rd 13) 0 0 (1 + aroundI w_ 16) (1 + aroundI h_ 16)).x1), .int .i64 ((cutR (aroundI ra 24 - 4) (aroundI rb 24 - 4) ((aroundI ra 24 - 4) + aroundI rc 13) ((aroundI rb 24 - 4) + aroundI rd 13) 0 0 (1 + aroundI w_ 16) (1 + aroundI h_ 16)).y1)]) (.agg #[.int .i64 R.x0, .int .i64 R.y0, .int .i64 R.x1, .int .i64 R.y1]) rfl (by rw [hR]) ?_
  have hWb : (1 + aroundI w_ 16) ≤ 256 := hM5_.w2
  have hHb : (1 + aroundI h_ 16) ≤ 256 := hM5_.h2
  refine drawn_next 1 [] (by kernel_rfl) ?_
  refine drawn_one 6 0 rfl (by kernel_rfl) ?_
  refine one_step 0 [(4, .int .i64 how_), (5, .slice A2 n2 cap2), (13, .pointer (some ⟨b8, 0, none⟩)), (14, .pointer (some ⟨bl9, 0, none⟩)), (15, .pointer (some ⟨b38, 0, none⟩))] [.cells b38 [.int .i64 R.x0, .int .i64 R.y0, .int .i64 R.x1, .int .i64 R.y1] 32 true, .cells bl9 [.int .i64 (1 + aroundI w_ 16), .int .i64 (1 + aroundI h_ 16), .slice (some ⟨bq9, 0, none⟩) n3 n3] 84 true, .gen (rowE (some ⟨bq9, 0, none⟩) bq9 n3 n3 28 1 (ivals .u32 (goodP n3 xs1 n3)) true), .cells b8 [.int .i64 (1 + aroundI w_ 16), .int .i64 (1 + aroundI h_ 16), .slice (some ⟨r2, 0, none⟩) n3 n3] 37 true, .gen (rowE (some ⟨r2, 0, none⟩) r2 n3 n3 28 1 (ivals .u32 (goodP n3 xs1 n3)) true), .cells b1 [.int .i64 ra, .int .i64 rb, .int .i64 rc, .int .i64 rd] 32 true, .gen (rdE (A1) g1 o1 n1 1 (ivals .u32 xs1)), .gen (rdE (A2) g2 o2 n2 1 (ivals .u8 xs2))] (by kernel_rfl) (by kernel_rfl) ?_
  refine drawn_next 1 [] (by kernel_rfl) ?_
  refine drawn_done (by kernel_rfl) ?_
  refine then_normal ?_
  refine cont_seq ?_
  refine cont_region 4 rfl ?_
  refine bS [0] 1 3 [(4, .int .i64 how_), (5, .slice A2 n2 cap2), (13, .pointer (some ⟨b8, 0, none⟩)), (14, .pointer (some ⟨bl9, 0, none⟩)), (15, .pointer (some ⟨b38, 0, none⟩)), (32, .agg #[.int .i64 R.x0, .int .i64 R.y0, .int .i64 R.x1, .int .i64 R.y1])] ?_
  refine cont_forget 5 rfl ?_
  refine pl_step 2 2 rfl rfl ?_
  rcases hcs with ⟨hin, hq1, hq2, hq3, hq4, hq5, hq6⟩ | ⟨hin, hq1, hq2, hq3, hq4⟩
  ·
    refine call_pure (d := 33) (.int .i64 (areaI R.x0 R.y0 R.x1 R.y1)) (by kernel_rfl) (fun w hT => refArea R.x0 R.y0 R.x1 R.y1 w (by omega) (by omega) (by omega) (by omega)) ?_
    obtain ⟨hae, har1, har2⟩ := ins_area hM5_ hin
    obtain ⟨Ar, hAr⟩ : ∃ y_ : Nat, (y_ : Int) = areaI R.x0 R.y0 R.x1 R.y1 := ⟨Int.toNat (areaI R.x0 R.y0 R.x1 R.y1), by omega⟩
    refine cont_recast 33 (.int .i64 (areaI R.x0 R.y0 R.x1 R.y1)) (.int .i64 ((Ar : Nat) : Int)) rfl (congrArg (Value.int .i64) hAr.symm) ?_
    refine bS [0] 3 1 [(4, .int .i64 how_), (5, .slice A2 n2 cap2), (13, .pointer (some ⟨b8, 0, none⟩)), (14, .pointer (some ⟨bl9, 0, none⟩)), (15, .pointer (some ⟨b38, 0, none⟩)), (34, .int .i64 (IntKind.i64.wrap (4 * ((Ar : Nat) : Int))))] ?_
    refine cont_recast 34 (.int .i64 (IntKind.i64.wrap (4 * ((Ar : Nat) : Int)))) (.int .i64 (4 * ((Ar : Nat) : Int))) rfl (wrapI (by omega) (by omega)) ?_
    refine bS [0] 4 0 [(4, .int .i64 how_), (5, .slice A2 n2 cap2), (13, .pointer (some ⟨b8, 0, none⟩)), (14, .pointer (some ⟨bl9, 0, none⟩)), (15, .pointer (some ⟨b38, 0, none⟩)), (16, .int .i64 (4 * ((Ar : Nat) : Int)))] ?_
    refine cont_done ?_
    refine then_normal ?_
    refine cont_seq ?_
    refine cont_seq ?_
    refine cont_region 2 rfl ?_
    obtain ⟨NB, hNB⟩ : ∃ y_ : Nat, (y_ : Int) = 4 * ((Ar : Nat) : Int) := ⟨4 * Ar, by omega⟩
    refine cont_recast 16 (.int .i64 (4 * ((Ar : Nat) : Int))) (.int .i64 ((NB : Nat) : Int)) rfl (congrArg (Value.int .i64) hNB.symm) ?_
    refine bS [0, 0] 2 0 [(4, .int .i64 how_), (5, .slice A2 n2 cap2), (13, .pointer (some ⟨b8, 0, none⟩)), (14, .pointer (some ⟨bl9, 0, none⟩)), (15, .pointer (some ⟨b38, 0, none⟩)), (16, .int .i64 ((NB : Nat) : Int)), (36, .bool (((NB : Nat) : Int) == 0))] ?_
    refine cont_done ?_
    refine then_normal ?_
    refine cont_recast 36 (.bool (((NB : Nat) : Int) == 0)) (.bool false) rfl (congrArg Value.bool (beq_eq_false_iff_ne.2 (by omega))) ?_
    refine cont_false rfl ?_
    refine cont_skip ?_
    refine then_normal ?_
    refine cont_seq ?_
    refine cont_region 3 rfl ?_
    refine bS [0] 1 2 [(4, .int .i64 how_), (13, .pointer (some ⟨b8, 0, none⟩)), (14, .pointer (some ⟨bl9, 0, none⟩)), (15, .pointer (some ⟨b38, 0, none⟩)), (16, .int .i64 ((NB : Nat) : Int)), (50, .int .i64 ((NB : Nat) : Int))] ?_
    refine pl_step 2 1 rfl rfl ?_
    refine sem_stepW 51 (Instr.makeSlice 43 (.int .i64 ((NB : Nat) : Int)) (.int .i64 ((NB : Nat) : Int))) (fun r44 => .slice (some ⟨r44, 0, none⟩) (NB : Nat) (NB : Nat)) (fun r44 => [.gen (rowE (some ⟨r44, 0, none⟩) r44 (NB : Nat) (NB : Nat) 5 1 (ivals .u8 (List.replicate (NB : Nat) 0)) true), .cells b38 [.int .i64 R.x0, .int .i64 R.y0, .int .i64 R.x1, .int .i64 R.y1] 32 true, .cells bl9 [.int .i64 (1 + aroundI w_ 16), .int .i64 (1 + aroundI h_ 16), .slice (some ⟨bq9, 0, none⟩) n3 n3] 84 true, .gen (rowE (some ⟨bq9, 0, none⟩) bq9 n3 n3 28 1 (ivals .u32 (goodP n3 xs1 n3)) true), .cells b8 [.int .i64 (1 + aroundI w_ 16), .int .i64 (1 + aroundI h_ 16), .slice (some ⟨r2, 0, none⟩) n3 n3] 37 true, .gen (rowE (some ⟨r2, 0, none⟩) r2 n3 n3 28 1 (ivals .u32 (goodP n3 xs1 n3)) true), .gen (rdE (A1) g1 o1 n1 1 (ivals .u32 xs1)), .gen (rdE (A2) g2 o2 n2 1 (ivals .u8 xs2))]) (fun _ => True) (by kernel_rfl) (fun w hT => make_row hT (bytes := 1) (NB : Nat) (by kernel_rfl) (by kernel_rfl) (by omega) (by omega)) (fun r44 _ => ?_)
    refine bS [0] 3 0 [(4, .int .i64 how_), (13, .pointer (some ⟨b8, 0, none⟩)), (14, .pointer (some ⟨bl9, 0, none⟩)), (15, .pointer (some ⟨b38, 0, none⟩)), (16, .int .i64 ((NB : Nat) : Int)), (17, .slice (some ⟨r44, 0, none⟩) (NB : Nat) (NB : Nat))] ?_
    refine cont_done ?_
    refine then_normal ?_
    refine cont_seq ?_
    refine cont_region 1 rfl ?_
    refine bS [0] 1 0 [(4, .int .i64 how_), (13, .pointer (some ⟨b8, 0, none⟩)), (14, .pointer (some ⟨bl9, 0, none⟩)), (15, .pointer (some ⟨b38, 0, none⟩)), (16, .int .i64 ((NB : Nat) : Int)), (17, .slice (some ⟨r44, 0, none⟩) (NB : Nat) (NB : Nat)), (18, .int .i64 1)] ?_
    refine cont_done ?_
    refine then_normal ?_
    refine cont_seq ?_
    refine cont_seq ?_
    refine cont_region 2 rfl ?_
    refine bS [0, 0] 2 0 [(13, .pointer (some ⟨b8, 0, none⟩)), (14, .pointer (some ⟨bl9, 0, none⟩)), (15, .pointer (some ⟨b38, 0, none⟩)), (16, .int .i64 ((NB : Nat) : Int)), (17, .slice (some ⟨r44, 0, none⟩) (NB : Nat) (NB : Nat)), (18, .int .i64 1), (53, .int .i64 (how_.tmod 3))] ?_
    refine cont_done ?_
    refine then_normal ?_
    refine cont_block ?_
    refine cont_seq ?_
    refine cont_region 2 rfl ?_
    refine bS [0, 0] 2 0 [(13, .pointer (some ⟨b8, 0, none⟩)), (14, .pointer (some ⟨bl9, 0, none⟩)), (15, .pointer (some ⟨b38, 0, none⟩)), (16, .int .i64 ((NB : Nat) : Int)), (17, .slice (some ⟨r44, 0, none⟩) (NB : Nat) (NB : Nat)), (18, .int .i64 1), (53, .int .i64 (how_.tmod 3)), (58, .bool ((how_.tmod 3) == 0))] ?_
    refine cont_done ?_
    refine then_normal ?_
    refine cont_split 58 ((how_.tmod 3) == 0) rfl (fun c45_ => ?_) (fun c45_ => ?_)
    ·
      replace c45_ := eq_of_beqt c45_
      refine cont_true rfl ?_
      refine cont_seq ?_
      refine cont_region 5 rfl ?_
      refine bS [0, 0, 0] 3 2 [(13, .pointer (some ⟨b8, 0, none⟩)), (14, .pointer (some ⟨bl9, 0, none⟩)), (15, .pointer (some ⟨b38, 0, none⟩)), (60, .slice (some ⟨r44, 0, none⟩) (NB : Nat) (NB : Nat)), (62, .int .i64 (IntKind.i64.wrap (((NB : Nat) : Int) - 1)))] ?_
      refine cont_recast 62 (.int .i64 (IntKind.i64.wrap (((NB : Nat) : Int) - 1))) (.int .i64 (((NB : Nat) : Int) - 1)) rfl (wrapI (by omega) (by omega)) ?_
      refine pl_step 4 1 rfl rfl ?_
      refine sem_step 63 (Instr.sliceAt 43 (.slice (some ⟨r44, 0, none⟩) (NB : Nat) (NB : Nat)) none (some (.int .i64 (((NB : Nat) : Int) - 1))) none) (.slice (some ⟨r44, 0, none⟩) (Int.toNat (((NB : Nat) : Int) - 1)) (NB : Nat)) (by kernel_rfl) (fun w hT => run_sliceHiC (e := 5) (sz := 1) _ (by kernel_rfl) (by kernel_rfl) (by omega) (by omega) (by omega) w) ?_
      refine bS [0] 5 0 [(13, .pointer (some ⟨b8, 0, none⟩)), (14, .pointer (some ⟨bl9, 0, none⟩)), (15, .pointer (some ⟨b38, 0, none⟩)), (17, .slice (some ⟨r44, 0, none⟩) (Int.toNat (((NB : Nat) : Int) - 1)) (NB : Nat))] ?_
      refine cont_done ?_
      refine then_normal ?_
      refine cont_region 1 rfl ?_
      refine bS [0] 1 0 [(13, .pointer (some ⟨b8, 0, none⟩)), (14, .pointer (some ⟨bl9, 0, none⟩)), (15, .pointer (some ⟨b38, 0, none⟩)), (17, .slice (some ⟨r44, 0, none⟩) (Int.toNat (((NB : Nat) : Int) - 1)) (NB : Nat)), (18, .int .i64 3)] ?_
      refine cont_done ?_
      refine blk_normal ?_
      refine then_normal ?_
      refine cont_seq ?_
      refine cont_region 15 rfl ?_
      refine bS [0, 1, 0] 3 12 [(13, .pointer (some ⟨b8, 0, none⟩)), (14, .pointer (some ⟨bl9, 0, none⟩)), (18, .int .i64 3), (69, .pointer (some ⟨bl9, 0, none⟩)), (70, .agg #[.int .i64 R.x0, .int .i64 R.y0, .int .i64 R.x1, .int .i64 R.y1]), (71, .slice (some ⟨r44, 0, none⟩) (Int.toNat (((NB : Nat) : Int) - 1)) (NB : Nat))] ?_
      refine cont_forget 1 rfl ?_
      refine pl_step 4 11 rfl rfl ?_
      refine call_gen (d := 72) (α := Unit) (fun _ => .int .i64 (wrE (1 + aroundI w_ 16) (1 + aroundI h_ 16) R.x0 R.y0 R.x1 R.y1 ((List.replicate (NB : Nat) 0).take (Int.toNat (((NB : Nat) : Int) - 1))))) (fun _ => [.gen (rowE (some ⟨r44, 0, none⟩) r44 (NB : Nat) (NB : Nat) 5 1 (ivals .u8 (List.replicate (NB : Nat) 0)) true), .cells bl9 [.int .i64 (1 + aroundI w_ 16), .int .i64 (1 + aroundI h_ 16), .slice (some ⟨bq9, 0, none⟩) n3 n3] 84 true, .gen (rowE (some ⟨bq9, 0, none⟩) bq9 n3 n3 28 1 (ivals .u32 (wrA (1 + aroundI w_ 16) (1 + aroundI h_ 16) (goodP n3 xs1 n3) R.x0 R.y0 R.x1 R.y1 ((List.replicate (NB : Nat) 0).take (Int.toNat (((NB : Nat) : Int) - 1))))) true), .cells b8 [.int .i64 (1 + aroundI w_ 16), .int .i64 (1 + aroundI h_ 16), .slice (some ⟨r2, 0, none⟩) n3 n3] 37 true, .gen (rowE (some ⟨r2, 0, none⟩) r2 n3 n3 28 1 (ivals .u32 (goodP n3 xs1 n3)) true), .gen (rdE (A1) g1 o1 n1 1 (ivals .u32 xs1)), .gen (rdE (A2) g2 o2 n2 1 (ivals .u8 xs2))]) (fun _ => True) (by kernel_rfl) (fun w hT => (imgWrite bl9 (1 + aroundI w_ 16) (1 + aroundI h_ 16) bq9 n3 n3 (goodP n3 xs1 n3) R.x0 R.y0 R.x1 R.y1 (some ⟨r44, 0, none⟩) r44 0 (Int.toNat (((NB : Nat) : Int) - 1)) (NB : Nat) ((List.replicate (NB : Nat) 0).take (Int.toNat (((NB : Nat) : Int) - 1))) w (hT.view (.cons (i := 1) rfl Vw.roc (.cons (i := 2) rfl Vw.row (.cons (i := 0) rfl (Vw.rowHeadN (by omega)) .nil))) (by decide)) hM5_ (Row.capLe (hT.ok 2 _ rfl)) (by omega) (rep_byte _ _)).mono fun e w' ⟨he_, ht_⟩ => ⟨(), he_, trivial, hT.merge (N := []) (s := [1, 2]) ht_ (.skip rfl (.cons (i := 2) rfl Mg.row .nil)) (by decide) (fun i e h => by simp at h)⟩) (fun _ _ => ?_)
      have hE_ := show wrE (1 + aroundI w_ 16) (1 + aroundI h_ 16) R.x0 R.y0 R.x1 R.y1 ((List.replicate (NB : Nat) 0).take (Int.toNat (((NB : Nat) : Int) - 1))) = 3 from (wrE_short hin (by rw [List.length_take, List.length_replicate]; omega))
      refine cont_recast 72 (.int .i64 (wrE (1 + aroundI w_ 16) (1 + aroundI h_ 16) R.x0 R.y0 R.x1 R.y1 ((List.replicate (NB : Nat) 0).take (Int.toNat (((NB : Nat) : Int) - 1))))) (.int .i64 3) rfl (congrArg (Value.int .i64) hE_) ?_
      refine bS [0, 0, 0, 0, 3] 9 6 [(75, .bool true), (76, .pointer (some ⟨bl9, 0, none⟩)), (77, .agg #[.int .i64 (1 + aroundI w_ 16), .int .i64 (1 + aroundI h_ 16), .slice (some ⟨r2, 0, none⟩) n3 n3])] ?_
      refine cont_forget 3 rfl ?_
      refine pl_step 10 5 rfl rfl ?_
      refine cont_rowEq (k := .u32) 2 (wrA (1 + aroundI w_ 16) (1 + aroundI h_ 16) (goodP n3 xs1 n3) R.x0 R.y0 R.x1 R.y1 ((List.replicate (NB : Nat) 0).take (Int.toNat (((NB : Nat) : Int) - 1)))) (goodP n3 xs1 n3) rfl (wrA_no (by rw [hE_]; decide)) ?_
      refine call_pure (d := 78) (.bool true) (by kernel_rfl) (fun w hT => likeT bl9 (1 + aroundI w_ 16) (1 + aroundI h_ 16) bq9 n3 n3 (goodP n3 xs1 n3) r2 n3 n3 w (hT.viewRo (.cons (i := 1) rfl Vw.roc (.cons (i := 2) rfl Vw.rowRd (.cons (i := 3) rfl Vw.rowRd .nil))) rfl) hM5_ (Row.capLe (hT.ok 2 _ rfl))) ?_
      refine bS [0, 0] 12 3 [(80, .bool true)] ?_
      refine cont_forget 1 rfl ?_
      refine pl_step 13 2 rfl rfl ?_
      refine call_pure (d := 81) (.bool true) (by kernel_rfl) (fun w hT => lives4  w) ?_
      refine bS [0, 0] 15 0 [(12, .bool true)] ?_
      refine cont_done ?_
      refine then_normal ?_
      refine cont_ret ?_
      refine ret_one (.inl rfl) rfl 0 (.bool true) (by kernel_rfl) (by kernel_rfl) (fun w hT => ?_)
      exact ⟨rfl, hT.post rfl⟩
    replace c45_ := ne_of_beqf c45_
    refine cont_false rfl ?_
    refine cont_seq ?_
    refine cont_region 2 rfl ?_
    refine bS [0, 0] 2 0 [(13, .pointer (some ⟨b8, 0, none⟩)), (14, .pointer (some ⟨bl9, 0, none⟩)), (15, .pointer (some ⟨b38, 0, none⟩)), (16, .int .i64 ((NB : Nat) : Int)), (17, .slice (some ⟨r44, 0, none⟩) (NB : Nat) (NB : Nat)), (18, .int .i64 1), (64, .bool ((how_.tmod 3) == 1))] ?_
    refine cont_done ?_
    refine then_normal ?_
    refine cont_split 64 ((how_.tmod 3) == 1) rfl (fun c46_ => ?_) (fun c46_ => ?_)
    ·
      replace c46_ := eq_of_beqt c46_
      refine cont_true rfl ?_
      refine cont_seq ?_
      refine cont_region 4 rfl ?_
      refine batch1 [0, 0] 2 2 (fun b47 => [(13, .pointer (some ⟨b8, 0, none⟩)), (14, .pointer (some ⟨bl9, 0, none⟩)), (15, .pointer (some ⟨b38, 0, none⟩)), (66, .slice (some ⟨r44, 0, none⟩) (NB : Nat) (NB : Nat)), (67, .slice (some ⟨b47, 0, none⟩) 1 1)]) (fun b47 => [.cells b47 [.int .u8 0] 5 true, .gen (rowE (some ⟨r44, 0, none⟩) r44 (NB : Nat) (NB : Nat) 5 1 (ivals .u8 (List.replicate (NB : Nat) 0)) true), .cells b38 [.int .i64 R.x0, .int .i64 R.y0, .int .i64 R.x1, .int .i64 R.y1] 32 true, .cells bl9 [.int .i64 (1 + aroundI w_ 16), .int .i64 (1 + aroundI h_ 16), .slice (some ⟨bq9, 0, none⟩) n3 n3] 84 true, .gen (rowE (some ⟨bq9, 0, none⟩) bq9 n3 n3 28 1 (ivals .u32 (goodP n3 xs1 n3)) true), .cells b8 [.int .i64 (1 + aroundI w_ 16), .int .i64 (1 + aroundI h_ 16), .slice (some ⟨r2, 0, none⟩) n3 n3] 37 true, .gen (rowE (some ⟨r2, 0, none⟩) r2 n3 n3 28 1 (ivals .u32 (goodP n3 xs1 n3)) true), .gen (rdE (A1) g1 o1 n1 1 (ivals .u32 xs1)), .gen (rdE (A2) g2 o2 n2 1 (ivals .u8 xs2))]) rfl rfl [13, 14, 15, 66, 67] (fun _ => rfl) (fun b47 => by kernel_rfl) (fun b47 => by kernel_rfl) (fun b47 => ?_)
      refine pl_step 3 1 rfl rfl ?_
      refine sem_stepW (α := Option Addr × Nat × Nat) 68 (Builtin.append_ #[43, 43] 43 #[.slice (some ⟨r44, 0, none⟩) (NB : Nat) (NB : Nat), .slice (some ⟨b47, 0, none⟩) 1 1]) (fun x_ => .slice x_.1 ((NB : Nat) + 1) x_.2.2) (fun x_ => [.cells b47 [.int .u8 0] 5 true, .gen (rowE (x_.1) x_.2.1 ((NB : Nat) + 1) x_.2.2 5 1 (ivals .u8 ((List.replicate (NB : Nat) 0) ++ [0])) true), .cells b38 [.int .i64 R.x0, .int .i64 R.y0, .int .i64 R.x1, .int .i64 R.y1] 32 true, .cells bl9 [.int .i64 (1 + aroundI w_ 16), .int .i64 (1 + aroundI h_ 16), .slice (some ⟨bq9, 0, none⟩) n3 n3] 84 true, .gen (rowE (some ⟨bq9, 0, none⟩) bq9 n3 n3 28 1 (ivals .u32 (goodP n3 xs1 n3)) true), .cells b8 [.int .i64 (1 + aroundI w_ 16), .int .i64 (1 + aroundI h_ 16), .slice (some ⟨r2, 0, none⟩) n3 n3] 37 true, .gen (rowE (some ⟨r2, 0, none⟩) r2 n3 n3 28 1 (ivals .u32 (goodP n3 xs1 n3)) true), .gen (rdE (A1) g1 o1 n1 1 (ivals .u32 xs1)), .gen (rdE (A2) g2 o2 n2 1 (ivals .u8 xs2))]) (fun _ => True) (by kernel_rfl) (fun w hT => append_own (n' := ((NB : Nat) + 1)) (z := .int .u8 0) hT (i := 1) (bytes := 1) rfl (by kernel_rfl) (by kernel_rfl) rfl (by decide) (by decide) (Rd.ofCells (vals := ivals .u8 [0]) (hT.ok 0 _ rfl) rfl rfl) (ivals_one .u8 [0]) (by omega) (ivals_append .u8 (List.replicate (NB : Nat) 0) [0]) rfl) ?_
      rintro ⟨A48, g48, cp48⟩ -
      refine cont_norm [(13, .pointer (some ⟨b8, 0, none⟩)), (14, .pointer (some ⟨bl9, 0, none⟩)), (15, .pointer (some ⟨b38, 0, none⟩)), (66, .slice (some ⟨r44, 0, none⟩) (NB : Nat) (NB : Nat)), (67, .slice (some ⟨b47, 0, none⟩) 1 1), (68, .slice A48 ((NB : Nat) + 1) cp48)] [.cells b47 [.int .u8 0] 5 true, .gen (rowE (A48) g48 ((NB : Nat) + 1) cp48 5 1 (ivals .u8 ((List.replicate (NB : Nat) 0) ++ [0])) true), .cells b38 [.int .i64 R.x0, .int .i64 R.y0, .int .i64 R.x1, .int .i64 R.y1] 32 true, .cells bl9 [.int .i64 (1 + aroundI w_ 16), .int .i64 (1 + aroundI h_ 16), .slice (some ⟨bq9, 0, none⟩) n3 n3] 84 true, .gen (rowE (some ⟨bq9, 0, none⟩) bq9 n3 n3 28 1 (ivals .u32 (goodP n3 xs1 n3)) true), .cells b8 [.int .i64 (1 + aroundI w_ 16), .int .i64 (1 + aroundI h_ 16), .slice (some ⟨r2, 0, none⟩) n3 n3] 37 true, .gen (rowE (some ⟨r2, 0, none⟩) r2 n3 n3 28 1 (ivals .u32 (goodP n3 xs1 n3)) true), .gen (rdE (A1) g1 o1 n1 1 (ivals .u32 xs1)), .gen (rdE (A2) g2 o2 n2 1 (ivals .u8 xs2))] (by kernel_rfl) rfl ?_
      refine cont_fact (F := (0 < ((NB : Nat) + 1) → (A48 : Option Addr) = some ⟨g48, 0, none⟩) ∧ (((List.replicate (NB : Nat) 0) ++ [0]) : List Int).length = ((NB : Nat) + 1) ∧ ((NB : Nat) + 1) ≤ cp48 ∧ cp48 ≤ maxLen) (fun w hT => Row.facts (hT.ok 1 _ rfl)) (fun hr49_ => ?_)
      obtain ⟨hr49_a, hr49_l, hr49_c, hr49_m⟩ := hr49_
      unfold maxLen at hr49_m
      refine bS [0] 4 0 [(13, .pointer (some ⟨b8, 0, none⟩)), (14, .pointer (some ⟨bl9, 0, none⟩)), (15, .pointer (some ⟨b38, 0, none⟩)), (17, .slice A48 ((NB : Nat) + 1) cp48)] ?_
      refine cont_forget 0 rfl ?_
      refine cont_done ?_
      refine then_normal ?_
      refine cont_region 1 rfl ?_
      refine bS [0] 1 0 [(13, .pointer (some ⟨b8, 0, none⟩)), (14, .pointer (some ⟨bl9, 0, none⟩)), (15, .pointer (some ⟨b38, 0, none⟩)), (17, .slice A48 ((NB : Nat) + 1) cp48), (18, .int .i64 2)] ?_
      refine cont_done ?_
      refine blk_normal ?_
      refine then_normal ?_
      refine cont_seq ?_
      refine cont_region 15 rfl ?_
      refine bS [0, 1, 0] 3 12 [(13, .pointer (some ⟨b8, 0, none⟩)), (14, .pointer (some ⟨bl9, 0, none⟩)), (18, .int .i64 2), (69, .pointer (some ⟨bl9, 0, none⟩)), (70, .agg #[.int .i64 R.x0, .int .i64 R.y0, .int .i64 R.x1, .int .i64 R.y1]), (71, .slice A48 ((NB : Nat) + 1) cp48)] ?_
      refine cont_forget 1 rfl ?_
      refine pl_step 4 11 rfl rfl ?_
      refine call_gen (d := 72) (α := Unit) (fun _ => .int .i64 (wrE (1 + aroundI w_ 16) (1 + aroundI h_ 16) R.x0 R.y0 R.x1 R.y1 ((List.replicate (NB : Nat) 0) ++ [0]))) (fun _ => [.gen (rowE (A48) g48 ((NB : Nat) + 1) cp48 5 1 (ivals .u8 ((List.replicate (NB : Nat) 0) ++ [0])) true), .cells bl9 [.int .i64 (1 + aroundI w_ 16), .int .i64 (1 + aroundI h_ 16), .slice (some ⟨bq9, 0, none⟩) n3 n3] 84 true, .gen (rowE (some ⟨bq9, 0, none⟩) bq9 n3 n3 28 1 (ivals .u32 (wrA (1 + aroundI w_ 16) (1 + aroundI h_ 16) (goodP n3 xs1 n3) R.x0 R.y0 R.x1 R.y1 ((List.replicate (NB : Nat) 0) ++ [0]))) true), .cells b8 [.int .i64 (1 + aroundI w_ 16), .int .i64 (1 + aroundI h_ 16), .slice (some ⟨r2, 0, none⟩) n3 n3] 37 true, .gen (rowE (some ⟨r2, 0, none⟩) r2 n3 n3 28 1 (ivals .u32 (goodP n3 xs1 n3)) true), .gen (rdE (A1) g1 o1 n1 1 (ivals .u32 xs1)), .gen (rdE (A2) g2 o2 n2 1 (ivals .u8 xs2))]) (fun _ => True) (by kernel_rfl) (fun w hT => (imgWrite bl9 (1 + aroundI w_ 16) (1 + aroundI h_ 16) bq9 n3 n3 (goodP n3 xs1 n3) R.x0 R.y0 R.x1 R.y1 A48 g48 0 ((NB : Nat) + 1) cp48 ((List.replicate (NB : Nat) 0) ++ [0]) w (hT.view (.cons (i := 1) rfl Vw.roc (.cons (i := 2) rfl Vw.row (.cons (i := 0) rfl Vw.rowRd .nil))) (by decide)) hM5_ (Row.capLe (hT.ok 2 _ rfl)) (by omega) (rep_byte1 _)).mono fun e w' ⟨he_, ht_⟩ => ⟨(), he_, trivial, hT.merge (N := []) (s := [1, 2]) ht_ (.skip rfl (.cons (i := 2) rfl Mg.row .nil)) (by decide) (fun i e h => by simp at h)⟩) (fun _ _ => ?_)
      have hE_ := show wrE (1 + aroundI w_ 16) (1 + aroundI h_ 16) R.x0 R.y0 R.x1 R.y1 ((List.replicate (NB : Nat) 0) ++ [0]) = 2 from (wrE_long hin (by rw [List.length_append, List.length_replicate, List.length_singleton]; omega))
      refine cont_recast 72 (.int .i64 (wrE (1 + aroundI w_ 16) (1 + aroundI h_ 16) R.x0 R.y0 R.x1 R.y1 ((List.replicate (NB : Nat) 0) ++ [0]))) (.int .i64 2) rfl (congrArg (Value.int .i64) hE_) ?_
      refine bS [0, 0, 0, 0, 3] 9 6 [(75, .bool true), (76, .pointer (some ⟨bl9, 0, none⟩)), (77, .agg #[.int .i64 (1 + aroundI w_ 16), .int .i64 (1 + aroundI h_ 16), .slice (some ⟨r2, 0, none⟩) n3 n3])] ?_
      refine cont_forget 3 rfl ?_
      refine pl_step 10 5 rfl rfl ?_
      refine cont_rowEq (k := .u32) 2 (wrA (1 + aroundI w_ 16) (1 + aroundI h_ 16) (goodP n3 xs1 n3) R.x0 R.y0 R.x1 R.y1 ((List.replicate (NB : Nat) 0) ++ [0])) (goodP n3 xs1 n3) rfl (wrA_no (by rw [hE_]; decide)) ?_
      refine call_pure (d := 78) (.bool true) (by kernel_rfl) (fun w hT => likeT bl9 (1 + aroundI w_ 16) (1 + aroundI h_ 16) bq9 n3 n3 (goodP n3 xs1 n3) r2 n3 n3 w (hT.viewRo (.cons (i := 1) rfl Vw.roc (.cons (i := 2) rfl Vw.rowRd (.cons (i := 3) rfl Vw.rowRd .nil))) rfl) hM5_ (Row.capLe (hT.ok 2 _ rfl))) ?_
      refine bS [0, 0] 12 3 [(80, .bool true)] ?_
      refine cont_forget 1 rfl ?_
      refine pl_step 13 2 rfl rfl ?_
      refine call_pure (d := 81) (.bool true) (by kernel_rfl) (fun w hT => lives4  w) ?_
      refine bS [0, 0] 15 0 [(12, .bool true)] ?_
      refine cont_done ?_
      refine then_normal ?_
      refine cont_ret ?_
      refine ret_one (.inl rfl) rfl 0 (.bool true) (by kernel_rfl) (by kernel_rfl) (fun w hT => ?_)
      exact ⟨rfl, hT.post rfl⟩
    replace c46_ := ne_of_beqf c46_
    refine cont_false rfl ?_
    refine cont_region 5 rfl ?_
    refine bS [0, 0, 0] 3 2 [(13, .pointer (some ⟨b8, 0, none⟩)), (14, .pointer (some ⟨bl9, 0, none⟩)), (15, .pointer (some ⟨b38, 0, none⟩)), (17, .slice (some ⟨r44, 0, none⟩) (NB : Nat) (NB : Nat)), (18, .int .i64 1), (54, .slice (some ⟨r44, 0, none⟩) (NB : Nat) (NB : Nat)), (56, .int .i64 (IntKind.i64.wrap (((NB : Nat) : Int) - 1)))] ?_
    refine cont_recast 56 (.int .i64 (IntKind.i64.wrap (((NB : Nat) : Int) - 1))) (.int .i64 (((NB : Nat) : Int) - 1)) rfl (wrapI (by omega) (by omega)) ?_
    refine pl_step 4 1 rfl rfl ?_
    refine sem_step 57 (Instr.indexAt 43 (.slice (some ⟨r44, 0, none⟩) (NB : Nat) (NB : Nat)) (.int .i64 (((NB : Nat) : Int) - 1))) (.pointer (some ⟨r44, Int.toNat (((NB : Nat) : Int) - 1), none⟩)) (by kernel_rfl) (fun w hT => run_indexAt (e := 5) (sz := 1) _ (by kernel_rfl) (by kernel_rfl) (by omega) (by omega) (by omega) w) ?_
    refine pl_step 5 0 rfl rfl ?_
    refine sem_stepU (Instr.storeAt 5 (.pointer (some ⟨r44, Int.toNat (((NB : Nat) : Int) - 1), none⟩)) (.int .u8 1)) (fun _ => [.gen (rowE (some ⟨r44, 0, none⟩) r44 (NB : Nat) (NB : Nat) 5 1 (ivals .u8 ((List.replicate (NB : Nat) 0).set (Int.toNat (((NB : Nat) : Int) - 1)) 1)) true), .cells b38 [.int .i64 R.x0, .int .i64 R.y0, .int .i64 R.x1, .int .i64 R.y1] 32 true, .cells bl9 [.int .i64 (1 + aroundI w_ 16), .int .i64 (1 + aroundI h_ 16), .slice (some ⟨bq9, 0, none⟩) n3 n3] 84 true, .gen (rowE (some ⟨bq9, 0, none⟩) bq9 n3 n3 28 1 (ivals .u32 (goodP n3 xs1 n3)) true), .cells b8 [.int .i64 (1 + aroundI w_ 16), .int .i64 (1 + aroundI h_ 16), .slice (some ⟨r2, 0, none⟩) n3 n3] 37 true, .gen (rowE (some ⟨r2, 0, none⟩) r2 n3 n3 28 1 (ivals .u32 (goodP n3 xs1 n3)) true), .gen (rdE (A1) g1 o1 n1 1 (ivals .u32 xs1)), .gen (rdE (A2) g2 o2 n2 1 (ivals .u8 xs2))]) (fun _ => True) (by kernel_rfl) (fun w hT => store_row hT (i := 0) rfl (by kernel_rfl) (by simp only [List.length_replicate]; omega)) (fun _ _ => ?_)
    refine cont_done ?_
    refine blk_normal ?_
    refine then_normal ?_
    refine cont_seq ?_
    refine cont_region 15 rfl ?_
    refine bS [0, 1, 0] 3 12 [(13, .pointer (some ⟨b8, 0, none⟩)), (14, .pointer (some ⟨bl9, 0, none⟩)), (18, .int .i64 1), (69, .pointer (some ⟨bl9, 0, none⟩)), (70, .agg #[.int .i64 R.x0, .int .i64 R.y0, .int .i64 R.x1, .int .i64 R.y1]), (71, .slice (some ⟨r44, 0, none⟩) (NB : Nat) (NB : Nat))] ?_
    refine cont_forget 1 rfl ?_
    refine pl_step 4 11 rfl rfl ?_
    refine call_gen (d := 72) (α := Unit) (fun _ => .int .i64 (wrE (1 + aroundI w_ 16) (1 + aroundI h_ 16) R.x0 R.y0 R.x1 R.y1 ((List.replicate (NB : Nat) 0).set (Int.toNat (((NB : Nat) : Int) - 1)) 1))) (fun _ => [.gen (rowE (some ⟨r44, 0, none⟩) r44 (NB : Nat) (NB : Nat) 5 1 (ivals .u8 ((List.replicate (NB : Nat) 0).set (Int.toNat (((NB : Nat) : Int) - 1)) 1)) true), .cells bl9 [.int .i64 (1 + aroundI w_ 16), .int .i64 (1 + aroundI h_ 16), .slice (some ⟨bq9, 0, none⟩) n3 n3] 84 true, .gen (rowE (some ⟨bq9, 0, none⟩) bq9 n3 n3 28 1 (ivals .u32 (wrA (1 + aroundI w_ 16) (1 + aroundI h_ 16) (goodP n3 xs1 n3) R.x0 R.y0 R.x1 R.y1 ((List.replicate (NB : Nat) 0).set (Int.toNat (((NB : Nat) : Int) - 1)) 1))) true), .cells b8 [.int .i64 (1 + aroundI w_ 16), .int .i64 (1 + aroundI h_ 16), .slice (some ⟨r2, 0, none⟩) n3 n3] 37 true, .gen (rowE (some ⟨r2, 0, none⟩) r2 n3 n3 28 1 (ivals .u32 (goodP n3 xs1 n3)) true), .gen (rdE (A1) g1 o1 n1 1 (ivals .u32 xs1)), .gen (rdE (A2) g2 o2 n2 1 (ivals .u8 xs2))]) (fun _ => True) (by kernel_rfl) (fun w hT => (imgWrite bl9 (1 + aroundI w_ 16) (1 + aroundI h_ 16) bq9 n3 n3 (goodP n3 xs1 n3) R.x0 R.y0 R.x1 R.y1 (some ⟨r44, 0, none⟩) r44 0 (NB : Nat) (NB : Nat) ((List.replicate (NB : Nat) 0).set (Int.toNat (((NB : Nat) : Int) - 1)) 1) w (hT.view (.cons (i := 1) rfl Vw.roc (.cons (i := 2) rfl Vw.row (.cons (i := 0) rfl Vw.rowRd .nil))) (by decide)) hM5_ (Row.capLe (hT.ok 2 _ rfl)) (by omega) (rep_byte2 _ _)).mono fun e w' ⟨he_, ht_⟩ => ⟨(), he_, trivial, hT.merge (N := []) (s := [1, 2]) ht_ (.skip rfl (.cons (i := 2) rfl Mg.row .nil)) (by decide) (fun i e h => by simp at h)⟩) (fun _ _ => ?_)
    have hE_ := show wrE (1 + aroundI w_ 16) (1 + aroundI h_ 16) R.x0 R.y0 R.x1 R.y1 ((List.replicate (NB : Nat) 0).set (Int.toNat (((NB : Nat) : Int) - 1)) 1) = 1 from (wrE_bad hin (by rw [List.length_set, List.length_replicate]; omega) (N := Ar) (by rw [List.length_set, List.length_replicate]; omega) (k := Ar - 1) (by omega) (bad_last (by omega) (by omega) (by omega)))
    refine cont_recast 72 (.int .i64 (wrE (1 + aroundI w_ 16) (1 + aroundI h_ 16) R.x0 R.y0 R.x1 R.y1 ((List.replicate (NB : Nat) 0).set (Int.toNat (((NB : Nat) : Int) - 1)) 1))) (.int .i64 1) rfl (congrArg (Value.int .i64) hE_) ?_
    refine bS [0, 0, 0, 0, 3] 9 6 [(75, .bool true), (76, .pointer (some ⟨bl9, 0, none⟩)), (77, .agg #[.int .i64 (1 + aroundI w_ 16), .int .i64 (1 + aroundI h_ 16), .slice (some ⟨r2, 0, none⟩) n3 n3])] ?_
    refine cont_forget 3 rfl ?_
    refine pl_step 10 5 rfl rfl ?_
    refine cont_rowEq (k := .u32) 2 (wrA (1 + aroundI w_ 16) (1 + aroundI h_ 16) (goodP n3 xs1 n3) R.x0 R.y0 R.x1 R.y1 ((List.replicate (NB : Nat) 0).set (Int.toNat (((NB : Nat) : Int) - 1)) 1)) (goodP n3 xs1 n3) rfl (wrA_no (by rw [hE_]; decide)) ?_
    refine call_pure (d := 78) (.bool true) (by kernel_rfl) (fun w hT => likeT bl9 (1 + aroundI w_ 16) (1 + aroundI h_ 16) bq9 n3 n3 (goodP n3 xs1 n3) r2 n3 n3 w (hT.viewRo (.cons (i := 1) rfl Vw.roc (.cons (i := 2) rfl Vw.rowRd (.cons (i := 3) rfl Vw.rowRd .nil))) rfl) hM5_ (Row.capLe (hT.ok 2 _ rfl))) ?_
    refine bS [0, 0] 12 3 [(80, .bool true)] ?_
    refine cont_forget 1 rfl ?_
    refine pl_step 13 2 rfl rfl ?_
    refine call_pure (d := 81) (.bool true) (by kernel_rfl) (fun w hT => lives4  w) ?_
    refine bS [0, 0] 15 0 [(12, .bool true)] ?_
    refine cont_done ?_
    refine then_normal ?_
    refine cont_ret ?_
    refine ret_one (.inl rfl) rfl 0 (.bool true) (by kernel_rfl) (by kernel_rfl) (fun w hT => ?_)
    exact ⟨rfl, hT.post rfl⟩
  ·
    refine call_pure (d := 33) (.int .i64 (areaI R.x0 R.y0 R.x1 R.y1)) (by kernel_rfl) (fun w hT => refArea R.x0 R.y0 R.x1 R.y1 w (by omega) (by omega) (by omega) (by omega)) ?_
    refine cont_recast 33 (.int .i64 (areaI R.x0 R.y0 R.x1 R.y1)) (.int .i64 0) rfl (congrArg (Value.int .i64) (by rw [hq1, hq2, hq3, hq4]; decide)) ?_
    refine bS [0, 0] 4 0 [(4, .int .i64 how_), (5, .slice A2 n2 cap2), (13, .pointer (some ⟨b8, 0, none⟩)), (14, .pointer (some ⟨bl9, 0, none⟩)), (15, .pointer (some ⟨b38, 0, none⟩)), (16, .int .i64 0)] ?_
    refine cont_done ?_
    refine then_normal ?_
    refine cont_seq ?_
    refine cont_seq ?_
    refine cont_region 2 rfl ?_
    refine bS [0, 0] 2 0 [(4, .int .i64 how_), (5, .slice A2 n2 cap2), (13, .pointer (some ⟨b8, 0, none⟩)), (14, .pointer (some ⟨bl9, 0, none⟩)), (15, .pointer (some ⟨b38, 0, none⟩)), (16, .int .i64 0), (36, .bool true)] ?_
    refine cont_done ?_
    refine then_normal ?_
    refine cont_true rfl ?_
    refine cont_seq ?_
    refine cont_region 14 rfl ?_
    refine bS [0, 0, 0] 3 11 [(13, .pointer (some ⟨b8, 0, none⟩)), (14, .pointer (some ⟨bl9, 0, none⟩)), (37, .pointer (some ⟨bl9, 0, none⟩)), (38, .agg #[.int .i64 R.x0, .int .i64 R.y0, .int .i64 R.x1, .int .i64 R.y1]), (39, .slice A2 n2 cap2)] ?_
    refine cont_forget 0 rfl ?_
    refine pl_step 4 10 rfl rfl ?_
    refine call_gen (d := 40) (α := Unit) (fun _ => .int .i64 (wrE (1 + aroundI w_ 16) (1 + aroundI h_ 16) R.x0 R.y0 R.x1 R.y1 xs2)) (fun _ => [.cells bl9 [.int .i64 (1 + aroundI w_ 16), .int .i64 (1 + aroundI h_ 16), .slice (some ⟨bq9, 0, none⟩) n3 n3] 84 true, .gen (rowE (some ⟨bq9, 0, none⟩) bq9 n3 n3 28 1 (ivals .u32 (wrA (1 + aroundI w_ 16) (1 + aroundI h_ 16) (goodP n3 xs1 n3) R.x0 R.y0 R.x1 R.y1 xs2)) true), .cells b8 [.int .i64 (1 + aroundI w_ 16), .int .i64 (1 + aroundI h_ 16), .slice (some ⟨r2, 0, none⟩) n3 n3] 37 true, .gen (rowE (some ⟨r2, 0, none⟩) r2 n3 n3 28 1 (ivals .u32 (goodP n3 xs1 n3)) true), .gen (rdE (A1) g1 o1 n1 1 (ivals .u32 xs1)), .gen (rdE (A2) g2 o2 n2 1 (ivals .u8 xs2))]) (fun _ => True) (by kernel_rfl) (fun w hT => (imgWrite bl9 (1 + aroundI w_ 16) (1 + aroundI h_ 16) bq9 n3 n3 (goodP n3 xs1 n3) R.x0 R.y0 R.x1 R.y1 A2 g2 o2 n2 cap2 xs2 w (hT.view (.cons (i := 0) rfl Vw.roc (.cons (i := 1) rfl Vw.row (.cons (i := 5) rfl Vw.rd .nil))) (by decide)) hM5_ (Row.capLe (hT.ok 1 _ rfl)) (by omega) hx2).mono fun e w' ⟨he_, ht_⟩ => ⟨(), he_, trivial, hT.merge (N := []) (s := [0, 1]) ht_ (.skip rfl (.cons (i := 1) rfl Mg.row .nil)) (by decide) (fun i e h => by simp at h)⟩) (fun _ _ => ?_)
    have hE_ := (wrE_ins hin : wrE (1 + aroundI w_ 16) (1 + aroundI h_ 16) R.x0 R.y0 R.x1 R.y1 xs2 = 4)
    refine cont_recast 40 (.int .i64 (wrE (1 + aroundI w_ 16) (1 + aroundI h_ 16) R.x0 R.y0 R.x1 R.y1 xs2)) (.int .i64 4) rfl (congrArg (Value.int .i64) hE_) ?_
    refine bS [0, 0, 0, 2] 8 6 [(42, .bool true), (43, .pointer (some ⟨bl9, 0, none⟩)), (44, .agg #[.int .i64 (1 + aroundI w_ 16), .int .i64 (1 + aroundI h_ 16), .slice (some ⟨r2, 0, none⟩) n3 n3])] ?_
    refine cont_forget 2 rfl ?_
    refine pl_step 9 5 rfl rfl ?_
    refine cont_rowEq (k := .u32) 1 (wrA (1 + aroundI w_ 16) (1 + aroundI h_ 16) (goodP n3 xs1 n3) R.x0 R.y0 R.x1 R.y1 xs2) (goodP n3 xs1 n3) rfl (wrA_no (by rw [hE_]; decide)) ?_
    refine call_pure (d := 45) (.bool true) (by kernel_rfl) (fun w hT => likeT bl9 (1 + aroundI w_ 16) (1 + aroundI h_ 16) bq9 n3 n3 (goodP n3 xs1 n3) r2 n3 n3 w (hT.viewRo (.cons (i := 0) rfl Vw.roc (.cons (i := 1) rfl Vw.rowRd (.cons (i := 2) rfl Vw.rowRd .nil))) rfl) hM5_ (Row.capLe (hT.ok 1 _ rfl))) ?_
    refine bS [0, 0] 11 3 [(47, .bool true)] ?_
    refine cont_forget 0 rfl ?_
    refine pl_step 12 2 rfl rfl ?_
    refine call_pure (d := 48) (.bool true) (by kernel_rfl) (fun w hT => lives4  w) ?_
    refine bS [0, 0] 14 0 [(12, .bool true)] ?_
    refine cont_done ?_
    refine then_normal ?_
    refine cont_ret ?_
    refine then_ret ?_
    refine ret_one (.inl rfl) rfl 0 (.bool true) (by kernel_rfl) (by kernel_rfl) (fun w hT => ?_)
    exact ⟨rfl, hT.post rfl⟩

end Go.Proofs.Ytommojgfkkoghaa
