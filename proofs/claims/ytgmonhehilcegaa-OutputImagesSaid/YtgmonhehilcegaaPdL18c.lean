/- Contracts of functions of the given program, printed by a program of this project. -/
import Derived.Test.YtgmonhehilcegaaPdL18
import Derived.Test.YtgmonhehilcegaaPdOi
import Derived.Test.YtgmonhehilcegaaProg
set_option linter.unusedVariables false
set_option linter.unusedSimpArgs false
namespace Go.Proofs.Ytgmonhehilcegaa
open Go Go.RowKit
set_option maxRecDepth 100000
set_option maxHeartbeats 8000000

theorem outBack0 (ob m m1 : Nat) (A0v A1v : Option Addr) (k0v c0v k1v c1v : Nat) (w0 w1 fr : Int) (w : World) (hT0 : Tab w w [.ro ob [.pointer (some ⟨m, 0, none⟩), .pointer (some ⟨m1, 0, none⟩), .slice A0v k0v c0v, .slice A1v k1v c1v, .int .i64 w0, .int .i64 w1, .int .i64 fr, .int .i64 0] 98]) :
    Calls Try.prog 44 #[.pointer (some ⟨ob, 0, none⟩)] w fun e w' => e = .returned (.pointer (some ⟨m, 0, none⟩)) ∧ Below w.heap.size w w' := by
 refine enter 12 [(0, .pointer (pB ob))] [.ro ob [.pointer (pB m), .pointer (pB m1), .slice A0v k0v c0v, .slice A1v k1v c1v, iq w0, iq w1, iq fr, iq 0] 98] Try.func44 rfl Try.ntmps44 rfl (by kernel_rfl) hT0 ?_
 refine cont_seq ?_
 refine cont_region 1 rfl ?_
 refine bS [0] 1 0 [(0, .pointer (pB ob))] ?_
 refine cont_done ?_
 refine then_normal ?_
 refine cont_seq ?_
 refine drawn_enter 10 [] rfl (by kernel_rfl) ?_
 refine takes 0 [] [(0, 0), (1, 0), (2, 0), (5, 0), (3, 0), (6, 0), (4, 0), (7, 0), (8, 0), (9, 0)] 0 [9, 8, 7, 4, 6, 3, 5, 2, 1, 0] [(2, .pointer (pB m))] (by kernel_rfl) (pok_then pok_body) (by kernel_rfl) rfl rfl (by kernel_rfl) (by kernel_rfl) ?_
 refine drawn_done (by kernel_rfl) ?_
 refine then_normal ?_
 refine cont_ret ?_
 refine ret_one (.inl rfl) rfl 0 (.pointer (pB m)) (by kernel_rfl) (by kernel_rfl) (fun w hT => ?_)
 exact ⟨rfl, hT.post rfl⟩

theorem outFront0 (ob m m1 : Nat) (A0v A1v : Option Addr) (k0v c0v k1v c1v : Nat) (w0 w1 fr : Int) (W H : Int) (r n cap : Nat) (px : List Int) (w : World) (hT0 : Tab w w [.ro ob [.pointer (some ⟨m1, 0, none⟩), .pointer (some ⟨m, 0, none⟩), .slice A0v k0v c0v, .slice A1v k1v c1v, .int .i64 w0, .int .i64 w1, .int .i64 fr, .int .i64 0] 98, .ro m [.int .i64 W, .int .i64 H, .slice (some ⟨r, 0, none⟩) n cap] 115, .gen (rdE (some ⟨r, 0, none⟩) r 0 n 1 (ivals .u32 px))]) (hcap : n ≤ cap) (hok : ImgOk W H n px) :
    Calls Try.prog 45 #[.pointer (some ⟨ob, 0, none⟩)] w fun e w' => ∃ b g cp : Nat, e = .returned (.pointer (some ⟨b, 0, none⟩)) ∧ NewImg 115 54 w w' b W H g n cp px := by
 have hw1 := hok.w1
 have hw2 := hok.w2
 have hh1 := hok.h1
 have hh2 := hok.h2
 have hnum := hok.num
 have hlen := hok.len
 have hle := hok.le
 refine enter 14 [(0, .pointer (pB ob))] [.ro ob [.pointer (pB m1), .pointer (pB m), .slice A0v k0v c0v, .slice A1v k1v c1v, iq w0, iq w1, iq fr, iq 0] 98, .ro m [iq W, iq H, .slice (pB r) n cap] 115, .gen (rdE (pB r) r 0 n 1 (ivals .u32 px))] Try.func45 rfl Try.ntmps45 rfl (by kernel_rfl) hT0 ?_
 refine cont_seq ?_
 refine cont_region 1 rfl ?_
 refine bS [0] 1 0 [(0, .pointer (pB ob))] ?_
 refine cont_done ?_
 refine then_normal ?_
 refine cont_seq ?_
 refine drawn_enter 12 [] rfl (by kernel_rfl) ?_
 refine takes 0 [] [(0, 0), (1, 0), (2, 0), (6, 0), (3, 0), (7, 0), (4, 0), (5, 0), (8, 0), (9, 0)] 2 [9, 8, 5, 4, 7, 3, 6, 2, 1, 0] [(12, .pointer (pB m))] (by kernel_rfl) (pok_then pok_body) (by kernel_rfl) rfl rfl (by kernel_rfl) (by kernel_rfl) ?_
 refine drawn_one 10 1 rfl (by kernel_rfl) ?_
 refine call_gen (d := 13) (α := Nat × Nat × Nat) (fun x_ => .pointer (pB x_.1)) (fun x_ => [.cells x_.1 [iq W, iq H, .slice (pB x_.2.1) n x_.2.2] 115 true, .gen (rowE (pB x_.2.1) x_.2.1 n x_.2.2 54 1 (ivals .u32 px) true), .ro ob [.pointer (pB m1), .pointer (pB m), .slice A0v k0v c0v, .slice A1v k1v c1v, iq w0, iq w1, iq fr, iq 0] 98, .ro m [iq W, iq H, .slice (pB r) n cap] 115, .gen (rdE (pB r) r 0 n 1 (ivals .u32 px))]) (fun _ => True) (by kernel_rfl) (fun w hT => (imgClone m W H r n cap px w ⟨hT.ok 1 _ rfl, hT.ok 2 _ rfl, by omega⟩ hok).mono fun e w' ⟨b_, g_, c_, he_, hi_⟩ => ⟨(b_, g_, c_), he_, trivial, hT.addImg hi_⟩) ?_
 rintro ⟨cb1, cg1, cc1⟩ -
 refine cont_norm [(12, .pointer (pB m)), (13, .pointer (pB cb1))] _ (by kernel_rfl) rfl ?_
 refine drawn_next 2 [] (by kernel_rfl) ?_
 refine takes 2 [] [(11, 0)] 0 [11, 10, 9, 8, 5, 4, 7, 3, 6, 2, 1, 0] [(2, .pointer (pB cb1))] (by kernel_rfl) (pok_then pok_body) (by kernel_rfl) rfl rfl (by kernel_rfl) (by kernel_rfl) ?_
 refine drawn_done (by kernel_rfl) ?_
 refine then_normal ?_
 refine cont_ret ?_
 refine ret_one (.inl rfl) rfl 0 (.pointer (pB cb1)) (by kernel_rfl) (by kernel_rfl) (fun w hT => ?_)
 replace hT := hT.erase 4 (fun e h hw => by cases h; first | rfl | cases hw)
 replace hT := hT.erase 3 (fun e h hw => by cases h; first | rfl | cases hw)
 replace hT := hT.erase 2 (fun e h hw => by cases h; first | rfl | cases hw)
 exact ⟨_, _, _, rfl, newImg_of_tab hT⟩

theorem outBack1 (ob m m1 : Nat) (A0v A1v : Option Addr) (k0v c0v k1v c1v : Nat) (w0 w1 fr : Int) (w : World) (hT0 : Tab w w [.ro ob [.pointer (some ⟨m, 0, none⟩), .pointer (some ⟨m1, 0, none⟩), .slice A0v k0v c0v, .slice A1v k1v c1v, .int .i64 w0, .int .i64 w1, .int .i64 fr, .int .i64 1] 98]) :
    Calls Try.prog 44 #[.pointer (some ⟨ob, 0, none⟩)] w fun e w' => e = .returned (.pointer (some ⟨m1, 0, none⟩)) ∧ Below w.heap.size w w' := by
 refine enter 12 [(0, .pointer (pB ob))] [.ro ob [.pointer (pB m), .pointer (pB m1), .slice A0v k0v c0v, .slice A1v k1v c1v, iq w0, iq w1, iq fr, iq 1] 98] Try.func44 rfl Try.ntmps44 rfl (by kernel_rfl) hT0 ?_
 refine cont_seq ?_
 refine cont_region 1 rfl ?_
 refine bS [0] 1 0 [(0, .pointer (pB ob))] ?_
 refine cont_done ?_
 refine then_normal ?_
 refine cont_seq ?_
 refine drawn_enter 10 [] rfl (by kernel_rfl) ?_
 refine takes 0 [] [(0, 0), (1, 0), (2, 0), (5, 0), (3, 0), (6, 0), (4, 0), (7, 0), (8, 0), (9, 0)] 0 [9, 8, 7, 4, 6, 3, 5, 2, 1, 0] [(2, .pointer (pB m1))] (by kernel_rfl) (pok_then pok_body) (by kernel_rfl) rfl rfl (by kernel_rfl) (by kernel_rfl) ?_
 refine drawn_done (by kernel_rfl) ?_
 refine then_normal ?_
 refine cont_ret ?_
 refine ret_one (.inl rfl) rfl 0 (.pointer (pB m1)) (by kernel_rfl) (by kernel_rfl) (fun w hT => ?_)
 exact ⟨rfl, hT.post rfl⟩

theorem outFront1 (ob m m1 : Nat) (A0v A1v : Option Addr) (k0v c0v k1v c1v : Nat) (w0 w1 fr : Int) (W H : Int) (r n cap : Nat) (px : List Int) (w : World) (hT0 : Tab w w [.ro ob [.pointer (some ⟨m, 0, none⟩), .pointer (some ⟨m1, 0, none⟩), .slice A0v k0v c0v, .slice A1v k1v c1v, .int .i64 w0, .int .i64 w1, .int .i64 fr, .int .i64 1] 98, .ro m [.int .i64 W, .int .i64 H, .slice (some ⟨r, 0, none⟩) n cap] 115, .gen (rdE (some ⟨r, 0, none⟩) r 0 n 1 (ivals .u32 px))]) (hcap : n ≤ cap) (hok : ImgOk W H n px) :
    Calls Try.prog 45 #[.pointer (some ⟨ob, 0, none⟩)] w fun e w' => ∃ b g cp : Nat, e = .returned (.pointer (some ⟨b, 0, none⟩)) ∧ NewImg 115 54 w w' b W H g n cp px := by
 have hw1 := hok.w1
 have hw2 := hok.w2
 have hh1 := hok.h1
 have hh2 := hok.h2
 have hnum := hok.num
 have hlen := hok.len
 have hle := hok.le
 refine enter 14 [(0, .pointer (pB ob))] [.ro ob [.pointer (pB m), .pointer (pB m1), .slice A0v k0v c0v, .slice A1v k1v c1v, iq w0, iq w1, iq fr, iq 1] 98, .ro m [iq W, iq H, .slice (pB r) n cap] 115, .gen (rdE (pB r) r 0 n 1 (ivals .u32 px))] Try.func45 rfl Try.ntmps45 rfl (by kernel_rfl) hT0 ?_
 refine cont_seq ?_
 refine cont_region 1 rfl ?_
 refine bS [0] 1 0 [(0, .pointer (pB ob))] ?_
 refine cont_done ?_
 refine then_normal ?_
 refine cont_seq ?_
 refine drawn_enter 12 [] rfl (by kernel_rfl) ?_
 refine takes 0 [] [(0, 0), (1, 0), (2, 0), (6, 0), (3, 0), (7, 0), (4, 0), (5, 0), (8, 0), (9, 0)] 2 [9, 8, 5, 4, 7, 3, 6, 2, 1, 0] [(12, .pointer (pB m))] (by kernel_rfl) (pok_then pok_body) (by kernel_rfl) rfl rfl (by kernel_rfl) (by kernel_rfl) ?_
 refine drawn_one 10 1 rfl (by kernel_rfl) ?_
 refine call_gen (d := 13) (α := Nat × Nat × Nat) (fun x_ => .pointer (pB x_.1)) (fun x_ => [.cells x_.1 [iq W, iq H, .slice (pB x_.2.1) n x_.2.2] 115 true, .gen (rowE (pB x_.2.1) x_.2.1 n x_.2.2 54 1 (ivals .u32 px) true), .ro ob [.pointer (pB m), .pointer (pB m1), .slice A0v k0v c0v, .slice A1v k1v c1v, iq w0, iq w1, iq fr, iq 1] 98, .ro m [iq W, iq H, .slice (pB r) n cap] 115, .gen (rdE (pB r) r 0 n 1 (ivals .u32 px))]) (fun _ => True) (by kernel_rfl) (fun w hT => (imgClone m W H r n cap px w ⟨hT.ok 1 _ rfl, hT.ok 2 _ rfl, by omega⟩ hok).mono fun e w' ⟨b_, g_, c_, he_, hi_⟩ => ⟨(b_, g_, c_), he_, trivial, hT.addImg hi_⟩) ?_
 rintro ⟨cb1, cg1, cc1⟩ -
 refine cont_norm [(12, .pointer (pB m)), (13, .pointer (pB cb1))] _ (by kernel_rfl) rfl ?_
 refine drawn_next 2 [] (by kernel_rfl) ?_
 refine takes 2 [] [(11, 0)] 0 [11, 10, 9, 8, 5, 4, 7, 3, 6, 2, 1, 0] [(2, .pointer (pB cb1))] (by kernel_rfl) (pok_then pok_body) (by kernel_rfl) rfl rfl (by kernel_rfl) (by kernel_rfl) ?_
 refine drawn_done (by kernel_rfl) ?_
 refine then_normal ?_
 refine cont_ret ?_
 refine ret_one (.inl rfl) rfl 0 (.pointer (pB cb1)) (by kernel_rfl) (by kernel_rfl) (fun w hT => ?_)
 replace hT := hT.erase 4 (fun e h hw => by cases h; first | rfl | cases hw)
 replace hT := hT.erase 3 (fun e h hw => by cases h; first | rfl | cases hw)
 replace hT := hT.erase 2 (fun e h hw => by cases h; first | rfl | cases hw)
 exact ⟨_, _, _, rfl, newImg_of_tab hT⟩

end Go.Proofs.Ytgmonhehilcegaa

