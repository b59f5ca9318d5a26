/- Contracts of functions of the given program, printed by a program of this project. -/
import Derived.Test.YtlfahohbkgdabaaPaL4d
import Derived.Test.YtlfahohbkgdabaaPaL2d
import Derived.Test.YtlfahohbkgdabaaPaDf
import Derived.Test.YtlfahohbkgdabaaProg
set_option linter.unusedVariables false
set_option linter.unusedSimpArgs false
namespace Go.Proofs.Ytlfahohbkgdabaa
open Go Go.RowKit
set_option maxRecDepth 100000
set_option maxHeartbeats 8000000

theorem naiveDiff (m : Nat) (W H : Int) (r n cap : Nat) (px : List Int) (m' r' n' cap' : Nat) (px' : List Int) (w : World) (hT0 : Tab w w [.ro m [.int .i64 W, .int .i64 H, .slice (some ⟨r, 0, none⟩) n cap] 118, .gen (rdE (some ⟨r, 0, none⟩) r 0 n 1 (ivals .u32 px)), .ro m' [.int .i64 W, .int .i64 H, .slice (some ⟨r', 0, none⟩) n' cap'] 118, .gen (rdE (some ⟨r', 0, none⟩) r' 0 n' 1 (ivals .u32 px'))]) (hcap : n ≤ cap) (hok : ImgOk W H n px) (hcap' : n' ≤ cap') (hok' : ImgOk W H n' px') :
    Calls Try.prog 42 #[.pointer (some ⟨m, 0, none⟩), .pointer (some ⟨m', 0, none⟩)] w fun e w' => ∃ (A_ : Option Addr) (g_ k_ cp_ : Nat), e = .returned (.tuple #[.slice A_ k_ cp_, .int .i64 0]) ∧ Tab w w' [.gen (rowE (A_) g_ k_ cp_ 53 4 (rvals (canR (dfL W px px' n))) true)] := by
  have hw1 := hok.w1
  have hw2 := hok.w2
  have hh1 := hok.h1
  have hh2 := hok.h2
  have hnum := hok.num
  have hlen := hok.len
  have hle := hok.le
  have hrng := hok.rng
  refine enterM 86 [(0, .pointer (some ⟨m, 0, none⟩)), (1, .pointer (some ⟨m', 0, none⟩))] [.ro m [.int .i64 W, .int .i64 H, .slice (some ⟨r, 0, none⟩) n cap] 118, .gen (rdE (some ⟨r, 0, none⟩) r 0 n 1 (ivals .u32 px)), .ro m' [.int .i64 W, .int .i64 H, .slice (some ⟨r', 0, none⟩) n' cap'] 118, .gen (rdE (some ⟨r', 0, none⟩) r' 0 n' 1 (ivals .u32 px'))] Try.func42 rfl Try.ntmps42 rfl (by kernel_rfl) hT0 ?_
  refine cont_seq ?_
  refine cont_region 3 rfl ?_
  refine batch1 [0, 0, 0] 3 0 (fun b1 => [(0, .pointer (some ⟨m, 0, none⟩)), (3, .pointer (some ⟨b1, 0, none⟩))]) (fun b1 => [.cells b1 [.pointer (some ⟨m', 0, none⟩)] 43 true, .ro m [.int .i64 W, .int .i64 H, .slice (some ⟨r, 0, none⟩) n cap] 118, .gen (rdE (some ⟨r, 0, none⟩) r 0 n 1 (ivals .u32 px)), .ro m' [.int .i64 W, .int .i64 H, .slice (some ⟨r', 0, none⟩) n' cap'] 118, .gen (rdE (some ⟨r', 0, none⟩) r' 0 n' 1 (ivals .u32 px'))]) rfl rfl [0, 3] (fun _ => rfl) (fun b1 => by kernel_rfl) (fun b1 => by kernel_rfl) (fun b1 => ?_)
  refine cont_done ?_
  refine then_normal ?_
  refine cont_seq ?_
  refine cont_seq ?_
  refine drawn_enter 5 [] rfl (by kernel_rfl) ?_
  refine takes 0 [] [(0, 0), (2, 0)] 3 [2, 0] [(0, .pointer (some ⟨m, 0, none⟩)), (3, .pointer (some ⟨b1, 0, none⟩)), (14, .pointer (some ⟨m, 0, none⟩)), (16, .pointer (some ⟨m', 0, none⟩))] (by kernel_rfl) (pok_then (pok_then pok_np)) (by kernel_rfl) rfl rfl (by kernel_rfl) (by kernel_rfl) ?_
  refine drawn_one 1 2 rfl (by kernel_rfl) ?_
  refine call_pure (d := 15) (.agg #[.int .i64 0, .int .i64 0, .int .i64 W, .int .i64 H]) (by kernel_rfl) (fun w hT => imgBox m W H r n cap px  w ⟨hT.ok 1 _ rfl, hT.ok 2 _ rfl, by omega⟩ hok) ?_
  refine drawn_next 0 [] (by kernel_rfl) ?_
  refine drawn_one 3 1 rfl (by kernel_rfl) ?_
  refine call_pure (d := 17) (.agg #[.int .i64 0, .int .i64 0, .int .i64 W, .int .i64 H]) (by kernel_rfl) (fun w hT => imgBox m' W H r' n' cap' px'  w ⟨hT.ok 3 _ rfl, hT.ok 4 _ rfl, by omega⟩ hok') ?_
  refine drawn_next 0 [] (by kernel_rfl) ?_
  refine sem_take 0 [] 4 0 18 (bopS .neq 53 (.tmp 15) (.tmp 17) (.agg #[.int .i64 0, .int .i64 0, .int .i64 W, .int .i64 H]) (.agg #[.int .i64 0, .int .i64 0, .int .i64 W, .int .i64 H])) (.bool (!(eqInts [0, 0, W, H] [0, 0, W, H]))) (by kernel_rfl) (pok_then (pok_then pok_np)) (by kernel_rfl) rfl (by kernel_rfl) (by kernel_rfl) (fun w hT => run_neS [0, 0, W, H] [0, 0, W, H] (by kernel_rfl) (by kernel_rfl) (by kernel_rfl) (by kernel_rfl) rfl rfl w) ?_
  refine drawn_done (by kernel_rfl) ?_
  refine then_normal ?_
  refine cont_recast 18 (.bool (!(eqInts [0, 0, W, H] [0, 0, W, H]))) (.bool false) rfl (congrArg Value.bool (by simp [eqInts])) ?_
  refine cont_false rfl ?_
  refine cont_skip ?_
  refine then_normal ?_
  refine cont_seq ?_
  refine cont_region 1 rfl ?_
  refine batch1 [0] 1 0 (fun b3 => [(0, .pointer (some ⟨m, 0, none⟩)), (3, .pointer (some ⟨b1, 0, none⟩)), (6, .pointer (some ⟨b3, 0, none⟩))]) (fun b3 => [.cells b3 [.slice none 0 0] 58 true, .cells b1 [.pointer (some ⟨m', 0, none⟩)] 43 true, .ro m [.int .i64 W, .int .i64 H, .slice (some ⟨r, 0, none⟩) n cap] 118, .gen (rdE (some ⟨r, 0, none⟩) r 0 n 1 (ivals .u32 px)), .ro m' [.int .i64 W, .int .i64 H, .slice (some ⟨r', 0, none⟩) n' cap'] 118, .gen (rdE (some ⟨r', 0, none⟩) r' 0 n' 1 (ivals .u32 px'))]) rfl rfl [0, 3, 6] (fun _ => rfl) (fun b3 => by kernel_rfl) (fun b3 => by kernel_rfl) (fun b3 => ?_)
  refine cont_done ?_
  refine then_normal ?_
  refine cont_seq ?_
  refine cont_seq ?_
  refine cont_region 2 rfl ?_
  refine bS [0] 1 1 [(3, .pointer (some ⟨b1, 0, none⟩)), (6, .pointer (some ⟨b3, 0, none⟩)), (19, .pointer (some ⟨m, 0, none⟩))] ?_
  refine pl_step 2 0 rfl rfl ?_
  refine call_gen (d := 20) (α := Nat) (fun x_ => .func (.func 77) #[] #[.pointer (some ⟨x_, 0, none⟩)]) (fun x_ => [.cells x_ [.pointer (some ⟨m, 0, none⟩)] 43 true, .cells b3 [.slice none 0 0] 58 true, .cells b1 [.pointer (some ⟨m', 0, none⟩)] 43 true, .ro m [.int .i64 W, .int .i64 H, .slice (some ⟨r, 0, none⟩) n cap] 118, .gen (rdE (some ⟨r, 0, none⟩) r 0 n 1 (ivals .u32 px)), .ro m' [.int .i64 W, .int .i64 H, .slice (some ⟨r', 0, none⟩) n' cap'] 118, .gen (rdE (some ⟨r', 0, none⟩) r' 0 n' 1 (ivals .u32 px'))]) (fun x_ => True) (by kernel_rfl) (fun w hT => (imgRows m w).mono fun e w' ⟨kb4, he_, ht_⟩ => ⟨kb4, he_, trivial, hT.news ht_ rfl⟩) ?_
  rintro kb4 hf5_
  refine cont_norm [(3, .pointer (some ⟨b1, 0, none⟩)), (6, .pointer (some ⟨b3, 0, none⟩)), (19, .pointer (some ⟨m, 0, none⟩)), (20, .func (.func 77) #[] #[.pointer (some ⟨kb4, 0, none⟩)])] [.cells kb4 [.pointer (some ⟨m, 0, none⟩)] 43 true, .cells b3 [.slice none 0 0] 58 true, .cells b1 [.pointer (some ⟨m', 0, none⟩)] 43 true, .ro m [.int .i64 W, .int .i64 H, .slice (some ⟨r, 0, none⟩) n cap] 118, .gen (rdE (some ⟨r, 0, none⟩) r 0 n 1 (ivals .u32 px)), .ro m' [.int .i64 W, .int .i64 H, .slice (some ⟨r', 0, none⟩) n' cap'] 118, .gen (rdE (some ⟨r', 0, none⟩) r' 0 n' 1 (ivals .u32 px'))] (by kernel_rfl) rfl ?_
  refine cont_done ?_
  refine then_normal ?_
  refine cont_block ?_
  obtain ⟨Wn, hWn⟩ : ∃ k_ : Nat, (k_ : Int) = W := ⟨Int.toNat W, by omega⟩
  obtain ⟨Hn, hHn⟩ : ∃ k_ : Nat, (k_ : Int) = H := ⟨Int.toNat H, by omega⟩
  refine cont_weaken 0 (.ro kb4 [.pointer (some ⟨m, 0, none⟩)] 43) rfl rfl Vw.roc rfl ?_
  refine cont_norm [(3, .pointer (some ⟨b1, 0, none⟩)), (6, .pointer (some ⟨b3, 0, none⟩)), (19, .pointer (some ⟨m, 0, none⟩)), (20, .func (.func 77) #[] #[.pointer (some ⟨kb4, 0, none⟩)])] [.ro kb4 [.pointer (some ⟨m, 0, none⟩)] 43, .cells b3 [.slice none 0 0] 58 true, .cells b1 [.pointer (some ⟨m', 0, none⟩)] 43 true, .ro m [.int .i64 W, .int .i64 H, .slice (some ⟨r, 0, none⟩) n cap] 118, .gen (rdE (some ⟨r, 0, none⟩) r 0 n 1 (ivals .u32 px)), .ro m' [.int .i64 W, .int .i64 H, .slice (some ⟨r', 0, none⟩) n' cap'] 118, .gen (rdE (some ⟨r', 0, none⟩) r' 0 n' 1 (ivals .u32 px'))] (by kernel_rfl) rfl ?_
  refine cont_nilrow 53 4 ?_
  refine cont_norm [(3, .pointer (some ⟨b1, 0, none⟩)), (6, .pointer (some ⟨b3, 0, none⟩)), (19, .pointer (some ⟨m, 0, none⟩)), (20, .func (.func 77) #[] #[.pointer (some ⟨kb4, 0, none⟩)])] [.gen (rowE (none) 0 0 0 53 4 (rvals []) true), .ro kb4 [.pointer (some ⟨m, 0, none⟩)] 43, .cells b3 [.slice none 0 0] 58 true, .cells b1 [.pointer (some ⟨m', 0, none⟩)] 43 true, .ro m [.int .i64 W, .int .i64 H, .slice (some ⟨r, 0, none⟩) n cap] 118, .gen (rdE (some ⟨r, 0, none⟩) r 0 n 1 (ivals .u32 px)), .ro m' [.int .i64 W, .int .i64 H, .slice (some ⟨r', 0, none⟩) n' cap'] 118, .gen (rdE (some ⟨r', 0, none⟩) r' 0 n' 1 (ivals .u32 px'))] (by kernel_rfl) rfl ?_
  refine cont_pick [1, 4, 5, 0, 2, 3, 6, 7] [.ro kb4 [.pointer (some ⟨m, 0, none⟩)] 43, .ro m [.int .i64 W, .int .i64 H, .slice (some ⟨r, 0, none⟩) n cap] 118, .gen (rdE (some ⟨r, 0, none⟩) r 0 n 1 (ivals .u32 px)), .gen (rowE (none) 0 0 0 53 4 (rvals []) true), .cells b3 [.slice none 0 0] 58 true, .cells b1 [.pointer (some ⟨m', 0, none⟩)] 43 true, .ro m' [.int .i64 W, .int .i64 H, .slice (some ⟨r', 0, none⟩) n' cap'] 118, .gen (rdE (some ⟨r', 0, none⟩) r' 0 n' 1 (ivals .u32 px'))] (by decide) rfl rfl ?_
  refine cont_rangeFunc (X := Int × Nat × Nat) (β := Nat × List Rect × Option Addr × Nat × Nat × Nat) (γ := Unit) (gf := 77) (lb := #[.pointer (some ⟨kb4, 0, none⟩)]) (fun z_ : Int × Nat × Nat => #[.int .i64 z_.1, .slice (some ⟨z_.2.1, 0, none⟩) Wn z_.2.2]) [.ro kb4 [.pointer (some ⟨m, 0, none⟩)] 43, .ro m [.int .i64 W, .int .i64 H, .slice (some ⟨r, 0, none⟩) n cap] 118, .gen (rdE (some ⟨r, 0, none⟩) r 0 n 1 (ivals .u32 px))] (fun z_ : Int × Nat × Nat => [.gen (rowE (some ⟨z_.2.1, 0, none⟩) z_.2.1 Wn z_.2.2 24 1 (ivals .u32 (rowL Wn px z_.1)) true)]) (fun xs_ => RowsP Hn xs_ ∧ xs_.length = Hn) (fun xs_ => RowsP Hn xs_) (fun (pre : List (Int × Nat × Nat)) (x_ : Nat × List Rect × Option Addr × Nat × Nat × Nat) => x_.1 = pre.length ∧ SolI (difB W H px px') x_.2.1 (ptL W (x_.1 * Wn))) (fun x_ : Nat × List Rect × Option Addr × Nat × Nat × Nat => [.gen (rowE (x_.2.2.1) x_.2.2.2.1 x_.2.2.2.2.1 x_.2.2.2.2.2 53 4 (rvals x_.2.1) true), .cells b3 [.slice x_.2.2.1 x_.2.2.2.2.1 x_.2.2.2.2.2] 58 true, .cells b1 [.pointer (some ⟨m', 0, none⟩)] 43 true, .ro m' [.int .i64 W, .int .i64 H, .slice (some ⟨r', 0, none⟩) n' cap'] 118, .gen (rdE (some ⟨r', 0, none⟩) r' 0 n' 1 (ivals .u32 px'))]) (fun (_ : Code) (_ : Unit) => False) (fun x_ : Unit => []) (0, ([] : List Rect), none, 0, 0, 0) rfl (fun _ _ => rfl) (fun _ => rfl) (by kernel_rfl) (rowsIter kb4 m W H r n cap px Wn Hn hWn hHn hcap hok _) (⟨rfl, by rw [Nat.zero_mul]; exact SolI.nil _⟩) rfl ?_ ?_ ?_ ?_
  ·
    rintro l_ z7_ e7_ e7b_ e7q_ pre ⟨y, g, cx⟩ ⟨k, os, Ao, gw, ko, co⟩ B_ hinv8_ hsp_ hB_
    replace hinv8_ : k = pre.length ∧ SolI (difB W H px px') os (ptL W (k * Wn)) := hinv8_
    replace hsp_ : RowsP Hn (pre ++ [(y, g, cx)]) := hsp_
    refine cont_norm [(3, .pointer (some ⟨b1, 0, none⟩)), (6, .pointer (some ⟨b3, 0, none⟩)), (21, .int .i64 y), (22, .slice (some ⟨g, 0, none⟩) Wn cx)] [.gen (rowE (some ⟨g, 0, none⟩) g Wn cx 24 1 (ivals .u32 (rowL Wn px y)) true), z7_, e7_, e7q_, .ro kb4 [.pointer (some ⟨m, 0, none⟩)] 43, .ro m [.int .i64 W, .int .i64 H, .slice (some ⟨r, 0, none⟩) n cap] 118, .gen (rdE (some ⟨r, 0, none⟩) r 0 n 1 (ivals .u32 px)), .gen (rowE (Ao) gw ko co 53 4 (rvals os) true), .cells b3 [.slice Ao ko co] 58 true, .cells b1 [.pointer (some ⟨m', 0, none⟩)] 43 true, .ro m' [.int .i64 W, .int .i64 H, .slice (some ⟨r', 0, none⟩) n' cap'] 118, .gen (rdE (some ⟨r', 0, none⟩) r' 0 n' 1 (ivals .u32 px'))] (by kernel_rfl) rfl ?_
    refine mcont_seq ?_
    refine mcont_region 1 rfl (by kernel_rfl) ?_
    refine bS [0] 1 0 [(3, .pointer (some ⟨b1, 0, none⟩)), (6, .pointer (some ⟨b3, 0, none⟩)), (7, .int .i64 y), (22, .slice (some ⟨g, 0, none⟩) Wn cx)] ?_
    refine cont_done ?_
    refine then_normal ?_
    refine mcont_region 1 rfl (by kernel_rfl) ?_
    refine bS [0] 1 0 [(3, .pointer (some ⟨b1, 0, none⟩)), (6, .pointer (some ⟨b3, 0, none⟩)), (7, .int .i64 y), (8, .slice (some ⟨g, 0, none⟩) Wn cx)] ?_
    refine cont_done ?_
    refine then_normal ?_
    refine hB_ [(3, .pointer (some ⟨b1, 0, none⟩)), (6, .pointer (some ⟨b3, 0, none⟩)), (7, .int .i64 y), (8, .slice (some ⟨g, 0, none⟩) Wn cx)] [.gen (rowE (some ⟨g, 0, none⟩) g Wn cx 24 1 (ivals .u32 (rowL Wn px y)) true), z7_] [e7q_, .ro kb4 [.pointer (some ⟨m, 0, none⟩)] 43, .ro m [.int .i64 W, .int .i64 H, .slice (some ⟨r, 0, none⟩) n cap] 118, .gen (rdE (some ⟨r, 0, none⟩) r 0 n 1 (ivals .u32 px)), .gen (rowE (Ao) gw ko co 53 4 (rvals os) true), .cells b3 [.slice Ao ko co] 58 true, .cells b1 [.pointer (some ⟨m', 0, none⟩)] 43 true, .ro m' [.int .i64 W, .int .i64 H, .slice (some ⟨r', 0, none⟩) n' cap'] 118, .gen (rdE (some ⟨r', 0, none⟩) r' 0 n' 1 (ivals .u32 px'))] ?_
    refine cont_norm [(3, .pointer (some ⟨b1, 0, none⟩)), (6, .pointer (some ⟨b3, 0, none⟩)), (7, .int .i64 y), (8, .slice (some ⟨g, 0, none⟩) Wn cx)] [.gen (rowE (some ⟨g, 0, none⟩) g Wn cx 24 1 (ivals .u32 (rowL Wn px y)) true), z7_, e7b_, e7q_, .ro kb4 [.pointer (some ⟨m, 0, none⟩)] 43, .ro m [.int .i64 W, .int .i64 H, .slice (some ⟨r, 0, none⟩) n cap] 118, .gen (rdE (some ⟨r, 0, none⟩) r 0 n 1 (ivals .u32 px)), .gen (rowE (Ao) gw ko co 53 4 (rvals os) true), .cells b3 [.slice Ao ko co] 58 true, .cells b1 [.pointer (some ⟨m', 0, none⟩)] 43 true, .ro m' [.int .i64 W, .int .i64 H, .slice (some ⟨r', 0, none⟩) n' cap'] 118, .gen (rdE (some ⟨r', 0, none⟩) r' 0 n' 1 (ivals .u32 px'))] (by kernel_rfl) rfl ?_
    obtain ⟨hkp, hso⟩ := hinv8_
    obtain ⟨hyp, hlt_⟩ := hsp_.last
    simp only at hyp
    rw [← hkp] at hyp hlt_
    have hrll := rowL_len (k := k) hWn hnum hw1 hlen (by omega)
    rw [← hyp] at hrll
    have hmx := row_max (k := k) hWn hnum hw1 (by omega)
    have hmx2 : (k + 1) * Wn = k * Wn + Wn := by rw [Nat.add_mul, Nat.one_mul]
    refine mcont_block ?_
    refine mcont_seq ?_
    refine mcont_region 3 rfl (by kernel_rfl) ?_
    refine bS [0, 0, 0] 3 0 [(3, .pointer (some ⟨b1, 0, none⟩)), (6, .pointer (some ⟨b3, 0, none⟩)), (7, .int .i64 y), (23, .slice (some ⟨g, 0, none⟩) Wn cx), (24, .int .i64 (Wn : Int)), (25, .int .i64 0)] ?_
    refine cont_done ?_
    refine then_normal ?_
    refine mcont_block ?_
    refine mcont_loop (α := Nat × List Rect × Option Addr × Nat × Nat × Nat) (fun x_ : Nat × List Rect × Option Addr × Nat × Nat × Nat => x_.1 ≤ Wn ∧ SolI (difB W H px px') x_.2.1 (ptL W (k * Wn + x_.1))) (fun x_ : Nat × List Rect × Option Addr × Nat × Nat × Nat => [(3, .pointer (some ⟨b1, 0, none⟩)), (6, .pointer (some ⟨b3, 0, none⟩)), (7, .int .i64 y), (23, .slice (some ⟨g, 0, none⟩) Wn cx), (24, .int .i64 (Wn : Int)), (25, .int .i64 ((x_.1 : Nat) : Int))]) (fun x_ : Nat × List Rect × Option Addr × Nat × Nat × Nat => [.gen (rowE (some ⟨g, 0, none⟩) g Wn cx 24 1 (ivals .u32 (rowL Wn px y)) true), z7_, e7b_, e7q_, .ro kb4 [.pointer (some ⟨m, 0, none⟩)] 43, .ro m [.int .i64 W, .int .i64 H, .slice (some ⟨r, 0, none⟩) n cap] 118, .gen (rdE (some ⟨r, 0, none⟩) r 0 n 1 (ivals .u32 px)), .gen (rowE (x_.2.2.1) x_.2.2.2.1 x_.2.2.2.2.1 x_.2.2.2.2.2 53 4 (rvals x_.2.1) true), .cells b3 [.slice x_.2.2.1 x_.2.2.2.2.1 x_.2.2.2.2.2] 58 true, .cells b1 [.pointer (some ⟨m', 0, none⟩)] 43 true, .ro m' [.int .i64 W, .int .i64 H, .slice (some ⟨r', 0, none⟩) n' cap'] 118, .gen (rdE (some ⟨r', 0, none⟩) r' 0 n' 1 (ivals .u32 px'))]) (fun x_ : Nat × List Rect × Option Addr × Nat × Nat × Nat => Wn - x_.1) (0, os, Ao, gw, ko, co) (show (0) ≤ Wn ∧ SolI (difB W H px px') (os) (ptL W (k * Wn + (0))) from ⟨by omega, hso⟩) (by kernel_rfl) (by kernel_rfl) ?_
    rintro ⟨j, osj, Aj, gj, kj, cj⟩ hinv9_
    replace hinv9_ : j ≤ Wn ∧ SolI (difB W H px px') osj (ptL W (k * Wn + j)) := hinv9_
    refine cont_norm [(3, .pointer (some ⟨b1, 0, none⟩)), (6, .pointer (some ⟨b3, 0, none⟩)), (7, .int .i64 y), (23, .slice (some ⟨g, 0, none⟩) Wn cx), (24, .int .i64 (Wn : Int)), (25, .int .i64 ((j : Nat) : Int))] [.gen (rowE (some ⟨g, 0, none⟩) g Wn cx 24 1 (ivals .u32 (rowL Wn px y)) true), z7_, e7b_, e7q_, .ro kb4 [.pointer (some ⟨m, 0, none⟩)] 43, .ro m [.int .i64 W, .int .i64 H, .slice (some ⟨r, 0, none⟩) n cap] 118, .gen (rdE (some ⟨r, 0, none⟩) r 0 n 1 (ivals .u32 px)), .gen (rowE (Aj) gj kj cj 53 4 (rvals osj) true), .cells b3 [.slice Aj kj cj] 58 true, .cells b1 [.pointer (some ⟨m', 0, none⟩)] 43 true, .ro m' [.int .i64 W, .int .i64 H, .slice (some ⟨r', 0, none⟩) n' cap'] 118, .gen (rdE (some ⟨r', 0, none⟩) r' 0 n' 1 (ivals .u32 px'))] (by kernel_rfl) rfl ?_
    obtain ⟨hj, hsj⟩ := hinv9_
    have hsl := hsj.len
    have hpl_ : (ptL W (k * Wn + j)).length = k * Wn + j := by simp [ptL]
    refine mcont_seq ?_
    refine mcont_region 1 rfl (by kernel_rfl) ?_
    refine bS [0] 1 0 [(3, .pointer (some ⟨b1, 0, none⟩)), (6, .pointer (some ⟨b3, 0, none⟩)), (7, .int .i64 y), (23, .slice (some ⟨g, 0, none⟩) Wn cx), (24, .int .i64 (Wn : Int)), (25, .int .i64 ((j : Nat) : Int)), (26, .bool (decide (((j : Nat) : Int) < (Wn : Int))))] ?_
    refine cont_done ?_
    refine then_normal ?_
    refine mcont_seq ?_
    refine cont_split 26 (decide (((j : Nat) : Int) < (Wn : Int))) rfl (fun c10_ => ?_) (fun c10_ => ?_)
    ·
      replace c10_ := of_decide_eq_true c10_
      refine mcont_true rfl ?_
      refine mcont_skip ?_
      refine then_normal ?_
      refine mcont_seq ?_
      refine mcont_block ?_
      refine mcont_seq ?_
      refine mcont_region 5 rfl (by kernel_rfl) ?_
      refine cont_fact (F := (0 < kj → (Aj : Option Addr) = some ⟨gj, 0, none⟩) ∧ osj.length = kj ∧ kj ≤ cj ∧ cj ≤ maxLen) (fun w hT => Row.factsR (hT.ok 7 _ rfl)) (fun hr11_ => ?_)
      obtain ⟨hr11_a, hr11_l, hr11_c, hr11_m⟩ := hr11_
      unfold maxLen at hr11_m
      have hroa := hr11_a
      refine bS [0] 1 4 [(3, .pointer (some ⟨b1, 0, none⟩)), (6, .pointer (some ⟨b3, 0, none⟩)), (7, .int .i64 y), (23, .slice (some ⟨g, 0, none⟩) Wn cx), (24, .int .i64 (Wn : Int)), (25, .int .i64 ((j : Nat) : Int)), (27, .int .i64 ((j : Nat) : Int))] ?_
      refine pl_step 2 3 rfl rfl ?_
      refine sem_step 28 (Instr.indexAt 39 (.slice (some ⟨g, 0, none⟩) Wn cx) (.int .i64 ((j : Nat) : Int))) (.pointer (some ⟨g, (j : Nat), none⟩)) (by kernel_rfl) (fun w hT => run_indexAt (e := 24) (sz := 1) _ (by kernel_rfl) (by kernel_rfl) (by omega) (by omega) (by omega) w) ?_
      refine pl_step 3 2 rfl rfl ?_
      refine sem_step 29 (Instr.loadAt 24 (.pointer (some ⟨g, (j : Nat), none⟩))) (.int .u32 ((rowL Wn px y).getD (j : Nat) 0)) (by kernel_rfl) (fun w hT => run_load1 (by kernel_rfl) (Row.cell (hT.ok 0 _ rfl) ((j : Nat)) _ (ivals_get (by omega)))) ?_
      refine bS [0, 0] 5 0 [(3, .pointer (some ⟨b1, 0, none⟩)), (6, .pointer (some ⟨b3, 0, none⟩)), (7, .int .i64 y), (9, .int .i64 ((j : Nat) : Int)), (10, .int .u32 ((rowL Wn px y).getD (j : Nat) 0)), (23, .slice (some ⟨g, 0, none⟩) Wn cx), (24, .int .i64 (Wn : Int)), (25, .int .i64 ((j : Nat) : Int))] ?_
      refine cont_done ?_
      refine then_normal ?_
      refine mcont_seq ?_
      refine mcont_region 9 rfl (by kernel_rfl) ?_
      refine bS [9, 0, 0] 3 6 [(3, .pointer (some ⟨b1, 0, none⟩)), (6, .pointer (some ⟨b3, 0, none⟩)), (7, .int .i64 y), (9, .int .i64 ((j : Nat) : Int)), (10, .int .u32 ((rowL Wn px y).getD (j : Nat) 0)), (23, .slice (some ⟨g, 0, none⟩) Wn cx), (24, .int .i64 (Wn : Int)), (25, .int .i64 ((j : Nat) : Int)), (31, .pointer (some ⟨m', 0, none⟩)), (32, .int .i64 ((j : Nat) : Int)), (33, .int .i64 y)] ?_
      refine pl_step 4 5 rfl rfl ?_
      refine call_pure (d := 34) (.tuple #[.int .u32 (atC W H px' ((j : Nat) : Int) y), .bool (hasB 0 0 W H ((j : Nat) : Int) y)]) (by kernel_rfl) (fun w hT => imgAt m' W H r' n' cap' px' ((j : Nat) : Int) y w ⟨hT.ok 10 _ rfl, hT.ok 11 _ rfl, by omega⟩ hok') ?_
      refine bS [0, 0, 0, 0, 0] 9 0 [(3, .pointer (some ⟨b1, 0, none⟩)), (6, .pointer (some ⟨b3, 0, none⟩)), (7, .int .i64 y), (9, .int .i64 ((j : Nat) : Int)), (10, .int .u32 ((rowL Wn px y).getD (j : Nat) 0)), (11, .int .u32 (atC W H px' ((j : Nat) : Int) y)), (23, .slice (some ⟨g, 0, none⟩) Wn cx), (24, .int .i64 (Wn : Int)), (25, .int .i64 ((j : Nat) : Int))] ?_
      refine cont_done ?_
      refine then_normal ?_
      refine mcont_seq ?_
      refine mcont_region 4 rfl (by kernel_rfl) ?_
      refine bS [8, 0, 0] 3 1 [(3, .pointer (some ⟨b1, 0, none⟩)), (6, .pointer (some ⟨b3, 0, none⟩)), (7, .int .i64 y), (9, .int .i64 ((j : Nat) : Int)), (10, .int .u32 ((rowL Wn px y).getD (j : Nat) 0)), (11, .int .u32 (atC W H px' ((j : Nat) : Int) y)), (23, .slice (some ⟨g, 0, none⟩) Wn cx), (24, .int .i64 (Wn : Int)), (25, .int .i64 ((j : Nat) : Int)), (39, .int .i64 (IntKind.i64.wrap ((kj : Int) - 1)))] ?_
      refine cont_recast 39 (.int .i64 (IntKind.i64.wrap ((kj : Int) - 1))) (.int .i64 ((kj : Int) - 1)) rfl (wrapI (by omega) (by omega)) ?_
      refine bS [0] 4 0 [(3, .pointer (some ⟨b1, 0, none⟩)), (6, .pointer (some ⟨b3, 0, none⟩)), (7, .int .i64 y), (9, .int .i64 ((j : Nat) : Int)), (10, .int .u32 ((rowL Wn px y).getD (j : Nat) 0)), (11, .int .u32 (atC W H px' ((j : Nat) : Int) y)), (13, .int .i64 ((kj : Int) - 1)), (23, .slice (some ⟨g, 0, none⟩) Wn cx), (24, .int .i64 (Wn : Int)), (25, .int .i64 ((j : Nat) : Int))] ?_
      refine cont_done ?_
      refine then_normal ?_
      refine mcont_block ?_
      refine mcont_seq ?_
      refine mcont_region 4 rfl (by kernel_rfl) ?_
      refine bS [0, 0, 0, 0] 4 0 [(3, .pointer (some ⟨b1, 0, none⟩)), (6, .pointer (some ⟨b3, 0, none⟩)), (7, .int .i64 y), (9, .int .i64 ((j : Nat) : Int)), (13, .int .i64 ((kj : Int) - 1)), (23, .slice (some ⟨g, 0, none⟩) Wn cx), (24, .int .i64 (Wn : Int)), (25, .int .i64 ((j : Nat) : Int)), (50, .bool (((rowL Wn px y).getD (j : Nat) 0) == (atC W H px' ((j : Nat) : Int) y)))] ?_
      refine cont_done ?_
      refine then_normal ?_
      refine cont_split 50 (((rowL Wn px y).getD (j : Nat) 0) == (atC W H px' ((j : Nat) : Int) y)) rfl (fun c12_ => ?_) (fun c12_ => ?_)
      ·
        replace c12_ := eq_of_beqt c12_
        have hsk : difB W H px px' ((j : Nat) : Int) y = false := by unfold difB; rw [hyp, ← row_atC hWn hok (by omega) (by omega), ← hyp]; simpa using c12_
        refine mcont_true rfl ?_
        refine mcont_skip ?_
        refine blk_normal ?_
        refine blk_normal ?_
        refine then_normal ?_
        refine mcont_region 2 rfl (by kernel_rfl) ?_
        refine bS [0] 1 1 [(3, .pointer (some ⟨b1, 0, none⟩)), (6, .pointer (some ⟨b3, 0, none⟩)), (7, .int .i64 y), (23, .slice (some ⟨g, 0, none⟩) Wn cx), (24, .int .i64 (Wn : Int)), (83, .int .i64 (IntKind.i64.wrap (((j : Nat) : Int) + 1)))] ?_
        refine cont_recast 83 (.int .i64 (IntKind.i64.wrap (((j : Nat) : Int) + 1))) (.int .i64 (((j : Nat) : Int) + 1)) rfl (wrapI (by omega) (by omega)) ?_
        refine bS [0] 2 0 [(3, .pointer (some ⟨b1, 0, none⟩)), (6, .pointer (some ⟨b3, 0, none⟩)), (7, .int .i64 y), (23, .slice (some ⟨g, 0, none⟩) Wn cx), (24, .int .i64 (Wn : Int)), (25, .int .i64 (((j : Nat) : Int) + 1))] ?_
        refine cont_done ?_
        refine then_normal ?_
        refine cont_again (j + 1, osj, Aj, gj, kj, cj) (show (j + 1) ≤ Wn ∧ SolI (difB W H px px') (osj) (ptL W (k * Wn + (j + 1))) from ⟨by omega, by rw [← ptL_step hWn (by omega), ← hyp]; exact hsj.skip hsk⟩) (show Wn - (j + 1) < Wn - j from by omega) (by kernel_rfl) (by kernel_rfl)
      replace c12_ := ne_of_beqf c12_
      have hsk : difB W H px px' ((j : Nat) : Int) y = true := by unfold difB; rw [hyp, ← row_atC hWn hok (by omega) (by omega), ← hyp]; simpa using c12_
      refine mcont_false rfl ?_
      refine mcont_seq ?_
      refine mcont_region 21 rfl (by kernel_rfl) ?_
      refine bS [0, 0, 0] 3 18 [(3, .pointer (some ⟨b1, 0, none⟩)), (6, .pointer (some ⟨b3, 0, none⟩)), (7, .int .i64 y), (9, .int .i64 ((j : Nat) : Int)), (13, .int .i64 ((kj : Int) - 1)), (23, .slice (some ⟨g, 0, none⟩) Wn cx), (24, .int .i64 (Wn : Int)), (25, .int .i64 ((j : Nat) : Int)), (57, .bool (decide (((kj : Int) - 1) ≥ 0)))] ?_
      refine cont_split 57 (decide (((kj : Int) - 1) ≥ 0)) rfl (fun c13_ => ?_) (fun c13_ => ?_)
      ·
        replace c13_ := of_decide_eq_true c13_
        refine bS [8, 0] 5 16 [(3, .pointer (some ⟨b1, 0, none⟩)), (6, .pointer (some ⟨b3, 0, none⟩)), (7, .int .i64 y), (9, .int .i64 ((j : Nat) : Int)), (13, .int .i64 ((kj : Int) - 1)), (23, .slice (some ⟨g, 0, none⟩) Wn cx), (24, .int .i64 (Wn : Int)), (25, .int .i64 ((j : Nat) : Int)), (57, .bool true), (58, .slice Aj kj cj), (59, .int .i64 ((kj : Int) - 1))] ?_
        refine pl_step 6 15 rfl rfl ?_
        refine cont_recast 58 (.slice Aj kj cj) (.slice (some ⟨gj, 0, none⟩) kj cj) rfl (by rw [hroa (by omega)]) ?_
        refine sem_step 60 (Instr.indexAt 58 (.slice (some ⟨gj, 0, none⟩) kj cj) (.int .i64 ((kj : Int) - 1))) (.pointer (some ⟨gj, (Int.toNat ((kj : Int) - 1)) * 4, none⟩)) (by kernel_rfl) (fun w hT => run_indexAt (e := 53) (sz := 4) _ (by kernel_rfl) (by kernel_rfl) (by omega) (by omega) (by omega) w) ?_
        refine bS [0] 7 14 [(3, .pointer (some ⟨b1, 0, none⟩)), (6, .pointer (some ⟨b3, 0, none⟩)), (7, .int .i64 y), (9, .int .i64 ((j : Nat) : Int)), (13, .int .i64 ((kj : Int) - 1)), (23, .slice (some ⟨g, 0, none⟩) Wn cx), (24, .int .i64 (Wn : Int)), (25, .int .i64 ((j : Nat) : Int)), (57, .bool true), (58, .slice (some ⟨gj, 0, none⟩) kj cj), (59, .int .i64 ((kj : Int) - 1)), (60, .pointer (some ⟨gj, (Int.toNat ((kj : Int) - 1)) * 4, none⟩)), (61, .pointer (some ⟨gj, (Int.toNat ((kj : Int) - 1)) * 4 + 1, none⟩))] ?_
        refine pl_step 8 13 rfl rfl ?_
        refine sem_step 62 (Instr.loadAt 3 (.pointer (some ⟨gj, (Int.toNat ((kj : Int) - 1)) * 4 + 1, none⟩))) (.int .i64 ((rget osj (Int.toNat ((kj : Int) - 1))).y0)) (by kernel_rfl) (fun w hT => run_load1 (by kernel_rfl) (Rd.cellF0 (Row.rd (hT.ok 7 _ rfl)) (Int.toNat ((kj : Int) - 1)) 1 _ (by omega) rfl)) ?_
        refine bS [0, 0, 0, 0] 12 9 [(3, .pointer (some ⟨b1, 0, none⟩)), (6, .pointer (some ⟨b3, 0, none⟩)), (7, .int .i64 y), (9, .int .i64 ((j : Nat) : Int)), (13, .int .i64 ((kj : Int) - 1)), (23, .slice (some ⟨g, 0, none⟩) Wn cx), (24, .int .i64 (Wn : Int)), (25, .int .i64 ((j : Nat) : Int)), (58, .slice (some ⟨gj, 0, none⟩) kj cj), (59, .int .i64 ((kj : Int) - 1)), (60, .pointer (some ⟨gj, (Int.toNat ((kj : Int) - 1)) * 4, none⟩)), (61, .pointer (some ⟨gj, (Int.toNat ((kj : Int) - 1)) * 4 + 1, none⟩)), (62, .int .i64 ((rget osj (Int.toNat ((kj : Int) - 1))).y0)), (63, .int .i64 y), (64, .bool (((rget osj (Int.toNat ((kj : Int) - 1))).y0) == y)), (66, .bool (((rget osj (Int.toNat ((kj : Int) - 1))).y0) == y))] ?_
        refine cont_split 66 (((rget osj (Int.toNat ((kj : Int) - 1))).y0) == y) rfl (fun c14_ => ?_) (fun c14_ => ?_)
        ·
          refine cont_recast 64 (.bool (((rget osj (Int.toNat ((kj : Int) - 1))).y0) == y)) (.bool true) rfl (congrArg Value.bool c14_) ?_
          replace c14_ := eq_of_beqt c14_
          refine bS [8, 0] 14 7 [(3, .pointer (some ⟨b1, 0, none⟩)), (6, .pointer (some ⟨b3, 0, none⟩)), (7, .int .i64 y), (9, .int .i64 ((j : Nat) : Int)), (13, .int .i64 ((kj : Int) - 1)), (23, .slice (some ⟨g, 0, none⟩) Wn cx), (24, .int .i64 (Wn : Int)), (25, .int .i64 ((j : Nat) : Int)), (58, .slice (some ⟨gj, 0, none⟩) kj cj), (59, .int .i64 ((kj : Int) - 1)), (60, .pointer (some ⟨gj, (Int.toNat ((kj : Int) - 1)) * 4, none⟩)), (61, .pointer (some ⟨gj, (Int.toNat ((kj : Int) - 1)) * 4 + 1, none⟩)), (62, .int .i64 ((rget osj (Int.toNat ((kj : Int) - 1))).y0)), (63, .int .i64 y), (64, .bool true), (66, .bool true), (67, .slice Aj kj cj), (68, .int .i64 ((kj : Int) - 1))] ?_
          refine pl_step 15 6 rfl rfl ?_
          refine cont_recast 67 (.slice Aj kj cj) (.slice (some ⟨gj, 0, none⟩) kj cj) rfl (by rw [hroa (by omega)]) ?_
          refine sem_step 69 (Instr.indexAt 58 (.slice (some ⟨gj, 0, none⟩) kj cj) (.int .i64 ((kj : Int) - 1))) (.pointer (some ⟨gj, (Int.toNat ((kj : Int) - 1)) * 4, none⟩)) (by kernel_rfl) (fun w hT => run_indexAt (e := 53) (sz := 4) _ (by kernel_rfl) (by kernel_rfl) (by omega) (by omega) (by omega) w) ?_
          refine bS [0] 16 5 [(3, .pointer (some ⟨b1, 0, none⟩)), (6, .pointer (some ⟨b3, 0, none⟩)), (7, .int .i64 y), (9, .int .i64 ((j : Nat) : Int)), (13, .int .i64 ((kj : Int) - 1)), (23, .slice (some ⟨g, 0, none⟩) Wn cx), (24, .int .i64 (Wn : Int)), (25, .int .i64 ((j : Nat) : Int)), (58, .slice (some ⟨gj, 0, none⟩) kj cj), (59, .int .i64 ((kj : Int) - 1)), (60, .pointer (some ⟨gj, (Int.toNat ((kj : Int) - 1)) * 4, none⟩)), (61, .pointer (some ⟨gj, (Int.toNat ((kj : Int) - 1)) * 4 + 1, none⟩)), (62, .int .i64 ((rget osj (Int.toNat ((kj : Int) - 1))).y0)), (63, .int .i64 y), (64, .bool true), (66, .bool true), (67, .slice (some ⟨gj, 0, none⟩) kj cj), (68, .int .i64 ((kj : Int) - 1)), (69, .pointer (some ⟨gj, (Int.toNat ((kj : Int) - 1)) * 4, none⟩)), (70, .pointer (some ⟨gj, (Int.toNat ((kj : Int) - 1)) * 4 + 2, none⟩))] ?_
          refine pl_step 17 4 rfl rfl ?_
          refine sem_step 71 (Instr.loadAt 3 (.pointer (some ⟨gj, (Int.toNat ((kj : Int) - 1)) * 4 + 2, none⟩))) (.int .i64 ((rget osj (Int.toNat ((kj : Int) - 1))).x1)) (by kernel_rfl) (fun w hT => run_load1 (by kernel_rfl) (Rd.cellF0 (Row.rd (hT.ok 7 _ rfl)) (Int.toNat ((kj : Int) - 1)) 2 _ (by omega) rfl)) ?_
          refine bS [0, 0, 0, 0] 21 0 [(3, .pointer (some ⟨b1, 0, none⟩)), (6, .pointer (some ⟨b3, 0, none⟩)), (7, .int .i64 y), (9, .int .i64 ((j : Nat) : Int)), (13, .int .i64 ((kj : Int) - 1)), (23, .slice (some ⟨g, 0, none⟩) Wn cx), (24, .int .i64 (Wn : Int)), (25, .int .i64 ((j : Nat) : Int)), (54, .bool (((rget osj (Int.toNat ((kj : Int) - 1))).x1) == ((j : Nat) : Int))), (58, .slice (some ⟨gj, 0, none⟩) kj cj), (59, .int .i64 ((kj : Int) - 1)), (60, .pointer (some ⟨gj, (Int.toNat ((kj : Int) - 1)) * 4, none⟩)), (61, .pointer (some ⟨gj, (Int.toNat ((kj : Int) - 1)) * 4 + 1, none⟩)), (62, .int .i64 ((rget osj (Int.toNat ((kj : Int) - 1))).y0)), (63, .int .i64 y), (64, .bool true), (67, .slice (some ⟨gj, 0, none⟩) kj cj), (68, .int .i64 ((kj : Int) - 1)), (69, .pointer (some ⟨gj, (Int.toNat ((kj : Int) - 1)) * 4, none⟩)), (70, .pointer (some ⟨gj, (Int.toNat ((kj : Int) - 1)) * 4 + 2, none⟩)), (71, .int .i64 ((rget osj (Int.toNat ((kj : Int) - 1))).x1)), (72, .int .i64 ((j : Nat) : Int)), (73, .bool (((rget osj (Int.toNat ((kj : Int) - 1))).x1) == ((j : Nat) : Int)))] ?_
          refine cont_done ?_
          refine then_normal ?_
          refine cont_split 54 (((rget osj (Int.toNat ((kj : Int) - 1))).x1) == ((j : Nat) : Int)) rfl (fun c15_ => ?_) (fun c15_ => ?_)
          ·
            refine cont_recast 73 (.bool (((rget osj (Int.toNat ((kj : Int) - 1))).x1) == ((j : Nat) : Int))) (.bool true) rfl (congrArg Value.bool c15_) ?_
            replace c15_ := eq_of_beqt c15_
            refine mcont_true rfl ?_
            refine mcont_region 9 rfl (by kernel_rfl) ?_
            refine bS [8, 0] 2 7 [(3, .pointer (some ⟨b1, 0, none⟩)), (6, .pointer (some ⟨b3, 0, none⟩)), (7, .int .i64 y), (23, .slice (some ⟨g, 0, none⟩) Wn cx), (24, .int .i64 (Wn : Int)), (25, .int .i64 ((j : Nat) : Int)), (58, .slice (some ⟨gj, 0, none⟩) kj cj), (59, .int .i64 ((kj : Int) - 1)), (60, .pointer (some ⟨gj, (Int.toNat ((kj : Int) - 1)) * 4, none⟩)), (61, .pointer (some ⟨gj, (Int.toNat ((kj : Int) - 1)) * 4 + 1, none⟩)), (62, .int .i64 ((rget osj (Int.toNat ((kj : Int) - 1))).y0)), (63, .int .i64 y), (64, .bool true), (67, .slice (some ⟨gj, 0, none⟩) kj cj), (68, .int .i64 ((kj : Int) - 1)), (69, .pointer (some ⟨gj, (Int.toNat ((kj : Int) - 1)) * 4, none⟩)), (70, .pointer (some ⟨gj, (Int.toNat ((kj : Int) - 1)) * 4 + 2, none⟩)), (71, .int .i64 ((rget osj (Int.toNat ((kj : Int) - 1))).x1)), (72, .int .i64 ((j : Nat) : Int)), (73, .bool true), (75, .slice Aj kj cj), (76, .int .i64 ((kj : Int) - 1))] ?_
            refine pl_step 3 6 rfl rfl ?_
            refine cont_recast 75 (.slice Aj kj cj) (.slice (some ⟨gj, 0, none⟩) kj cj) rfl (by rw [hroa (by omega)]) ?_
            refine sem_step 77 (Instr.indexAt 58 (.slice (some ⟨gj, 0, none⟩) kj cj) (.int .i64 ((kj : Int) - 1))) (.pointer (some ⟨gj, (Int.toNat ((kj : Int) - 1)) * 4, none⟩)) (by kernel_rfl) (fun w hT => run_indexAt (e := 53) (sz := 4) _ (by kernel_rfl) (by kernel_rfl) (by omega) (by omega) (by omega) w) ?_
            refine bS [0] 4 5 [(3, .pointer (some ⟨b1, 0, none⟩)), (6, .pointer (some ⟨b3, 0, none⟩)), (7, .int .i64 y), (23, .slice (some ⟨g, 0, none⟩) Wn cx), (24, .int .i64 (Wn : Int)), (25, .int .i64 ((j : Nat) : Int)), (58, .slice (some ⟨gj, 0, none⟩) kj cj), (59, .int .i64 ((kj : Int) - 1)), (60, .pointer (some ⟨gj, (Int.toNat ((kj : Int) - 1)) * 4, none⟩)), (61, .pointer (some ⟨gj, (Int.toNat ((kj : Int) - 1)) * 4 + 1, none⟩)), (62, .int .i64 ((rget osj (Int.toNat ((kj : Int) - 1))).y0)), (63, .int .i64 y), (64, .bool true), (67, .slice (some ⟨gj, 0, none⟩) kj cj), (68, .int .i64 ((kj : Int) - 1)), (69, .pointer (some ⟨gj, (Int.toNat ((kj : Int) - 1)) * 4, none⟩)), (70, .pointer (some ⟨gj, (Int.toNat ((kj : Int) - 1)) * 4 + 2, none⟩)), (71, .int .i64 ((rget osj (Int.toNat ((kj : Int) - 1))).x1)), (72, .int .i64 ((j : Nat) : Int)), (73, .bool true), (75, .slice (some ⟨gj, 0, none⟩) kj cj), (76, .int .i64 ((kj : Int) - 1)), (78, .pointer (some ⟨gj, (Int.toNat ((kj : Int) - 1)) * 4 + 2, none⟩))] ?_
            refine pl_step 5 4 rfl rfl ?_
            refine sem_step 79 (Instr.loadAt 3 (.pointer (some ⟨gj, (Int.toNat ((kj : Int) - 1)) * 4 + 2, none⟩))) (.int .i64 ((rget osj (Int.toNat ((kj : Int) - 1))).x1)) (by kernel_rfl) (fun w hT => run_load1 (by kernel_rfl) (Rd.cellF0 (Row.rd (hT.ok 7 _ rfl)) (Int.toNat ((kj : Int) - 1)) 2 _ (by omega) rfl)) ?_
            refine bS [0] 6 3 [(3, .pointer (some ⟨b1, 0, none⟩)), (6, .pointer (some ⟨b3, 0, none⟩)), (7, .int .i64 y), (23, .slice (some ⟨g, 0, none⟩) Wn cx), (24, .int .i64 (Wn : Int)), (25, .int .i64 ((j : Nat) : Int)), (58, .slice (some ⟨gj, 0, none⟩) kj cj), (59, .int .i64 ((kj : Int) - 1)), (60, .pointer (some ⟨gj, (Int.toNat ((kj : Int) - 1)) * 4, none⟩)), (61, .pointer (some ⟨gj, (Int.toNat ((kj : Int) - 1)) * 4 + 1, none⟩)), (62, .int .i64 ((rget osj (Int.toNat ((kj : Int) - 1))).y0)), (63, .int .i64 y), (64, .bool true), (67, .slice (some ⟨gj, 0, none⟩) kj cj), (68, .int .i64 ((kj : Int) - 1)), (69, .pointer (some ⟨gj, (Int.toNat ((kj : Int) - 1)) * 4, none⟩)), (70, .pointer (some ⟨gj, (Int.toNat ((kj : Int) - 1)) * 4 + 2, none⟩)), (71, .int .i64 ((rget osj (Int.toNat ((kj : Int) - 1))).x1)), (72, .int .i64 ((j : Nat) : Int)), (73, .bool true), (75, .slice (some ⟨gj, 0, none⟩) kj cj), (76, .int .i64 ((kj : Int) - 1)), (80, .int .i64 (IntKind.i64.wrap (((rget osj (Int.toNat ((kj : Int) - 1))).x1) + 1)))] ?_
            refine cont_recast 80 (.int .i64 (IntKind.i64.wrap (((rget osj (Int.toNat ((kj : Int) - 1))).x1) + 1))) (.int .i64 (((rget osj (Int.toNat ((kj : Int) - 1))).x1) + 1)) rfl (wrapI (by omega) (by omega)) ?_
            refine pl_step 7 2 rfl rfl ?_
            refine sem_step 81 (Instr.indexAt 58 (.slice (some ⟨gj, 0, none⟩) kj cj) (.int .i64 ((kj : Int) - 1))) (.pointer (some ⟨gj, (Int.toNat ((kj : Int) - 1)) * 4, none⟩)) (by kernel_rfl) (fun w hT => run_indexAt (e := 53) (sz := 4) _ (by kernel_rfl) (by kernel_rfl) (by omega) (by omega) (by omega) w) ?_
            refine bS [0] 8 1 [(3, .pointer (some ⟨b1, 0, none⟩)), (6, .pointer (some ⟨b3, 0, none⟩)), (7, .int .i64 y), (23, .slice (some ⟨g, 0, none⟩) Wn cx), (24, .int .i64 (Wn : Int)), (25, .int .i64 ((j : Nat) : Int)), (58, .slice (some ⟨gj, 0, none⟩) kj cj), (59, .int .i64 ((kj : Int) - 1)), (60, .pointer (some ⟨gj, (Int.toNat ((kj : Int) - 1)) * 4, none⟩)), (61, .pointer (some ⟨gj, (Int.toNat ((kj : Int) - 1)) * 4 + 1, none⟩)), (62, .int .i64 ((rget osj (Int.toNat ((kj : Int) - 1))).y0)), (63, .int .i64 y), (64, .bool true), (67, .slice (some ⟨gj, 0, none⟩) kj cj), (68, .int .i64 ((kj : Int) - 1)), (69, .pointer (some ⟨gj, (Int.toNat ((kj : Int) - 1)) * 4, none⟩)), (70, .pointer (some ⟨gj, (Int.toNat ((kj : Int) - 1)) * 4 + 2, none⟩)), (71, .int .i64 ((rget osj (Int.toNat ((kj : Int) - 1))).x1)), (72, .int .i64 ((j : Nat) : Int)), (73, .bool true), (80, .int .i64 (((rget osj (Int.toNat ((kj : Int) - 1))).x1) + 1)), (82, .pointer (some ⟨gj, (Int.toNat ((kj : Int) - 1)) * 4 + 2, none⟩))] ?_
            refine pl_step 9 0 rfl rfl ?_
            refine sem_stepU (Instr.storeAt 3 (.pointer (some ⟨gj, (Int.toNat ((kj : Int) - 1)) * 4 + 2, none⟩)) (.int .i64 (((rget osj (Int.toNat ((kj : Int) - 1))).x1) + 1))) (fun _ => [.gen (rowE (some ⟨g, 0, none⟩) g Wn cx 24 1 (ivals .u32 (rowL Wn px y)) true), z7_, e7b_, e7q_, .ro kb4 [.pointer (some ⟨m, 0, none⟩)] 43, .ro m [.int .i64 W, .int .i64 H, .slice (some ⟨r, 0, none⟩) n cap] 118, .gen (rdE (some ⟨r, 0, none⟩) r 0 n 1 (ivals .u32 px)), .gen (rowE (Aj) gj kj cj 53 4 (rvals (osj.set (Int.toNat ((kj : Int) - 1)) { rget osj (Int.toNat ((kj : Int) - 1)) with x1 := ((rget osj (Int.toNat ((kj : Int) - 1))).x1) + 1 })) true), .cells b3 [.slice Aj kj cj] 58 true, .cells b1 [.pointer (some ⟨m', 0, none⟩)] 43 true, .ro m' [.int .i64 W, .int .i64 H, .slice (some ⟨r', 0, none⟩) n' cap'] 118, .gen (rdE (some ⟨r', 0, none⟩) r' 0 n' 1 (ivals .u32 px'))]) (fun _ => True) (by kernel_rfl) (fun w hT => store_fieldR hT (i := 7) (J := Int.toNat ((kj : Int) - 1)) (k := 2) { rget osj (Int.toNat ((kj : Int) - 1)) with x1 := ((rget osj (Int.toNat ((kj : Int) - 1))).x1) + 1 } rfl (by kernel_rfl) (by omega) (by decide) (by omega) rfl) (fun _ _ => ?_)
            refine cont_done ?_
            refine blk_normal ?_
            refine blk_normal ?_
            refine then_normal ?_
            refine mcont_region 2 rfl (by kernel_rfl) ?_
            refine bS [0] 1 1 [(3, .pointer (some ⟨b1, 0, none⟩)), (6, .pointer (some ⟨b3, 0, none⟩)), (7, .int .i64 y), (23, .slice (some ⟨g, 0, none⟩) Wn cx), (24, .int .i64 (Wn : Int)), (58, .slice (some ⟨gj, 0, none⟩) kj cj), (59, .int .i64 ((kj : Int) - 1)), (60, .pointer (some ⟨gj, (Int.toNat ((kj : Int) - 1)) * 4, none⟩)), (61, .pointer (some ⟨gj, (Int.toNat ((kj : Int) - 1)) * 4 + 1, none⟩)), (62, .int .i64 ((rget osj (Int.toNat ((kj : Int) - 1))).y0)), (63, .int .i64 y), (64, .bool true), (67, .slice (some ⟨gj, 0, none⟩) kj cj), (68, .int .i64 ((kj : Int) - 1)), (69, .pointer (some ⟨gj, (Int.toNat ((kj : Int) - 1)) * 4, none⟩)), (70, .pointer (some ⟨gj, (Int.toNat ((kj : Int) - 1)) * 4 + 2, none⟩)), (71, .int .i64 ((rget osj (Int.toNat ((kj : Int) - 1))).x1)), (72, .int .i64 ((j : Nat) : Int)), (73, .bool true), (83, .int .i64 (IntKind.i64.wrap (((j : Nat) : Int) + 1)))] ?_
            refine cont_recast 83 (.int .i64 (IntKind.i64.wrap (((j : Nat) : Int) + 1))) (.int .i64 (((j : Nat) : Int) + 1)) rfl (wrapI (by omega) (by omega)) ?_
            refine bS [0] 2 0 [(3, .pointer (some ⟨b1, 0, none⟩)), (6, .pointer (some ⟨b3, 0, none⟩)), (7, .int .i64 y), (23, .slice (some ⟨g, 0, none⟩) Wn cx), (24, .int .i64 (Wn : Int)), (25, .int .i64 (((j : Nat) : Int) + 1)), (58, .slice (some ⟨gj, 0, none⟩) kj cj), (59, .int .i64 ((kj : Int) - 1)), (60, .pointer (some ⟨gj, (Int.toNat ((kj : Int) - 1)) * 4, none⟩)), (61, .pointer (some ⟨gj, (Int.toNat ((kj : Int) - 1)) * 4 + 1, none⟩)), (62, .int .i64 ((rget osj (Int.toNat ((kj : Int) - 1))).y0)), (63, .int .i64 y), (64, .bool true), (67, .slice (some ⟨gj, 0, none⟩) kj cj), (68, .int .i64 ((kj : Int) - 1)), (69, .pointer (some ⟨gj, (Int.toNat ((kj : Int) - 1)) * 4, none⟩)), (70, .pointer (some ⟨gj, (Int.toNat ((kj : Int) - 1)) * 4 + 2, none⟩)), (71, .int .i64 ((rget osj (Int.toNat ((kj : Int) - 1))).x1)), (72, .int .i64 ((j : Nat) : Int)), (73, .bool true)] ?_
            refine cont_done ?_
            refine then_normal ?_
            refine cont_again (j + 1, osj.set (Int.toNat ((kj : Int) - 1)) { rget osj (Int.toNat ((kj : Int) - 1)) with x1 := ((rget osj (Int.toNat ((kj : Int) - 1))).x1) + 1 }, Aj, gj, kj, cj) (show (j + 1) ≤ Wn ∧ SolI (difB W H px px') (osj.set (Int.toNat ((kj : Int) - 1)) { rget osj (Int.toNat ((kj : Int) - 1)) with x1 := ((rget osj (Int.toNat ((kj : Int) - 1))).x1) + 1 }) (ptL W (k * Wn + (j + 1))) from ⟨by omega, by rw [← ptL_step hWn (by omega), ← hyp]; exact hsj.ext (by omega) (by omega) (by omega) hsk ⟨by omega, by omega⟩ ⟨by omega, by omega⟩⟩) (show Wn - (j + 1) < Wn - j from by omega) (by kernel_rfl) (by kernel_rfl)
          refine cont_recast 73 (.bool (((rget osj (Int.toNat ((kj : Int) - 1))).x1) == ((j : Nat) : Int))) (.bool false) rfl (congrArg Value.bool c15_) ?_
          replace c15_ := ne_of_beqf c15_
          refine mcont_false rfl ?_
          refine mcont_region 11 rfl (by kernel_rfl) ?_
          refine bS [8, 0, 0, 0, 0] 5 6 [(3, .pointer (some ⟨b1, 0, none⟩)), (6, .pointer (some ⟨b3, 0, none⟩)), (7, .int .i64 y), (23, .slice (some ⟨g, 0, none⟩) Wn cx), (24, .int .i64 (Wn : Int)), (25, .int .i64 ((j : Nat) : Int)), (40, .slice Aj kj cj), (41, .int .i64 ((j : Nat) : Int)), (42, .int .i64 y), (44, .int .i64 (IntKind.i64.wrap (((j : Nat) : Int) + 1))), (58, .slice (some ⟨gj, 0, none⟩) kj cj), (59, .int .i64 ((kj : Int) - 1)), (60, .pointer (some ⟨gj, (Int.toNat ((kj : Int) - 1)) * 4, none⟩)), (61, .pointer (some ⟨gj, (Int.toNat ((kj : Int) - 1)) * 4 + 1, none⟩)), (62, .int .i64 ((rget osj (Int.toNat ((kj : Int) - 1))).y0)), (63, .int .i64 y), (64, .bool true), (67, .slice (some ⟨gj, 0, none⟩) kj cj), (68, .int .i64 ((kj : Int) - 1)), (69, .pointer (some ⟨gj, (Int.toNat ((kj : Int) - 1)) * 4, none⟩)), (70, .pointer (some ⟨gj, (Int.toNat ((kj : Int) - 1)) * 4 + 2, none⟩)), (71, .int .i64 ((rget osj (Int.toNat ((kj : Int) - 1))).x1)), (72, .int .i64 ((j : Nat) : Int)), (73, .bool false)] ?_
          refine cont_recast 44 (.int .i64 (IntKind.i64.wrap (((j : Nat) : Int) + 1))) (.int .i64 (((j : Nat) : Int) + 1)) rfl (wrapI (by omega) (by omega)) ?_
          refine bS [0, 0] 7 4 [(3, .pointer (some ⟨b1, 0, none⟩)), (6, .pointer (some ⟨b3, 0, none⟩)), (7, .int .i64 y), (23, .slice (some ⟨g, 0, none⟩) Wn cx), (24, .int .i64 (Wn : Int)), (25, .int .i64 ((j : Nat) : Int)), (40, .slice Aj kj cj), (41, .int .i64 ((j : Nat) : Int)), (42, .int .i64 y), (44, .int .i64 (((j : Nat) : Int) + 1)), (46, .int .i64 (IntKind.i64.wrap (y + 1))), (58, .slice (some ⟨gj, 0, none⟩) kj cj), (59, .int .i64 ((kj : Int) - 1)), (60, .pointer (some ⟨gj, (Int.toNat ((kj : Int) - 1)) * 4, none⟩)), (61, .pointer (some ⟨gj, (Int.toNat ((kj : Int) - 1)) * 4 + 1, none⟩)), (62, .int .i64 ((rget osj (Int.toNat ((kj : Int) - 1))).y0)), (63, .int .i64 y), (64, .bool true), (67, .slice (some ⟨gj, 0, none⟩) kj cj), (68, .int .i64 ((kj : Int) - 1)), (69, .pointer (some ⟨gj, (Int.toNat ((kj : Int) - 1)) * 4, none⟩)), (70, .pointer (some ⟨gj, (Int.toNat ((kj : Int) - 1)) * 4 + 2, none⟩)), (71, .int .i64 ((rget osj (Int.toNat ((kj : Int) - 1))).x1)), (72, .int .i64 ((j : Nat) : Int)), (73, .bool false)] ?_
          refine cont_recast 46 (.int .i64 (IntKind.i64.wrap (y + 1))) (.int .i64 (y + 1)) rfl (wrapI (by omega) (by omega)) ?_
          refine batch1 [0, 0] 9 2 (fun b16 => [(3, .pointer (some ⟨b1, 0, none⟩)), (6, .pointer (some ⟨b3, 0, none⟩)), (7, .int .i64 y), (23, .slice (some ⟨g, 0, none⟩) Wn cx), (24, .int .i64 (Wn : Int)), (25, .int .i64 ((j : Nat) : Int)), (40, .slice Aj kj cj), (48, .slice (some ⟨b16, 0, none⟩) 1 1), (58, .slice (some ⟨gj, 0, none⟩) kj cj), (59, .int .i64 ((kj : Int) - 1)), (60, .pointer (some ⟨gj, (Int.toNat ((kj : Int) - 1)) * 4, none⟩)), (61, .pointer (some ⟨gj, (Int.toNat ((kj : Int) - 1)) * 4 + 1, none⟩)), (62, .int .i64 ((rget osj (Int.toNat ((kj : Int) - 1))).y0)), (63, .int .i64 y), (64, .bool true), (67, .slice (some ⟨gj, 0, none⟩) kj cj), (68, .int .i64 ((kj : Int) - 1)), (69, .pointer (some ⟨gj, (Int.toNat ((kj : Int) - 1)) * 4, none⟩)), (70, .pointer (some ⟨gj, (Int.toNat ((kj : Int) - 1)) * 4 + 2, none⟩)), (71, .int .i64 ((rget osj (Int.toNat ((kj : Int) - 1))).x1)), (72, .int .i64 ((j : Nat) : Int)), (73, .bool false)]) (fun b16 => [.cells b16 [.int .i64 ((j : Nat) : Int), .int .i64 y, .int .i64 (((j : Nat) : Int) + 1), .int .i64 (y + 1)] 53 true, .gen (rowE (some ⟨g, 0, none⟩) g Wn cx 24 1 (ivals .u32 (rowL Wn px y)) true), z7_, e7b_, e7q_, .ro kb4 [.pointer (some ⟨m, 0, none⟩)] 43, .ro m [.int .i64 W, .int .i64 H, .slice (some ⟨r, 0, none⟩) n cap] 118, .gen (rdE (some ⟨r, 0, none⟩) r 0 n 1 (ivals .u32 px)), .gen (rowE (Aj) gj kj cj 53 4 (rvals osj) true), .cells b3 [.slice Aj kj cj] 58 true, .cells b1 [.pointer (some ⟨m', 0, none⟩)] 43 true, .ro m' [.int .i64 W, .int .i64 H, .slice (some ⟨r', 0, none⟩) n' cap'] 118, .gen (rdE (some ⟨r', 0, none⟩) r' 0 n' 1 (ivals .u32 px'))]) rfl rfl [3, 6, 7, 23, 24, 25, 40, 48, 58, 59, 60, 61, 62, 63, 64, 67, 68, 69, 70, 71, 72, 73] (fun _ => rfl) (fun b16 => by kernel_rfl) (fun b16 => by kernel_rfl) (fun b16 => ?_)
          refine pl_step 10 1 rfl rfl ?_
          refine sem_stepW (α := Option Addr × Nat × Nat) 49 (Builtin.append_ #[58, 58] 58 #[.slice Aj kj cj, .slice (some ⟨b16, 0, none⟩) 1 1]) (fun x_ => .slice x_.1 (kj + 1) x_.2.2) (fun x_ => [.cells b16 [.int .i64 ((j : Nat) : Int), .int .i64 y, .int .i64 (((j : Nat) : Int) + 1), .int .i64 (y + 1)] 53 true, .gen (rowE (some ⟨g, 0, none⟩) g Wn cx 24 1 (ivals .u32 (rowL Wn px y)) true), z7_, e7b_, e7q_, .ro kb4 [.pointer (some ⟨m, 0, none⟩)] 43, .ro m [.int .i64 W, .int .i64 H, .slice (some ⟨r, 0, none⟩) n cap] 118, .gen (rdE (some ⟨r, 0, none⟩) r 0 n 1 (ivals .u32 px)), .gen (rowE (x_.1) x_.2.1 (kj + 1) x_.2.2 53 4 (rvals (osj ++ [(⟨((j : Nat) : Int), y, ((j : Nat) : Int) + 1, y + 1⟩ : Rect)])) true), .cells b3 [.slice Aj kj cj] 58 true, .cells b1 [.pointer (some ⟨m', 0, none⟩)] 43 true, .ro m' [.int .i64 W, .int .i64 H, .slice (some ⟨r', 0, none⟩) n' cap'] 118, .gen (rdE (some ⟨r', 0, none⟩) r' 0 n' 1 (ivals .u32 px'))]) (fun _ => True) (by kernel_rfl) (fun w hT => append_own (n' := (kj + 1)) (z := .agg #[.int .i64 0, .int .i64 0, .int .i64 0, .int .i64 0]) hT (i := 8) (bytes := 32) rfl (by kernel_rfl) (by kernel_rfl) rfl (by decide) (by decide) (Rd.ofCells (vals := rvals [(⟨((j : Nat) : Int), y, ((j : Nat) : Int) + 1, y + 1⟩ : Rect)]) (hT.ok 0 _ rfl) rfl rfl) (rvals_one [(⟨((j : Nat) : Int), y, ((j : Nat) : Int) + 1, y + 1⟩ : Rect)]) (by omega) (rvals_append osj [(⟨((j : Nat) : Int), y, ((j : Nat) : Int) + 1, y + 1⟩ : Rect)]) rfl) ?_
          rintro ⟨A17, g17, cp17⟩ -
          refine cont_norm [(3, .pointer (some ⟨b1, 0, none⟩)), (6, .pointer (some ⟨b3, 0, none⟩)), (7, .int .i64 y), (23, .slice (some ⟨g, 0, none⟩) Wn cx), (24, .int .i64 (Wn : Int)), (25, .int .i64 ((j : Nat) : Int)), (40, .slice Aj kj cj), (48, .slice (some ⟨b16, 0, none⟩) 1 1), (49, .slice A17 (kj + 1) cp17), (58, .slice (some ⟨gj, 0, none⟩) kj cj), (59, .int .i64 ((kj : Int) - 1)), (60, .pointer (some ⟨gj, (Int.toNat ((kj : Int) - 1)) * 4, none⟩)), (61, .pointer (some ⟨gj, (Int.toNat ((kj : Int) - 1)) * 4 + 1, none⟩)), (62, .int .i64 ((rget osj (Int.toNat ((kj : Int) - 1))).y0)), (63, .int .i64 y), (64, .bool true), (67, .slice (some ⟨gj, 0, none⟩) kj cj), (68, .int .i64 ((kj : Int) - 1)), (69, .pointer (some ⟨gj, (Int.toNat ((kj : Int) - 1)) * 4, none⟩)), (70, .pointer (some ⟨gj, (Int.toNat ((kj : Int) - 1)) * 4 + 2, none⟩)), (71, .int .i64 ((rget osj (Int.toNat ((kj : Int) - 1))).x1)), (72, .int .i64 ((j : Nat) : Int)), (73, .bool false)] [.cells b16 [.int .i64 ((j : Nat) : Int), .int .i64 y, .int .i64 (((j : Nat) : Int) + 1), .int .i64 (y + 1)] 53 true, .gen (rowE (some ⟨g, 0, none⟩) g Wn cx 24 1 (ivals .u32 (rowL Wn px y)) true), z7_, e7b_, e7q_, .ro kb4 [.pointer (some ⟨m, 0, none⟩)] 43, .ro m [.int .i64 W, .int .i64 H, .slice (some ⟨r, 0, none⟩) n cap] 118, .gen (rdE (some ⟨r, 0, none⟩) r 0 n 1 (ivals .u32 px)), .gen (rowE (A17) g17 (kj + 1) cp17 53 4 (rvals (osj ++ [(⟨((j : Nat) : Int), y, ((j : Nat) : Int) + 1, y + 1⟩ : Rect)])) true), .cells b3 [.slice Aj kj cj] 58 true, .cells b1 [.pointer (some ⟨m', 0, none⟩)] 43 true, .ro m' [.int .i64 W, .int .i64 H, .slice (some ⟨r', 0, none⟩) n' cap'] 118, .gen (rdE (some ⟨r', 0, none⟩) r' 0 n' 1 (ivals .u32 px'))] (by kernel_rfl) rfl ?_
          refine cont_fact (F := (0 < (kj + 1) → (A17 : Option Addr) = some ⟨g17, 0, none⟩) ∧ (osj ++ [(⟨((j : Nat) : Int), y, ((j : Nat) : Int) + 1, y + 1⟩ : Rect)]).length = (kj + 1) ∧ (kj + 1) ≤ cp17 ∧ cp17 ≤ maxLen) (fun w hT => Row.factsR (hT.ok 8 _ rfl)) (fun hr18_ => ?_)
          obtain ⟨hr18_a, hr18_l, hr18_c, hr18_m⟩ := hr18_
          unfold maxLen at hr18_m
          refine batch0 [9] 11 0 [(3, .pointer (some ⟨b1, 0, none⟩)), (6, .pointer (some ⟨b3, 0, none⟩)), (7, .int .i64 y), (23, .slice (some ⟨g, 0, none⟩) Wn cx), (24, .int .i64 (Wn : Int)), (25, .int .i64 ((j : Nat) : Int)), (58, .slice (some ⟨gj, 0, none⟩) kj cj), (59, .int .i64 ((kj : Int) - 1)), (60, .pointer (some ⟨gj, (Int.toNat ((kj : Int) - 1)) * 4, none⟩)), (61, .pointer (some ⟨gj, (Int.toNat ((kj : Int) - 1)) * 4 + 1, none⟩)), (62, .int .i64 ((rget osj (Int.toNat ((kj : Int) - 1))).y0)), (63, .int .i64 y), (64, .bool true), (67, .slice (some ⟨gj, 0, none⟩) kj cj), (68, .int .i64 ((kj : Int) - 1)), (69, .pointer (some ⟨gj, (Int.toNat ((kj : Int) - 1)) * 4, none⟩)), (70, .pointer (some ⟨gj, (Int.toNat ((kj : Int) - 1)) * 4 + 2, none⟩)), (71, .int .i64 ((rget osj (Int.toNat ((kj : Int) - 1))).x1)), (72, .int .i64 ((j : Nat) : Int)), (73, .bool false)] [.cells b16 [.int .i64 ((j : Nat) : Int), .int .i64 y, .int .i64 (((j : Nat) : Int) + 1), .int .i64 (y + 1)] 53 true, .gen (rowE (some ⟨g, 0, none⟩) g Wn cx 24 1 (ivals .u32 (rowL Wn px y)) true), z7_, e7b_, e7q_, .ro kb4 [.pointer (some ⟨m, 0, none⟩)] 43, .ro m [.int .i64 W, .int .i64 H, .slice (some ⟨r, 0, none⟩) n cap] 118, .gen (rdE (some ⟨r, 0, none⟩) r 0 n 1 (ivals .u32 px)), .gen (rowE (A17) g17 (kj + 1) cp17 53 4 (rvals (osj ++ [(⟨((j : Nat) : Int), y, ((j : Nat) : Int) + 1, y + 1⟩ : Rect)])) true), .cells b3 [.slice A17 (kj + 1) cp17] 58 true, .cells b1 [.pointer (some ⟨m', 0, none⟩)] 43 true, .ro m' [.int .i64 W, .int .i64 H, .slice (some ⟨r', 0, none⟩) n' cap'] 118, .gen (rdE (some ⟨r', 0, none⟩) r' 0 n' 1 (ivals .u32 px'))] rfl rfl (by kernel_rfl) (by kernel_rfl) ?_
          refine cont_forget 0 rfl ?_
          refine cont_done ?_
          refine blk_normal ?_
          refine blk_normal ?_
          refine then_normal ?_
          refine mcont_region 2 rfl (by kernel_rfl) ?_
          refine bS [0] 1 1 [(3, .pointer (some ⟨b1, 0, none⟩)), (6, .pointer (some ⟨b3, 0, none⟩)), (7, .int .i64 y), (23, .slice (some ⟨g, 0, none⟩) Wn cx), (24, .int .i64 (Wn : Int)), (58, .slice (some ⟨gj, 0, none⟩) kj cj), (59, .int .i64 ((kj : Int) - 1)), (60, .pointer (some ⟨gj, (Int.toNat ((kj : Int) - 1)) * 4, none⟩)), (61, .pointer (some ⟨gj, (Int.toNat ((kj : Int) - 1)) * 4 + 1, none⟩)), (62, .int .i64 ((rget osj (Int.toNat ((kj : Int) - 1))).y0)), (63, .int .i64 y), (64, .bool true), (67, .slice (some ⟨gj, 0, none⟩) kj cj), (68, .int .i64 ((kj : Int) - 1)), (69, .pointer (some ⟨gj, (Int.toNat ((kj : Int) - 1)) * 4, none⟩)), (70, .pointer (some ⟨gj, (Int.toNat ((kj : Int) - 1)) * 4 + 2, none⟩)), (71, .int .i64 ((rget osj (Int.toNat ((kj : Int) - 1))).x1)), (72, .int .i64 ((j : Nat) : Int)), (73, .bool false), (83, .int .i64 (IntKind.i64.wrap (((j : Nat) : Int) + 1)))] ?_
          refine cont_recast 83 (.int .i64 (IntKind.i64.wrap (((j : Nat) : Int) + 1))) (.int .i64 (((j : Nat) : Int) + 1)) rfl (wrapI (by omega) (by omega)) ?_
          refine bS [0] 2 0 [(3, .pointer (some ⟨b1, 0, none⟩)), (6, .pointer (some ⟨b3, 0, none⟩)), (7, .int .i64 y), (23, .slice (some ⟨g, 0, none⟩) Wn cx), (24, .int .i64 (Wn : Int)), (25, .int .i64 (((j : Nat) : Int) + 1)), (58, .slice (some ⟨gj, 0, none⟩) kj cj), (59, .int .i64 ((kj : Int) - 1)), (60, .pointer (some ⟨gj, (Int.toNat ((kj : Int) - 1)) * 4, none⟩)), (61, .pointer (some ⟨gj, (Int.toNat ((kj : Int) - 1)) * 4 + 1, none⟩)), (62, .int .i64 ((rget osj (Int.toNat ((kj : Int) - 1))).y0)), (63, .int .i64 y), (64, .bool true), (67, .slice (some ⟨gj, 0, none⟩) kj cj), (68, .int .i64 ((kj : Int) - 1)), (69, .pointer (some ⟨gj, (Int.toNat ((kj : Int) - 1)) * 4, none⟩)), (70, .pointer (some ⟨gj, (Int.toNat ((kj : Int) - 1)) * 4 + 2, none⟩)), (71, .int .i64 ((rget osj (Int.toNat ((kj : Int) - 1))).x1)), (72, .int .i64 ((j : Nat) : Int)), (73, .bool false)] ?_
          refine cont_done ?_
          refine then_normal ?_
          refine cont_again (j + 1, osj ++ [(⟨((j : Nat) : Int), y, ((j : Nat) : Int) + 1, y + 1⟩ : Rect)], A17, g17, (kj + 1), cp17) (show (j + 1) ≤ Wn ∧ SolI (difB W H px px') (osj ++ [(⟨((j : Nat) : Int), y, ((j : Nat) : Int) + 1, y + 1⟩ : Rect)]) (ptL W (k * Wn + (j + 1))) from ⟨by omega, by rw [← ptL_step hWn (by omega), ← hyp]; exact hsj.new hsk ⟨by omega, by omega⟩ ⟨by omega, by omega⟩⟩) (show Wn - (j + 1) < Wn - j from by omega) (by kernel_rfl) (by kernel_rfl)
        refine cont_recast 64 (.bool (((rget osj (Int.toNat ((kj : Int) - 1))).y0) == y)) (.bool false) rfl (congrArg Value.bool c14_) ?_
        replace c14_ := ne_of_beqf c14_
        refine bS [0, 0, 0, 0, 0, 0, 0, 0, 0] 21 0 [(3, .pointer (some ⟨b1, 0, none⟩)), (6, .pointer (some ⟨b3, 0, none⟩)), (7, .int .i64 y), (9, .int .i64 ((j : Nat) : Int)), (13, .int .i64 ((kj : Int) - 1)), (23, .slice (some ⟨g, 0, none⟩) Wn cx), (24, .int .i64 (Wn : Int)), (25, .int .i64 ((j : Nat) : Int)), (54, .bool false), (58, .slice (some ⟨gj, 0, none⟩) kj cj), (59, .int .i64 ((kj : Int) - 1)), (60, .pointer (some ⟨gj, (Int.toNat ((kj : Int) - 1)) * 4, none⟩)), (61, .pointer (some ⟨gj, (Int.toNat ((kj : Int) - 1)) * 4 + 1, none⟩)), (62, .int .i64 ((rget osj (Int.toNat ((kj : Int) - 1))).y0)), (63, .int .i64 y), (64, .bool false), (67, undef), (68, undef), (69, undef), (70, undef), (71, undef), (72, undef), (73, undef)] ?_
        refine cont_done ?_
        refine then_normal ?_
        refine mcont_false rfl ?_
        refine mcont_region 11 rfl (by kernel_rfl) ?_
        refine bS [8, 0, 0, 0, 0] 5 6 [(3, .pointer (some ⟨b1, 0, none⟩)), (6, .pointer (some ⟨b3, 0, none⟩)), (7, .int .i64 y), (23, .slice (some ⟨g, 0, none⟩) Wn cx), (24, .int .i64 (Wn : Int)), (25, .int .i64 ((j : Nat) : Int)), (40, .slice Aj kj cj), (41, .int .i64 ((j : Nat) : Int)), (42, .int .i64 y), (44, .int .i64 (IntKind.i64.wrap (((j : Nat) : Int) + 1))), (58, .slice (some ⟨gj, 0, none⟩) kj cj), (59, .int .i64 ((kj : Int) - 1)), (60, .pointer (some ⟨gj, (Int.toNat ((kj : Int) - 1)) * 4, none⟩)), (61, .pointer (some ⟨gj, (Int.toNat ((kj : Int) - 1)) * 4 + 1, none⟩)), (62, .int .i64 ((rget osj (Int.toNat ((kj : Int) - 1))).y0)), (63, .int .i64 y), (64, .bool false), (67, undef), (68, undef), (69, undef), (70, undef), (71, undef), (72, undef), (73, undef)] ?_
        refine cont_recast 44 (.int .i64 (IntKind.i64.wrap (((j : Nat) : Int) + 1))) (.int .i64 (((j : Nat) : Int) + 1)) rfl (wrapI (by omega) (by omega)) ?_
        refine bS [0, 0] 7 4 [(3, .pointer (some ⟨b1, 0, none⟩)), (6, .pointer (some ⟨b3, 0, none⟩)), (7, .int .i64 y), (23, .slice (some ⟨g, 0, none⟩) Wn cx), (24, .int .i64 (Wn : Int)), (25, .int .i64 ((j : Nat) : Int)), (40, .slice Aj kj cj), (41, .int .i64 ((j : Nat) : Int)), (42, .int .i64 y), (44, .int .i64 (((j : Nat) : Int) + 1)), (46, .int .i64 (IntKind.i64.wrap (y + 1))), (58, .slice (some ⟨gj, 0, none⟩) kj cj), (59, .int .i64 ((kj : Int) - 1)), (60, .pointer (some ⟨gj, (Int.toNat ((kj : Int) - 1)) * 4, none⟩)), (61, .pointer (some ⟨gj, (Int.toNat ((kj : Int) - 1)) * 4 + 1, none⟩)), (62, .int .i64 ((rget osj (Int.toNat ((kj : Int) - 1))).y0)), (63, .int .i64 y), (64, .bool false), (67, undef), (68, undef), (69, undef), (70, undef), (71, undef), (72, undef), (73, undef)] ?_
        refine cont_recast 46 (.int .i64 (IntKind.i64.wrap (y + 1))) (.int .i64 (y + 1)) rfl (wrapI (by omega) (by omega)) ?_
        refine batch1 [0, 0] 9 2 (fun b19 => [(3, .pointer (some ⟨b1, 0, none⟩)), (6, .pointer (some ⟨b3, 0, none⟩)), (7, .int .i64 y), (23, .slice (some ⟨g, 0, none⟩) Wn cx), (24, .int .i64 (Wn : Int)), (25, .int .i64 ((j : Nat) : Int)), (40, .slice Aj kj cj), (48, .slice (some ⟨b19, 0, none⟩) 1 1), (58, .slice (some ⟨gj, 0, none⟩) kj cj), (59, .int .i64 ((kj : Int) - 1)), (60, .pointer (some ⟨gj, (Int.toNat ((kj : Int) - 1)) * 4, none⟩)), (61, .pointer (some ⟨gj, (Int.toNat ((kj : Int) - 1)) * 4 + 1, none⟩)), (62, .int .i64 ((rget osj (Int.toNat ((kj : Int) - 1))).y0)), (63, .int .i64 y), (64, .bool false), (67, undef), (68, undef), (69, undef), (70, undef), (71, undef), (72, undef), (73, undef)]) (fun b19 => [.cells b19 [.int .i64 ((j : Nat) : Int), .int .i64 y, .int .i64 (((j : Nat) : Int) + 1), .int .i64 (y + 1)] 53 true, .gen (rowE (some ⟨g, 0, none⟩) g Wn cx 24 1 (ivals .u32 (rowL Wn px y)) true), z7_, e7b_, e7q_, .ro kb4 [.pointer (some ⟨m, 0, none⟩)] 43, .ro m [.int .i64 W, .int .i64 H, .slice (some ⟨r, 0, none⟩) n cap] 118, .gen (rdE (some ⟨r, 0, none⟩) r 0 n 1 (ivals .u32 px)), .gen (rowE (Aj) gj kj cj 53 4 (rvals osj) true), .cells b3 [.slice Aj kj cj] 58 true, .cells b1 [.pointer (some ⟨m', 0, none⟩)] 43 true, .ro m' [.int .i64 W, .int .i64 H, .slice (some ⟨r', 0, none⟩) n' cap'] 118, .gen (rdE (some ⟨r', 0, none⟩) r' 0 n' 1 (ivals .u32 px'))]) rfl rfl [3, 6, 7, 23, 24, 25, 40, 48, 58, 59, 60, 61, 62, 63, 64, 67, 68, 69, 70, 71, 72, 73] (fun _ => rfl) (fun b19 => by kernel_rfl) (fun b19 => by kernel_rfl) (fun b19 => ?_)
        refine pl_step 10 1 rfl rfl ?_
        refine sem_stepW (α := Option Addr × Nat × Nat) 49 (Builtin.append_ #[58, 58] 58 #[.slice Aj kj cj, .slice (some ⟨b19, 0, none⟩) 1 1]) (fun x_ => .slice x_.1 (kj + 1) x_.2.2) (fun x_ => [.cells b19 [.int .i64 ((j : Nat) : Int), .int .i64 y, .int .i64 (((j : Nat) : Int) + 1), .int .i64 (y + 1)] 53 true, .gen (rowE (some ⟨g, 0, none⟩) g Wn cx 24 1 (ivals .u32 (rowL Wn px y)) true), z7_, e7b_, e7q_, .ro kb4 [.pointer (some ⟨m, 0, none⟩)] 43, .ro m [.int .i64 W, .int .i64 H, .slice (some ⟨r, 0, none⟩) n cap] 118, .gen (rdE (some ⟨r, 0, none⟩) r 0 n 1 (ivals .u32 px)), .gen (rowE (x_.1) x_.2.1 (kj + 1) x_.2.2 53 4 (rvals (osj ++ [(⟨((j : Nat) : Int), y, ((j : Nat) : Int) + 1, y + 1⟩ : Rect)])) true), .cells b3 [.slice Aj kj cj] 58 true, .cells b1 [.pointer (some ⟨m', 0, none⟩)] 43 true, .ro m' [.int .i64 W, .int .i64 H, .slice (some ⟨r', 0, none⟩) n' cap'] 118, .gen (rdE (some ⟨r', 0, none⟩) r' 0 n' 1 (ivals .u32 px'))]) (fun _ => True) (by kernel_rfl) (fun w hT => append_own (n' := (kj + 1)) (z := .agg #[.int .i64 0, .int .i64 0, .int .i64 0, .int .i64 0]) hT (i := 8) (bytes := 32) rfl (by kernel_rfl) (by kernel_rfl) rfl (by decide) (by decide) (Rd.ofCells (vals := rvals [(⟨((j : Nat) : Int), y, ((j : Nat) : Int) + 1, y + 1⟩ : Rect)]) (hT.ok 0 _ rfl) rfl rfl) (rvals_one [(⟨((j : Nat) : Int), y, ((j : Nat) : Int) + 1, y + 1⟩ : Rect)]) (by omega) (rvals_append osj [(⟨((j : Nat) : Int), y, ((j : Nat) : Int) + 1, y + 1⟩ : Rect)]) rfl) ?_
        rintro ⟨A20, g20, cp20⟩ -
        refine cont_norm [(3, .pointer (some ⟨b1, 0, none⟩)), (6, .pointer (some ⟨b3, 0, none⟩)), (7, .int .i64 y), (23, .slice (some ⟨g, 0, none⟩) Wn cx), (24, .int .i64 (Wn : Int)), (25, .int .i64 ((j : Nat) : Int)), (40, .slice Aj kj cj), (48, .slice (some ⟨b19, 0, none⟩) 1 1), (49, .slice A20 (kj + 1) cp20), (58, .slice (some ⟨gj, 0, none⟩) kj cj), (59, .int .i64 ((kj : Int) - 1)), (60, .pointer (some ⟨gj, (Int.toNat ((kj : Int) - 1)) * 4, none⟩)), (61, .pointer (some ⟨gj, (Int.toNat ((kj : Int) - 1)) * 4 + 1, none⟩)), (62, .int .i64 ((rget osj (Int.toNat ((kj : Int) - 1))).y0)), (63, .int .i64 y), (64, .bool false), (67, undef), (68, undef), (69, undef), (70, undef), (71, undef), (72, undef), (73, undef)] [.cells b19 [.int .i64 ((j : Nat) : Int), .int .i64 y, .int .i64 (((j : Nat) : Int) + 1), .int .i64 (y + 1)] 53 true, .gen (rowE (some ⟨g, 0, none⟩) g Wn cx 24 1 (ivals .u32 (rowL Wn px y)) true), z7_, e7b_, e7q_, .ro kb4 [.pointer (some ⟨m, 0, none⟩)] 43, .ro m [.int .i64 W, .int .i64 H, .slice (some ⟨r, 0, none⟩) n cap] 118, .gen (rdE (some ⟨r, 0, none⟩) r 0 n 1 (ivals .u32 px)), .gen (rowE (A20) g20 (kj + 1) cp20 53 4 (rvals (osj ++ [(⟨((j : Nat) : Int), y, ((j : Nat) : Int) + 1, y + 1⟩ : Rect)])) true), .cells b3 [.slice Aj kj cj] 58 true, .cells b1 [.pointer (some ⟨m', 0, none⟩)] 43 true, .ro m' [.int .i64 W, .int .i64 H, .slice (some ⟨r', 0, none⟩) n' cap'] 118, .gen (rdE (some ⟨r', 0, none⟩) r' 0 n' 1 (ivals .u32 px'))] (by kernel_rfl) rfl ?_
        refine cont_fact (F := (0 < (kj + 1) → (A20 : Option Addr) = some ⟨g20, 0, none⟩) ∧ (osj ++ [(⟨((j : Nat) : Int), y, ((j : Nat) : Int) + 1, y + 1⟩ : Rect)]).length = (kj + 1) ∧ (kj + 1) ≤ cp20 ∧ cp20 ≤ maxLen) (fun w hT => Row.factsR (hT.ok 8 _ rfl)) (fun hr21_ => ?_)
        obtain ⟨hr21_a, hr21_l, hr21_c, hr21_m⟩ := hr21_
        unfold maxLen at hr21_m
        refine batch0 [9] 11 0 [(3, .pointer (some ⟨b1, 0, none⟩)), (6, .pointer (some ⟨b3, 0, none⟩)), (7, .int .i64 y), (23, .slice (some ⟨g, 0, none⟩) Wn cx), (24, .int .i64 (Wn : Int)), (25, .int .i64 ((j : Nat) : Int)), (58, .slice (some ⟨gj, 0, none⟩) kj cj), (59, .int .i64 ((kj : Int) - 1)), (60, .pointer (some ⟨gj, (Int.toNat ((kj : Int) - 1)) * 4, none⟩)), (61, .pointer (some ⟨gj, (Int.toNat ((kj : Int) - 1)) * 4 + 1, none⟩)), (62, .int .i64 ((rget osj (Int.toNat ((kj : Int) - 1))).y0)), (63, .int .i64 y), (64, .bool false), (67, undef), (68, undef), (69, undef), (70, undef), (71, undef), (72, undef), (73, undef)] [.cells b19 [.int .i64 ((j : Nat) : Int), .int .i64 y, .int .i64 (((j : Nat) : Int) + 1), .int .i64 (y + 1)] 53 true, .gen (rowE (some ⟨g, 0, none⟩) g Wn cx 24 1 (ivals .u32 (rowL Wn px y)) true), z7_, e7b_, e7q_, .ro kb4 [.pointer (some ⟨m, 0, none⟩)] 43, .ro m [.int .i64 W, .int .i64 H, .slice (some ⟨r, 0, none⟩) n cap] 118, .gen (rdE (some ⟨r, 0, none⟩) r 0 n 1 (ivals .u32 px)), .gen (rowE (A20) g20 (kj + 1) cp20 53 4 (rvals (osj ++ [(⟨((j : Nat) : Int), y, ((j : Nat) : Int) + 1, y + 1⟩ : Rect)])) true), .cells b3 [.slice A20 (kj + 1) cp20] 58 true, .cells b1 [.pointer (some ⟨m', 0, none⟩)] 43 true, .ro m' [.int .i64 W, .int .i64 H, .slice (some ⟨r', 0, none⟩) n' cap'] 118, .gen (rdE (some ⟨r', 0, none⟩) r' 0 n' 1 (ivals .u32 px'))] rfl rfl (by kernel_rfl) (by kernel_rfl) ?_
        refine cont_forget 0 rfl ?_
        refine cont_done ?_
        refine blk_normal ?_
        refine blk_normal ?_
        refine then_normal ?_
        refine mcont_region 2 rfl (by kernel_rfl) ?_
        refine bS [0] 1 1 [(3, .pointer (some ⟨b1, 0, none⟩)), (6, .pointer (some ⟨b3, 0, none⟩)), (7, .int .i64 y), (23, .slice (some ⟨g, 0, none⟩) Wn cx), (24, .int .i64 (Wn : Int)), (58, .slice (some ⟨gj, 0, none⟩) kj cj), (59, .int .i64 ((kj : Int) - 1)), (60, .pointer (some ⟨gj, (Int.toNat ((kj : Int) - 1)) * 4, none⟩)), (61, .pointer (some ⟨gj, (Int.toNat ((kj : Int) - 1)) * 4 + 1, none⟩)), (62, .int .i64 ((rget osj (Int.toNat ((kj : Int) - 1))).y0)), (63, .int .i64 y), (64, .bool false), (67, undef), (68, undef), (69, undef), (70, undef), (71, undef), (72, undef), (73, undef), (83, .int .i64 (IntKind.i64.wrap (((j : Nat) : Int) + 1)))] ?_
        refine cont_recast 83 (.int .i64 (IntKind.i64.wrap (((j : Nat) : Int) + 1))) (.int .i64 (((j : Nat) : Int) + 1)) rfl (wrapI (by omega) (by omega)) ?_
        refine bS [0] 2 0 [(3, .pointer (some ⟨b1, 0, none⟩)), (6, .pointer (some ⟨b3, 0, none⟩)), (7, .int .i64 y), (23, .slice (some ⟨g, 0, none⟩) Wn cx), (24, .int .i64 (Wn : Int)), (25, .int .i64 (((j : Nat) : Int) + 1)), (58, .slice (some ⟨gj, 0, none⟩) kj cj), (59, .int .i64 ((kj : Int) - 1)), (60, .pointer (some ⟨gj, (Int.toNat ((kj : Int) - 1)) * 4, none⟩)), (61, .pointer (some ⟨gj, (Int.toNat ((kj : Int) - 1)) * 4 + 1, none⟩)), (62, .int .i64 ((rget osj (Int.toNat ((kj : Int) - 1))).y0)), (63, .int .i64 y), (64, .bool false), (67, undef), (68, undef), (69, undef), (70, undef), (71, undef), (72, undef), (73, undef)] ?_
        refine cont_done ?_
        refine then_normal ?_
        refine cont_again (j + 1, osj ++ [(⟨((j : Nat) : Int), y, ((j : Nat) : Int) + 1, y + 1⟩ : Rect)], A20, g20, (kj + 1), cp20) (show (j + 1) ≤ Wn ∧ SolI (difB W H px px') (osj ++ [(⟨((j : Nat) : Int), y, ((j : Nat) : Int) + 1, y + 1⟩ : Rect)]) (ptL W (k * Wn + (j + 1))) from ⟨by omega, by rw [← ptL_step hWn (by omega), ← hyp]; exact hsj.new hsk ⟨by omega, by omega⟩ ⟨by omega, by omega⟩⟩) (show Wn - (j + 1) < Wn - j from by omega) (by kernel_rfl) (by kernel_rfl)
      replace c13_ := of_decide_eq_false c13_
      refine bS [0, 0, 0, 0, 0, 0, 0, 0, 0, 0, 0, 0, 0, 0, 0, 0, 0, 0] 21 0 [(3, .pointer (some ⟨b1, 0, none⟩)), (6, .pointer (some ⟨b3, 0, none⟩)), (7, .int .i64 y), (9, .int .i64 ((j : Nat) : Int)), (13, .int .i64 ((kj : Int) - 1)), (23, .slice (some ⟨g, 0, none⟩) Wn cx), (24, .int .i64 (Wn : Int)), (25, .int .i64 ((j : Nat) : Int)), (54, .bool false), (58, undef), (59, undef), (60, undef), (61, undef), (62, undef), (63, undef), (64, undef), (67, undef), (68, undef), (69, undef), (70, undef), (71, undef), (72, undef), (73, undef)] ?_
      refine cont_done ?_
      refine then_normal ?_
      refine mcont_false rfl ?_
      refine mcont_region 11 rfl (by kernel_rfl) ?_
      refine bS [8, 0, 0, 0, 0] 5 6 [(3, .pointer (some ⟨b1, 0, none⟩)), (6, .pointer (some ⟨b3, 0, none⟩)), (7, .int .i64 y), (23, .slice (some ⟨g, 0, none⟩) Wn cx), (24, .int .i64 (Wn : Int)), (25, .int .i64 ((j : Nat) : Int)), (40, .slice Aj kj cj), (41, .int .i64 ((j : Nat) : Int)), (42, .int .i64 y), (44, .int .i64 (IntKind.i64.wrap (((j : Nat) : Int) + 1))), (58, undef), (59, undef), (60, undef), (61, undef), (62, undef), (63, undef), (64, undef), (67, undef), (68, undef), (69, undef), (70, undef), (71, undef), (72, undef), (73, undef)] ?_
      refine cont_recast 44 (.int .i64 (IntKind.i64.wrap (((j : Nat) : Int) + 1))) (.int .i64 (((j : Nat) : Int) + 1)) rfl (wrapI (by omega) (by omega)) ?_
      refine bS [0, 0] 7 4 [(3, .pointer (some ⟨b1, 0, none⟩)), (6, .pointer (some ⟨b3, 0, none⟩)), (7, .int .i64 y), (23, .slice (some ⟨g, 0, none⟩) Wn cx), (24, .int .i64 (Wn : Int)), (25, .int .i64 ((j : Nat) : Int)), (40, .slice Aj kj cj), (41, .int .i64 ((j : Nat) : Int)), (42, .int .i64 y), (44, .int .i64 (((j : Nat) : Int) + 1)), (46, .int .i64 (IntKind.i64.wrap (y + 1))), (58, undef), (59, undef), (60, undef), (61, undef), (62, undef), (63, undef), (64, undef), (67, undef), (68, undef), (69, undef), (70, undef), (71, undef), (72, undef), (73, undef)] ?_
      refine cont_recast 46 (.int .i64 (IntKind.i64.wrap (y + 1))) (.int .i64 (y + 1)) rfl (wrapI (by omega) (by omega)) ?_
      refine batch1 [0, 0] 9 2 (fun b22 => [(3, .pointer (some ⟨b1, 0, none⟩)), (6, .pointer (some ⟨b3, 0, none⟩)), (7, .int .i64 y), (23, .slice (some ⟨g, 0, none⟩) Wn cx), (24, .int .i64 (Wn : Int)), (25, .int .i64 ((j : Nat) : Int)), (40, .slice Aj kj cj), (48, .slice (some ⟨b22, 0, none⟩) 1 1), (58, undef), (59, undef), (60, undef), (61, undef), (62, undef), (63, undef), (64, undef), (67, undef), (68, undef), (69, undef), (70, undef), (71, undef), (72, undef), (73, undef)]) (fun b22 => [.cells b22 [.int .i64 ((j : Nat) : Int), .int .i64 y, .int .i64 (((j : Nat) : Int) + 1), .int .i64 (y + 1)] 53 true, .gen (rowE (some ⟨g, 0, none⟩) g Wn cx 24 1 (ivals .u32 (rowL Wn px y)) true), z7_, e7b_, e7q_, .ro kb4 [.pointer (some ⟨m, 0, none⟩)] 43, .ro m [.int .i64 W, .int .i64 H, .slice (some ⟨r, 0, none⟩) n cap] 118, .gen (rdE (some ⟨r, 0, none⟩) r 0 n 1 (ivals .u32 px)), .gen (rowE (Aj) gj kj cj 53 4 (rvals osj) true), .cells b3 [.slice Aj kj cj] 58 true, .cells b1 [.pointer (some ⟨m', 0, none⟩)] 43 true, .ro m' [.int .i64 W, .int .i64 H, .slice (some ⟨r', 0, none⟩) n' cap'] 118, .gen (rdE (some ⟨r', 0, none⟩) r' 0 n' 1 (ivals .u32 px'))]) rfl rfl [3, 6, 7, 23, 24, 25, 40, 48, 58, 59, 60, 61, 62, 63, 64, 67, 68, 69, 70, 71, 72, 73] (fun _ => rfl) (fun b22 => by kernel_rfl) (fun b22 => by kernel_rfl) (fun b22 => ?_)
      refine pl_step 10 1 rfl rfl ?_
      refine sem_stepW (α := Option Addr × Nat × Nat) 49 (Builtin.append_ #[58, 58] 58 #[.slice Aj kj cj, .slice (some ⟨b22, 0, none⟩) 1 1]) (fun x_ => .slice x_.1 (kj + 1) x_.2.2) (fun x_ => [.cells b22 [.int .i64 ((j : Nat) : Int), .int .i64 y, .int .i64 (((j : Nat) : Int) + 1), .int .i64 (y + 1)] 53 true, .gen (rowE (some ⟨g, 0, none⟩) g Wn cx 24 1 (ivals .u32 (rowL Wn px y)) true), z7_, e7b_, e7q_, .ro kb4 [.pointer (some ⟨m, 0, none⟩)] 43, .ro m [.int .i64 W, .int .i64 H, .slice (some ⟨r, 0, none⟩) n cap] 118, .gen (rdE (some ⟨r, 0, none⟩) r 0 n 1 (ivals .u32 px)), .gen (rowE (x_.1) x_.2.1 (kj + 1) x_.2.2 53 4 (rvals (osj ++ [(⟨((j : Nat) : Int), y, ((j : Nat) : Int) + 1, y + 1⟩ : Rect)])) true), .cells b3 [.slice Aj kj cj] 58 true, .cells b1 [.pointer (some ⟨m', 0, none⟩)] 43 true, .ro m' [.int .i64 W, .int .i64 H, .slice (some ⟨r', 0, none⟩) n' cap'] 118, .gen (rdE (some ⟨r', 0, none⟩) r' 0 n' 1 (ivals .u32 px'))]) (fun _ => True) (by kernel_rfl) (fun w hT => append_own (n' := (kj + 1)) (z := .agg #[.int .i64 0, .int .i64 0, .int .i64 0, .int .i64 0]) hT (i := 8) (bytes := 32) rfl (by kernel_rfl) (by kernel_rfl) rfl (by decide) (by decide) (Rd.ofCells (vals := rvals [(⟨((j : Nat) : Int), y, ((j : Nat) : Int) + 1, y + 1⟩ : Rect)]) (hT.ok 0 _ rfl) rfl rfl) (rvals_one [(⟨((j : Nat) : Int), y, ((j : Nat) : Int) + 1, y + 1⟩ : Rect)]) (by omega) (rvals_append osj [(⟨((j : Nat) : Int), y, ((j : Nat) : Int) + 1, y + 1⟩ : Rect)]) rfl) ?_
      rintro ⟨A23, g23, cp23⟩ -
      refine cont_norm [(3, .pointer (some ⟨b1, 0, none⟩)), (6, .pointer (some ⟨b3, 0, none⟩)), (7, .int .i64 y), (23, .slice (some ⟨g, 0, none⟩) Wn cx), (24, .int .i64 (Wn : Int)), (25, .int .i64 ((j : Nat) : Int)), (40, .slice Aj kj cj), (48, .slice (some ⟨b22, 0, none⟩) 1 1), (49, .slice A23 (kj + 1) cp23), (58, undef), (59, undef), (60, undef), (61, undef), (62, undef), (63, undef), (64, undef), (67, undef), (68, undef), (69, undef), (70, undef), (71, undef), (72, undef), (73, undef)] [.cells b22 [.int .i64 ((j : Nat) : Int), .int .i64 y, .int .i64 (((j : Nat) : Int) + 1), .int .i64 (y + 1)] 53 true, .gen (rowE (some ⟨g, 0, none⟩) g Wn cx 24 1 (ivals .u32 (rowL Wn px y)) true), z7_, e7b_, e7q_, .ro kb4 [.pointer (some ⟨m, 0, none⟩)] 43, .ro m [.int .i64 W, .int .i64 H, .slice (some ⟨r, 0, none⟩) n cap] 118, .gen (rdE (some ⟨r, 0, none⟩) r 0 n 1 (ivals .u32 px)), .gen (rowE (A23) g23 (kj + 1) cp23 53 4 (rvals (osj ++ [(⟨((j : Nat) : Int), y, ((j : Nat) : Int) + 1, y + 1⟩ : Rect)])) true), .cells b3 [.slice Aj kj cj] 58 true, .cells b1 [.pointer (some ⟨m', 0, none⟩)] 43 true, .ro m' [.int .i64 W, .int .i64 H, .slice (some ⟨r', 0, none⟩) n' cap'] 118, .gen (rdE (some ⟨r', 0, none⟩) r' 0 n' 1 (ivals .u32 px'))] (by kernel_rfl) rfl ?_
      refine cont_fact (F := (0 < (kj + 1) → (A23 : Option Addr) = some ⟨g23, 0, none⟩) ∧ (osj ++ [(⟨((j : Nat) : Int), y, ((j : Nat) : Int) + 1, y + 1⟩ : Rect)]).length = (kj + 1) ∧ (kj + 1) ≤ cp23 ∧ cp23 ≤ maxLen) (fun w hT => Row.factsR (hT.ok 8 _ rfl)) (fun hr24_ => ?_)
      obtain ⟨hr24_a, hr24_l, hr24_c, hr24_m⟩ := hr24_
      unfold maxLen at hr24_m
      refine batch0 [9] 11 0 [(3, .pointer (some ⟨b1, 0, none⟩)), (6, .pointer (some ⟨b3, 0, none⟩)), (7, .int .i64 y), (23, .slice (some ⟨g, 0, none⟩) Wn cx), (24, .int .i64 (Wn : Int)), (25, .int .i64 ((j : Nat) : Int)), (58, undef), (59, undef), (60, undef), (61, undef), (62, undef), (63, undef), (64, undef), (67, undef), (68, undef), (69, undef), (70, undef), (71, undef), (72, undef), (73, undef)] [.cells b22 [.int .i64 ((j : Nat) : Int), .int .i64 y, .int .i64 (((j : Nat) : Int) + 1), .int .i64 (y + 1)] 53 true, .gen (rowE (some ⟨g, 0, none⟩) g Wn cx 24 1 (ivals .u32 (rowL Wn px y)) true), z7_, e7b_, e7q_, .ro kb4 [.pointer (some ⟨m, 0, none⟩)] 43, .ro m [.int .i64 W, .int .i64 H, .slice (some ⟨r, 0, none⟩) n cap] 118, .gen (rdE (some ⟨r, 0, none⟩) r 0 n 1 (ivals .u32 px)), .gen (rowE (A23) g23 (kj + 1) cp23 53 4 (rvals (osj ++ [(⟨((j : Nat) : Int), y, ((j : Nat) : Int) + 1, y + 1⟩ : Rect)])) true), .cells b3 [.slice A23 (kj + 1) cp23] 58 true, .cells b1 [.pointer (some ⟨m', 0, none⟩)] 43 true, .ro m' [.int .i64 W, .int .i64 H, .slice (some ⟨r', 0, none⟩) n' cap'] 118, .gen (rdE (some ⟨r', 0, none⟩) r' 0 n' 1 (ivals .u32 px'))] rfl rfl (by kernel_rfl) (by kernel_rfl) ?_
      refine cont_forget 0 rfl ?_
      refine cont_done ?_
      refine blk_normal ?_
      refine blk_normal ?_
      refine then_normal ?_
      refine mcont_region 2 rfl (by kernel_rfl) ?_
      refine bS [0] 1 1 [(3, .pointer (some ⟨b1, 0, none⟩)), (6, .pointer (some ⟨b3, 0, none⟩)), (7, .int .i64 y), (23, .slice (some ⟨g, 0, none⟩) Wn cx), (24, .int .i64 (Wn : Int)), (58, undef), (59, undef), (60, undef), (61, undef), (62, undef), (63, undef), (64, undef), (67, undef), (68, undef), (69, undef), (70, undef), (71, undef), (72, undef), (73, undef), (83, .int .i64 (IntKind.i64.wrap (((j : Nat) : Int) + 1)))] ?_
      refine cont_recast 83 (.int .i64 (IntKind.i64.wrap (((j : Nat) : Int) + 1))) (.int .i64 (((j : Nat) : Int) + 1)) rfl (wrapI (by omega) (by omega)) ?_
      refine bS [0] 2 0 [(3, .pointer (some ⟨b1, 0, none⟩)), (6, .pointer (some ⟨b3, 0, none⟩)), (7, .int .i64 y), (23, .slice (some ⟨g, 0, none⟩) Wn cx), (24, .int .i64 (Wn : Int)), (25, .int .i64 (((j : Nat) : Int) + 1)), (58, undef), (59, undef), (60, undef), (61, undef), (62, undef), (63, undef), (64, undef), (67, undef), (68, undef), (69, undef), (70, undef), (71, undef), (72, undef), (73, undef)] ?_
      refine cont_done ?_
      refine then_normal ?_
      refine cont_again (j + 1, osj ++ [(⟨((j : Nat) : Int), y, ((j : Nat) : Int) + 1, y + 1⟩ : Rect)], A23, g23, (kj + 1), cp23) (show (j + 1) ≤ Wn ∧ SolI (difB W H px px') (osj ++ [(⟨((j : Nat) : Int), y, ((j : Nat) : Int) + 1, y + 1⟩ : Rect)]) (ptL W (k * Wn + (j + 1))) from ⟨by omega, by rw [← ptL_step hWn (by omega), ← hyp]; exact hsj.new hsk ⟨by omega, by omega⟩ ⟨by omega, by omega⟩⟩) (show Wn - (j + 1) < Wn - j from by omega) (by kernel_rfl) (by kernel_rfl)
    replace c10_ := of_decide_eq_false c10_
    refine mcont_false rfl ?_
    refine mcont_exit ?_
    refine then_exit ?_
    refine then_exit ?_
    refine blk_exit ?_
    refine blk_normal ?_
    refine cont_pick [1, 2, 3, 4, 5, 6, 7, 8, 9, 10, 11] [z7_, e7b_, e7q_, .ro kb4 [.pointer (some ⟨m, 0, none⟩)] 43, .ro m [.int .i64 W, .int .i64 H, .slice (some ⟨r, 0, none⟩) n cap] 118, .gen (rdE (some ⟨r, 0, none⟩) r 0 n 1 (ivals .u32 px)), .gen (rowE (Aj) gj kj cj 53 4 (rvals osj) true), .cells b3 [.slice Aj kj cj] 58 true, .cells b1 [.pointer (some ⟨m', 0, none⟩)] 43 true, .ro m' [.int .i64 W, .int .i64 H, .slice (some ⟨r', 0, none⟩) n' cap'] 118, .gen (rdE (some ⟨r', 0, none⟩) r' 0 n' 1 (ivals .u32 px'))] (by decide) rfl rfl ?_
    refine rq_next (k + 1, osj, Aj, gj, kj, cj) (show (k + 1) = (pre ++ [(y, g, cx)]).length ∧ SolI (difB W H px px') (osj) (ptL W ((k + 1) * Wn)) from ⟨by rw [List.length_append, List.length_singleton]; omega, by rw [← ptL_row]; have h_ := hsj; rwa [show j = Wn by omega] at h_⟩) rfl
  ·
    rintro D26_ xs_ ⟨k, os, Ao, gw, ko, co⟩ hS_ hinv25_
    replace hinv25_ : k = xs_.length ∧ SolI (difB W H px px') os (ptL W (k * Wn)) := hinv25_
    replace hS_ : RowsP Hn xs_ ∧ xs_.length = Hn := hS_
    refine cont_norm [(6, .pointer (some ⟨b3, 0, none⟩))] [markE D26_, .ro kb4 [.pointer (some ⟨m, 0, none⟩)] 43, .ro m [.int .i64 W, .int .i64 H, .slice (some ⟨r, 0, none⟩) n cap] 118, .gen (rdE (some ⟨r, 0, none⟩) r 0 n 1 (ivals .u32 px)), .gen (rowE (Ao) gw ko co 53 4 (rvals os) true), .cells b3 [.slice Ao ko co] 58 true, .cells b1 [.pointer (some ⟨m', 0, none⟩)] 43 true, .ro m' [.int .i64 W, .int .i64 H, .slice (some ⟨r', 0, none⟩) n' cap'] 118, .gen (rdE (some ⟨r', 0, none⟩) r' 0 n' 1 (ivals .u32 px'))] (by kernel_rfl) rfl ?_
    obtain ⟨hkp, hso⟩ := hinv25_
    have h1k_ : k = Hn := by rw [hkp]; exact hS_.2
    have h2k_ : ((Hn * Wn : Nat) : Int) = (n : Int) := by rw [Int.natCast_mul, hWn, hHn, hnum, Int.mul_comm]
    have hkH : k * Wn = n := by rw [h1k_]; omega
    rw [hkH] at hso
    refine cont_fact (F := (0 < ko → (Ao : Option Addr) = some ⟨gw, 0, none⟩) ∧ os.length = ko ∧ ko ≤ co ∧ co ≤ maxLen) (fun w hT => Row.factsR (hT.ok 4 _ rfl)) (fun hr27_ => ?_)
    obtain ⟨hr27_a, hr27_l, hr27_c, hr27_m⟩ := hr27_
    unfold maxLen at hr27_m
    have hol := hso.len
    have hpl_ : (ptL W n).length = n := by simp [ptL]
    refine blk_normal ?_
    refine then_normal ?_
    refine cont_seq ?_
    refine cont_region 4 rfl ?_
    refine bS [5] 1 3 [(84, .slice Ao ko co)] ?_
    refine cont_forget 5 rfl ?_
    refine cont_forget 5 rfl ?_
    refine pl_step 2 2 rfl rfl ?_
    refine call_gen (d := 85) (α := Option Addr × Nat × Nat × Nat) (fun x_ => .slice x_.1 x_.2.2.1 x_.2.2.2) (fun x_ => [.gen (rowE (x_.1) x_.2.1 x_.2.2.1 x_.2.2.2 53 4 (rvals (canR os)) true), markE D26_, .ro kb4 [.pointer (some ⟨m, 0, none⟩)] 43, .ro m [.int .i64 W, .int .i64 H, .slice (some ⟨r, 0, none⟩) n cap] 118, .gen (rdE (some ⟨r, 0, none⟩) r 0 n 1 (ivals .u32 px)), .gen (rowE (Ao) gw ko co 53 4 (rvals os) true), .ro m' [.int .i64 W, .int .i64 H, .slice (some ⟨r', 0, none⟩) n' cap'] 118, .gen (rdE (some ⟨r', 0, none⟩) r' 0 n' 1 (ivals .u32 px'))]) (fun x_ => True) (by kernel_rfl) (fun w hT => (regOf Ao gw 0 ko co os w (hT.viewRo (.cons (i := 4) rfl Vw.rowRd .nil) rfl) (by omega)).mono fun e w' ⟨A28, g29, k30, cp31, he_, ht_⟩ => ⟨(A28, g29, k30, cp31), he_, trivial, hT.news ht_ rfl⟩) ?_
    rintro ⟨A28, g29, k30, cp31⟩ hf32_
    refine cont_norm [(84, .slice Ao ko co), (85, .slice A28 k30 cp31)] [.gen (rowE (A28) g29 k30 cp31 53 4 (rvals (canR os)) true), markE D26_, .ro kb4 [.pointer (some ⟨m, 0, none⟩)] 43, .ro m [.int .i64 W, .int .i64 H, .slice (some ⟨r, 0, none⟩) n cap] 118, .gen (rdE (some ⟨r, 0, none⟩) r 0 n 1 (ivals .u32 px)), .gen (rowE (Ao) gw ko co 53 4 (rvals os) true), .ro m' [.int .i64 W, .int .i64 H, .slice (some ⟨r', 0, none⟩) n' cap'] 118, .gen (rdE (some ⟨r', 0, none⟩) r' 0 n' 1 (ivals .u32 px'))] (by kernel_rfl) rfl ?_
    refine cont_fact (F := (0 < k30 → (A28 : Option Addr) = some ⟨g29, 0, none⟩) ∧ (canR os).length = k30 ∧ k30 ≤ cp31 ∧ cp31 ≤ maxLen) (fun w hT => Row.factsR (hT.ok 0 _ rfl)) (fun hr33_ => ?_)
    obtain ⟨hr33_a, hr33_l, hr33_c, hr33_m⟩ := hr33_
    unfold maxLen at hr33_m
    refine bS [0, 0] 4 0 [(4, .slice A28 k30 cp31), (5, .int .i64 0)] ?_
    refine cont_done ?_
    refine then_normal ?_
    refine cont_ret ?_
    refine mark_end 1 rfl (.inl rfl) ?_
    refine cont_norm [(4, .slice A28 k30 cp31), (5, .int .i64 0)] [.gen (rowE (A28) g29 k30 cp31 53 4 (rvals (canR os)) true), objE D26_ (.deferred none), .ro kb4 [.pointer (some ⟨m, 0, none⟩)] 43, .ro m [.int .i64 W, .int .i64 H, .slice (some ⟨r, 0, none⟩) n cap] 118, .gen (rdE (some ⟨r, 0, none⟩) r 0 n 1 (ivals .u32 px)), .gen (rowE (Ao) gw ko co 53 4 (rvals os) true), .ro m' [.int .i64 W, .int .i64 H, .slice (some ⟨r', 0, none⟩) n' cap'] 118, .gen (rdE (some ⟨r', 0, none⟩) r' 0 n' 1 (ivals .u32 px'))] (by kernel_rfl) rfl ?_
    refine ret_two (.inl rfl) rfl 0 0 (.slice A28 k30 cp31) (.int .i64 0) (by kernel_rfl) (by kernel_rfl) (by kernel_rfl) (by kernel_rfl) (fun w hT => ?_)
    replace hT := hT.erase 7 (fun e h hw => by cases h; first | rfl | cases hw)
    replace hT := hT.erase 6 (fun e h hw => by cases h; first | rfl | cases hw)
    replace hT := hT.erase 5 (fun e h hw => by cases h; first | rfl | cases hw)
    replace hT := hT.erase 4 (fun e h hw => by cases h; first | rfl | cases hw)
    replace hT := hT.erase 3 (fun e h hw => by cases h; first | rfl | cases hw)
    replace hT := hT.erase 2 (fun e h hw => by cases h; first | rfl | cases hw)
    replace hT := hT.erase 1 (fun e h hw => by cases h; first | rfl | cases hw)
    rw [diff_same hw1 hnum hso] at hT
    exact ⟨_, _, _, _, rfl, hT⟩
  ·
    intro D_  c_ h_; exact h_.elim
  ·
    intro D_ id_ c_ h_; exact h_.elim

theorem naiveDiffN (m : Nat) (W H : Int) (r n cap : Nat) (px : List Int) (m' : Nat) (W' H' : Int) (r' n' cap' : Nat) (px' : List Int) (w : World) (hT0 : Tab w w [.ro m [.int .i64 W, .int .i64 H, .slice (some ⟨r, 0, none⟩) n cap] 118, .gen (rdE (some ⟨r, 0, none⟩) r 0 n 1 (ivals .u32 px)), .ro m' [.int .i64 W', .int .i64 H', .slice (some ⟨r', 0, none⟩) n' cap'] 118, .gen (rdE (some ⟨r', 0, none⟩) r' 0 n' 1 (ivals .u32 px'))]) (hcap : n ≤ cap) (hok : ImgOk W H n px) (hcap' : n' ≤ cap') (hok' : ImgOk W' H' n' px') (hne : H ≠ H') :
    Calls Try.prog 42 #[.pointer (some ⟨m, 0, none⟩), .pointer (some ⟨m', 0, none⟩)] w fun e w' => e = .returned (.tuple #[.slice none 0 0, .int .i64 1]) ∧ Below w.heap.size w w' := by
 refine enterM 86 [(0, .pointer (pB m)), (1, .pointer (some ⟨m', 0, none⟩))] [.ro m [iq W, iq H, .slice (pB r) n cap] 118, .gen (rdE (pB r) r 0 n 1 (ivals .u32 px)), .ro m' [iq W', iq H', .slice (some ⟨r', 0, none⟩) n' cap'] 118, .gen (rdE (some ⟨r', 0, none⟩) r' 0 n' 1 (ivals .u32 px'))] Try.func42 rfl Try.ntmps42 rfl (by kernel_rfl) hT0 ?_
 refine cont_seq ?_
 refine cont_region 3 rfl ?_
 refine batch1 [0, 0, 0] 3 0 (fun b1 => [(0, .pointer (pB m)), (3, .pointer (pB b1))]) (fun b1 => [.cells b1 [.pointer (some ⟨m', 0, none⟩)] 43 true, .ro m [iq W, iq H, .slice (pB r) n cap] 118, .gen (rdE (pB r) r 0 n 1 (ivals .u32 px)), .ro m' [iq W', iq H', .slice (some ⟨r', 0, none⟩) n' cap'] 118, .gen (rdE (some ⟨r', 0, none⟩) r' 0 n' 1 (ivals .u32 px'))]) rfl rfl [0, 3] (fun _ => rfl) (fun b1 => by kernel_rfl) (fun b1 => by kernel_rfl) (fun b1 => ?_)
 refine cont_done ?_
 refine then_normal ?_
 refine cont_seq ?_
 refine cont_seq ?_
 refine drawn_enter 5 [] rfl (by kernel_rfl) ?_
 refine takes 0 [] [(0, 0), (2, 0)] 3 [2, 0] [(0, .pointer (pB m)), (3, .pointer (pB b1)), (14, .pointer (pB m)), (16, .pointer (some ⟨m', 0, none⟩))] (by kernel_rfl) (pok_then (pok_then pok_np)) (by kernel_rfl) rfl rfl (by kernel_rfl) (by kernel_rfl) ?_
 refine drawn_one 1 2 rfl (by kernel_rfl) ?_
 refine call_pure (d := 15) (.agg #[iq 0, iq 0, iq W, iq H]) (by kernel_rfl) (fun w hT => imgBox m W H r n cap px  w ⟨hT.ok 1 _ rfl, hT.ok 2 _ rfl, by omega⟩ hok) ?_
 refine drawn_next 0 [] (by kernel_rfl) ?_
 refine drawn_one 3 1 rfl (by kernel_rfl) ?_
 refine call_pure (d := 17) (.agg #[iq 0, iq 0, iq W', iq H']) (by kernel_rfl) (fun w hT => imgBox m' W' H' r' n' cap' px'  w ⟨hT.ok 3 _ rfl, hT.ok 4 _ rfl, by omega⟩ hok') ?_
 refine drawn_next 0 [] (by kernel_rfl) ?_
 refine sem_take 0 [] 4 0 18 (bopS .neq 53 (.tmp 15) (.tmp 17) (.agg #[iq 0, iq 0, iq W, iq H]) (.agg #[iq 0, iq 0, iq W', iq H'])) (.bool (!(eqInts [0, 0, W, H] [0, 0, W', H']))) (by kernel_rfl) (pok_then (pok_then pok_np)) (by kernel_rfl) rfl (by kernel_rfl) (by kernel_rfl) (fun w hT => run_neS [0, 0, W, H] [0, 0, W', H'] (by kernel_rfl) (by kernel_rfl) (by kernel_rfl) (by kernel_rfl) rfl rfl w) ?_
 refine drawn_done (by kernel_rfl) ?_
 refine then_normal ?_
 refine cont_recast 18 (.bool (!(eqInts [0, 0, W, H] [0, 0, W', H']))) (.bool true) rfl (congrArg Value.bool (by simp [eqInts, hne])) ?_
 refine cont_true rfl ?_
 refine cont_seq ?_
 refine cont_region 2 rfl ?_
 refine bS [0, 0] 2 0 [(4, .slice none 0 0), (5, iq 1)] ?_
 refine cont_forget 0 rfl ?_
 refine cont_done ?_
 refine then_normal ?_
 refine cont_ret ?_
 refine then_ret ?_
 refine plain_end (.inl rfl) ?_
 refine ret_two (.inl rfl) rfl 0 0 (.slice none 0 0) (iq 1) (by kernel_rfl) (by kernel_rfl) (by kernel_rfl) (by kernel_rfl) (fun w hT => ?_)
 exact ⟨rfl, hT.post rfl⟩

theorem refDiff19 (W H : Int) (r n cap : Nat) (px : List Int) (r' n' cap' : Nat) (px' : List Int) (w : World) (hT0 : Tab w w [.gen (rdE (some ⟨r, 0, none⟩) r 0 n 1 (ivals .u32 px)), .gen (rdE (some ⟨r', 0, none⟩) r' 0 n' 1 (ivals .u32 px'))]) (hok : ImgOk W H n px) (hok' : ImgOk W H n' px') :
    Calls Try.prog 44 #[.agg #[.int .i64 W, .int .i64 H, .slice (some ⟨r, 0, none⟩) n cap], .agg #[.int .i64 W, .int .i64 H, .slice (some ⟨r', 0, none⟩) n' cap']] w fun e w' => ∃ (A_ : Option Addr) (g_ k_ cp_ : Nat), e = .returned (.slice A_ k_ cp_) ∧ Tab w w' [.gen (rowE (A_) g_ k_ cp_ 53 4 (rvals (canR (dfL W px px' n))) true)] := by
 have hw1 := hok.w1
 have hw2 := hok.w2
 have hh1 := hok.h1
 have hh2 := hok.h2
 have hnum := hok.num
 have hlen := hok.len
 have hle := hok.le
 have hnum' := hok'.num
 have hlen' := hok'.len
 refine enter 49 [(0, .agg #[iq W, iq H, .slice (pB r) n cap]), (1, .agg #[iq W, iq H, .slice (some ⟨r', 0, none⟩) n' cap'])] [.gen (rdE (pB r) r 0 n 1 (ivals .u32 px)), .gen (rdE (some ⟨r', 0, none⟩) r' 0 n' 1 (ivals .u32 px'))] Try.func44 rfl Try.ntmps44 rfl (by kernel_rfl) hT0 ?_
 refine cont_seq ?_
 refine cont_region 3 rfl ?_
 refine batch2 [0, 0, 0] 3 0 (fun b1 b2 => [(2, .pointer (pB b1)), (3, .pointer (pB b2))]) (fun b1 b2 => [.cells b2 [iq W, iq H, .slice (some ⟨r', 0, none⟩) n' cap'] 41 true, .cells b1 [iq W, iq H, .slice (pB r) n cap] 41 true, .gen (rdE (pB r) r 0 n 1 (ivals .u32 px)), .gen (rdE (some ⟨r', 0, none⟩) r' 0 n' 1 (ivals .u32 px'))]) rfl rfl [2, 3] (fun _ _ => rfl) (fun b1 b2 => by kernel_rfl) (fun b1 b2 => by kernel_rfl) (fun b1 b2 => ?_)
 refine cont_done ?_
 refine then_normal ?_
 refine cont_seq ?_
 refine cont_region 1 rfl ?_
 refine bS [0] 1 0 [(2, .pointer (pB b1)), (3, .pointer (pB b2)), (5, .slice none 0 0)] ?_
 refine cont_done ?_
 refine then_normal ?_
 refine cont_seq ?_
 refine cont_seq ?_
 refine cont_region 1 rfl ?_
 refine bS [0] 1 0 [(2, .pointer (pB b1)), (3, .pointer (pB b2)), (5, .slice none 0 0), (6, iq 0)] ?_
 refine cont_done ?_
 refine then_normal ?_
 refine cont_block ?_
 refine cont_nilrow 53 4 ?_
 refine cont_norm [(2, .pointer (pB b1)), (3, .pointer (pB b2)), (5, .slice none 0 0), (6, iq 0)] _ (by kernel_rfl) rfl ?_
 refine cont_rowEqR 0 ([]) (dfL W px px' 0) rfl rfl ?_
 refine cont_loop (α := Nat × Option Addr × Nat × Nat × Nat) (fun x_ : Nat × Option Addr × Nat × Nat × Nat => x_.1 ≤ n) (fun x_ : Nat × Option Addr × Nat × Nat × Nat => [(2, .pointer (pB b1)), (3, .pointer (pB b2)), (5, .slice x_.2.1 x_.2.2.2.1 x_.2.2.2.2), (6, iq ((x_.1 : Nat) : Int))]) (fun x_ : Nat × Option Addr × Nat × Nat × Nat => [.gen (rowE (x_.2.1) x_.2.2.1 x_.2.2.2.1 x_.2.2.2.2 53 4 (rvals (dfL W px px' x_.1)) true), .cells b2 [iq W, iq H, .slice (some ⟨r', 0, none⟩) n' cap'] 41 true, .cells b1 [iq W, iq H, .slice (pB r) n cap] 41 true, .gen (rdE (pB r) r 0 n 1 (ivals .u32 px)), .gen (rdE (some ⟨r', 0, none⟩) r' 0 n' 1 (ivals .u32 px'))]) (fun x_ : Nat × Option Addr × Nat × Nat × Nat => n - x_.1) (0, none, 0, 0, 0) (show (0) ≤ n from (by omega)) (by kernel_rfl) (by kernel_rfl) ?_
 rintro ⟨i, A, g, k, cp⟩ hinv4_
 replace hinv4_ : i ≤ n := hinv4_
 refine cont_norm [(2, .pointer (pB b1)), (3, .pointer (pB b2)), (5, .slice A k cp), (6, iq ((i : Nat) : Int))] _ (by kernel_rfl) rfl ?_
 have hi := hinv4_
 have hem := emod_range i hw1
 have hpl := dfL_len (px := px) (px' := px') hw1 hnum hi
 have hbx : i < n → _ := fun h_ => box_bd (W := W) (H := H) (i := i) ⟨hw1, hw2⟩ ⟨hh1, hh2⟩ hnum h_
 refine cont_seq ?_
 refine cont_seq ?_
 refine cont_region 5 rfl ?_
 refine bS [0, 0, 2, 0, 0] 5 0 [(2, .pointer (pB b1)), (3, .pointer (pB b2)), (5, .slice A k cp), (6, iq ((i : Nat) : Int)), (11, .bool (decide (((i : Nat) : Int) < (n : Int))))] ?_
 refine cont_done ?_
 refine then_normal ?_
 refine cont_split 11 (decide (((i : Nat) : Int) < (n : Int))) rfl (fun c5_ => ?_) (fun c5_ => ?_)
 ·
  replace c5_ := of_decide_eq_true c5_
  refine cont_true rfl ?_
  refine cont_skip ?_
  refine then_normal ?_
  refine cont_seq ?_
  refine cont_block ?_
  refine cont_seq ?_
  obtain ⟨hb0, hb1, hb2, hb3⟩ := hbx (by omega)
  refine drawn_enter 11 [] rfl (by kernel_rfl) ?_
  refine takes 0 [] [(0, 0), (2, 0), (5, 0), (7, 0), (1, 2), (6, 1)] 5 [6, 1, 7, 5, 2, 0] [(2, .pointer (pB b1)), (3, .pointer (pB b2)), (5, .slice A k cp), (6, iq ((i : Nat) : Int)), (15, .slice (pB r) n cap), (16, iq ((i : Nat) : Int)), (20, .slice (some ⟨r', 0, none⟩) n' cap'), (21, iq ((i : Nat) : Int))] (by kernel_rfl) (pok_then (pok_blk (pok_then (pok_then (pok_blk (pok_then pok_body)))))) (by kernel_rfl) rfl rfl (by kernel_rfl) (by kernel_rfl) ?_
  refine sem_take 0 [] 3 4 17 (Instr.indexAt 39 (.slice (pB r) n cap) (iq ((i : Nat) : Int))) (.pointer (some ⟨r, (i : Nat), none⟩)) (by kernel_rfl) (pok_then (pok_blk (pok_then (pok_then (pok_blk (pok_then pok_body)))))) (by kernel_rfl) rfl (by kernel_rfl) (by kernel_rfl) (fun w hT => run_indexAt (e := 24) (sz := 1) _ (by kernel_rfl) (by kernel_rfl) (by omega) (by omega) (by omega) w) ?_
  refine sem_take 0 [] 4 3 18 (Instr.loadAt 24 (.pointer (some ⟨r, (i : Nat), none⟩))) (.int .u32 (px.getD (i : Nat) 0)) (by kernel_rfl) (pok_then (pok_blk (pok_then (pok_then (pok_blk (pok_then pok_body)))))) (by kernel_rfl) rfl (by kernel_rfl) (by kernel_rfl) (fun w hT => run_load1 (by kernel_rfl) (Rd.cell0 (hT 3 _ rfl) ((i : Nat)) _ (ivals_get (by omega)))) ?_
  refine sem_take 0 [] 8 2 22 (Instr.indexAt 39 (.slice (some ⟨r', 0, none⟩) n' cap') (iq ((i : Nat) : Int))) (.pointer (some ⟨r', (i : Nat), none⟩)) (by kernel_rfl) (pok_then (pok_blk (pok_then (pok_then (pok_blk (pok_then pok_body)))))) (by kernel_rfl) rfl (by kernel_rfl) (by kernel_rfl) (fun w hT => run_indexAt (e := 24) (sz := 1) _ (by kernel_rfl) (by kernel_rfl) (by omega) (by omega) (by omega) w) ?_
  refine sem_take 0 [] 9 1 23 (Instr.loadAt 24 (.pointer (some ⟨r', (i : Nat), none⟩))) (.int .u32 (px'.getD (i : Nat) 0)) (by kernel_rfl) (pok_then (pok_blk (pok_then (pok_then (pok_blk (pok_then pok_body)))))) (by kernel_rfl) rfl (by kernel_rfl) (by kernel_rfl) (fun w hT => run_load1 (by kernel_rfl) (Rd.cell0 (hT 4 _ rfl) ((i : Nat)) _ (ivals_get (by omega)))) ?_
  refine takes 0 [] [(10, 0)] 0 [10, 9, 8, 4, 3, 6, 1, 7, 5, 2, 0] [(2, .pointer (pB b1)), (3, .pointer (pB b2)), (5, .slice A k cp), (6, iq ((i : Nat) : Int)), (24, .bool ((px.getD (i : Nat) 0) != (px'.getD (i : Nat) 0)))] (by kernel_rfl) (pok_then (pok_blk (pok_then (pok_then (pok_blk (pok_then pok_body)))))) (by kernel_rfl) rfl rfl (by kernel_rfl) (by kernel_rfl) ?_
  refine drawn_done (by kernel_rfl) ?_
  refine then_normal ?_
  refine cont_split 24 ((px.getD (i : Nat) 0) != (px'.getD (i : Nat) 0)) rfl (fun c6_ => ?_) (fun c6_ => ?_)
  ·
   replace c6_ := ne_of_bne c6_
   have hB_ : px.getD i 0 ≠ px'.getD i 0 := by simpa using c6_
   refine cont_true rfl ?_
   refine cont_fact (F := (0 < k → (A : Option Addr) = pB g) ∧ (dfL W px px' i).length = k ∧ k ≤ cp ∧ cp ≤ maxLen) (fun w hT => Row.factsR (hT.ok 0 _ rfl)) (fun hr7_ => ?_)
   obtain ⟨hr7_a, hr7_l, hr7_c, hr7_m⟩ := hr7_
   unfold maxLen at hr7_m
   refine drawn_enter 23 [0] rfl (by kernel_rfl) ?_
   refine takes 0 [0] [(0, 0), (1, 0), (2, 0), (5, 0), (6, 0), (9, 0), (10, 0), (14, 0), (15, 0), (3, 2), (7, 2), (11, 2), (16, 2)] 10 [16, 11, 7, 3, 15, 14, 10, 9, 6, 5, 2, 1, 0] [(2, .pointer (pB b1)), (3, .pointer (pB b2)), (5, .slice A k cp), (6, iq ((i : Nat) : Int)), (25, .slice A k cp), (26, iq ((i : Nat) : Int)), (28, iq W), (30, iq ((i : Nat) : Int)), (32, iq W), (34, iq ((i : Nat) : Int)), (36, iq W), (39, iq ((i : Nat) : Int)), (41, iq W)] (by kernel_rfl) (pok_blk (pok_then (pok_then (pok_blk (pok_then pok_body))))) (by kernel_rfl) rfl rfl (by kernel_rfl) (by kernel_rfl) ?_
   refine sem_take 0 [0] 4 9 29 (bopS .rem 3 (.tmp 26) (.tmp 28) (iq ((i : Nat) : Int)) (iq W)) (iq (((i : Nat) : Int).tmod W)) (by kernel_rfl) (pok_blk (pok_then (pok_then (pok_blk (pok_then pok_body))))) (by kernel_rfl) rfl (by kernel_rfl) (by kernel_rfl) (fun w hT => run_rem (by omega) w) ?_
   refine cont_recast 29 (iq (((i : Nat) : Int).tmod W)) (iq (((i : Nat) : Int) % W)) rfl (tmodI (by omega)) ?_
   refine sem_take 0 [0] 8 8 33 (bopS .quo 3 (.tmp 30) (.tmp 32) (iq ((i : Nat) : Int)) (iq W)) (iq (IntKind.i64.wrap (((i : Nat) : Int).tdiv W))) (by kernel_rfl) (pok_blk (pok_then (pok_then (pok_blk (pok_then pok_body))))) (by kernel_rfl) rfl (by kernel_rfl) (by kernel_rfl) (fun w hT => run_quo (by omega) w) ?_
   refine cont_recast 33 (iq (IntKind.i64.wrap (((i : Nat) : Int).tdiv W))) (iq (((i : Nat) : Int) / W)) rfl (tdivI (by omega) (by omega) (by omega)) ?_
   refine sem_take 0 [0] 12 7 37 (bopS .rem 3 (.tmp 34) (.tmp 36) (iq ((i : Nat) : Int)) (iq W)) (iq (((i : Nat) : Int).tmod W)) (by kernel_rfl) (pok_blk (pok_then (pok_then (pok_blk (pok_then pok_body))))) (by kernel_rfl) rfl (by kernel_rfl) (by kernel_rfl) (fun w hT => run_rem (by omega) w) ?_
   refine cont_recast 37 (iq (((i : Nat) : Int).tmod W)) (iq (((i : Nat) : Int) % W)) rfl (tmodI (by omega)) ?_
   refine takes 0 [0] [(13, 0)] 6 [13, 12, 8, 4, 16, 11, 7, 3, 15, 14, 10, 9, 6, 5, 2, 1, 0] [(2, .pointer (pB b1)), (3, .pointer (pB b2)), (5, .slice A k cp), (6, iq ((i : Nat) : Int)), (25, .slice A k cp), (29, iq (((i : Nat) : Int) % W)), (33, iq (((i : Nat) : Int) / W)), (38, iq (IntKind.i64.wrap ((((i : Nat) : Int) % W) + 1))), (39, iq ((i : Nat) : Int)), (41, iq W)] (by kernel_rfl) (pok_blk (pok_then (pok_then (pok_blk (pok_then pok_body))))) (by kernel_rfl) rfl rfl (by kernel_rfl) (by kernel_rfl) ?_
   refine cont_recast 38 (iq (IntKind.i64.wrap ((((i : Nat) : Int) % W) + 1))) (iq ((((i : Nat) : Int) % W) + 1)) rfl (wrapI (by omega) (by omega)) ?_
   refine sem_take 0 [0] 17 5 42 (bopS .quo 3 (.tmp 39) (.tmp 41) (iq ((i : Nat) : Int)) (iq W)) (iq (IntKind.i64.wrap (((i : Nat) : Int).tdiv W))) (by kernel_rfl) (pok_blk (pok_then (pok_then (pok_blk (pok_then pok_body))))) (by kernel_rfl) rfl (by kernel_rfl) (by kernel_rfl) (fun w hT => run_quo (by omega) w) ?_
   refine cont_recast 42 (iq (IntKind.i64.wrap (((i : Nat) : Int).tdiv W))) (iq (((i : Nat) : Int) / W)) rfl (tdivI (by omega) (by omega) (by omega)) ?_
   refine takes 0 [0] [(18, 0)] 4 [18, 17, 13, 12, 8, 4, 16, 11, 7, 3, 15, 14, 10, 9, 6, 5, 2, 1, 0] [(2, .pointer (pB b1)), (3, .pointer (pB b2)), (5, .slice A k cp), (6, iq ((i : Nat) : Int)), (25, .slice A k cp), (29, iq (((i : Nat) : Int) % W)), (33, iq (((i : Nat) : Int) / W)), (38, iq ((((i : Nat) : Int) % W) + 1)), (43, iq (IntKind.i64.wrap ((((i : Nat) : Int) / W) + 1)))] (by kernel_rfl) (pok_blk (pok_then (pok_then (pok_blk (pok_then pok_body))))) (by kernel_rfl) rfl rfl (by kernel_rfl) (by kernel_rfl) ?_
   refine cont_recast 43 (iq (IntKind.i64.wrap ((((i : Nat) : Int) / W) + 1))) (iq ((((i : Nat) : Int) / W) + 1)) rfl (wrapI (by omega) (by omega)) ?_
   refine takes 0 [0] [(19, 0)] 3 [19, 18, 17, 13, 12, 8, 4, 16, 11, 7, 3, 15, 14, 10, 9, 6, 5, 2, 1, 0] [(2, .pointer (pB b1)), (3, .pointer (pB b2)), (5, .slice A k cp), (6, iq ((i : Nat) : Int)), (25, .slice A k cp), (44, .agg #[iq (((i : Nat) : Int) % W), iq (((i : Nat) : Int) / W), iq ((((i : Nat) : Int) % W) + 1), iq ((((i : Nat) : Int) / W) + 1)])] (by kernel_rfl) (pok_blk (pok_then (pok_then (pok_blk (pok_then pok_body))))) (by kernel_rfl) rfl rfl (by kernel_rfl) (by kernel_rfl) ?_
   refine drawn_one 20 2 rfl (by kernel_rfl) ?_
   refine one_step1 0 (fun b8 => [(2, .pointer (pB b1)), (3, .pointer (pB b2)), (5, .slice A k cp), (6, iq ((i : Nat) : Int)), (25, .slice A k cp), (45, .slice (pB b8) 1 1)]) (fun b8 => [.cells b8 [iq (((i : Nat) : Int) % W), iq (((i : Nat) : Int) / W), iq ((((i : Nat) : Int) % W) + 1), iq ((((i : Nat) : Int) / W) + 1)] 53 true, .gen (rowE (A) g k cp 53 4 (rvals (dfL W px px' i)) true), .cells b2 [iq W, iq H, .slice (some ⟨r', 0, none⟩) n' cap'] 41 true, .cells b1 [iq W, iq H, .slice (pB r) n cap] 41 true, .gen (rdE (pB r) r 0 n 1 (ivals .u32 px)), .gen (rdE (some ⟨r', 0, none⟩) r' 0 n' 1 (ivals .u32 px'))]) (fun b8 => by kernel_rfl) (fun b8 => by kernel_rfl) (fun b8 => ?_)
   refine drawn_next 1 [0] (by kernel_rfl) ?_
   refine drawn_one 21 1 rfl (by kernel_rfl) ?_
   refine sem_stepW (α := Option Addr × Nat × Nat) 46 (Builtin.append_ #[58, 58] 58 #[.slice A k cp, .slice (pB b8) 1 1]) (fun x_ => .slice x_.1 (k + 1) x_.2.2) (fun x_ => [.cells b8 [iq (((i : Nat) : Int) % W), iq (((i : Nat) : Int) / W), iq ((((i : Nat) : Int) % W) + 1), iq ((((i : Nat) : Int) / W) + 1)] 53 true, .gen (rowE (x_.1) x_.2.1 (k + 1) x_.2.2 53 4 (rvals ((dfL W px px' i) ++ [(⟨((i : Nat) : Int) % W, ((i : Nat) : Int) / W, (((i : Nat) : Int) % W) + 1, (((i : Nat) : Int) / W) + 1⟩ : Rect)])) true), .cells b2 [iq W, iq H, .slice (some ⟨r', 0, none⟩) n' cap'] 41 true, .cells b1 [iq W, iq H, .slice (pB r) n cap] 41 true, .gen (rdE (pB r) r 0 n 1 (ivals .u32 px)), .gen (rdE (some ⟨r', 0, none⟩) r' 0 n' 1 (ivals .u32 px'))]) (fun _ => True) (by kernel_rfl) (fun w hT => append_own (n' := (k + 1)) (z := .agg #[iq 0, iq 0, iq 0, iq 0]) hT (i := 1) (bytes := 32) rfl (by kernel_rfl) (by kernel_rfl) rfl (by decide) (by decide) (Rd.ofCells (vals := rvals [(⟨((i : Nat) : Int) % W, ((i : Nat) : Int) / W, (((i : Nat) : Int) % W) + 1, (((i : Nat) : Int) / W) + 1⟩ : Rect)]) (hT.ok 0 _ rfl) rfl rfl) (rvals_one [(⟨((i : Nat) : Int) % W, ((i : Nat) : Int) / W, (((i : Nat) : Int) % W) + 1, (((i : Nat) : Int) / W) + 1⟩ : Rect)]) (by omega) (rvals_append (dfL W px px' i) [(⟨((i : Nat) : Int) % W, ((i : Nat) : Int) / W, (((i : Nat) : Int) % W) + 1, (((i : Nat) : Int) / W) + 1⟩ : Rect)]) rfl) ?_
   rintro ⟨A9, g9, cp9⟩ -
   refine cont_norm [(2, .pointer (pB b1)), (3, .pointer (pB b2)), (5, .slice A k cp), (6, iq ((i : Nat) : Int)), (25, .slice A k cp), (45, .slice (pB b8) 1 1), (46, .slice A9 (k + 1) cp9)] _ (by kernel_rfl) rfl ?_
   refine cont_fact (F := (0 < (k + 1) → (A9 : Option Addr) = pB g9) ∧ ((dfL W px px' i) ++ [(⟨((i : Nat) : Int) % W, ((i : Nat) : Int) / W, (((i : Nat) : Int) % W) + 1, (((i : Nat) : Int) / W) + 1⟩ : Rect)]).length = (k + 1) ∧ (k + 1) ≤ cp9 ∧ cp9 ≤ maxLen) (fun w hT => Row.factsR (hT.ok 1 _ rfl)) (fun hr10_ => ?_)
   obtain ⟨hr10_a, hr10_l, hr10_c, hr10_m⟩ := hr10_
   unfold maxLen at hr10_m
   refine drawn_next 1 [0] (by kernel_rfl) ?_
   refine takes 1 [0] [(22, 0)] 0 [22, 21, 20, 19, 18, 17, 13, 12, 8, 4, 16, 11, 7, 3, 15, 14, 10, 9, 6, 5, 2, 1, 0] [(2, .pointer (pB b1)), (3, .pointer (pB b2)), (5, .slice A9 (k + 1) cp9), (6, iq ((i : Nat) : Int))] (by kernel_rfl) (pok_blk (pok_then (pok_then (pok_blk (pok_then pok_body))))) (by kernel_rfl) rfl rfl (by kernel_rfl) (by kernel_rfl) ?_
   refine drawn_done (by kernel_rfl) ?_
   refine blk_normal ?_
   refine then_normal ?_
   refine cont_region 3 rfl ?_
   refine bS [0, 0] 2 1 [(2, .pointer (pB b1)), (3, .pointer (pB b2)), (5, .slice A9 (k + 1) cp9), (13, iq (IntKind.i64.wrap (((i : Nat) : Int) + 1)))] ?_
   refine cont_recast 13 (iq (IntKind.i64.wrap (((i : Nat) : Int) + 1))) (iq (((i : Nat) : Int) + 1)) rfl (wrapI (by omega) (by omega)) ?_
   refine cont_forget 0 rfl ?_
   refine bS [0] 3 0 [(2, .pointer (pB b1)), (3, .pointer (pB b2)), (5, .slice A9 (k + 1) cp9), (6, iq (((i : Nat) : Int) + 1))] ?_
   refine cont_done ?_
   refine then_normal ?_
   refine cont_rowEqR 0 ((dfL W px px' i) ++ [(⟨((i : Nat) : Int) % W, ((i : Nat) : Int) / W, (((i : Nat) : Int) % W) + 1, (((i : Nat) : Int) / W) + 1⟩ : Rect)]) (dfL W px px' (i + 1)) rfl (dfL_yes hB_) ?_
   refine cont_again (i + 1, A9, g9, (k + 1), cp9) (show (i + 1) ≤ n from (by omega)) (show n - (i + 1) < n - i from by omega) (by kernel_rfl) (by kernel_rfl)
  replace c6_ := eq_of_bne_false c6_
  have hB_ : px.getD i 0 = px'.getD i 0 := by simpa using c6_
  refine cont_false rfl ?_
  refine cont_skip ?_
  refine blk_normal ?_
  refine then_normal ?_
  refine cont_region 3 rfl ?_
  refine bS [0, 0] 2 1 [(2, .pointer (pB b1)), (3, .pointer (pB b2)), (5, .slice A k cp), (13, iq (IntKind.i64.wrap (((i : Nat) : Int) + 1)))] ?_
  refine cont_recast 13 (iq (IntKind.i64.wrap (((i : Nat) : Int) + 1))) (iq (((i : Nat) : Int) + 1)) rfl (wrapI (by omega) (by omega)) ?_
  refine bS [0] 3 0 [(2, .pointer (pB b1)), (3, .pointer (pB b2)), (5, .slice A k cp), (6, iq (((i : Nat) : Int) + 1))] ?_
  refine cont_done ?_
  refine then_normal ?_
  refine cont_rowEqR 0 (dfL W px px' i) (dfL W px px' (i + 1)) rfl (dfL_no hB_) ?_
  refine cont_again (i + 1, A, g, k, cp) (show (i + 1) ≤ n from (by omega)) (show n - (i + 1) < n - i from by omega) (by kernel_rfl) (by kernel_rfl)
 replace c5_ := of_decide_eq_false c5_
 refine cont_false rfl ?_
 refine cont_exit ?_
 refine then_exit ?_
 refine then_exit ?_
 refine blk_exit ?_
 refine then_normal ?_
 refine cont_seq ?_
 refine cont_region 3 rfl ?_
 refine cont_fact (F := (0 < k → (A : Option Addr) = pB g) ∧ (dfL W px px' i).length = k ∧ k ≤ cp ∧ cp ≤ maxLen) (fun w hT => Row.factsR (hT.ok 0 _ rfl)) (fun hr11_ => ?_)
 obtain ⟨hr11_a, hr11_l, hr11_c, hr11_m⟩ := hr11_
 unfold maxLen at hr11_m
 refine bS [0] 1 2 [(47, .slice A k cp)] ?_
 refine cont_forget 1 rfl ?_
 refine cont_forget 1 rfl ?_
 refine pl_step 2 1 rfl rfl ?_
 refine call_gen (d := 48) (α := Option Addr × Nat × Nat × Nat) (fun x_ => .slice x_.1 x_.2.2.1 x_.2.2.2) (fun x_ => [.gen (rowE (x_.1) x_.2.1 x_.2.2.1 x_.2.2.2 53 4 (rvals (canR (dfL W px px' i))) true), .gen (rowE (A) g k cp 53 4 (rvals (dfL W px px' i)) true), .gen (rdE (pB r) r 0 n 1 (ivals .u32 px)), .gen (rdE (some ⟨r', 0, none⟩) r' 0 n' 1 (ivals .u32 px'))]) (fun x_ => True) (by kernel_rfl) (fun w hT => (refOf A g 0 k cp (dfL W px px' i) w (hT.viewRo (.cons (i := 0) rfl Vw.rowRd .nil) rfl) (by omega)).mono fun e w' ⟨A12, g13, k14, cp15, he_, ht_⟩ => ⟨(A12, g13, k14, cp15), he_, trivial, hT.news ht_ rfl⟩) ?_
 rintro ⟨A12, g13, k14, cp15⟩ hf16_
 refine cont_norm [(47, .slice A k cp), (48, .slice A12 k14 cp15)] _ (by kernel_rfl) rfl ?_
 refine cont_fact (F := (0 < k14 → (A12 : Option Addr) = pB g13) ∧ (canR (dfL W px px' i)).length = k14 ∧ k14 ≤ cp15 ∧ cp15 ≤ maxLen) (fun w hT => Row.factsR (hT.ok 0 _ rfl)) (fun hr17_ => ?_)
 obtain ⟨hr17_a, hr17_l, hr17_c, hr17_m⟩ := hr17_
 unfold maxLen at hr17_m
 refine bS [0] 3 0 [(4, .slice A12 k14 cp15)] ?_
 refine cont_done ?_
 refine then_normal ?_
 refine cont_ret ?_
 refine ret_one (.inl rfl) rfl 0 (.slice A12 k14 cp15) (by kernel_rfl) (by kernel_rfl) (fun w hT => ?_)
 replace hT := hT.erase 3 (fun e h hw => by cases h; first | rfl | cases hw)
 replace hT := hT.erase 2 (fun e h hw => by cases h; first | rfl | cases hw)
 replace hT := hT.erase 1 (fun e h hw => by cases h; first | rfl | cases hw)
 have hin : i = n := by omega
 subst hin
 exact ⟨_, _, _, _, rfl, hT⟩

end Go.Proofs.Ytlfahohbkgdabaa

