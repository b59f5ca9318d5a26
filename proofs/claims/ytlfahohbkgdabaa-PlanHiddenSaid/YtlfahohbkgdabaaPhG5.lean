/- Texts of this proof's own, put together: what each holds is told ahead of it. -/
import Derived.Test.YtlfahohbkgdabaaPhG4
import Derived.Test.YtlfahohbkgdabaaPhG1
import Derived.Test.YtlfahohbkgdabaaProg
import Derived.Test.YtlfahohbkgdabaaPhG0
import Derived.RangeFuncSeq
import Derived.Test.YtlfahohbkgdabaaPhG3
import Derived.LaidEqlPtr
set_option linter.unusedSimpArgs false
set_option linter.unusedVariables false
namespace Go.Proofs.Ytlfahohbkgdabaa
open Go Go.RowKit
structure TS where
  W : Int
  H : Int
  r : Nat
  n : Nat
  cap : Nat
  px : List Int
  X : Int
  Y : Int
  s : Int
  al : Int
  ca : Int
  cb : Int
  cc : Int
  cd : Int
  A : Option Addr
  g : Nat
  k : Nat
  cp : Nat
  op : List Rect
instance : Inhabited TS := ⟨⟨0, 0, 0, 0, 0, [], 0, 0, 0, 0, 0, 0, 0, 0, none, 0, 0, 0, []⟩⟩
def TS.cells (t : TS) : List Value := [.bool true, .int .i64 t.W, .int .i64 t.H, .slice (some ⟨t.r, 0, none⟩) t.n t.cap, .int .i64 t.X, .int .i64 t.Y, .int .i64 t.s, .int .i64 t.al, .int .i64 t.ca, .int .i64 t.cb, .int .i64 t.cc, .int .i64 t.cd, .slice t.A t.k t.cp, .string ⟨#[]⟩]
theorem TS.size (t : TS) : (TS.cells t).length = 14 := rfl
theorem TS.one : ∀ a : TS, ∀ u ∈ TS.cells a, u.oneCell' = true := by
  intro a u hu
  simp only [TS.cells, List.mem_cons, List.not_mem_nil, or_false] at hu
  rcases hu with rfl | rfl | rfl | rfl | rfl | rfl | rfl | rfl | rfl | rfl | rfl | rfl | rfl | rfl <;> rfl
def TS.pxG (t : TS) : GenEnt := rdE (some ⟨t.r, 0, none⟩) t.r 0 t.n 1 (ivals .u32 t.px)
def TS.opG (t : TS) : GenEnt := rdE t.A t.g 0 t.k 4 (rvals t.op)
def TS.pxs (l : List TS) (i : Nat) : GenEnt := (dget l i).pxG
def TS.ops (l : List TS) (i : Nat) : GenEnt := (dget l i).opG
theorem TS.pxs_app {l : List TS} {t : TS} {m : Nat} (h : l.length = m) : (∀ k, k < m → TS.pxs (l ++ [t]) k = TS.pxs l k) ∧ TS.pxs (l ++ [t]) m = t.pxG :=
  ⟨fun k hk => by unfold TS.pxs; rw [dget_app (by omega)], by unfold TS.pxs; rw [dget_end h]⟩
theorem TS.ops_app {l : List TS} {t : TS} {m : Nat} (h : l.length = m) : (∀ k, k < m → TS.ops (l ++ [t]) k = TS.ops l k) ∧ TS.ops (l ++ [t]) m = t.opG :=
  ⟨fun k hk => by unfold TS.ops; rw [dget_app (by omega)], by unfold TS.ops; rw [dget_end h]⟩
def SolR (W : Int) (px : List Int) (r : Rect) : Prop := ∃ i : Nat, i < px.length ∧ r = ⟨(i : Int) % W, (i : Int) / W, (i : Int) % W + 1, (i : Int) / W + 1⟩ ∧ pa (px.getD i 0) = 255
structure TS.Ok (t : TS) : Prop where
  img : ImgOk t.W t.H t.n t.px
  may : AllMay t.px
  w16 : t.W ≤ 16
  h16 : t.H ≤ 16
  s_ : 1 ≤ t.s ∧ t.s ≤ 3
  x_ : -6 ≤ t.X ∧ t.X ≤ 17
  y_ : -6 ≤ t.Y ∧ t.Y ≤ 17
  a_ : 0 ≤ t.al ∧ t.al ≤ 255
  clip : R64 ⟨t.ca, t.cb, t.cc, t.cd⟩
  opq : ∃ l : List Rect, t.op = canR l ∧ l.length ≤ 65536 ∧ ∀ r ∈ l, SolR t.W t.px r
structure IT where
  b : Nat
  q : Nat
  t : TS
instance : Inhabited IT := ⟨⟨0, 0, default⟩⟩
def IT.cells (x : IT) : List Value := [.int .i64 0, .int .i64 0, .pointer (some ⟨x.b, 0, none⟩), .int .i64 x.t.X, .int .i64 x.t.Y, .int .i64 x.t.s, .int .i64 x.t.al, .int .i64 x.t.ca, .int .i64 x.t.cb, .int .i64 x.t.cc, .int .i64 x.t.cd, .slice x.t.A x.t.k x.t.cp, .string ⟨#[]⟩, .int .i64 0]
theorem IT.size (x : IT) : (IT.cells x).length = 14 := rfl
theorem IT.one : ∀ a : IT, ∀ u ∈ IT.cells a, u.oneCell' = true := by
  intro a u hu
  simp only [IT.cells, List.mem_cons, List.not_mem_nil, or_false] at hu
  rcases hu with rfl | rfl | rfl | rfl | rfl | rfl | rfl | rfl | rfl | rfl | rfl | rfl | rfl | rfl <;> rfl
def IT.hdG (tI : TypeId) (x : IT) : GenEnt := roE x.b [.int .i64 x.t.W, .int .i64 x.t.H, .slice (some ⟨x.q, 0, none⟩) x.t.n x.t.n] tI
def IT.pxG (x : IT) : GenEnt := rdE (some ⟨x.q, 0, none⟩) x.q 0 x.t.n 1 (ivals .u32 x.t.px)
def IT.hds (tI : TypeId) (l : List IT) (i : Nat) : GenEnt := (dget l i).hdG tI
def IT.pxs (l : List IT) (i : Nat) : GenEnt := (dget l i).pxG
theorem IT.hds_app {tI : TypeId} {l : List IT} {t : IT} {m : Nat} (h : l.length = m) : (∀ k, k < m → IT.hds tI (l ++ [t]) k = IT.hds tI l k) ∧ IT.hds tI (l ++ [t]) m = t.hdG tI :=
  ⟨fun k hk => by unfold IT.hds; rw [dget_app (by omega)], by unfold IT.hds; rw [dget_end h]⟩
theorem IT.pxs_app {l : List IT} {t : IT} {m : Nat} (h : l.length = m) : (∀ k, k < m → IT.pxs (l ++ [t]) k = IT.pxs l k) ∧ IT.pxs (l ++ [t]) m = t.pxG :=
  ⟨fun k hk => by unfold IT.pxs; rw [dget_app (by omega)], by unfold IT.pxs; rw [dget_end h]⟩
theorem dget_mapT {its : List IT} {ts : List TS} (h : its.map (·.t) = ts) {i : Nat} (hi : i < its.length) : (dget its i).t = dget ts i := by
  subst h
  unfold dget
  rw [List.getD_eq_getElem?_getD, List.getD_eq_getElem?_getD, List.getElem?_map, List.getElem?_eq_getElem hi]; rfl
theorem map_take {its : List IT} {ts : List TS} {x : IT} {i : Nat} (h : its.map (·.t) = ts.take i) (hi : i < ts.length) (hx : x.t = dget ts i) : (its ++ [x]).map (·.t) = ts.take (i + 1) := by
  rw [List.map_append, h, List.take_add_one, List.getElem?_eq_getElem hi]
  simp only [List.map_cons, List.map_nil, Option.toList_some]
  rw [hx]
  unfold dget
  rw [List.getD_eq_getElem?_getD, List.getElem?_eq_getElem hi]; rfl
theorem map_len {its : List IT} {ts : List TS} {i : Nat} (h : its.map (·.t) = ts.take i) (hi : i ≤ ts.length) : its.length = i := by
  have := congrArg List.length h
  rw [List.length_map, List.length_take] at this
  omega
theorem okIT {its : List IT} {ts : List TS} (h : its.map (·.t) = ts) (hok : ∀ t ∈ ts, TS.Ok t) : ∀ x ∈ its, TS.Ok x.t := fun x hx => hok _ (by rw [← h]; exact List.mem_map.2 ⟨x, hx, rfl⟩)
end Go.Proofs.Ytlfahohbkgdabaa
namespace Go.Proofs.Ytlfahohbkgdabaa
open Go Go.RowKit
set_option maxRecDepth 100000
set_option maxHeartbeats 8000000
structure V17 where
  x0 : Bool
  x1 : Int
  x2 : Int
  A3 : Option Addr
  g3 : Nat
  o3 : Nat
  m3 : Nat
  k3 : Nat
  x3 : List Int
  x4 : Int
  x5 : Int
  x6 : Int
  x7 : Int
  x8 : Int
  x9 : Int
  x10 : Int
  x11 : Int
  x12 : Int
  x13 : Int
  A14 : Option Addr
  g14 : Nat
  o14 : Nat
  m14 : Nat
  k14 : Nat
  x14 : List Int
  A15 : Option Addr
  g15 : Nat
  o15 : Nat
  m15 : Nat
  k15 : Nat
  x15 : List Rect
instance : Inhabited V17 := ⟨⟨false, 0, 0, none, 0, 0, 0, 0, [], 0, 0, 0, 0, 0, 0, 0, 0, 0, 0, none, 0, 0, 0, 0, [], none, 0, 0, 0, 0, []⟩⟩
def V17.cells (d : V17) : List Value := [.bool d.x0, iQ d.x1, iQ d.x2, .slice d.A3 d.m3 d.k3, iQ d.x4, iQ d.x5, iQ d.x6, iQ d.x7, iQ d.x8, iQ d.x9, iQ d.x10, iQ d.x11, iQ d.x12, iQ d.x13, .slice d.A14 d.m14 d.k14, .slice d.A15 d.m15 d.k15]
theorem V17.size (d : V17) : (V17.cells d).length = 16 := rfl
structure V17.Good (w : World) (d : V17) : Prop where
  w1 : -9223372036854775808 ≤ d.x1 ∧ d.x1 ≤ 9223372036854775807
  w2 : -9223372036854775808 ≤ d.x2 ∧ d.x2 ≤ 9223372036854775807
  r3 : Rd w d.A3 d.g3 d.o3 d.m3 1 (cV d.x3)
  l3 : d.x3.length = d.m3
  c3 : d.m3 ≤ d.k3
  m3 : d.k3 ≤ maxLen
  b3 : ∀ x ∈ d.x3, 0 ≤ x ∧ x < 4294967296
  w4 : -9223372036854775808 ≤ d.x4 ∧ d.x4 ≤ 9223372036854775807
  w5 : -9223372036854775808 ≤ d.x5 ∧ d.x5 ≤ 9223372036854775807
  w6 : -9223372036854775808 ≤ d.x6 ∧ d.x6 ≤ 9223372036854775807
  w7 : -9223372036854775808 ≤ d.x7 ∧ d.x7 ≤ 9223372036854775807
  w8 : -9223372036854775808 ≤ d.x8 ∧ d.x8 ≤ 9223372036854775807
  w9 : -9223372036854775808 ≤ d.x9 ∧ d.x9 ≤ 9223372036854775807
  w10 : -9223372036854775808 ≤ d.x10 ∧ d.x10 ≤ 9223372036854775807
  w11 : -9223372036854775808 ≤ d.x11 ∧ d.x11 ≤ 9223372036854775807
  w12 : -9223372036854775808 ≤ d.x12 ∧ d.x12 ≤ 9223372036854775807
  w13 : -9223372036854775808 ≤ d.x13 ∧ d.x13 ≤ 9223372036854775807
  r14 : Rd w d.A14 d.g14 d.o14 d.m14 1 (cV d.x14)
  l14 : d.x14.length = d.m14
  c14 : d.m14 ≤ d.k14
  m14 : d.k14 ≤ maxLen
  b14 : ∀ x ∈ d.x14, 0 ≤ x ∧ x < 4294967296
  r15 : Rd w d.A15 d.g15 d.o15 d.m15 4 (rvals d.x15)
  l15 : d.x15.length = d.m15
  c15 : d.m15 ≤ d.k15
  m15 : d.k15 ≤ maxLen
  b15 : ∀ r ∈ d.x15, R64 r
section
open Go.ChangeShapes Go.WideShapes Go.ChangeAt Go.RowKit Go.Deep
theorem V17.openC {H : Type} {enc : TypeId × Value → H} {W : World} (cs : List Value) (n : Nat) (x : DataW H × List MemPlace) (hl : cs.length = 16) (hf : DataW.trod enc Try.prog W 0 (fun _ => true) true n 96 cs = some x) : ∃ d : V17, cs = V17.cells d ∧ V17.Good W d := by
  match cs, hl with
  | [c0, c1, c2, c3, c4, c5, c6, c7, c8, c9, c10, c11, c12, c13, c14, c15], _ =>
    obtain ⟨n1, y1, t1⟩ := trod_sub Try.underlying96 hf (i := 0) rfl (ty := 93) rfl (cs' := [c0, c1, c2, c3, c4, c5, c6, c7, c8, c9, c10, c11]) (by kernel_rfl)
    obtain ⟨n2, y2, t2⟩ := trod_sub Try.underlying93 t1 (i := 0) rfl (ty := 4) rfl (cs' := [c0]) (by kernel_rfl)
    obtain ⟨x0, rfl⟩ := open_boolC Try.underlying4 t2
    obtain ⟨n3, y3, t3⟩ := trod_sub Try.underlying93 t1 (i := 1) rfl (ty := 41) rfl (cs' := [c1, c2, c3]) (by kernel_rfl)
    obtain ⟨n4, y4, t4⟩ := trod_sub Try.underlying41 t3 (i := 0) rfl (ty := 3) rfl (cs' := [c1]) (by kernel_rfl)
    obtain ⟨x1, rfl, w1⟩ := open_intC Try.underlying3 t4
    obtain ⟨n5, y5, t5⟩ := trod_sub Try.underlying41 t3 (i := 1) rfl (ty := 3) rfl (cs' := [c2]) (by kernel_rfl)
    obtain ⟨x2, rfl, w2⟩ := open_intC Try.underlying3 t5
    obtain ⟨n6, y6, t6⟩ := trod_sub Try.underlying41 t3 (i := 2) rfl (ty := 39) rfl (cs' := [c3]) (by kernel_rfl)
    obtain ⟨A3, g3, o3, m3, k3, x3, rfl, hr3, hl3, hc3, hm3, w3⟩ := open_numsC Try.underlying39 Try.underlying24 (by kernel_rfl) t6
    obtain ⟨n7, y7, t7⟩ := trod_sub Try.underlying93 t1 (i := 2) rfl (ty := 57) rfl (cs' := [c4, c5]) (by kernel_rfl)
    obtain ⟨n8, y8, t8⟩ := trod_sub Try.underlying57 t7 (i := 0) rfl (ty := 3) rfl (cs' := [c4]) (by kernel_rfl)
    obtain ⟨x4, rfl, w4⟩ := open_intC Try.underlying3 t8
    obtain ⟨n9, y9, t9⟩ := trod_sub Try.underlying57 t7 (i := 1) rfl (ty := 3) rfl (cs' := [c5]) (by kernel_rfl)
    obtain ⟨x5, rfl, w5⟩ := open_intC Try.underlying3 t9
    obtain ⟨n10, y10, t10⟩ := trod_sub Try.underlying93 t1 (i := 3) rfl (ty := 3) rfl (cs' := [c6]) (by kernel_rfl)
    obtain ⟨x6, rfl, w6⟩ := open_intC Try.underlying3 t10
    obtain ⟨n11, y11, t11⟩ := trod_sub Try.underlying93 t1 (i := 4) rfl (ty := 3) rfl (cs' := [c7]) (by kernel_rfl)
    obtain ⟨x7, rfl, w7⟩ := open_intC Try.underlying3 t11
    obtain ⟨n12, y12, t12⟩ := trod_sub Try.underlying93 t1 (i := 5) rfl (ty := 53) rfl (cs' := [c8, c9, c10, c11]) (by kernel_rfl)
    obtain ⟨n13, y13, t13⟩ := trod_sub Try.underlying53 t12 (i := 0) rfl (ty := 3) rfl (cs' := [c8]) (by kernel_rfl)
    obtain ⟨x8, rfl, w8⟩ := open_intC Try.underlying3 t13
    obtain ⟨n14, y14, t14⟩ := trod_sub Try.underlying53 t12 (i := 1) rfl (ty := 3) rfl (cs' := [c9]) (by kernel_rfl)
    obtain ⟨x9, rfl, w9⟩ := open_intC Try.underlying3 t14
    obtain ⟨n15, y15, t15⟩ := trod_sub Try.underlying53 t12 (i := 2) rfl (ty := 3) rfl (cs' := [c10]) (by kernel_rfl)
    obtain ⟨x10, rfl, w10⟩ := open_intC Try.underlying3 t15
    obtain ⟨n16, y16, t16⟩ := trod_sub Try.underlying53 t12 (i := 3) rfl (ty := 3) rfl (cs' := [c11]) (by kernel_rfl)
    obtain ⟨x11, rfl, w11⟩ := open_intC Try.underlying3 t16
    obtain ⟨n17, y17, t17⟩ := trod_sub Try.underlying96 hf (i := 1) rfl (ty := 3) rfl (cs' := [c12]) (by kernel_rfl)
    obtain ⟨x12, rfl, w12⟩ := open_intC Try.underlying3 t17
    obtain ⟨n18, y18, t18⟩ := trod_sub Try.underlying96 hf (i := 2) rfl (ty := 3) rfl (cs' := [c13]) (by kernel_rfl)
    obtain ⟨x13, rfl, w13⟩ := open_intC Try.underlying3 t18
    obtain ⟨n19, y19, t19⟩ := trod_sub Try.underlying96 hf (i := 3) rfl (ty := 39) rfl (cs' := [c14]) (by kernel_rfl)
    obtain ⟨A14, g14, o14, m14, k14, x14, rfl, hr14, hl14, hc14, hm14, w14⟩ := open_numsC Try.underlying39 Try.underlying24 (by kernel_rfl) t19
    obtain ⟨n20, y20, t20⟩ := trod_sub Try.underlying96 hf (i := 4) rfl (ty := 58) rfl (cs' := [c15]) (by kernel_rfl)
    obtain ⟨A15, g15, o15, m15, k15, x15, rfl, hr15, hl15, hc15, hm15, w15⟩ := open_rectsC Try.underlying58 Try.underlying53 rfl rfl rfl rfl rfl rfl rfl rfl Try.underlying3 (by kernel_rfl) (by kernel_rfl) t20
    exact ⟨⟨x0, x1, x2, A3, g3, o3, m3, k3, x3, x4, x5, x6, x7, x8, x9, x10, x11, x12, x13, A14, g14, o14, m14, k14, x14, A15, g15, o15, m15, k15, x15⟩, rfl, ⟨wf64 w1, wf64 w2, hr3, hl3, hc3, hm3, fun x hx => wf32 (w3 x hx), wf64 w4, wf64 w5, wf64 w6, wf64 w7, wf64 w8, wf64 w9, wf64 w10, wf64 w11, wf64 w12, wf64 w13, hr14, hl14, hc14, hm14, fun x hx => wf32 (w14 x hx), hr15, hl15, hc15, hm15, w15⟩⟩
end
structure V17P (d : V17) : Prop where
  x_ : -9223372036854775808 ≤ d.x4 ∧ d.x4 ≤ 9223372036854775807
  y_ : -9223372036854775808 ≤ d.x5 ∧ d.x5 ≤ 9223372036854775807
  s_ : -9223372036854775808 ≤ d.x6 ∧ d.x6 ≤ 9223372036854775807
  a_ : -9223372036854775808 ≤ d.x7 ∧ d.x7 ≤ 9223372036854775807
  clip : R64 ⟨d.x8, d.x9, d.x10, d.x11⟩
  w_ : -9223372036854775808 ≤ d.x12 ∧ d.x12 ≤ 9223372036854775807
  h_ : -9223372036854775808 ≤ d.x13 ∧ d.x13 ≤ 9223372036854775807
  l_ : d.x14.length = d.m14
  c_ : d.m14 ≤ d.k14
  m_ : d.k14 ≤ maxLen
  b_ : ∀ x ∈ d.x14, 0 ≤ x ∧ x < 4294967296
  r_ : ∀ r ∈ d.x15, R64 r
theorem V17.Good.pure {w : World} {d : V17} (h : V17.Good w d) : V17P d := ⟨h.w4, h.w5, h.w6, h.w7, ⟨h.w8, h.w9, h.w10, h.w11⟩, h.w12, h.w13, h.l14, h.c14, h.m14, h.b14, h.b15⟩
abbrev sB3 (n : Nat) (xs : List V17) : Ent := .gen (subE n (fun i_ => rdE ((dget xs i_).A3) (dget xs i_).g3 (dget xs i_).o3 (dget xs i_).m3 1 (ivals .u32 (dget xs i_).x3)))
abbrev sB14 (n : Nat) (xs : List V17) : Ent := .gen (subE n (fun i_ => rdE ((dget xs i_).A14) (dget xs i_).g14 (dget xs i_).o14 (dget xs i_).m14 1 (ivals .u32 (dget xs i_).x14)))
abbrev sB15 (n : Nat) (xs : List V17) : Ent := .gen (subE n (fun i_ => rdE ((dget xs i_).A15) (dget xs i_).g15 (dget xs i_).o15 (dget xs i_).m15 4 (rvals (dget xs i_).x15)))
theorem refGood17 (A : Option Addr) (g o n cap : Nat) (xs : List V17) (w : World) (hT0 : Tab w w [rD (A) g o n 16 (dvals V17.cells xs), sB3 n xs, sB14 n xs, sB15 n xs]) (hgp : ∀ d ∈ xs, V17P d) :
    Calls Try.prog 10 #[.slice A n cap] w fun e w' => ∃ (A_ : Option Addr) (g_ k_ cp_ : Nat) (ts : List TS), e = .returned (.slice A_ k_ cp_) ∧ (k_ ≤ 5 ∧ ∀ t ∈ ts, TS.Ok t) ∧ Tab w w' [.gen (bunO k_ (TS.pxs ts)), .gen (bunO k_ (TS.ops ts)), .gen (rowE (A_) g_ k_ cp_ 60 14 (dvals TS.cells ts) true)] := by
  obtain ⟨hra, hrl⟩ := Rd.factsD V17.size (by decide) (hT0.ok 0 _ rfl)
  refine eN [(0, .slice A n cap)] Try.func10 Try.ntmps10 rfl hT0 ?_
  refine zSR 1 <| bD [0] 1 0 [] [2] <| zDNSR 1 <| bD [0] 1 0 [(3, .slice none 0 0)] [] <| zDNSSR 1 <| bD [0] 1 0 [(4, iQ 0)] [] <| zDNB <| cont_nilrow 60 14 ?_
  refine cM ?_
  refine cont_rowEqD (cel := TS.cells) (z := 14) 0 ([]) (([] : List TS)) rfl rfl ?_
  refine cont_nilbun (TS.ops ([] : List TS)) ?_
  refine cM ?_
  refine cont_nilbun (TS.pxs ([] : List TS)) ?_
  refine cM ?_
  refine cL (α := Nat × List TS × Option Addr × Nat × Nat) (fun x_ : Nat × List TS × Option Addr × Nat × Nat => x_.1 ≤ n ∧ x_.1 ≤ 5 ∧ x_.2.1.length = x_.1 ∧ ∀ u_ ∈ x_.2.1, TS.Ok u_) (fun x_ : Nat × List TS × Option Addr × Nat × Nat => [(0, .slice A n cap), (3, .slice x_.2.2.1 x_.1 x_.2.2.2.2), (4, iQ (x_.1 : Int))]) (fun x_ : Nat × List TS × Option Addr × Nat × Nat => [.gen (bunO x_.1 (TS.pxs x_.2.1)), .gen (bunO x_.1 (TS.ops x_.2.1)), .gen (rowE (x_.2.2.1) x_.2.2.2.1 x_.1 x_.2.2.2.2 60 14 (dvals TS.cells x_.2.1) true), rD (A) g o n 16 (dvals V17.cells xs), sB3 n xs, sB14 n xs, sB15 n xs]) (fun x_ : Nat × List TS × Option Addr × Nat × Nat => n - x_.1) (0, ([] : List TS), none, 0, 0) (show (0) ≤ n ∧ (0) ≤ 5 ∧ (([] : List TS)).length = (0) ∧ ∀ u_ ∈ (([] : List TS)), TS.Ok u_ from ⟨by omega, by omega, rfl, fun t ht => absurd ht (by simp)⟩) ?_
  rintro ⟨i, ts, Ao, gw, co⟩ hinv2_
  replace hinv2_ : i ≤ n ∧ i ≤ 5 ∧ ts.length = i ∧ ∀ u_ ∈ ts, TS.Ok u_ := hinv2_
  refine cM ?_
  obtain ⟨hi, hi5, hlen, hts⟩ := hinv2_
  refine zSSR 8 <| bD [0, 0, 0, 0, 0] 5 3 [(14, .bool (decide ((i : Int) < (n : Int))))] [10, 11, 12, 13] <| sD 14 rfl (fun c3_ => ?_) fun c3_ => ?_
  ·
    refine bD [0, 0, 0] 8 0 [(15, iQ (i : Int)), (16, .bool (decide ((i : Int) < 5))), (17, .bool (decide ((i : Int) < 5)))] [] <| zDN <| cSp 17 _ rfl (fun c4_ => ?_) fun c4_ => ?_
    ·
      refine rC 16 (.bool true) rfl (congrArg Value.bool c4_) ?_
      replace c4_ := of_decide_eq_true c4_
      refine cTr rfl <| cont_skip <| zN <| cSq <| cont_block <| cSq <| cont_sub 4 i n (fun i_ => rdE ((dget xs i_).A3) (dget xs i_).g3 (dget xs i_).o3 (dget xs i_).m3 1 (cV (dget xs i_).x3)) rfl (by omega) rfl rfl ?_
      refine cM ?_
      refine cont_sub 6 i n (fun i_ => rdE ((dget xs i_).A14) (dget xs i_).g14 (dget xs i_).o14 (dget xs i_).m14 1 (cV (dget xs i_).x14)) rfl (by omega) rfl rfl ?_
      refine cM ?_
      refine cont_sub 8 i n (fun i_ => rdE ((dget xs i_).A15) (dget xs i_).g15 (dget xs i_).o15 (dget xs i_).m15 4 (rvals (dget xs i_).x15)) rfl (by omega) rfl rfl ?_
      refine cM ?_
      generalize hv : dget xs i = v
      have hvg := hgp _ (dget_mem (l := xs) (i := i) (by omega))
      rw [hv] at hvg
      refine cont_fact (F := (0 < v.m14 → (v.A14 : Option Addr) = some ⟨v.g14, v.o14, none⟩) ∧ v.x14.length = v.m14) (fun w hT => Rd.facts (hT.ok 1 _ rfl)) (fun hl5_ => ?_)
      obtain ⟨hl5_a, hl5_l⟩ := hl5_
      obtain ⟨hvx0, hvx1⟩ := hvg.x_
      obtain ⟨hvy0, hvy1⟩ := hvg.y_
      obtain ⟨hvs0, hvs1⟩ := hvg.s_
      obtain ⟨hva0, hva1⟩ := hvg.a_
      obtain ⟨hvw0, hvw1⟩ := hvg.w_
      obtain ⟨hvh0, hvh1⟩ := hvg.h_
      refine cont_fact (F := (0 < v.m15 → (v.A15 : Option Addr) = some ⟨v.g15, v.o15, none⟩) ∧ v.x15.length = v.m15) (fun w hT => Rd.factsR (hT.ok 0 _ rfl)) (fun hl6_ => ?_)
      obtain ⟨hl6_a, hl6_l⟩ := hl6_
      have hr15 := hvg.r_
      refine drawn_enter 23 [] rfl (by kernel_rfl) ?_
      refine tD 0 [] [(0, 0), (1, 0), (5, 0), (6, 0), (10, 0), (11, 0), (15, 0), (16, 0)] 15 [16, 15, 11, 10, 6, 5, 1, 0] [(20, .slice A n cap), (21, iQ (i : Int)), (25, .slice A n cap), (26, iQ (i : Int)), (30, .slice A n cap), (31, iQ (i : Int)), (35, .slice A n cap), (36, iQ (i : Int))] [] <| rC 20 (.slice (some ⟨g, o, none⟩) n cap) rfl (by rw [hra (by omega)]) <| sT 0 [] 2 14 22 (Instr.indexAt 22 (.slice (some ⟨g, o, none⟩) n cap) (iQ (i : Int))) (.pointer (some ⟨g, o + i * 16, none⟩)) (fun w hT => rI 96 16 w) <| tD 0 [] [(3, 0)] 13 [3, 2, 16, 15, 11, 10, 6, 5, 1, 0] [(23, .pointer (some ⟨g, o + i * 16, none⟩))] [] <| cont_fact (F := (0 < v.m3 → (v.A3 : Option Addr) = some ⟨v.g3, v.o3, none⟩) ∧ v.x3.length = v.m3) (fun w hT => Rd.facts (hT.ok 2 _ rfl)) (fun hl7_ => ?_)
      obtain ⟨hl7_a, hl7_l⟩ := hl7_
      refine sT 0 [] 4 12 24 (Instr.loadAt 93 (.pointer (some ⟨g, o + i * 16, none⟩))) (.agg #[.bool v.x0, iQ v.x1, iQ v.x2, .slice v.A3 v.m3 v.k3, iQ v.x4, iQ v.x5, iQ v.x6, iQ v.x7, iQ v.x8, iQ v.x9, iQ v.x10, iQ v.x11]) (fun w hT => rM 12 ([.bool v.x0, iQ v.x1, iQ v.x2, .slice v.A3 v.m3 v.k3, iQ v.x4, iQ v.x5, iQ v.x6, iQ v.x7, iQ v.x8, iQ v.x9, iQ v.x10, iQ v.x11]) (by have h_ := Rd.dsub V17.size (hT 6 _ rfl) (i := i) (by omega) 0 12 rfl; rw [hv] at h_; exact h_)) <| rC 25 (.slice (some ⟨g, o, none⟩) n cap) rfl (by rw [hra (by omega)]) <| sT 0 [] 7 11 27 (Instr.indexAt 22 (.slice (some ⟨g, o, none⟩) n cap) (iQ (i : Int))) (.pointer (some ⟨g, o + i * 16, none⟩)) (fun w hT => rI 96 16 w) <| tD 0 [] [(8, 0)] 10 [8, 7, 4, 3, 2, 16, 15, 11, 10, 6, 5, 1, 0] [(28, .pointer (some ⟨g, o + i * 16 + 12, none⟩))] [] <| sT 0 [] 9 9 29 (Instr.loadAt 3 (.pointer (some ⟨g, o + i * 16 + 12, none⟩))) (iQ v.x12) (fun w hT => rL (Rd.dcell1 V17.size (hT 6 _ rfl) (i := i) (by omega) 12 (by rw [hv]; rfl))) <| rC 30 (.slice (some ⟨g, o, none⟩) n cap) rfl (by rw [hra (by omega)]) <| sT 0 [] 12 8 32 (Instr.indexAt 22 (.slice (some ⟨g, o, none⟩) n cap) (iQ (i : Int))) (.pointer (some ⟨g, o + i * 16, none⟩)) (fun w hT => rI 96 16 w) <| tD 0 [] [(13, 0)] 7 [13, 12, 9, 8, 7, 4, 3, 2, 16, 15, 11, 10, 6, 5, 1, 0] [(33, .pointer (some ⟨g, o + i * 16 + 13, none⟩))] [] <| sT 0 [] 14 6 34 (Instr.loadAt 3 (.pointer (some ⟨g, o + i * 16 + 13, none⟩))) (iQ v.x13) (fun w hT => rL (Rd.dcell1 V17.size (hT 6 _ rfl) (i := i) (by omega) 13 (by rw [hv]; rfl))) <| rC 35 (.slice (some ⟨g, o, none⟩) n cap) rfl (by rw [hra (by omega)]) <| sT 0 [] 17 5 37 (Instr.indexAt 22 (.slice (some ⟨g, o, none⟩) n cap) (iQ (i : Int))) (.pointer (some ⟨g, o + i * 16, none⟩)) (fun w hT => rI 96 16 w) <| tD 0 [] [(18, 0)] 4 [18, 17, 14, 13, 12, 9, 8, 7, 4, 3, 2, 16, 15, 11, 10, 6, 5, 1, 0] [(38, .pointer (some ⟨g, o + i * 16 + 14, none⟩))] [] <| cont_fact (F := (0 < v.m14 → (v.A14 : Option Addr) = some ⟨v.g14, v.o14, none⟩) ∧ v.x14.length = v.m14) (fun w hT => Rd.facts (hT.ok 1 _ rfl)) (fun hl8_ => ?_)
      obtain ⟨hl8_a, hl8_l⟩ := hl8_
      refine sT 0 [] 19 3 39 (Instr.loadAt 39 (.pointer (some ⟨g, o + i * 16 + 14, none⟩))) (.slice v.A14 v.m14 v.k14) (fun w hT => rL (Rd.dcell1 V17.size (hT 6 _ rfl) (i := i) (by omega) 14 (by rw [hv]; rfl))) <| drawn_two 20 21 2 rfl (by kernel_rfl) ?_ ?_
      ·
        refine cG (d := 40) (α := Nat × Nat) (fun x_ => .agg #[.bool true, iQ (1 + aroundI (aroundI v.x12 6) 16), iQ (1 + aroundI (aroundI v.x13 6) 16), sL x_.1 x_.2 x_.2, iQ (aroundI v.x4 24 - 6), iQ (aroundI v.x5 24 - 6), iQ (1 + aroundI v.x6 3), iQ (aroundI v.x7 256), iQ v.x8, iQ v.x9, iQ v.x10, iQ v.x11]) (fun x_ => [.gen (rowE (some ⟨x_.1, 0, none⟩) x_.1 x_.2 x_.2 24 1 (cV (goodP x_.2 v.x14 x_.2)) true), rD (v.A15) v.g15 v.o15 v.m15 4 (rvals v.x15), rD (v.A14) v.g14 v.o14 v.m14 1 (cV v.x14), rD (v.A3) v.g3 v.o3 v.m3 1 (cV v.x3), .gen (bunO i (TS.pxs ts)), .gen (bunO i (TS.ops ts)), .gen (rowE (Ao) gw i co 60 14 (dvals TS.cells ts) true), rD (A) g o n 16 (dvals V17.cells xs), sB3 n xs, sB14 n xs, sB15 n xs]) (fun x_ => (x_.2 : Int) = (1 + aroundI (aroundI v.x12 6) 16) * (1 + aroundI (aroundI v.x13 6) 16)) (fun w hT => (refGood5 v.A14 v.g14 v.o14 v.m14 v.k14 v.x14 v.x0 v.x1 v.x2 (.slice v.A3 v.m3 v.k3) v.x4 v.x5 v.x6 v.x7 v.x8 v.x9 v.x10 v.x11 v.x12 v.x13 w (hT.viewRo (.cons (i := 1) rfl Vw.rd .nil) rfl) ⟨hvg.w_, hvg.h_, hvg.l_, hvg.c_, hvg.m_, hvg.b_, hl5_a⟩ (by omega) (by omega) (by omega) (by omega)).mono fun e w' ⟨r9, n10, he_, hf_, ht_⟩ => ⟨(r9, n10), he_, hf_, hT.news ht_ rfl⟩) ?_
        rintro ⟨r9, n10⟩ hf11_
        replace hf11_ : (n10 : Int) = (1 + aroundI (aroundI v.x12 6) 16) * (1 + aroundI (aroundI v.x13 6) 16) := hf11_
        refine cM ?_
        have hq12_ := aroundI_range v.x4 (m := 24) (by omega)
        have hq13_ := aroundI_range v.x5 (m := 24) (by omega)
        have hq14_ := aroundI_range v.x6 (m := 3) (by omega)
        have hq15_ := aroundI_range v.x7 (m := 256) (by omega)
        have hq16_ := aroundI_range v.x12 (m := 6) (by omega)
        have hq17_ := aroundI_range v.x13 (m := 6) (by omega)
        have hq18_ := aroundI_range (aroundI v.x12 6) (m := 16) (by omega)
        have hq19_ := aroundI_range (aroundI v.x13 6) (m := 16) (by omega)
        have hM20_m : AllMay (goodP n10 v.x14 n10) := goodP_may _ hvg.b_
        have hM20_ : ImgOk (1 + aroundI (aroundI v.x12 6) 16) (1 + aroundI (aroundI v.x13 6) 16) n10 (goodP n10 v.x14 n10) := imgOk_of (by omega) hf11_ (by simp [goodP_length]) hM20_m
        have hM20_w1 := hM20_.w1
        have hM20_h1 := hM20_.h1
        have hM20_le := hM20_.le
        have hM20_num := hM20_.num
        have hM20_len := hM20_.len
        refine dX 1 [] <| dO 21 1 <| one_step1 0 (fun b21 => [(0, .slice A n cap), (3, .slice Ao i co), (4, iQ (i : Int)), (5, pT b21), (15, iQ (i : Int)), (16, .bool true), (40, .agg #[.bool true, iQ (1 + aroundI (aroundI v.x12 6) 16), iQ (1 + aroundI (aroundI v.x13 6) 16), sL r9 n10 n10, iQ (aroundI v.x4 24 - 6), iQ (aroundI v.x5 24 - 6), iQ (1 + aroundI v.x6 3), iQ (aroundI v.x7 256), iQ v.x8, iQ v.x9, iQ v.x10, iQ v.x11])]) (fun b21 => [.cells b21 [.bool false, iQ 0, iQ 0, .slice none 0 0, iQ 0, iQ 0, iQ 0, iQ 0, iQ 0, iQ 0, iQ 0, iQ 0] 93 true, oE r9 n10 n10 24 1 (cV (goodP n10 v.x14 n10)), rD (v.A15) v.g15 v.o15 v.m15 4 (rvals v.x15), rD (v.A14) v.g14 v.o14 v.m14 1 (cV v.x14), rD (v.A3) v.g3 v.o3 v.m3 1 (cV v.x3), .gen (bunO i (TS.pxs ts)), .gen (bunO i (TS.ops ts)), .gen (rowE (Ao) gw i co 60 14 (dvals TS.cells ts) true), rD (A) g o n 16 (dvals V17.cells xs), sB3 n xs, sB14 n xs, sB15 n xs]) (fun b21 => by kernel_rfl) (fun b21 => by kernel_rfl) (fun b21 => ?_)
        refine dX 2 [] <| dO 22 0 <| oS 0 [(0, .slice A n cap), (3, .slice Ao i co), (4, iQ (i : Int)), (5, pT b21), (15, iQ (i : Int)), (16, .bool true)] [.cells b21 [.bool true, iQ (1 + aroundI (aroundI v.x12 6) 16), iQ (1 + aroundI (aroundI v.x13 6) 16), sL r9 n10 n10, iQ (aroundI v.x4 24 - 6), iQ (aroundI v.x5 24 - 6), iQ (1 + aroundI v.x6 3), iQ (aroundI v.x7 256), iQ v.x8, iQ v.x9, iQ v.x10, iQ v.x11] 93 true, oE r9 n10 n10 24 1 (cV (goodP n10 v.x14 n10)), rD (v.A15) v.g15 v.o15 v.m15 4 (rvals v.x15), rD (v.A14) v.g14 v.o14 v.m14 1 (cV v.x14), rD (v.A3) v.g3 v.o3 v.m3 1 (cV v.x3), .gen (bunO i (TS.pxs ts)), .gen (bunO i (TS.ops ts)), .gen (rowE (Ao) gw i co 60 14 (dvals TS.cells ts) true), rD (A) g o n 16 (dvals V17.cells xs), sB3 n xs, sB14 n xs, sB15 n xs] <| dX 2 [] <| dD <| zN <| zSR 13 <| bW [0, 0, 0, 0, 0, 0, 0, 0, 0, 0, 0, 0, 0] 13 0 (fun b22 => [(0, .slice A n cap), (3, .slice Ao i co), (4, iQ (i : Int)), (5, pT b21), (6, pT b22), (15, iQ (i : Int)), (16, .bool true)]) (fun b22 => [.cells b22 [.bool true, iQ (1 + aroundI (aroundI v.x12 6) 16), iQ (1 + aroundI (aroundI v.x13 6) 16), sL r9 n10 n10, iQ (aroundI v.x4 24 - 6), iQ (aroundI v.x5 24 - 6), iQ (1 + aroundI v.x6 3), iQ (aroundI v.x7 256), iQ v.x8, iQ v.x9, iQ v.x10, iQ v.x11, .slice none 0 0, .string ⟨#[]⟩] 60 true, .cells b21 [.bool true, iQ (1 + aroundI (aroundI v.x12 6) 16), iQ (1 + aroundI (aroundI v.x13 6) 16), sL r9 n10 n10, iQ (aroundI v.x4 24 - 6), iQ (aroundI v.x5 24 - 6), iQ (1 + aroundI v.x6 3), iQ (aroundI v.x7 256), iQ v.x8, iQ v.x9, iQ v.x10, iQ v.x11] 93 true, oE r9 n10 n10 24 1 (cV (goodP n10 v.x14 n10)), rD (v.A15) v.g15 v.o15 v.m15 4 (rvals v.x15), rD (v.A14) v.g14 v.o14 v.m14 1 (cV v.x14), rD (v.A3) v.g3 v.o3 v.m3 1 (cV v.x3), .gen (bunO i (TS.pxs ts)), .gen (bunO i (TS.ops ts)), .gen (rowE (Ao) gw i co 60 14 (dvals TS.cells ts) true), rD (A) g o n 16 (dvals V17.cells xs), sB3 n xs, sB14 n xs, sB15 n xs]) [0, 3, 4, 5, 6, 15, 16] fun b22 => ?_
        refine zDNSR 1 <| bD [0] 1 0 [(7, .slice none 0 0)] [] <| zDNSSR 1 <| bD [0] 1 0 [(8, iQ 0)] [] <| zDNB <| cont_nilrow 53 4 ?_
        refine nL [(0, .slice A n cap), (3, .slice Ao i co), (4, iQ (i : Int)), (5, pT b21), (6, pT b22), (7, .slice none 0 0), (8, iQ 0), (15, iQ (i : Int)), (16, .bool true)] ?_
        refine cL (α := Nat × List Rect × Option Addr × Nat × Nat × Nat) (fun x_ : Nat × List Rect × Option Addr × Nat × Nat × Nat => x_.1 ≤ n10 ∧ x_.2.2.2.2.1 ≤ x_.1 ∧ ∀ r ∈ x_.2.1, SolR (1 + aroundI (aroundI v.x12 6) 16) (goodP n10 v.x14 n10) r) (fun x_ : Nat × List Rect × Option Addr × Nat × Nat × Nat => [(0, .slice A n cap), (3, .slice Ao i co), (4, iQ (i : Int)), (5, pT b21), (6, pT b22), (7, .slice x_.2.2.1 x_.2.2.2.2.1 x_.2.2.2.2.2), (8, iQ ((x_.1 : Nat) : Int)), (15, iQ (i : Int)), (16, .bool true)]) (fun x_ : Nat × List Rect × Option Addr × Nat × Nat × Nat => [.gen (rowE (x_.2.2.1) x_.2.2.2.1 x_.2.2.2.2.1 x_.2.2.2.2.2 53 4 (rvals x_.2.1) true), .cells b22 [.bool true, iQ (1 + aroundI (aroundI v.x12 6) 16), iQ (1 + aroundI (aroundI v.x13 6) 16), sL r9 n10 n10, iQ (aroundI v.x4 24 - 6), iQ (aroundI v.x5 24 - 6), iQ (1 + aroundI v.x6 3), iQ (aroundI v.x7 256), iQ v.x8, iQ v.x9, iQ v.x10, iQ v.x11, .slice none 0 0, .string ⟨#[]⟩] 60 true, .cells b21 [.bool true, iQ (1 + aroundI (aroundI v.x12 6) 16), iQ (1 + aroundI (aroundI v.x13 6) 16), sL r9 n10 n10, iQ (aroundI v.x4 24 - 6), iQ (aroundI v.x5 24 - 6), iQ (1 + aroundI v.x6 3), iQ (aroundI v.x7 256), iQ v.x8, iQ v.x9, iQ v.x10, iQ v.x11] 93 true, oE r9 n10 n10 24 1 (cV (goodP n10 v.x14 n10)), rD (v.A15) v.g15 v.o15 v.m15 4 (rvals v.x15), rD (v.A14) v.g14 v.o14 v.m14 1 (cV v.x14), rD (v.A3) v.g3 v.o3 v.m3 1 (cV v.x3), .gen (bunO i (TS.pxs ts)), .gen (bunO i (TS.ops ts)), .gen (rowE (Ao) gw i co 60 14 (dvals TS.cells ts) true), rD (A) g o n 16 (dvals V17.cells xs), sB3 n xs, sB14 n xs, sB15 n xs]) (fun x_ : Nat × List Rect × Option Addr × Nat × Nat × Nat => n10 - x_.1) (0, ([] : List Rect), none, 0, 0, 0) (show (0) ≤ n10 ∧ (0) ≤ (0) ∧ ∀ r ∈ (([] : List Rect)), SolR (1 + aroundI (aroundI v.x12 6) 16) (goodP n10 v.x14 n10) r from ⟨by omega, by omega, fun r hr => absurd hr (by simp)⟩) ?_
        rintro ⟨k, ss, As, gs, ns, cs⟩ hinv24_
        replace hinv24_ : k ≤ n10 ∧ ns ≤ k ∧ ∀ r ∈ ss, SolR (1 + aroundI (aroundI v.x12 6) 16) (goodP n10 v.x14 n10) r := hinv24_
        refine cM ?_
        obtain ⟨hk, hns, hss⟩ := hinv24_
        have hem := emod_range k (W := (1 + aroundI (aroundI v.x12 6) 16)) (by omega)
        have hpr : k < n10 → 0 ≤ (goodP n10 v.x14 n10).getD k 0 ∧ (goodP n10 v.x14 n10).getD k 0 < 4294967296 := fun h_ => hM20_.rng _ (by rw [List.getD_eq_getElem?_getD, List.getElem?_eq_getElem (by omega)]; simp)
        refine zSSR 6 <| bD [0, 0, 0, 2, 0, 0] 6 0 [(57, .bool (decide (((k : Nat) : Int) < (n10 : Int))))] [52, 53, 54, 55, 56] <| zDN <| sD 57 rfl (fun c25_ => ?_) fun c25_ => ?_
        ·
          refine zTKNSBSR 9 <| fR 0 ns As gs cs ss rfl fun hr26_a hr26_l hr26_c hr26_m => ?_
          have hrs := hr26_a
          obtain ⟨hpr0, hpr1⟩ := hpr (by omega)
          refine bD [0, 0, 2, 0] 4 5 [(62, sL r9 n10 n10), (63, iQ ((k : Nat) : Int))] [60, 61] <| pS 5 4 <| sS 64 (Instr.indexAt 39 (sL r9 n10 n10) (iQ ((k : Nat) : Int))) (.pointer (some ⟨r9, (k : Nat), none⟩)) (fun w hT => rI 24 1 w) <| pS 6 3 <| sS 65 (Instr.loadAt 24 (.pointer (some ⟨r9, (k : Nat), none⟩))) (cQ ((goodP n10 v.x14 n10).getD (k : Nat) 0)) (fun w hT => rL (Row.cell (hT.ok 3 _ rfl) ((k : Nat)) _ (ivals_get (by omega)))) <| pS 7 2 <| cP 66 (.agg #[iQ (pa ((goodP n10 v.x14 n10).getD (k : Nat) 0)), iQ (pr ((goodP n10 v.x14 n10).getD (k : Nat) 0)), iQ (pg ((goodP n10 v.x14 n10).getD (k : Nat) 0)), iQ (pb ((goodP n10 v.x14 n10).getD (k : Nat) 0))]) (fun w hT => refParts ((goodP n10 v.x14 n10).getD (k : Nat) 0) w (by omega) (by omega)) <| bW [0, 0] 9 0 (fun b27 => [(0, .slice A n cap), (3, .slice Ao i co), (4, iQ (i : Int)), (5, pT b21), (6, pT b22), (7, .slice As ns cs), (8, iQ ((k : Nat) : Int)), (9, pT b27), (15, iQ (i : Int)), (16, .bool true)]) (fun b27 => [.cells b27 [iQ (pa ((goodP n10 v.x14 n10).getD (k : Nat) 0)), iQ (pr ((goodP n10 v.x14 n10).getD (k : Nat) 0)), iQ (pg ((goodP n10 v.x14 n10).getD (k : Nat) 0)), iQ (pb ((goodP n10 v.x14 n10).getD (k : Nat) 0))] 49 true, .gen (rowE (As) gs ns cs 53 4 (rvals ss) true), .cells b22 [.bool true, iQ (1 + aroundI (aroundI v.x12 6) 16), iQ (1 + aroundI (aroundI v.x13 6) 16), sL r9 n10 n10, iQ (aroundI v.x4 24 - 6), iQ (aroundI v.x5 24 - 6), iQ (1 + aroundI v.x6 3), iQ (aroundI v.x7 256), iQ v.x8, iQ v.x9, iQ v.x10, iQ v.x11, .slice none 0 0, .string ⟨#[]⟩] 60 true, .cells b21 [.bool true, iQ (1 + aroundI (aroundI v.x12 6) 16), iQ (1 + aroundI (aroundI v.x13 6) 16), sL r9 n10 n10, iQ (aroundI v.x4 24 - 6), iQ (aroundI v.x5 24 - 6), iQ (1 + aroundI v.x6 3), iQ (aroundI v.x7 256), iQ v.x8, iQ v.x9, iQ v.x10, iQ v.x11] 93 true, oE r9 n10 n10 24 1 (cV (goodP n10 v.x14 n10)), rD (v.A15) v.g15 v.o15 v.m15 4 (rvals v.x15), rD (v.A14) v.g14 v.o14 v.m14 1 (cV v.x14), rD (v.A3) v.g3 v.o3 v.m3 1 (cV v.x3), .gen (bunO i (TS.pxs ts)), .gen (bunO i (TS.ops ts)), .gen (rowE (Ao) gw i co 60 14 (dvals TS.cells ts) true), rD (A) g o n 16 (dvals V17.cells xs), sB3 n xs, sB14 n xs, sB15 n xs]) [0, 3, 4, 5, 6, 7, 8, 9, 15, 16] fun b27 => ?_
          refine zDNS <| drawn_enter 22 [] rfl (by kernel_rfl) ?_
          refine tD 0 [] [(0, 0), (1, 0), (2, 0), (3, 0)] 18 [3, 2, 1, 0] [(70, .bool ((pa ((goodP n10 v.x14 n10).getD (k : Nat) 0)) == 255))] [67, 68, 69] <| sE 70 rfl (fun c28_ => ?_) fun c28_ => ?_
          ·
            have hpk := c28_
            refine tD 0 [] [(4, 0), (5, 0), (10, 0), (11, 0), (15, 0), (16, 0)] 12 [16, 15, 11, 10, 5, 4, 3, 2, 1, 0] [(71, .slice A n cap), (72, iQ (i : Int)), (77, iQ ((k : Nat) : Int)), (78, .pointer (some ⟨b21, 1, none⟩)), (82, iQ ((k : Nat) : Int)), (83, .pointer (some ⟨b21, 1, none⟩))] [] <| rC 71 (.slice (some ⟨g, o, none⟩) n cap) rfl (by rw [hra (by omega)]) <| sT 0 [] 6 11 73 (Instr.indexAt 22 (.slice (some ⟨g, o, none⟩) n cap) (iQ (i : Int))) (.pointer (some ⟨g, o + i * 16, none⟩)) (fun w hT => rI 96 16 w) <| tD 0 [] [(7, 0), (12, 0), (17, 0)] 8 [17, 12, 7, 6, 16, 15, 11, 10, 5, 4, 3, 2, 1, 0] [(74, .pointer (some ⟨g, o + i * 16 + 15, none⟩)), (79, .pointer (some ⟨b21, 1, none⟩)), (84, .pointer (some ⟨b21, 1, none⟩))] [] <| cont_fact (F := (0 < v.m15 → (v.A15 : Option Addr) = some ⟨v.g15, v.o15, none⟩) ∧ v.x15.length = v.m15) (fun w hT => Rd.factsR (hT.ok 5 _ rfl)) (fun hl29_ => ?_)
            obtain ⟨hl29_a, hl29_l⟩ := hl29_
            refine sT 0 [] 8 7 75 (Instr.loadAt 58 (.pointer (some ⟨g, o + i * 16 + 15, none⟩))) (.slice v.A15 v.m15 v.k15) (fun w hT => rL (Rd.dcell1 V17.size (hT 11 _ rfl) (i := i) (by omega) 15 (by rw [hv]; rfl))) <| tD 0 [] [(13, 3), (18, 3)] 5 [18, 13, 8, 17, 12, 7, 6, 16, 15, 11, 10, 5, 4, 3, 2, 1, 0] [(80, iQ (1 + aroundI (aroundI v.x12 6) 16)), (85, iQ (1 + aroundI (aroundI v.x12 6) 16))] [] <| sT 0 [] 14 4 81 (bopS .rem 3 (.tmp 77) (.tmp 80) (iQ ((k : Nat) : Int)) (iQ (1 + aroundI (aroundI v.x12 6) 16))) (iQ (((k : Nat) : Int).tmod (1 + aroundI (aroundI v.x12 6) 16))) (fun w hT => run_rem (by omega) w) <| rC 81 (iQ (((k : Nat) : Int) % (1 + aroundI (aroundI v.x12 6) 16))) rfl (tmodI (by omega)) <| sT 0 [] 19 3 86 (bopS .quo 3 (.tmp 82) (.tmp 85) (iQ ((k : Nat) : Int)) (iQ (1 + aroundI (aroundI v.x12 6) 16))) (iQ (IntKind.i64.wrap (((k : Nat) : Int).tdiv (1 + aroundI (aroundI v.x12 6) 16)))) (fun w hT => run_quo (by omega) w) <| rC 86 (iQ (((k : Nat) : Int) / (1 + aroundI (aroundI v.x12 6) 16))) rfl (tdivI (by omega) (by omega) (by omega)) <| dO 9 2 <| cG (d := 76) (α := Option Addr × Nat × Nat × Nat) (fun x_ => .slice x_.1 x_.2.2.1 x_.2.2.2) (fun x_ => [.gen (rowE (x_.1) x_.2.1 x_.2.2.1 x_.2.2.2 53 4 (rvals (smallL v.x15 3)) true), .cells b27 [iQ (pa ((goodP n10 v.x14 n10).getD (k : Nat) 0)), iQ (pr ((goodP n10 v.x14 n10).getD (k : Nat) 0)), iQ (pg ((goodP n10 v.x14 n10).getD (k : Nat) 0)), iQ (pb ((goodP n10 v.x14 n10).getD (k : Nat) 0))] 49 true, .gen (rowE (As) gs ns cs 53 4 (rvals ss) true), .cells b22 [.bool true, iQ (1 + aroundI (aroundI v.x12 6) 16), iQ (1 + aroundI (aroundI v.x13 6) 16), sL r9 n10 n10, iQ (aroundI v.x4 24 - 6), iQ (aroundI v.x5 24 - 6), iQ (1 + aroundI v.x6 3), iQ (aroundI v.x7 256), iQ v.x8, iQ v.x9, iQ v.x10, iQ v.x11, .slice none 0 0, .string ⟨#[]⟩] 60 true, .cells b21 [.bool true, iQ (1 + aroundI (aroundI v.x12 6) 16), iQ (1 + aroundI (aroundI v.x13 6) 16), sL r9 n10 n10, iQ (aroundI v.x4 24 - 6), iQ (aroundI v.x5 24 - 6), iQ (1 + aroundI v.x6 3), iQ (aroundI v.x7 256), iQ v.x8, iQ v.x9, iQ v.x10, iQ v.x11] 93 true, oE r9 n10 n10 24 1 (cV (goodP n10 v.x14 n10)), rD (v.A15) v.g15 v.o15 v.m15 4 (rvals v.x15), rD (v.A14) v.g14 v.o14 v.m14 1 (cV v.x14), rD (v.A3) v.g3 v.o3 v.m3 1 (cV v.x3), .gen (bunO i (TS.pxs ts)), .gen (bunO i (TS.ops ts)), .gen (rowE (Ao) gw i co 60 14 (dvals TS.cells ts) true), rD (A) g o n 16 (dvals V17.cells xs), sB3 n xs, sB14 n xs, sB15 n xs]) (fun x_ => True) (fun w hT => (refSmallL v.A15 v.g15 v.o15 v.m15 v.k15 v.x15 3 w (hT.viewRo (.cons (i := 5) rfl Vw.rd .nil) rfl) hr15 (by omega)).mono fun e w' ⟨A30, g31, k32, cp33, he_, ht_⟩ => ⟨(A30, g31, k32, cp33), he_, trivial, hT.news ht_ rfl⟩) ?_
            rintro ⟨A30, g31, k32, cp33⟩ hf34_
            refine cM ?_
            refine fR 0 k32 A30 g31 cp33 (smallL v.x15 3) rfl fun hr35_a hr35_l hr35_c hr35_m => ?_
            have hsl36_ := smallL_length v.x15 3
            refine dX 1 [] <| dO 20 1 <| cP 87 (.bool (hasL (smallL v.x15 3) (((k : Nat) : Int) % (1 + aroundI (aroundI v.x12 6) 16)) (((k : Nat) : Int) / (1 + aroundI (aroundI v.x12 6) 16)))) (fun w hT => refHasL A30 g31 0 k32 cp33 (smallL v.x15 3) (((k : Nat) : Int) % (1 + aroundI (aroundI v.x12 6) 16)) (((k : Nat) : Int) / (1 + aroundI (aroundI v.x12 6) 16)) w (hT.viewRo (.cons (i := 0) rfl Vw.rowRd .nil) rfl) (by omega)) <| dX 1 [] <| tD 1 [] [(21, 0)] 0 [21, 20, 9, 19, 14, 18, 13, 8, 17, 12, 7, 6, 16, 15, 11, 10, 5, 4, 3, 2, 1, 0] [(88, .bool (hasL (smallL v.x15 3) (((k : Nat) : Int) % (1 + aroundI (aroundI v.x12 6) 16)) (((k : Nat) : Int) / (1 + aroundI (aroundI v.x12 6) 16))))] [] <| dD <| zN <| cSp 88 _ rfl (fun c37_ => ?_) fun c37_ => ?_
            ·
              refine rC 87 (.bool true) rfl (congrArg Value.bool c37_) <| cTr rfl <| drawn_enter 27 [2] rfl (by kernel_rfl) ?_
              refine tD 0 [2] [(0, 0), (1, 0), (2, 0), (6, 0), (7, 0), (11, 0), (12, 0), (17, 0), (18, 0), (3, 0), (8, 0), (13, 0), (19, 0), (4, 4), (9, 4), (14, 4), (20, 4)] 10 [20, 14, 9, 4, 19, 13, 8, 3, 18, 17, 12, 11, 7, 6, 2, 1, 0] [(89, .slice As ns cs), (90, iQ ((k : Nat) : Int)), (93, iQ (1 + aroundI (aroundI v.x12 6) 16)), (95, iQ ((k : Nat) : Int)), (98, iQ (1 + aroundI (aroundI v.x12 6) 16)), (100, iQ ((k : Nat) : Int)), (103, iQ (1 + aroundI (aroundI v.x12 6) 16)), (106, iQ ((k : Nat) : Int)), (109, iQ (1 + aroundI (aroundI v.x12 6) 16))] [91, 92, 96, 97, 101, 102, 107, 108] <| sT 0 [2] 5 9 94 (bopS .rem 3 (.tmp 90) (.tmp 93) (iQ ((k : Nat) : Int)) (iQ (1 + aroundI (aroundI v.x12 6) 16))) (iQ (((k : Nat) : Int).tmod (1 + aroundI (aroundI v.x12 6) 16))) (fun w hT => run_rem (by omega) w) <| rC 94 (iQ (((k : Nat) : Int) % (1 + aroundI (aroundI v.x12 6) 16))) rfl (tmodI (by omega)) <| sT 0 [2] 10 8 99 (bopS .quo 3 (.tmp 95) (.tmp 98) (iQ ((k : Nat) : Int)) (iQ (1 + aroundI (aroundI v.x12 6) 16))) (iQ (IntKind.i64.wrap (((k : Nat) : Int).tdiv (1 + aroundI (aroundI v.x12 6) 16)))) (fun w hT => run_quo (by omega) w) <| rC 99 (iQ (((k : Nat) : Int) / (1 + aroundI (aroundI v.x12 6) 16))) rfl (tdivI (by omega) (by omega) (by omega)) <| sT 0 [2] 15 7 104 (bopS .rem 3 (.tmp 100) (.tmp 103) (iQ ((k : Nat) : Int)) (iQ (1 + aroundI (aroundI v.x12 6) 16))) (iQ (((k : Nat) : Int).tmod (1 + aroundI (aroundI v.x12 6) 16))) (fun w hT => run_rem (by omega) w) <| rC 104 (iQ (((k : Nat) : Int) % (1 + aroundI (aroundI v.x12 6) 16))) rfl (tmodI (by omega)) <| tD 0 [2] [(16, 0)] 6 [16, 15, 10, 5, 20, 14, 9, 4, 19, 13, 8, 3, 18, 17, 12, 11, 7, 6, 2, 1, 0] [(105, iQ (IntKind.i64.wrap ((((k : Nat) : Int) % (1 + aroundI (aroundI v.x12 6) 16)) + 1)))] [] <| wI 105 ((((k : Nat) : Int) % (1 + aroundI (aroundI v.x12 6) 16)) + 1) <| sT 0 [2] 21 5 110 (bopS .quo 3 (.tmp 106) (.tmp 109) (iQ ((k : Nat) : Int)) (iQ (1 + aroundI (aroundI v.x12 6) 16))) (iQ (IntKind.i64.wrap (((k : Nat) : Int).tdiv (1 + aroundI (aroundI v.x12 6) 16)))) (fun w hT => run_quo (by omega) w) <| rC 110 (iQ (((k : Nat) : Int) / (1 + aroundI (aroundI v.x12 6) 16))) rfl (tdivI (by omega) (by omega) (by omega)) <| tD 0 [2] [(22, 0)] 4 [22, 21, 16, 15, 10, 5, 20, 14, 9, 4, 19, 13, 8, 3, 18, 17, 12, 11, 7, 6, 2, 1, 0] [(111, iQ (IntKind.i64.wrap ((((k : Nat) : Int) / (1 + aroundI (aroundI v.x12 6) 16)) + 1)))] [] <| wI 111 ((((k : Nat) : Int) / (1 + aroundI (aroundI v.x12 6) 16)) + 1) <| tD 0 [2] [(23, 0)] 3 [23, 22, 21, 16, 15, 10, 5, 20, 14, 9, 4, 19, 13, 8, 3, 18, 17, 12, 11, 7, 6, 2, 1, 0] [(112, .agg #[iQ (((k : Nat) : Int) % (1 + aroundI (aroundI v.x12 6) 16)), iQ (((k : Nat) : Int) / (1 + aroundI (aroundI v.x12 6) 16)), iQ ((((k : Nat) : Int) % (1 + aroundI (aroundI v.x12 6) 16)) + 1), iQ ((((k : Nat) : Int) / (1 + aroundI (aroundI v.x12 6) 16)) + 1)])] [] <| dO 24 2 <| one_step1 0 (fun b38 => [(0, .slice A n cap), (3, .slice Ao i co), (4, iQ (i : Int)), (5, pT b21), (6, pT b22), (7, .slice As ns cs), (8, iQ ((k : Nat) : Int)), (15, iQ (i : Int)), (16, .bool true), (71, .slice (some ⟨g, o, none⟩) n cap), (72, iQ (i : Int)), (73, .pointer (some ⟨g, o + i * 16, none⟩)), (74, .pointer (some ⟨g, o + i * 16 + 15, none⟩)), (75, .slice v.A15 v.m15 v.k15), (76, .slice A30 k32 cp33), (77, iQ ((k : Nat) : Int)), (78, .pointer (some ⟨b21, 1, none⟩)), (79, .pointer (some ⟨b21, 1, none⟩)), (80, iQ (1 + aroundI (aroundI v.x12 6) 16)), (81, iQ (((k : Nat) : Int) % (1 + aroundI (aroundI v.x12 6) 16))), (82, iQ ((k : Nat) : Int)), (83, .pointer (some ⟨b21, 1, none⟩)), (84, .pointer (some ⟨b21, 1, none⟩)), (85, iQ (1 + aroundI (aroundI v.x12 6) 16)), (86, iQ (((k : Nat) : Int) / (1 + aroundI (aroundI v.x12 6) 16))), (87, .bool true), (89, .slice As ns cs), (113, sL b38 1 1)]) (fun b38 => [.cells b38 [iQ (((k : Nat) : Int) % (1 + aroundI (aroundI v.x12 6) 16)), iQ (((k : Nat) : Int) / (1 + aroundI (aroundI v.x12 6) 16)), iQ ((((k : Nat) : Int) % (1 + aroundI (aroundI v.x12 6) 16)) + 1), iQ ((((k : Nat) : Int) / (1 + aroundI (aroundI v.x12 6) 16)) + 1)] 53 true, .gen (rowE (A30) g31 k32 cp33 53 4 (rvals (smallL v.x15 3)) true), .cells b27 [iQ (pa ((goodP n10 v.x14 n10).getD (k : Nat) 0)), iQ (pr ((goodP n10 v.x14 n10).getD (k : Nat) 0)), iQ (pg ((goodP n10 v.x14 n10).getD (k : Nat) 0)), iQ (pb ((goodP n10 v.x14 n10).getD (k : Nat) 0))] 49 true, .gen (rowE (As) gs ns cs 53 4 (rvals ss) true), .cells b22 [.bool true, iQ (1 + aroundI (aroundI v.x12 6) 16), iQ (1 + aroundI (aroundI v.x13 6) 16), sL r9 n10 n10, iQ (aroundI v.x4 24 - 6), iQ (aroundI v.x5 24 - 6), iQ (1 + aroundI v.x6 3), iQ (aroundI v.x7 256), iQ v.x8, iQ v.x9, iQ v.x10, iQ v.x11, .slice none 0 0, .string ⟨#[]⟩] 60 true, .cells b21 [.bool true, iQ (1 + aroundI (aroundI v.x12 6) 16), iQ (1 + aroundI (aroundI v.x13 6) 16), sL r9 n10 n10, iQ (aroundI v.x4 24 - 6), iQ (aroundI v.x5 24 - 6), iQ (1 + aroundI v.x6 3), iQ (aroundI v.x7 256), iQ v.x8, iQ v.x9, iQ v.x10, iQ v.x11] 93 true, oE r9 n10 n10 24 1 (cV (goodP n10 v.x14 n10)), rD (v.A15) v.g15 v.o15 v.m15 4 (rvals v.x15), rD (v.A14) v.g14 v.o14 v.m14 1 (cV v.x14), rD (v.A3) v.g3 v.o3 v.m3 1 (cV v.x3), .gen (bunO i (TS.pxs ts)), .gen (bunO i (TS.ops ts)), .gen (rowE (Ao) gw i co 60 14 (dvals TS.cells ts) true), rD (A) g o n 16 (dvals V17.cells xs), sB3 n xs, sB14 n xs, sB15 n xs]) (fun b38 => by kernel_rfl) (fun b38 => by kernel_rfl) (fun b38 => ?_)
              refine dX 1 [2] <| dO 25 1 <| sSW (α := Option Addr × Nat × Nat) 114 (Builtin.append_ #[58, 58] 58 #[.slice As ns cs, sL b38 1 1]) (fun x_ => .slice x_.1 (ns + 1) x_.2.2) (fun x_ => [.cells b38 [iQ (((k : Nat) : Int) % (1 + aroundI (aroundI v.x12 6) 16)), iQ (((k : Nat) : Int) / (1 + aroundI (aroundI v.x12 6) 16)), iQ ((((k : Nat) : Int) % (1 + aroundI (aroundI v.x12 6) 16)) + 1), iQ ((((k : Nat) : Int) / (1 + aroundI (aroundI v.x12 6) 16)) + 1)] 53 true, .gen (rowE (A30) g31 k32 cp33 53 4 (rvals (smallL v.x15 3)) true), .cells b27 [iQ (pa ((goodP n10 v.x14 n10).getD (k : Nat) 0)), iQ (pr ((goodP n10 v.x14 n10).getD (k : Nat) 0)), iQ (pg ((goodP n10 v.x14 n10).getD (k : Nat) 0)), iQ (pb ((goodP n10 v.x14 n10).getD (k : Nat) 0))] 49 true, .gen (rowE (x_.1) x_.2.1 (ns + 1) x_.2.2 53 4 (rvals (ss ++ [(⟨((k : Nat) : Int) % (1 + aroundI (aroundI v.x12 6) 16), ((k : Nat) : Int) / (1 + aroundI (aroundI v.x12 6) 16), (((k : Nat) : Int) % (1 + aroundI (aroundI v.x12 6) 16)) + 1, (((k : Nat) : Int) / (1 + aroundI (aroundI v.x12 6) 16)) + 1⟩ : Rect)])) true), .cells b22 [.bool true, iQ (1 + aroundI (aroundI v.x12 6) 16), iQ (1 + aroundI (aroundI v.x13 6) 16), sL r9 n10 n10, iQ (aroundI v.x4 24 - 6), iQ (aroundI v.x5 24 - 6), iQ (1 + aroundI v.x6 3), iQ (aroundI v.x7 256), iQ v.x8, iQ v.x9, iQ v.x10, iQ v.x11, .slice none 0 0, .string ⟨#[]⟩] 60 true, .cells b21 [.bool true, iQ (1 + aroundI (aroundI v.x12 6) 16), iQ (1 + aroundI (aroundI v.x13 6) 16), sL r9 n10 n10, iQ (aroundI v.x4 24 - 6), iQ (aroundI v.x5 24 - 6), iQ (1 + aroundI v.x6 3), iQ (aroundI v.x7 256), iQ v.x8, iQ v.x9, iQ v.x10, iQ v.x11] 93 true, oE r9 n10 n10 24 1 (cV (goodP n10 v.x14 n10)), rD (v.A15) v.g15 v.o15 v.m15 4 (rvals v.x15), rD (v.A14) v.g14 v.o14 v.m14 1 (cV v.x14), rD (v.A3) v.g3 v.o3 v.m3 1 (cV v.x3), .gen (bunO i (TS.pxs ts)), .gen (bunO i (TS.ops ts)), .gen (rowE (Ao) gw i co 60 14 (dvals TS.cells ts) true), rD (A) g o n 16 (dvals V17.cells xs), sB3 n xs, sB14 n xs, sB15 n xs]) (fun _ => True) (by kernel_rfl) (fun w hT => append_own (n' := (ns + 1)) (z := .agg #[iQ 0, iQ 0, iQ 0, iQ 0]) hT (i := 3) (bytes := 32) rfl (by kernel_rfl) (by kernel_rfl) rfl (by decide) (by decide) (Rd.ofCells (vals := rvals [(⟨((k : Nat) : Int) % (1 + aroundI (aroundI v.x12 6) 16), ((k : Nat) : Int) / (1 + aroundI (aroundI v.x12 6) 16), (((k : Nat) : Int) % (1 + aroundI (aroundI v.x12 6) 16)) + 1, (((k : Nat) : Int) / (1 + aroundI (aroundI v.x12 6) 16)) + 1⟩ : Rect)]) (hT.ok 0 _ rfl) rfl rfl) (rvals_one [(⟨((k : Nat) : Int) % (1 + aroundI (aroundI v.x12 6) 16), ((k : Nat) : Int) / (1 + aroundI (aroundI v.x12 6) 16), (((k : Nat) : Int) % (1 + aroundI (aroundI v.x12 6) 16)) + 1, (((k : Nat) : Int) / (1 + aroundI (aroundI v.x12 6) 16)) + 1⟩ : Rect)]) (by omega) (rvals_append ss [(⟨((k : Nat) : Int) % (1 + aroundI (aroundI v.x12 6) 16), ((k : Nat) : Int) / (1 + aroundI (aroundI v.x12 6) 16), (((k : Nat) : Int) % (1 + aroundI (aroundI v.x12 6) 16)) + 1, (((k : Nat) : Int) / (1 + aroundI (aroundI v.x12 6) 16)) + 1⟩ : Rect)]) rfl) ?_
              rintro ⟨A39, g39, cp39⟩ -
              refine cM ?_
              refine fR 3 (ns + 1) A39 g39 cp39 (ss ++ [(⟨((k : Nat) : Int) % (1 + aroundI (aroundI v.x12 6) 16), ((k : Nat) : Int) / (1 + aroundI (aroundI v.x12 6) 16), (((k : Nat) : Int) % (1 + aroundI (aroundI v.x12 6) 16)) + 1, (((k : Nat) : Int) / (1 + aroundI (aroundI v.x12 6) 16)) + 1⟩ : Rect)]) rfl fun hr40_a hr40_l hr40_c hr40_m => ?_
              refine dX 1 [2] <| tK 1 [2] [(26, 0)] 0 [26, 25, 24, 23, 22, 21, 16, 15, 10, 5, 20, 14, 9, 4, 19, 13, 8, 3, 18, 17, 12, 11, 7, 6, 2, 1, 0] [(0, .slice A n cap), (3, .slice Ao i co), (4, iQ (i : Int)), (5, pT b21), (6, pT b22), (7, .slice A39 (ns + 1) cp39), (8, iQ ((k : Nat) : Int)), (15, iQ (i : Int)), (16, .bool true), (71, .slice (some ⟨g, o, none⟩) n cap), (72, iQ (i : Int)), (73, .pointer (some ⟨g, o + i * 16, none⟩)), (74, .pointer (some ⟨g, o + i * 16 + 15, none⟩)), (75, .slice v.A15 v.m15 v.k15), (76, .slice A30 k32 cp33), (77, iQ ((k : Nat) : Int)), (78, .pointer (some ⟨b21, 1, none⟩)), (79, .pointer (some ⟨b21, 1, none⟩)), (80, iQ (1 + aroundI (aroundI v.x12 6) 16)), (81, iQ (((k : Nat) : Int) % (1 + aroundI (aroundI v.x12 6) 16))), (82, iQ ((k : Nat) : Int)), (83, .pointer (some ⟨b21, 1, none⟩)), (84, .pointer (some ⟨b21, 1, none⟩)), (85, iQ (1 + aroundI (aroundI v.x12 6) 16)), (86, iQ (((k : Nat) : Int) / (1 + aroundI (aroundI v.x12 6) 16))), (87, .bool true)] <| dD <| blk_normal <| zN <| cRg 3 rfl <| bS [0, 0] 2 1 [(0, .slice A n cap), (3, .slice Ao i co), (4, iQ (i : Int)), (5, pT b21), (6, pT b22), (7, .slice A39 (ns + 1) cp39), (15, iQ (i : Int)), (16, .bool true), (59, iQ (IntKind.i64.wrap (((k : Nat) : Int) + 1))), (71, .slice (some ⟨g, o, none⟩) n cap), (72, iQ (i : Int)), (73, .pointer (some ⟨g, o + i * 16, none⟩)), (74, .pointer (some ⟨g, o + i * 16 + 15, none⟩)), (75, .slice v.A15 v.m15 v.k15), (76, .slice A30 k32 cp33), (77, iQ ((k : Nat) : Int)), (78, .pointer (some ⟨b21, 1, none⟩)), (79, .pointer (some ⟨b21, 1, none⟩)), (80, iQ (1 + aroundI (aroundI v.x12 6) 16)), (81, iQ (((k : Nat) : Int) % (1 + aroundI (aroundI v.x12 6) 16))), (82, iQ ((k : Nat) : Int)), (83, .pointer (some ⟨b21, 1, none⟩)), (84, .pointer (some ⟨b21, 1, none⟩)), (85, iQ (1 + aroundI (aroundI v.x12 6) 16)), (86, iQ (((k : Nat) : Int) / (1 + aroundI (aroundI v.x12 6) 16))), (87, .bool true)] <| wI 59 (((k : Nat) : Int) + 1) <| fG 0 <| fG 1 <| bD [0] 3 0 [(8, iQ (((k : Nat) : Int) + 1))] [] <| zDN <| fG 0 <| cA (k + 1, ss ++ [(⟨((k : Nat) : Int) % (1 + aroundI (aroundI v.x12 6) 16), ((k : Nat) : Int) / (1 + aroundI (aroundI v.x12 6) 16), (((k : Nat) : Int) % (1 + aroundI (aroundI v.x12 6) 16)) + 1, (((k : Nat) : Int) / (1 + aroundI (aroundI v.x12 6) 16)) + 1⟩ : Rect)], A39, g39, (ns + 1), cp39) (show (k + 1) ≤ n10 ∧ ((ns + 1)) ≤ (k + 1) ∧ ∀ r ∈ (ss ++ [(⟨((k : Nat) : Int) % (1 + aroundI (aroundI v.x12 6) 16), ((k : Nat) : Int) / (1 + aroundI (aroundI v.x12 6) 16), (((k : Nat) : Int) % (1 + aroundI (aroundI v.x12 6) 16)) + 1, (((k : Nat) : Int) / (1 + aroundI (aroundI v.x12 6) 16)) + 1⟩ : Rect)]), SolR (1 + aroundI (aroundI v.x12 6) 16) (goodP n10 v.x14 n10) r from ⟨by omega, by omega, fun r_ hr_ => by rcases List.mem_append.1 hr_ with h_ | h_; exact hss r_ h_; rw [List.mem_singleton.1 h_]; exact ⟨k, by omega, rfl, hpk⟩⟩)
            refine rC 87 (.bool false) rfl (congrArg Value.bool c37_) <| zFKbNR 3 <| bD [0, 0] 2 1 [(59, iQ (IntKind.i64.wrap (((k : Nat) : Int) + 1)))] [58] <| wI 59 (((k : Nat) : Int) + 1) <| fG 1 <| bD [0] 3 0 [(8, iQ (((k : Nat) : Int) + 1))] [] <| zDN <| fG 0 <| cA (k + 1, ss, As, gs, ns, cs) (show (k + 1) ≤ n10 ∧ (ns) ≤ (k + 1) ∧ ∀ r ∈ (ss), SolR (1 + aroundI (aroundI v.x12 6) 16) (goodP n10 v.x14 n10) r from ⟨by omega, by omega, hss⟩)
          refine tD 0 [] [(4, 0), (5, 0), (10, 0), (11, 0), (15, 0), (16, 0), (6, 0), (12, 0), (17, 0), (7, 0), (13, 0), (18, 0), (8, 0), (14, 0), (19, 0)] 3 [19, 14, 8, 18, 13, 7, 17, 12, 6, 16, 15, 11, 10, 5, 4, 3, 2, 1, 0] [(71, undef), (72, undef), (73, undef), (74, undef), (75, undef), (77, undef), (78, undef), (79, undef), (80, undef), (81, undef), (82, undef), (83, undef), (84, undef), (85, undef), (86, undef)] [] <| dO 9 2 <| oS 0 [(0, .slice A n cap), (3, .slice Ao i co), (4, iQ (i : Int)), (5, pT b21), (6, pT b22), (7, .slice As ns cs), (8, iQ ((k : Nat) : Int)), (15, iQ (i : Int)), (16, .bool true), (70, .bool false), (71, undef), (72, undef), (73, undef), (74, undef), (75, undef), (76, undef), (77, undef), (78, undef), (79, undef), (80, undef), (81, undef), (82, undef), (83, undef), (84, undef), (85, undef), (86, undef)] [.cells b27 [iQ (pa ((goodP n10 v.x14 n10).getD (k : Nat) 0)), iQ (pr ((goodP n10 v.x14 n10).getD (k : Nat) 0)), iQ (pg ((goodP n10 v.x14 n10).getD (k : Nat) 0)), iQ (pb ((goodP n10 v.x14 n10).getD (k : Nat) 0))] 49 true, .gen (rowE (As) gs ns cs 53 4 (rvals ss) true), .cells b22 [.bool true, iQ (1 + aroundI (aroundI v.x12 6) 16), iQ (1 + aroundI (aroundI v.x13 6) 16), sL r9 n10 n10, iQ (aroundI v.x4 24 - 6), iQ (aroundI v.x5 24 - 6), iQ (1 + aroundI v.x6 3), iQ (aroundI v.x7 256), iQ v.x8, iQ v.x9, iQ v.x10, iQ v.x11, .slice none 0 0, .string ⟨#[]⟩] 60 true, .cells b21 [.bool true, iQ (1 + aroundI (aroundI v.x12 6) 16), iQ (1 + aroundI (aroundI v.x13 6) 16), sL r9 n10 n10, iQ (aroundI v.x4 24 - 6), iQ (aroundI v.x5 24 - 6), iQ (1 + aroundI v.x6 3), iQ (aroundI v.x7 256), iQ v.x8, iQ v.x9, iQ v.x10, iQ v.x11] 93 true, oE r9 n10 n10 24 1 (cV (goodP n10 v.x14 n10)), rD (v.A15) v.g15 v.o15 v.m15 4 (rvals v.x15), rD (v.A14) v.g14 v.o14 v.m14 1 (cV v.x14), rD (v.A3) v.g3 v.o3 v.m3 1 (cV v.x3), .gen (bunO i (TS.pxs ts)), .gen (bunO i (TS.ops ts)), .gen (rowE (Ao) gw i co 60 14 (dvals TS.cells ts) true), rD (A) g o n 16 (dvals V17.cells xs), sB3 n xs, sB14 n xs, sB15 n xs] <| dX 0 [] <| dO 20 1 <| oS 0 [(0, .slice A n cap), (3, .slice Ao i co), (4, iQ (i : Int)), (5, pT b21), (6, pT b22), (7, .slice As ns cs), (8, iQ ((k : Nat) : Int)), (15, iQ (i : Int)), (16, .bool true), (70, .bool false), (71, undef), (72, undef), (73, undef), (74, undef), (75, undef), (76, undef), (77, undef), (78, undef), (79, undef), (80, undef), (81, undef), (82, undef), (83, undef), (84, undef), (85, undef), (86, undef), (87, undef)] [.cells b27 [iQ (pa ((goodP n10 v.x14 n10).getD (k : Nat) 0)), iQ (pr ((goodP n10 v.x14 n10).getD (k : Nat) 0)), iQ (pg ((goodP n10 v.x14 n10).getD (k : Nat) 0)), iQ (pb ((goodP n10 v.x14 n10).getD (k : Nat) 0))] 49 true, .gen (rowE (As) gs ns cs 53 4 (rvals ss) true), .cells b22 [.bool true, iQ (1 + aroundI (aroundI v.x12 6) 16), iQ (1 + aroundI (aroundI v.x13 6) 16), sL r9 n10 n10, iQ (aroundI v.x4 24 - 6), iQ (aroundI v.x5 24 - 6), iQ (1 + aroundI v.x6 3), iQ (aroundI v.x7 256), iQ v.x8, iQ v.x9, iQ v.x10, iQ v.x11, .slice none 0 0, .string ⟨#[]⟩] 60 true, .cells b21 [.bool true, iQ (1 + aroundI (aroundI v.x12 6) 16), iQ (1 + aroundI (aroundI v.x13 6) 16), sL r9 n10 n10, iQ (aroundI v.x4 24 - 6), iQ (aroundI v.x5 24 - 6), iQ (1 + aroundI v.x6 3), iQ (aroundI v.x7 256), iQ v.x8, iQ v.x9, iQ v.x10, iQ v.x11] 93 true, oE r9 n10 n10 24 1 (cV (goodP n10 v.x14 n10)), rD (v.A15) v.g15 v.o15 v.m15 4 (rvals v.x15), rD (v.A14) v.g14 v.o14 v.m14 1 (cV v.x14), rD (v.A3) v.g3 v.o3 v.m3 1 (cV v.x3), .gen (bunO i (TS.pxs ts)), .gen (bunO i (TS.ops ts)), .gen (rowE (Ao) gw i co 60 14 (dvals TS.cells ts) true), rD (A) g o n 16 (dvals V17.cells xs), sB3 n xs, sB14 n xs, sB15 n xs] <| dX 0 [] <| tD 0 [] [(21, 0)] 0 [21, 20, 9, 19, 14, 8, 18, 13, 7, 17, 12, 6, 16, 15, 11, 10, 5, 4, 3, 2, 1, 0] [(88, .bool false)] [] <| dD <| zN <| zFKbNR 3 <| bD [0, 0] 2 1 [(59, iQ (IntKind.i64.wrap (((k : Nat) : Int) + 1)))] [58] <| wI 59 (((k : Nat) : Int) + 1) <| fG 0 <| bD [0] 3 0 [(8, iQ (((k : Nat) : Int) + 1))] [] <| zDN <| cA (k + 1, ss, As, gs, ns, cs) (show (k + 1) ≤ n10 ∧ (ns) ≤ (k + 1) ∧ ∀ r ∈ (ss), SolR (1 + aroundI (aroundI v.x12 6) 16) (goodP n10 v.x14 n10) r from ⟨by omega, by omega, hss⟩)
        refine zFXxxeNSR 4 <| fR 0 ns As gs cs ss rfl fun hr41_a hr41_l hr41_c hr41_m => ?_
        have hrs := hr41_a
        refine bD [0] 1 3 [(115, .slice As ns cs)] [] <| fG 2 <| pS 2 2 <| cG (d := 116) (α := Option Addr × Nat × Nat × Nat) (fun x_ => .slice x_.1 x_.2.2.1 x_.2.2.2) (fun x_ => [.gen (rowE (x_.1) x_.2.1 x_.2.2.1 x_.2.2.2 53 4 (rvals (canR ss)) true), .gen (rowE (As) gs ns cs 53 4 (rvals ss) true), .cells b22 [.bool true, iQ (1 + aroundI (aroundI v.x12 6) 16), iQ (1 + aroundI (aroundI v.x13 6) 16), sL r9 n10 n10, iQ (aroundI v.x4 24 - 6), iQ (aroundI v.x5 24 - 6), iQ (1 + aroundI v.x6 3), iQ (aroundI v.x7 256), iQ v.x8, iQ v.x9, iQ v.x10, iQ v.x11, .slice none 0 0, .string ⟨#[]⟩] 60 true, oE r9 n10 n10 24 1 (cV (goodP n10 v.x14 n10)), rD (v.A15) v.g15 v.o15 v.m15 4 (rvals v.x15), rD (v.A14) v.g14 v.o14 v.m14 1 (cV v.x14), rD (v.A3) v.g3 v.o3 v.m3 1 (cV v.x3), .gen (bunO i (TS.pxs ts)), .gen (bunO i (TS.ops ts)), .gen (rowE (Ao) gw i co 60 14 (dvals TS.cells ts) true), rD (A) g o n 16 (dvals V17.cells xs), sB3 n xs, sB14 n xs, sB15 n xs]) (fun x_ => True) (fun w hT => (refOf As gs 0 ns cs ss w (hT.viewRo (.cons (i := 0) rfl Vw.rowRd .nil) rfl) (by omega)).mono fun e w' ⟨A42, g43, k44, cp45, he_, ht_⟩ => ⟨(A42, g43, k44, cp45), he_, trivial, hT.news ht_ rfl⟩) ?_
        rintro ⟨A42, g43, k44, cp45⟩ hf46_
        refine cM ?_
        refine fR 0 k44 A42 g43 cp45 (canR ss) rfl fun hr47_a hr47_l hr47_c hr47_m => ?_
        refine bZ [0, 2] 4 0 [(0, .slice A n cap), (3, .slice Ao i co), (4, iQ (i : Int)), (6, pT b22), (15, iQ (i : Int)), (16, .bool true)] [.gen (rowE (A42) g43 k44 cp45 53 4 (rvals (canR ss)) true), .gen (rowE (As) gs ns cs 53 4 (rvals ss) true), .cells b22 [.bool true, iQ (1 + aroundI (aroundI v.x12 6) 16), iQ (1 + aroundI (aroundI v.x13 6) 16), sL r9 n10 n10, iQ (aroundI v.x4 24 - 6), iQ (aroundI v.x5 24 - 6), iQ (1 + aroundI v.x6 3), iQ (aroundI v.x7 256), iQ v.x8, iQ v.x9, iQ v.x10, iQ v.x11, .slice A42 k44 cp45, .string ⟨#[]⟩] 60 true, oE r9 n10 n10 24 1 (cV (goodP n10 v.x14 n10)), rD (v.A15) v.g15 v.o15 v.m15 4 (rvals v.x15), rD (v.A14) v.g14 v.o14 v.m14 1 (cV v.x14), rD (v.A3) v.g3 v.o3 v.m3 1 (cV v.x3), .gen (bunO i (TS.pxs ts)), .gen (bunO i (TS.ops ts)), .gen (rowE (Ao) gw i co 60 14 (dvals TS.cells ts) true), rD (A) g o n 16 (dvals V17.cells xs), sB3 n xs, sB14 n xs, sB15 n xs] <| zDNR 5 <| bW [0, 2, 0] 3 2 (fun b48 => [(0, .slice A n cap), (4, iQ (i : Int)), (15, iQ (i : Int)), (16, .bool true), (118, .slice Ao i co), (120, sL b48 1 1)]) (fun b48 => [.cells b48 [.bool true, iQ (1 + aroundI (aroundI v.x12 6) 16), iQ (1 + aroundI (aroundI v.x13 6) 16), sL r9 n10 n10, iQ (aroundI v.x4 24 - 6), iQ (aroundI v.x5 24 - 6), iQ (1 + aroundI v.x6 3), iQ (aroundI v.x7 256), iQ v.x8, iQ v.x9, iQ v.x10, iQ v.x11, .slice A42 k44 cp45, .string ⟨#[]⟩] 60 true, .gen (rowE (A42) g43 k44 cp45 53 4 (rvals (canR ss)) true), .gen (rowE (As) gs ns cs 53 4 (rvals ss) true), .cells b22 [.bool true, iQ (1 + aroundI (aroundI v.x12 6) 16), iQ (1 + aroundI (aroundI v.x13 6) 16), sL r9 n10 n10, iQ (aroundI v.x4 24 - 6), iQ (aroundI v.x5 24 - 6), iQ (1 + aroundI v.x6 3), iQ (aroundI v.x7 256), iQ v.x8, iQ v.x9, iQ v.x10, iQ v.x11, .slice A42 k44 cp45, .string ⟨#[]⟩] 60 true, oE r9 n10 n10 24 1 (cV (goodP n10 v.x14 n10)), rD (v.A15) v.g15 v.o15 v.m15 4 (rvals v.x15), rD (v.A14) v.g14 v.o14 v.m14 1 (cV v.x14), rD (v.A3) v.g3 v.o3 v.m3 1 (cV v.x3), .gen (bunO i (TS.pxs ts)), .gen (bunO i (TS.ops ts)), .gen (rowE (Ao) gw i co 60 14 (dvals TS.cells ts) true), rD (A) g o n 16 (dvals V17.cells xs), sB3 n xs, sB14 n xs, sB15 n xs]) [0, 4, 15, 16, 118, 120] fun b48 => ?_
        refine fG 3 <| pS 4 1 <| sSW (α := Option Addr × Nat × Nat) 121 (Builtin.append_ #[25, 25] 25 #[.slice Ao i co, sL b48 1 1]) (fun x_ => .slice x_.1 (i + 1) x_.2.2) (fun x_ => [.cells b48 [.bool true, iQ (1 + aroundI (aroundI v.x12 6) 16), iQ (1 + aroundI (aroundI v.x13 6) 16), sL r9 n10 n10, iQ (aroundI v.x4 24 - 6), iQ (aroundI v.x5 24 - 6), iQ (1 + aroundI v.x6 3), iQ (aroundI v.x7 256), iQ v.x8, iQ v.x9, iQ v.x10, iQ v.x11, .slice A42 k44 cp45, .string ⟨#[]⟩] 60 true, .gen (rowE (A42) g43 k44 cp45 53 4 (rvals (canR ss)) true), .gen (rowE (As) gs ns cs 53 4 (rvals ss) true), oE r9 n10 n10 24 1 (cV (goodP n10 v.x14 n10)), rD (v.A15) v.g15 v.o15 v.m15 4 (rvals v.x15), rD (v.A14) v.g14 v.o14 v.m14 1 (cV v.x14), rD (v.A3) v.g3 v.o3 v.m3 1 (cV v.x3), .gen (bunO i (TS.pxs ts)), .gen (bunO i (TS.ops ts)), .gen (rowE (x_.1) x_.2.1 (i + 1) x_.2.2 60 14 (dvals TS.cells (ts ++ [(⟨(1 + aroundI (aroundI v.x12 6) 16), (1 + aroundI (aroundI v.x13 6) 16), r9, n10, n10, goodP n10 v.x14 n10, (aroundI v.x4 24 - 6), (aroundI v.x5 24 - 6), 1 + aroundI v.x6 3, aroundI v.x7 256, v.x8, v.x9, v.x10, v.x11, A42, g43, k44, cp45, canR ss⟩ : TS)])) true), rD (A) g o n 16 (dvals V17.cells xs), sB3 n xs, sB14 n xs, sB15 n xs]) (fun _ => True) (by kernel_rfl) (fun w hT => append_own (n' := (i + 1)) (z := .agg #[.bool false, iQ 0, iQ 0, .slice none 0 0, iQ 0, iQ 0, iQ 0, iQ 0, iQ 0, iQ 0, iQ 0, iQ 0, .slice none 0 0, .string ⟨#[]⟩]) hT (i := 9) (bytes := 152) rfl (by kernel_rfl) (by kernel_rfl) rfl (by decide) (by decide) (Rd.ofCells (vals := dvals TS.cells [(⟨(1 + aroundI (aroundI v.x12 6) 16), (1 + aroundI (aroundI v.x13 6) 16), r9, n10, n10, goodP n10 v.x14 n10, (aroundI v.x4 24 - 6), (aroundI v.x5 24 - 6), 1 + aroundI v.x6 3, aroundI v.x7 256, v.x8, v.x9, v.x10, v.x11, A42, g43, k44, cp45, canR ss⟩ : TS)]) (hT.ok 0 _ rfl) rfl rfl) (dvals_one TS.one [(⟨(1 + aroundI (aroundI v.x12 6) 16), (1 + aroundI (aroundI v.x13 6) 16), r9, n10, n10, goodP n10 v.x14 n10, (aroundI v.x4 24 - 6), (aroundI v.x5 24 - 6), 1 + aroundI v.x6 3, aroundI v.x7 256, v.x8, v.x9, v.x10, v.x11, A42, g43, k44, cp45, canR ss⟩ : TS)]) (by omega) (dvals_append ts [(⟨(1 + aroundI (aroundI v.x12 6) 16), (1 + aroundI (aroundI v.x13 6) 16), r9, n10, n10, goodP n10 v.x14 n10, (aroundI v.x4 24 - 6), (aroundI v.x5 24 - 6), 1 + aroundI v.x6 3, aroundI v.x7 256, v.x8, v.x9, v.x10, v.x11, A42, g43, k44, cp45, canR ss⟩ : TS)]) rfl) ?_
        rintro ⟨A49, g49, cp49⟩ -
        refine cM ?_
        refine cont_fact (F := (0 < (i + 1) → (A49 : Option Addr) = some ⟨g49, 0, none⟩) ∧ (ts ++ [(⟨(1 + aroundI (aroundI v.x12 6) 16), (1 + aroundI (aroundI v.x13 6) 16), r9, n10, n10, goodP n10 v.x14 n10, (aroundI v.x4 24 - 6), (aroundI v.x5 24 - 6), 1 + aroundI v.x6 3, aroundI v.x7 256, v.x8, v.x9, v.x10, v.x11, A42, g43, k44, cp45, canR ss⟩ : TS)]).length = (i + 1) ∧ (i + 1) ≤ cp49 ∧ cp49 ≤ maxLen) (fun w hT => Row.factsD TS.size (by decide) (hT.ok 9 _ rfl)) (fun hr50_ => ?_)
        obtain ⟨hr50_a, hr50_l, hr50_c, hr50_m⟩ := hr50_
        unfold maxLen at hr50_m
        refine bD [0] 5 0 [(3, .slice A49 (i + 1) cp49)] [] <| fG 0 <| zDbNR 3 <| bD [0, 0] 2 1 [(19, iQ (IntKind.i64.wrap ((i : Int) + 1)))] [18] <| wI 19 ((i : Int) + 1) <| bD [0] 3 0 [(4, iQ ((i : Int) + 1))] [] <| zDN ?_
        obtain ⟨t, ht⟩ : ∃ t_ : TS, t_ = (⟨(1 + aroundI (aroundI v.x12 6) 16), (1 + aroundI (aroundI v.x13 6) 16), r9, n10, n10, goodP n10 v.x14 n10, (aroundI v.x4 24 - 6), (aroundI v.x5 24 - 6), 1 + aroundI v.x6 3, aroundI v.x7 256, v.x8, v.x9, v.x10, v.x11, A42, g43, k44, cp45, canR ss⟩ : TS) := ⟨_, rfl⟩
        refine cont_rowEqD (cel := TS.cells) (z := 14) 8 (ts ++ [(⟨(1 + aroundI (aroundI v.x12 6) 16), (1 + aroundI (aroundI v.x13 6) 16), r9, n10, n10, goodP n10 v.x14 n10, (aroundI v.x4 24 - 6), (aroundI v.x5 24 - 6), 1 + aroundI v.x6 3, aroundI v.x7 256, v.x8, v.x9, v.x10, v.x11, A42, g43, k44, cp45, canR ss⟩ : TS)]) (ts ++ [t]) rfl (by rw [ht]) ?_
        refine cM ?_
        have hpa := TS.pxs_app (t := t) hlen
        have hoa := TS.ops_app (t := t) hlen
        refine cont_bun 2 6 i (TS.pxs ts) (TS.pxs (ts ++ [t])) t.pxG rfl rfl (by rw [ht]; exact Vw.rowRd) rfl (by decide) hpa.1 hpa.2 ?_
        refine cM ?_
        refine cont_bun 0 6 i (TS.ops ts) (TS.ops (ts ++ [t])) t.opG rfl rfl (by rw [ht]; exact Vw.rowRd) rfl (by decide) hoa.1 hoa.2 ?_
        refine cM ?_
        have hokt : TS.Ok t := by rw [ht]; exact ⟨hM20_, hM20_m, by dsimp only; omega, by dsimp only; omega, ⟨by dsimp only; omega, by dsimp only; omega⟩, ⟨by dsimp only; omega, by dsimp only; omega⟩, ⟨by dsimp only; omega, by dsimp only; omega⟩, ⟨by dsimp only; omega, by dsimp only; omega⟩, hvg.clip, ⟨ss, rfl, by omega, hss⟩⟩
        refine fG 3 <| fG 2 <| fG 1 <| fG 0 <| cA (i + 1, ts ++ [t], A49, g49, cp49) (show (i + 1) ≤ n ∧ (i + 1) ≤ 5 ∧ (ts ++ [t]).length = (i + 1) ∧ ∀ u_ ∈ (ts ++ [t]), TS.Ok u_ from ⟨by omega, by omega, by rw [List.length_append, hlen]; rfl, fun x hx => by rcases List.mem_append.1 hx with h_ | h_; exact hts x h_; (have e_ := List.mem_singleton.1 h_; subst e_; exact hokt)⟩)
      refine one_step1 0 (fun b51 => [(0, .slice A n cap), (3, .slice Ao i co), (4, iQ (i : Int)), (5, pT b51), (15, iQ (i : Int)), (16, .bool true), (24, .agg #[.bool v.x0, iQ v.x1, iQ v.x2, .slice v.A3 v.m3 v.k3, iQ v.x4, iQ v.x5, iQ v.x6, iQ v.x7, iQ v.x8, iQ v.x9, iQ v.x10, iQ v.x11]), (29, iQ v.x12), (34, iQ v.x13), (39, .slice v.A14 v.m14 v.k14)]) (fun b51 => [.cells b51 [.bool false, iQ 0, iQ 0, .slice none 0 0, iQ 0, iQ 0, iQ 0, iQ 0, iQ 0, iQ 0, iQ 0, iQ 0] 93 true, rD (v.A15) v.g15 v.o15 v.m15 4 (rvals v.x15), rD (v.A14) v.g14 v.o14 v.m14 1 (cV v.x14), rD (v.A3) v.g3 v.o3 v.m3 1 (cV v.x3), .gen (bunO i (TS.pxs ts)), .gen (bunO i (TS.ops ts)), .gen (rowE (Ao) gw i co 60 14 (dvals TS.cells ts) true), rD (A) g o n 16 (dvals V17.cells xs), sB3 n xs, sB14 n xs, sB15 n xs]) (fun b51 => by kernel_rfl) (fun b51 => by kernel_rfl) (fun b51 => ?_)
      refine dX 1 [] <| dO 20 1 <| cG (d := 40) (α := Nat × Nat) (fun x_ => .agg #[.bool true, iQ (1 + aroundI (aroundI v.x12 6) 16), iQ (1 + aroundI (aroundI v.x13 6) 16), sL x_.1 x_.2 x_.2, iQ (aroundI v.x4 24 - 6), iQ (aroundI v.x5 24 - 6), iQ (1 + aroundI v.x6 3), iQ (aroundI v.x7 256), iQ v.x8, iQ v.x9, iQ v.x10, iQ v.x11]) (fun x_ => [.gen (rowE (some ⟨x_.1, 0, none⟩) x_.1 x_.2 x_.2 24 1 (cV (goodP x_.2 v.x14 x_.2)) true), .cells b51 [.bool false, iQ 0, iQ 0, .slice none 0 0, iQ 0, iQ 0, iQ 0, iQ 0, iQ 0, iQ 0, iQ 0, iQ 0] 93 true, rD (v.A15) v.g15 v.o15 v.m15 4 (rvals v.x15), rD (v.A14) v.g14 v.o14 v.m14 1 (cV v.x14), rD (v.A3) v.g3 v.o3 v.m3 1 (cV v.x3), .gen (bunO i (TS.pxs ts)), .gen (bunO i (TS.ops ts)), .gen (rowE (Ao) gw i co 60 14 (dvals TS.cells ts) true), rD (A) g o n 16 (dvals V17.cells xs), sB3 n xs, sB14 n xs, sB15 n xs]) (fun x_ => (x_.2 : Int) = (1 + aroundI (aroundI v.x12 6) 16) * (1 + aroundI (aroundI v.x13 6) 16)) (fun w hT => (refGood5 v.A14 v.g14 v.o14 v.m14 v.k14 v.x14 v.x0 v.x1 v.x2 (.slice v.A3 v.m3 v.k3) v.x4 v.x5 v.x6 v.x7 v.x8 v.x9 v.x10 v.x11 v.x12 v.x13 w (hT.viewRo (.cons (i := 2) rfl Vw.rd .nil) rfl) ⟨hvg.w_, hvg.h_, hvg.l_, hvg.c_, hvg.m_, hvg.b_, hl5_a⟩ (by omega) (by omega) (by omega) (by omega)).mono fun e w' ⟨r52, n53, he_, hf_, ht_⟩ => ⟨(r52, n53), he_, hf_, hT.news ht_ rfl⟩) ?_
      rintro ⟨r52, n53⟩ hf54_
      replace hf54_ : (n53 : Int) = (1 + aroundI (aroundI v.x12 6) 16) * (1 + aroundI (aroundI v.x13 6) 16) := hf54_
      refine cM ?_
      have hq55_ := aroundI_range v.x4 (m := 24) (by omega)
      have hq56_ := aroundI_range v.x5 (m := 24) (by omega)
      have hq57_ := aroundI_range v.x6 (m := 3) (by omega)
      have hq58_ := aroundI_range v.x7 (m := 256) (by omega)
      have hq59_ := aroundI_range v.x12 (m := 6) (by omega)
      have hq60_ := aroundI_range v.x13 (m := 6) (by omega)
      have hq61_ := aroundI_range (aroundI v.x12 6) (m := 16) (by omega)
      have hq62_ := aroundI_range (aroundI v.x13 6) (m := 16) (by omega)
      have hM63_m : AllMay (goodP n53 v.x14 n53) := goodP_may _ hvg.b_
      have hM63_ : ImgOk (1 + aroundI (aroundI v.x12 6) 16) (1 + aroundI (aroundI v.x13 6) 16) n53 (goodP n53 v.x14 n53) := imgOk_of (by omega) hf54_ (by simp [goodP_length]) hM63_m
      have hM63_w1 := hM63_.w1
      have hM63_h1 := hM63_.h1
      have hM63_le := hM63_.le
      have hM63_num := hM63_.num
      have hM63_len := hM63_.len
      refine dX 2 [] <| dO 22 0 <| oS 1 [(0, .slice A n cap), (3, .slice Ao i co), (4, iQ (i : Int)), (5, pT b51), (15, iQ (i : Int)), (16, .bool true)] [oE r52 n53 n53 24 1 (cV (goodP n53 v.x14 n53)), .cells b51 [.bool true, iQ (1 + aroundI (aroundI v.x12 6) 16), iQ (1 + aroundI (aroundI v.x13 6) 16), sL r52 n53 n53, iQ (aroundI v.x4 24 - 6), iQ (aroundI v.x5 24 - 6), iQ (1 + aroundI v.x6 3), iQ (aroundI v.x7 256), iQ v.x8, iQ v.x9, iQ v.x10, iQ v.x11] 93 true, rD (v.A15) v.g15 v.o15 v.m15 4 (rvals v.x15), rD (v.A14) v.g14 v.o14 v.m14 1 (cV v.x14), rD (v.A3) v.g3 v.o3 v.m3 1 (cV v.x3), .gen (bunO i (TS.pxs ts)), .gen (bunO i (TS.ops ts)), .gen (rowE (Ao) gw i co 60 14 (dvals TS.cells ts) true), rD (A) g o n 16 (dvals V17.cells xs), sB3 n xs, sB14 n xs, sB15 n xs] <| dX 2 [] <| dD <| zN <| zSR 13 <| bW [0, 1, 0, 1, 0, 1, 0, 1, 0, 1, 0, 0, 0] 13 0 (fun b64 => [(0, .slice A n cap), (3, .slice Ao i co), (4, iQ (i : Int)), (5, pT b51), (6, pT b64), (15, iQ (i : Int)), (16, .bool true)]) (fun b64 => [.cells b64 [.bool true, iQ (1 + aroundI (aroundI v.x12 6) 16), iQ (1 + aroundI (aroundI v.x13 6) 16), sL r52 n53 n53, iQ (aroundI v.x4 24 - 6), iQ (aroundI v.x5 24 - 6), iQ (1 + aroundI v.x6 3), iQ (aroundI v.x7 256), iQ v.x8, iQ v.x9, iQ v.x10, iQ v.x11, .slice none 0 0, .string ⟨#[]⟩] 60 true, oE r52 n53 n53 24 1 (cV (goodP n53 v.x14 n53)), .cells b51 [.bool true, iQ (1 + aroundI (aroundI v.x12 6) 16), iQ (1 + aroundI (aroundI v.x13 6) 16), sL r52 n53 n53, iQ (aroundI v.x4 24 - 6), iQ (aroundI v.x5 24 - 6), iQ (1 + aroundI v.x6 3), iQ (aroundI v.x7 256), iQ v.x8, iQ v.x9, iQ v.x10, iQ v.x11] 93 true, rD (v.A15) v.g15 v.o15 v.m15 4 (rvals v.x15), rD (v.A14) v.g14 v.o14 v.m14 1 (cV v.x14), rD (v.A3) v.g3 v.o3 v.m3 1 (cV v.x3), .gen (bunO i (TS.pxs ts)), .gen (bunO i (TS.ops ts)), .gen (rowE (Ao) gw i co 60 14 (dvals TS.cells ts) true), rD (A) g o n 16 (dvals V17.cells xs), sB3 n xs, sB14 n xs, sB15 n xs]) [0, 3, 4, 5, 6, 15, 16] fun b64 => ?_
      refine zDNSR 1 <| bD [0] 1 0 [(7, .slice none 0 0)] [] <| zDNSSR 1 <| bD [0] 1 0 [(8, iQ 0)] [] <| zDNB <| cont_nilrow 53 4 ?_
      refine nL [(0, .slice A n cap), (3, .slice Ao i co), (4, iQ (i : Int)), (5, pT b51), (6, pT b64), (7, .slice none 0 0), (8, iQ 0), (15, iQ (i : Int)), (16, .bool true)] ?_
      refine cL (α := Nat × List Rect × Option Addr × Nat × Nat × Nat) (fun x_ : Nat × List Rect × Option Addr × Nat × Nat × Nat => x_.1 ≤ n53 ∧ x_.2.2.2.2.1 ≤ x_.1 ∧ ∀ r ∈ x_.2.1, SolR (1 + aroundI (aroundI v.x12 6) 16) (goodP n53 v.x14 n53) r) (fun x_ : Nat × List Rect × Option Addr × Nat × Nat × Nat => [(0, .slice A n cap), (3, .slice Ao i co), (4, iQ (i : Int)), (5, pT b51), (6, pT b64), (7, .slice x_.2.2.1 x_.2.2.2.2.1 x_.2.2.2.2.2), (8, iQ ((x_.1 : Nat) : Int)), (15, iQ (i : Int)), (16, .bool true)]) (fun x_ : Nat × List Rect × Option Addr × Nat × Nat × Nat => [.gen (rowE (x_.2.2.1) x_.2.2.2.1 x_.2.2.2.2.1 x_.2.2.2.2.2 53 4 (rvals x_.2.1) true), .cells b64 [.bool true, iQ (1 + aroundI (aroundI v.x12 6) 16), iQ (1 + aroundI (aroundI v.x13 6) 16), sL r52 n53 n53, iQ (aroundI v.x4 24 - 6), iQ (aroundI v.x5 24 - 6), iQ (1 + aroundI v.x6 3), iQ (aroundI v.x7 256), iQ v.x8, iQ v.x9, iQ v.x10, iQ v.x11, .slice none 0 0, .string ⟨#[]⟩] 60 true, oE r52 n53 n53 24 1 (cV (goodP n53 v.x14 n53)), .cells b51 [.bool true, iQ (1 + aroundI (aroundI v.x12 6) 16), iQ (1 + aroundI (aroundI v.x13 6) 16), sL r52 n53 n53, iQ (aroundI v.x4 24 - 6), iQ (aroundI v.x5 24 - 6), iQ (1 + aroundI v.x6 3), iQ (aroundI v.x7 256), iQ v.x8, iQ v.x9, iQ v.x10, iQ v.x11] 93 true, rD (v.A15) v.g15 v.o15 v.m15 4 (rvals v.x15), rD (v.A14) v.g14 v.o14 v.m14 1 (cV v.x14), rD (v.A3) v.g3 v.o3 v.m3 1 (cV v.x3), .gen (bunO i (TS.pxs ts)), .gen (bunO i (TS.ops ts)), .gen (rowE (Ao) gw i co 60 14 (dvals TS.cells ts) true), rD (A) g o n 16 (dvals V17.cells xs), sB3 n xs, sB14 n xs, sB15 n xs]) (fun x_ : Nat × List Rect × Option Addr × Nat × Nat × Nat => n53 - x_.1) (0, ([] : List Rect), none, 0, 0, 0) (show (0) ≤ n53 ∧ (0) ≤ (0) ∧ ∀ r ∈ (([] : List Rect)), SolR (1 + aroundI (aroundI v.x12 6) 16) (goodP n53 v.x14 n53) r from ⟨by omega, by omega, fun r hr => absurd hr (by simp)⟩) ?_
      rintro ⟨k, ss, As, gs, ns, cs⟩ hinv66_
      replace hinv66_ : k ≤ n53 ∧ ns ≤ k ∧ ∀ r ∈ ss, SolR (1 + aroundI (aroundI v.x12 6) 16) (goodP n53 v.x14 n53) r := hinv66_
      refine cM ?_
      obtain ⟨hk, hns, hss⟩ := hinv66_
      have hem := emod_range k (W := (1 + aroundI (aroundI v.x12 6) 16)) (by omega)
      have hpr : k < n53 → 0 ≤ (goodP n53 v.x14 n53).getD k 0 ∧ (goodP n53 v.x14 n53).getD k 0 < 4294967296 := fun h_ => hM63_.rng _ (by rw [List.getD_eq_getElem?_getD, List.getElem?_eq_getElem (by omega)]; simp)
      refine zSSR 6 <| bD [0, 0, 0, 3, 0, 0] 6 0 [(57, .bool (decide (((k : Nat) : Int) < (n53 : Int))))] [52, 53, 54, 55, 56] <| zDN <| sD 57 rfl (fun c67_ => ?_) fun c67_ => ?_
      ·
        refine zTKNSBSR 9 <| fR 0 ns As gs cs ss rfl fun hr68_a hr68_l hr68_c hr68_m => ?_
        have hrs := hr68_a
        obtain ⟨hpr0, hpr1⟩ := hpr (by omega)
        refine bD [0, 0, 3, 0] 4 5 [(62, sL r52 n53 n53), (63, iQ ((k : Nat) : Int))] [60, 61] <| pS 5 4 <| sS 64 (Instr.indexAt 39 (sL r52 n53 n53) (iQ ((k : Nat) : Int))) (.pointer (some ⟨r52, (k : Nat), none⟩)) (fun w hT => rI 24 1 w) <| pS 6 3 <| sS 65 (Instr.loadAt 24 (.pointer (some ⟨r52, (k : Nat), none⟩))) (cQ ((goodP n53 v.x14 n53).getD (k : Nat) 0)) (fun w hT => rL (Row.cell (hT.ok 2 _ rfl) ((k : Nat)) _ (ivals_get (by omega)))) <| pS 7 2 <| cP 66 (.agg #[iQ (pa ((goodP n53 v.x14 n53).getD (k : Nat) 0)), iQ (pr ((goodP n53 v.x14 n53).getD (k : Nat) 0)), iQ (pg ((goodP n53 v.x14 n53).getD (k : Nat) 0)), iQ (pb ((goodP n53 v.x14 n53).getD (k : Nat) 0))]) (fun w hT => refParts ((goodP n53 v.x14 n53).getD (k : Nat) 0) w (by omega) (by omega)) <| bW [0, 0] 9 0 (fun b69 => [(0, .slice A n cap), (3, .slice Ao i co), (4, iQ (i : Int)), (5, pT b51), (6, pT b64), (7, .slice As ns cs), (8, iQ ((k : Nat) : Int)), (9, pT b69), (15, iQ (i : Int)), (16, .bool true)]) (fun b69 => [.cells b69 [iQ (pa ((goodP n53 v.x14 n53).getD (k : Nat) 0)), iQ (pr ((goodP n53 v.x14 n53).getD (k : Nat) 0)), iQ (pg ((goodP n53 v.x14 n53).getD (k : Nat) 0)), iQ (pb ((goodP n53 v.x14 n53).getD (k : Nat) 0))] 49 true, .gen (rowE (As) gs ns cs 53 4 (rvals ss) true), .cells b64 [.bool true, iQ (1 + aroundI (aroundI v.x12 6) 16), iQ (1 + aroundI (aroundI v.x13 6) 16), sL r52 n53 n53, iQ (aroundI v.x4 24 - 6), iQ (aroundI v.x5 24 - 6), iQ (1 + aroundI v.x6 3), iQ (aroundI v.x7 256), iQ v.x8, iQ v.x9, iQ v.x10, iQ v.x11, .slice none 0 0, .string ⟨#[]⟩] 60 true, oE r52 n53 n53 24 1 (cV (goodP n53 v.x14 n53)), .cells b51 [.bool true, iQ (1 + aroundI (aroundI v.x12 6) 16), iQ (1 + aroundI (aroundI v.x13 6) 16), sL r52 n53 n53, iQ (aroundI v.x4 24 - 6), iQ (aroundI v.x5 24 - 6), iQ (1 + aroundI v.x6 3), iQ (aroundI v.x7 256), iQ v.x8, iQ v.x9, iQ v.x10, iQ v.x11] 93 true, rD (v.A15) v.g15 v.o15 v.m15 4 (rvals v.x15), rD (v.A14) v.g14 v.o14 v.m14 1 (cV v.x14), rD (v.A3) v.g3 v.o3 v.m3 1 (cV v.x3), .gen (bunO i (TS.pxs ts)), .gen (bunO i (TS.ops ts)), .gen (rowE (Ao) gw i co 60 14 (dvals TS.cells ts) true), rD (A) g o n 16 (dvals V17.cells xs), sB3 n xs, sB14 n xs, sB15 n xs]) [0, 3, 4, 5, 6, 7, 8, 9, 15, 16] fun b69 => ?_
        refine zDNS <| drawn_enter 22 [] rfl (by kernel_rfl) ?_
        refine tD 0 [] [(0, 0), (1, 0), (2, 0), (3, 0)] 18 [3, 2, 1, 0] [(70, .bool ((pa ((goodP n53 v.x14 n53).getD (k : Nat) 0)) == 255))] [67, 68, 69] <| sE 70 rfl (fun c70_ => ?_) fun c70_ => ?_
        ·
          have hpk := c70_
          refine tD 0 [] [(4, 0), (5, 0), (10, 0), (11, 0), (15, 0), (16, 0)] 12 [16, 15, 11, 10, 5, 4, 3, 2, 1, 0] [(71, .slice A n cap), (72, iQ (i : Int)), (77, iQ ((k : Nat) : Int)), (78, .pointer (some ⟨b51, 1, none⟩)), (82, iQ ((k : Nat) : Int)), (83, .pointer (some ⟨b51, 1, none⟩))] [] <| rC 71 (.slice (some ⟨g, o, none⟩) n cap) rfl (by rw [hra (by omega)]) <| sT 0 [] 6 11 73 (Instr.indexAt 22 (.slice (some ⟨g, o, none⟩) n cap) (iQ (i : Int))) (.pointer (some ⟨g, o + i * 16, none⟩)) (fun w hT => rI 96 16 w) <| tD 0 [] [(7, 0), (12, 0), (17, 0)] 8 [17, 12, 7, 6, 16, 15, 11, 10, 5, 4, 3, 2, 1, 0] [(74, .pointer (some ⟨g, o + i * 16 + 15, none⟩)), (79, .pointer (some ⟨b51, 1, none⟩)), (84, .pointer (some ⟨b51, 1, none⟩))] [] <| cont_fact (F := (0 < v.m15 → (v.A15 : Option Addr) = some ⟨v.g15, v.o15, none⟩) ∧ v.x15.length = v.m15) (fun w hT => Rd.factsR (hT.ok 5 _ rfl)) (fun hl71_ => ?_)
          obtain ⟨hl71_a, hl71_l⟩ := hl71_
          refine sT 0 [] 8 7 75 (Instr.loadAt 58 (.pointer (some ⟨g, o + i * 16 + 15, none⟩))) (.slice v.A15 v.m15 v.k15) (fun w hT => rL (Rd.dcell1 V17.size (hT 11 _ rfl) (i := i) (by omega) 15 (by rw [hv]; rfl))) <| tD 0 [] [(13, 4), (18, 4)] 5 [18, 13, 8, 17, 12, 7, 6, 16, 15, 11, 10, 5, 4, 3, 2, 1, 0] [(80, iQ (1 + aroundI (aroundI v.x12 6) 16)), (85, iQ (1 + aroundI (aroundI v.x12 6) 16))] [] <| sT 0 [] 14 4 81 (bopS .rem 3 (.tmp 77) (.tmp 80) (iQ ((k : Nat) : Int)) (iQ (1 + aroundI (aroundI v.x12 6) 16))) (iQ (((k : Nat) : Int).tmod (1 + aroundI (aroundI v.x12 6) 16))) (fun w hT => run_rem (by omega) w) <| rC 81 (iQ (((k : Nat) : Int) % (1 + aroundI (aroundI v.x12 6) 16))) rfl (tmodI (by omega)) <| sT 0 [] 19 3 86 (bopS .quo 3 (.tmp 82) (.tmp 85) (iQ ((k : Nat) : Int)) (iQ (1 + aroundI (aroundI v.x12 6) 16))) (iQ (IntKind.i64.wrap (((k : Nat) : Int).tdiv (1 + aroundI (aroundI v.x12 6) 16)))) (fun w hT => run_quo (by omega) w) <| rC 86 (iQ (((k : Nat) : Int) / (1 + aroundI (aroundI v.x12 6) 16))) rfl (tdivI (by omega) (by omega) (by omega)) <| dO 9 2 <| cG (d := 76) (α := Option Addr × Nat × Nat × Nat) (fun x_ => .slice x_.1 x_.2.2.1 x_.2.2.2) (fun x_ => [.gen (rowE (x_.1) x_.2.1 x_.2.2.1 x_.2.2.2 53 4 (rvals (smallL v.x15 3)) true), .cells b69 [iQ (pa ((goodP n53 v.x14 n53).getD (k : Nat) 0)), iQ (pr ((goodP n53 v.x14 n53).getD (k : Nat) 0)), iQ (pg ((goodP n53 v.x14 n53).getD (k : Nat) 0)), iQ (pb ((goodP n53 v.x14 n53).getD (k : Nat) 0))] 49 true, .gen (rowE (As) gs ns cs 53 4 (rvals ss) true), .cells b64 [.bool true, iQ (1 + aroundI (aroundI v.x12 6) 16), iQ (1 + aroundI (aroundI v.x13 6) 16), sL r52 n53 n53, iQ (aroundI v.x4 24 - 6), iQ (aroundI v.x5 24 - 6), iQ (1 + aroundI v.x6 3), iQ (aroundI v.x7 256), iQ v.x8, iQ v.x9, iQ v.x10, iQ v.x11, .slice none 0 0, .string ⟨#[]⟩] 60 true, oE r52 n53 n53 24 1 (cV (goodP n53 v.x14 n53)), .cells b51 [.bool true, iQ (1 + aroundI (aroundI v.x12 6) 16), iQ (1 + aroundI (aroundI v.x13 6) 16), sL r52 n53 n53, iQ (aroundI v.x4 24 - 6), iQ (aroundI v.x5 24 - 6), iQ (1 + aroundI v.x6 3), iQ (aroundI v.x7 256), iQ v.x8, iQ v.x9, iQ v.x10, iQ v.x11] 93 true, rD (v.A15) v.g15 v.o15 v.m15 4 (rvals v.x15), rD (v.A14) v.g14 v.o14 v.m14 1 (cV v.x14), rD (v.A3) v.g3 v.o3 v.m3 1 (cV v.x3), .gen (bunO i (TS.pxs ts)), .gen (bunO i (TS.ops ts)), .gen (rowE (Ao) gw i co 60 14 (dvals TS.cells ts) true), rD (A) g o n 16 (dvals V17.cells xs), sB3 n xs, sB14 n xs, sB15 n xs]) (fun x_ => True) (fun w hT => (refSmallL v.A15 v.g15 v.o15 v.m15 v.k15 v.x15 3 w (hT.viewRo (.cons (i := 5) rfl Vw.rd .nil) rfl) hr15 (by omega)).mono fun e w' ⟨A72, g73, k74, cp75, he_, ht_⟩ => ⟨(A72, g73, k74, cp75), he_, trivial, hT.news ht_ rfl⟩) ?_
          rintro ⟨A72, g73, k74, cp75⟩ hf76_
          refine cM ?_
          refine fR 0 k74 A72 g73 cp75 (smallL v.x15 3) rfl fun hr77_a hr77_l hr77_c hr77_m => ?_
          have hsl78_ := smallL_length v.x15 3
          refine dX 1 [] <| dO 20 1 <| cP 87 (.bool (hasL (smallL v.x15 3) (((k : Nat) : Int) % (1 + aroundI (aroundI v.x12 6) 16)) (((k : Nat) : Int) / (1 + aroundI (aroundI v.x12 6) 16)))) (fun w hT => refHasL A72 g73 0 k74 cp75 (smallL v.x15 3) (((k : Nat) : Int) % (1 + aroundI (aroundI v.x12 6) 16)) (((k : Nat) : Int) / (1 + aroundI (aroundI v.x12 6) 16)) w (hT.viewRo (.cons (i := 0) rfl Vw.rowRd .nil) rfl) (by omega)) <| dX 1 [] <| tD 1 [] [(21, 0)] 0 [21, 20, 9, 19, 14, 18, 13, 8, 17, 12, 7, 6, 16, 15, 11, 10, 5, 4, 3, 2, 1, 0] [(88, .bool (hasL (smallL v.x15 3) (((k : Nat) : Int) % (1 + aroundI (aroundI v.x12 6) 16)) (((k : Nat) : Int) / (1 + aroundI (aroundI v.x12 6) 16))))] [] <| dD <| zN <| cSp 88 _ rfl (fun c79_ => ?_) fun c79_ => ?_
          ·
            refine rC 87 (.bool true) rfl (congrArg Value.bool c79_) <| cTr rfl <| drawn_enter 27 [2] rfl (by kernel_rfl) ?_
            refine tD 0 [2] [(0, 0), (1, 0), (2, 0), (6, 0), (7, 0), (11, 0), (12, 0), (17, 0), (18, 0), (3, 0), (8, 0), (13, 0), (19, 0), (4, 5), (9, 5), (14, 5), (20, 5)] 10 [20, 14, 9, 4, 19, 13, 8, 3, 18, 17, 12, 11, 7, 6, 2, 1, 0] [(89, .slice As ns cs), (90, iQ ((k : Nat) : Int)), (93, iQ (1 + aroundI (aroundI v.x12 6) 16)), (95, iQ ((k : Nat) : Int)), (98, iQ (1 + aroundI (aroundI v.x12 6) 16)), (100, iQ ((k : Nat) : Int)), (103, iQ (1 + aroundI (aroundI v.x12 6) 16)), (106, iQ ((k : Nat) : Int)), (109, iQ (1 + aroundI (aroundI v.x12 6) 16))] [91, 92, 96, 97, 101, 102, 107, 108] <| sT 0 [2] 5 9 94 (bopS .rem 3 (.tmp 90) (.tmp 93) (iQ ((k : Nat) : Int)) (iQ (1 + aroundI (aroundI v.x12 6) 16))) (iQ (((k : Nat) : Int).tmod (1 + aroundI (aroundI v.x12 6) 16))) (fun w hT => run_rem (by omega) w) <| rC 94 (iQ (((k : Nat) : Int) % (1 + aroundI (aroundI v.x12 6) 16))) rfl (tmodI (by omega)) <| sT 0 [2] 10 8 99 (bopS .quo 3 (.tmp 95) (.tmp 98) (iQ ((k : Nat) : Int)) (iQ (1 + aroundI (aroundI v.x12 6) 16))) (iQ (IntKind.i64.wrap (((k : Nat) : Int).tdiv (1 + aroundI (aroundI v.x12 6) 16)))) (fun w hT => run_quo (by omega) w) <| rC 99 (iQ (((k : Nat) : Int) / (1 + aroundI (aroundI v.x12 6) 16))) rfl (tdivI (by omega) (by omega) (by omega)) <| sT 0 [2] 15 7 104 (bopS .rem 3 (.tmp 100) (.tmp 103) (iQ ((k : Nat) : Int)) (iQ (1 + aroundI (aroundI v.x12 6) 16))) (iQ (((k : Nat) : Int).tmod (1 + aroundI (aroundI v.x12 6) 16))) (fun w hT => run_rem (by omega) w) <| rC 104 (iQ (((k : Nat) : Int) % (1 + aroundI (aroundI v.x12 6) 16))) rfl (tmodI (by omega)) <| tD 0 [2] [(16, 0)] 6 [16, 15, 10, 5, 20, 14, 9, 4, 19, 13, 8, 3, 18, 17, 12, 11, 7, 6, 2, 1, 0] [(105, iQ (IntKind.i64.wrap ((((k : Nat) : Int) % (1 + aroundI (aroundI v.x12 6) 16)) + 1)))] [] <| wI 105 ((((k : Nat) : Int) % (1 + aroundI (aroundI v.x12 6) 16)) + 1) <| sT 0 [2] 21 5 110 (bopS .quo 3 (.tmp 106) (.tmp 109) (iQ ((k : Nat) : Int)) (iQ (1 + aroundI (aroundI v.x12 6) 16))) (iQ (IntKind.i64.wrap (((k : Nat) : Int).tdiv (1 + aroundI (aroundI v.x12 6) 16)))) (fun w hT => run_quo (by omega) w) <| rC 110 (iQ (((k : Nat) : Int) / (1 + aroundI (aroundI v.x12 6) 16))) rfl (tdivI (by omega) (by omega) (by omega)) <| tD 0 [2] [(22, 0)] 4 [22, 21, 16, 15, 10, 5, 20, 14, 9, 4, 19, 13, 8, 3, 18, 17, 12, 11, 7, 6, 2, 1, 0] [(111, iQ (IntKind.i64.wrap ((((k : Nat) : Int) / (1 + aroundI (aroundI v.x12 6) 16)) + 1)))] [] <| wI 111 ((((k : Nat) : Int) / (1 + aroundI (aroundI v.x12 6) 16)) + 1) <| tD 0 [2] [(23, 0)] 3 [23, 22, 21, 16, 15, 10, 5, 20, 14, 9, 4, 19, 13, 8, 3, 18, 17, 12, 11, 7, 6, 2, 1, 0] [(112, .agg #[iQ (((k : Nat) : Int) % (1 + aroundI (aroundI v.x12 6) 16)), iQ (((k : Nat) : Int) / (1 + aroundI (aroundI v.x12 6) 16)), iQ ((((k : Nat) : Int) % (1 + aroundI (aroundI v.x12 6) 16)) + 1), iQ ((((k : Nat) : Int) / (1 + aroundI (aroundI v.x12 6) 16)) + 1)])] [] <| dO 24 2 <| one_step1 0 (fun b80 => [(0, .slice A n cap), (3, .slice Ao i co), (4, iQ (i : Int)), (5, pT b51), (6, pT b64), (7, .slice As ns cs), (8, iQ ((k : Nat) : Int)), (15, iQ (i : Int)), (16, .bool true), (71, .slice (some ⟨g, o, none⟩) n cap), (72, iQ (i : Int)), (73, .pointer (some ⟨g, o + i * 16, none⟩)), (74, .pointer (some ⟨g, o + i * 16 + 15, none⟩)), (75, .slice v.A15 v.m15 v.k15), (76, .slice A72 k74 cp75), (77, iQ ((k : Nat) : Int)), (78, .pointer (some ⟨b51, 1, none⟩)), (79, .pointer (some ⟨b51, 1, none⟩)), (80, iQ (1 + aroundI (aroundI v.x12 6) 16)), (81, iQ (((k : Nat) : Int) % (1 + aroundI (aroundI v.x12 6) 16))), (82, iQ ((k : Nat) : Int)), (83, .pointer (some ⟨b51, 1, none⟩)), (84, .pointer (some ⟨b51, 1, none⟩)), (85, iQ (1 + aroundI (aroundI v.x12 6) 16)), (86, iQ (((k : Nat) : Int) / (1 + aroundI (aroundI v.x12 6) 16))), (87, .bool true), (89, .slice As ns cs), (113, sL b80 1 1)]) (fun b80 => [.cells b80 [iQ (((k : Nat) : Int) % (1 + aroundI (aroundI v.x12 6) 16)), iQ (((k : Nat) : Int) / (1 + aroundI (aroundI v.x12 6) 16)), iQ ((((k : Nat) : Int) % (1 + aroundI (aroundI v.x12 6) 16)) + 1), iQ ((((k : Nat) : Int) / (1 + aroundI (aroundI v.x12 6) 16)) + 1)] 53 true, .gen (rowE (A72) g73 k74 cp75 53 4 (rvals (smallL v.x15 3)) true), .cells b69 [iQ (pa ((goodP n53 v.x14 n53).getD (k : Nat) 0)), iQ (pr ((goodP n53 v.x14 n53).getD (k : Nat) 0)), iQ (pg ((goodP n53 v.x14 n53).getD (k : Nat) 0)), iQ (pb ((goodP n53 v.x14 n53).getD (k : Nat) 0))] 49 true, .gen (rowE (As) gs ns cs 53 4 (rvals ss) true), .cells b64 [.bool true, iQ (1 + aroundI (aroundI v.x12 6) 16), iQ (1 + aroundI (aroundI v.x13 6) 16), sL r52 n53 n53, iQ (aroundI v.x4 24 - 6), iQ (aroundI v.x5 24 - 6), iQ (1 + aroundI v.x6 3), iQ (aroundI v.x7 256), iQ v.x8, iQ v.x9, iQ v.x10, iQ v.x11, .slice none 0 0, .string ⟨#[]⟩] 60 true, oE r52 n53 n53 24 1 (cV (goodP n53 v.x14 n53)), .cells b51 [.bool true, iQ (1 + aroundI (aroundI v.x12 6) 16), iQ (1 + aroundI (aroundI v.x13 6) 16), sL r52 n53 n53, iQ (aroundI v.x4 24 - 6), iQ (aroundI v.x5 24 - 6), iQ (1 + aroundI v.x6 3), iQ (aroundI v.x7 256), iQ v.x8, iQ v.x9, iQ v.x10, iQ v.x11] 93 true, rD (v.A15) v.g15 v.o15 v.m15 4 (rvals v.x15), rD (v.A14) v.g14 v.o14 v.m14 1 (cV v.x14), rD (v.A3) v.g3 v.o3 v.m3 1 (cV v.x3), .gen (bunO i (TS.pxs ts)), .gen (bunO i (TS.ops ts)), .gen (rowE (Ao) gw i co 60 14 (dvals TS.cells ts) true), rD (A) g o n 16 (dvals V17.cells xs), sB3 n xs, sB14 n xs, sB15 n xs]) (fun b80 => by kernel_rfl) (fun b80 => by kernel_rfl) (fun b80 => ?_)
            refine dX 1 [2] <| dO 25 1 <| sSW (α := Option Addr × Nat × Nat) 114 (Builtin.append_ #[58, 58] 58 #[.slice As ns cs, sL b80 1 1]) (fun x_ => .slice x_.1 (ns + 1) x_.2.2) (fun x_ => [.cells b80 [iQ (((k : Nat) : Int) % (1 + aroundI (aroundI v.x12 6) 16)), iQ (((k : Nat) : Int) / (1 + aroundI (aroundI v.x12 6) 16)), iQ ((((k : Nat) : Int) % (1 + aroundI (aroundI v.x12 6) 16)) + 1), iQ ((((k : Nat) : Int) / (1 + aroundI (aroundI v.x12 6) 16)) + 1)] 53 true, .gen (rowE (A72) g73 k74 cp75 53 4 (rvals (smallL v.x15 3)) true), .cells b69 [iQ (pa ((goodP n53 v.x14 n53).getD (k : Nat) 0)), iQ (pr ((goodP n53 v.x14 n53).getD (k : Nat) 0)), iQ (pg ((goodP n53 v.x14 n53).getD (k : Nat) 0)), iQ (pb ((goodP n53 v.x14 n53).getD (k : Nat) 0))] 49 true, .gen (rowE (x_.1) x_.2.1 (ns + 1) x_.2.2 53 4 (rvals (ss ++ [(⟨((k : Nat) : Int) % (1 + aroundI (aroundI v.x12 6) 16), ((k : Nat) : Int) / (1 + aroundI (aroundI v.x12 6) 16), (((k : Nat) : Int) % (1 + aroundI (aroundI v.x12 6) 16)) + 1, (((k : Nat) : Int) / (1 + aroundI (aroundI v.x12 6) 16)) + 1⟩ : Rect)])) true), .cells b64 [.bool true, iQ (1 + aroundI (aroundI v.x12 6) 16), iQ (1 + aroundI (aroundI v.x13 6) 16), sL r52 n53 n53, iQ (aroundI v.x4 24 - 6), iQ (aroundI v.x5 24 - 6), iQ (1 + aroundI v.x6 3), iQ (aroundI v.x7 256), iQ v.x8, iQ v.x9, iQ v.x10, iQ v.x11, .slice none 0 0, .string ⟨#[]⟩] 60 true, oE r52 n53 n53 24 1 (cV (goodP n53 v.x14 n53)), .cells b51 [.bool true, iQ (1 + aroundI (aroundI v.x12 6) 16), iQ (1 + aroundI (aroundI v.x13 6) 16), sL r52 n53 n53, iQ (aroundI v.x4 24 - 6), iQ (aroundI v.x5 24 - 6), iQ (1 + aroundI v.x6 3), iQ (aroundI v.x7 256), iQ v.x8, iQ v.x9, iQ v.x10, iQ v.x11] 93 true, rD (v.A15) v.g15 v.o15 v.m15 4 (rvals v.x15), rD (v.A14) v.g14 v.o14 v.m14 1 (cV v.x14), rD (v.A3) v.g3 v.o3 v.m3 1 (cV v.x3), .gen (bunO i (TS.pxs ts)), .gen (bunO i (TS.ops ts)), .gen (rowE (Ao) gw i co 60 14 (dvals TS.cells ts) true), rD (A) g o n 16 (dvals V17.cells xs), sB3 n xs, sB14 n xs, sB15 n xs]) (fun _ => True) (by kernel_rfl) (fun w hT => append_own (n' := (ns + 1)) (z := .agg #[iQ 0, iQ 0, iQ 0, iQ 0]) hT (i := 3) (bytes := 32) rfl (by kernel_rfl) (by kernel_rfl) rfl (by decide) (by decide) (Rd.ofCells (vals := rvals [(⟨((k : Nat) : Int) % (1 + aroundI (aroundI v.x12 6) 16), ((k : Nat) : Int) / (1 + aroundI (aroundI v.x12 6) 16), (((k : Nat) : Int) % (1 + aroundI (aroundI v.x12 6) 16)) + 1, (((k : Nat) : Int) / (1 + aroundI (aroundI v.x12 6) 16)) + 1⟩ : Rect)]) (hT.ok 0 _ rfl) rfl rfl) (rvals_one [(⟨((k : Nat) : Int) % (1 + aroundI (aroundI v.x12 6) 16), ((k : Nat) : Int) / (1 + aroundI (aroundI v.x12 6) 16), (((k : Nat) : Int) % (1 + aroundI (aroundI v.x12 6) 16)) + 1, (((k : Nat) : Int) / (1 + aroundI (aroundI v.x12 6) 16)) + 1⟩ : Rect)]) (by omega) (rvals_append ss [(⟨((k : Nat) : Int) % (1 + aroundI (aroundI v.x12 6) 16), ((k : Nat) : Int) / (1 + aroundI (aroundI v.x12 6) 16), (((k : Nat) : Int) % (1 + aroundI (aroundI v.x12 6) 16)) + 1, (((k : Nat) : Int) / (1 + aroundI (aroundI v.x12 6) 16)) + 1⟩ : Rect)]) rfl) ?_
            rintro ⟨A81, g81, cp81⟩ -
            refine cM ?_
            refine fR 3 (ns + 1) A81 g81 cp81 (ss ++ [(⟨((k : Nat) : Int) % (1 + aroundI (aroundI v.x12 6) 16), ((k : Nat) : Int) / (1 + aroundI (aroundI v.x12 6) 16), (((k : Nat) : Int) % (1 + aroundI (aroundI v.x12 6) 16)) + 1, (((k : Nat) : Int) / (1 + aroundI (aroundI v.x12 6) 16)) + 1⟩ : Rect)]) rfl fun hr82_a hr82_l hr82_c hr82_m => ?_
            refine dX 1 [2] <| tK 1 [2] [(26, 0)] 0 [26, 25, 24, 23, 22, 21, 16, 15, 10, 5, 20, 14, 9, 4, 19, 13, 8, 3, 18, 17, 12, 11, 7, 6, 2, 1, 0] [(0, .slice A n cap), (3, .slice Ao i co), (4, iQ (i : Int)), (5, pT b51), (6, pT b64), (7, .slice A81 (ns + 1) cp81), (8, iQ ((k : Nat) : Int)), (15, iQ (i : Int)), (16, .bool true), (71, .slice (some ⟨g, o, none⟩) n cap), (72, iQ (i : Int)), (73, .pointer (some ⟨g, o + i * 16, none⟩)), (74, .pointer (some ⟨g, o + i * 16 + 15, none⟩)), (75, .slice v.A15 v.m15 v.k15), (76, .slice A72 k74 cp75), (77, iQ ((k : Nat) : Int)), (78, .pointer (some ⟨b51, 1, none⟩)), (79, .pointer (some ⟨b51, 1, none⟩)), (80, iQ (1 + aroundI (aroundI v.x12 6) 16)), (81, iQ (((k : Nat) : Int) % (1 + aroundI (aroundI v.x12 6) 16))), (82, iQ ((k : Nat) : Int)), (83, .pointer (some ⟨b51, 1, none⟩)), (84, .pointer (some ⟨b51, 1, none⟩)), (85, iQ (1 + aroundI (aroundI v.x12 6) 16)), (86, iQ (((k : Nat) : Int) / (1 + aroundI (aroundI v.x12 6) 16))), (87, .bool true)] <| dD <| blk_normal <| zN <| cRg 3 rfl <| bS [0, 0] 2 1 [(0, .slice A n cap), (3, .slice Ao i co), (4, iQ (i : Int)), (5, pT b51), (6, pT b64), (7, .slice A81 (ns + 1) cp81), (15, iQ (i : Int)), (16, .bool true), (59, iQ (IntKind.i64.wrap (((k : Nat) : Int) + 1))), (71, .slice (some ⟨g, o, none⟩) n cap), (72, iQ (i : Int)), (73, .pointer (some ⟨g, o + i * 16, none⟩)), (74, .pointer (some ⟨g, o + i * 16 + 15, none⟩)), (75, .slice v.A15 v.m15 v.k15), (76, .slice A72 k74 cp75), (77, iQ ((k : Nat) : Int)), (78, .pointer (some ⟨b51, 1, none⟩)), (79, .pointer (some ⟨b51, 1, none⟩)), (80, iQ (1 + aroundI (aroundI v.x12 6) 16)), (81, iQ (((k : Nat) : Int) % (1 + aroundI (aroundI v.x12 6) 16))), (82, iQ ((k : Nat) : Int)), (83, .pointer (some ⟨b51, 1, none⟩)), (84, .pointer (some ⟨b51, 1, none⟩)), (85, iQ (1 + aroundI (aroundI v.x12 6) 16)), (86, iQ (((k : Nat) : Int) / (1 + aroundI (aroundI v.x12 6) 16))), (87, .bool true)] <| wI 59 (((k : Nat) : Int) + 1) <| fG 0 <| fG 1 <| bD [0] 3 0 [(8, iQ (((k : Nat) : Int) + 1))] [] <| zDN <| fG 0 <| cA (k + 1, ss ++ [(⟨((k : Nat) : Int) % (1 + aroundI (aroundI v.x12 6) 16), ((k : Nat) : Int) / (1 + aroundI (aroundI v.x12 6) 16), (((k : Nat) : Int) % (1 + aroundI (aroundI v.x12 6) 16)) + 1, (((k : Nat) : Int) / (1 + aroundI (aroundI v.x12 6) 16)) + 1⟩ : Rect)], A81, g81, (ns + 1), cp81) (show (k + 1) ≤ n53 ∧ ((ns + 1)) ≤ (k + 1) ∧ ∀ r ∈ (ss ++ [(⟨((k : Nat) : Int) % (1 + aroundI (aroundI v.x12 6) 16), ((k : Nat) : Int) / (1 + aroundI (aroundI v.x12 6) 16), (((k : Nat) : Int) % (1 + aroundI (aroundI v.x12 6) 16)) + 1, (((k : Nat) : Int) / (1 + aroundI (aroundI v.x12 6) 16)) + 1⟩ : Rect)]), SolR (1 + aroundI (aroundI v.x12 6) 16) (goodP n53 v.x14 n53) r from ⟨by omega, by omega, fun r_ hr_ => by rcases List.mem_append.1 hr_ with h_ | h_; exact hss r_ h_; rw [List.mem_singleton.1 h_]; exact ⟨k, by omega, rfl, hpk⟩⟩)
          refine rC 87 (.bool false) rfl (congrArg Value.bool c79_) <| zFKbNR 3 <| bD [0, 0] 2 1 [(59, iQ (IntKind.i64.wrap (((k : Nat) : Int) + 1)))] [58] <| wI 59 (((k : Nat) : Int) + 1) <| fG 1 <| bD [0] 3 0 [(8, iQ (((k : Nat) : Int) + 1))] [] <| zDN <| fG 0 <| cA (k + 1, ss, As, gs, ns, cs) (show (k + 1) ≤ n53 ∧ (ns) ≤ (k + 1) ∧ ∀ r ∈ (ss), SolR (1 + aroundI (aroundI v.x12 6) 16) (goodP n53 v.x14 n53) r from ⟨by omega, by omega, hss⟩)
        refine tD 0 [] [(4, 0), (5, 0), (10, 0), (11, 0), (15, 0), (16, 0), (6, 0), (12, 0), (17, 0), (7, 0), (13, 0), (18, 0), (8, 0), (14, 0), (19, 0)] 3 [19, 14, 8, 18, 13, 7, 17, 12, 6, 16, 15, 11, 10, 5, 4, 3, 2, 1, 0] [(71, undef), (72, undef), (73, undef), (74, undef), (75, undef), (77, undef), (78, undef), (79, undef), (80, undef), (81, undef), (82, undef), (83, undef), (84, undef), (85, undef), (86, undef)] [] <| dO 9 2 <| oS 0 [(0, .slice A n cap), (3, .slice Ao i co), (4, iQ (i : Int)), (5, pT b51), (6, pT b64), (7, .slice As ns cs), (8, iQ ((k : Nat) : Int)), (15, iQ (i : Int)), (16, .bool true), (70, .bool false), (71, undef), (72, undef), (73, undef), (74, undef), (75, undef), (76, undef), (77, undef), (78, undef), (79, undef), (80, undef), (81, undef), (82, undef), (83, undef), (84, undef), (85, undef), (86, undef)] [.cells b69 [iQ (pa ((goodP n53 v.x14 n53).getD (k : Nat) 0)), iQ (pr ((goodP n53 v.x14 n53).getD (k : Nat) 0)), iQ (pg ((goodP n53 v.x14 n53).getD (k : Nat) 0)), iQ (pb ((goodP n53 v.x14 n53).getD (k : Nat) 0))] 49 true, .gen (rowE (As) gs ns cs 53 4 (rvals ss) true), .cells b64 [.bool true, iQ (1 + aroundI (aroundI v.x12 6) 16), iQ (1 + aroundI (aroundI v.x13 6) 16), sL r52 n53 n53, iQ (aroundI v.x4 24 - 6), iQ (aroundI v.x5 24 - 6), iQ (1 + aroundI v.x6 3), iQ (aroundI v.x7 256), iQ v.x8, iQ v.x9, iQ v.x10, iQ v.x11, .slice none 0 0, .string ⟨#[]⟩] 60 true, oE r52 n53 n53 24 1 (cV (goodP n53 v.x14 n53)), .cells b51 [.bool true, iQ (1 + aroundI (aroundI v.x12 6) 16), iQ (1 + aroundI (aroundI v.x13 6) 16), sL r52 n53 n53, iQ (aroundI v.x4 24 - 6), iQ (aroundI v.x5 24 - 6), iQ (1 + aroundI v.x6 3), iQ (aroundI v.x7 256), iQ v.x8, iQ v.x9, iQ v.x10, iQ v.x11] 93 true, rD (v.A15) v.g15 v.o15 v.m15 4 (rvals v.x15), rD (v.A14) v.g14 v.o14 v.m14 1 (cV v.x14), rD (v.A3) v.g3 v.o3 v.m3 1 (cV v.x3), .gen (bunO i (TS.pxs ts)), .gen (bunO i (TS.ops ts)), .gen (rowE (Ao) gw i co 60 14 (dvals TS.cells ts) true), rD (A) g o n 16 (dvals V17.cells xs), sB3 n xs, sB14 n xs, sB15 n xs] <| dX 0 [] <| dO 20 1 <| oS 0 [(0, .slice A n cap), (3, .slice Ao i co), (4, iQ (i : Int)), (5, pT b51), (6, pT b64), (7, .slice As ns cs), (8, iQ ((k : Nat) : Int)), (15, iQ (i : Int)), (16, .bool true), (70, .bool false), (71, undef), (72, undef), (73, undef), (74, undef), (75, undef), (76, undef), (77, undef), (78, undef), (79, undef), (80, undef), (81, undef), (82, undef), (83, undef), (84, undef), (85, undef), (86, undef), (87, undef)] [.cells b69 [iQ (pa ((goodP n53 v.x14 n53).getD (k : Nat) 0)), iQ (pr ((goodP n53 v.x14 n53).getD (k : Nat) 0)), iQ (pg ((goodP n53 v.x14 n53).getD (k : Nat) 0)), iQ (pb ((goodP n53 v.x14 n53).getD (k : Nat) 0))] 49 true, .gen (rowE (As) gs ns cs 53 4 (rvals ss) true), .cells b64 [.bool true, iQ (1 + aroundI (aroundI v.x12 6) 16), iQ (1 + aroundI (aroundI v.x13 6) 16), sL r52 n53 n53, iQ (aroundI v.x4 24 - 6), iQ (aroundI v.x5 24 - 6), iQ (1 + aroundI v.x6 3), iQ (aroundI v.x7 256), iQ v.x8, iQ v.x9, iQ v.x10, iQ v.x11, .slice none 0 0, .string ⟨#[]⟩] 60 true, oE r52 n53 n53 24 1 (cV (goodP n53 v.x14 n53)), .cells b51 [.bool true, iQ (1 + aroundI (aroundI v.x12 6) 16), iQ (1 + aroundI (aroundI v.x13 6) 16), sL r52 n53 n53, iQ (aroundI v.x4 24 - 6), iQ (aroundI v.x5 24 - 6), iQ (1 + aroundI v.x6 3), iQ (aroundI v.x7 256), iQ v.x8, iQ v.x9, iQ v.x10, iQ v.x11] 93 true, rD (v.A15) v.g15 v.o15 v.m15 4 (rvals v.x15), rD (v.A14) v.g14 v.o14 v.m14 1 (cV v.x14), rD (v.A3) v.g3 v.o3 v.m3 1 (cV v.x3), .gen (bunO i (TS.pxs ts)), .gen (bunO i (TS.ops ts)), .gen (rowE (Ao) gw i co 60 14 (dvals TS.cells ts) true), rD (A) g o n 16 (dvals V17.cells xs), sB3 n xs, sB14 n xs, sB15 n xs] <| dX 0 [] <| tD 0 [] [(21, 0)] 0 [21, 20, 9, 19, 14, 8, 18, 13, 7, 17, 12, 6, 16, 15, 11, 10, 5, 4, 3, 2, 1, 0] [(88, .bool false)] [] <| dD <| zN <| zFKbNR 3 <| bD [0, 0] 2 1 [(59, iQ (IntKind.i64.wrap (((k : Nat) : Int) + 1)))] [58] <| wI 59 (((k : Nat) : Int) + 1) <| fG 0 <| bD [0] 3 0 [(8, iQ (((k : Nat) : Int) + 1))] [] <| zDN <| cA (k + 1, ss, As, gs, ns, cs) (show (k + 1) ≤ n53 ∧ (ns) ≤ (k + 1) ∧ ∀ r ∈ (ss), SolR (1 + aroundI (aroundI v.x12 6) 16) (goodP n53 v.x14 n53) r from ⟨by omega, by omega, hss⟩)
      refine zFXxxeNSR 4 <| fR 0 ns As gs cs ss rfl fun hr83_a hr83_l hr83_c hr83_m => ?_
      have hrs := hr83_a
      refine bD [0] 1 3 [(115, .slice As ns cs)] [] <| fG 3 <| pS 2 2 <| cG (d := 116) (α := Option Addr × Nat × Nat × Nat) (fun x_ => .slice x_.1 x_.2.2.1 x_.2.2.2) (fun x_ => [.gen (rowE (x_.1) x_.2.1 x_.2.2.1 x_.2.2.2 53 4 (rvals (canR ss)) true), .gen (rowE (As) gs ns cs 53 4 (rvals ss) true), .cells b64 [.bool true, iQ (1 + aroundI (aroundI v.x12 6) 16), iQ (1 + aroundI (aroundI v.x13 6) 16), sL r52 n53 n53, iQ (aroundI v.x4 24 - 6), iQ (aroundI v.x5 24 - 6), iQ (1 + aroundI v.x6 3), iQ (aroundI v.x7 256), iQ v.x8, iQ v.x9, iQ v.x10, iQ v.x11, .slice none 0 0, .string ⟨#[]⟩] 60 true, oE r52 n53 n53 24 1 (cV (goodP n53 v.x14 n53)), rD (v.A15) v.g15 v.o15 v.m15 4 (rvals v.x15), rD (v.A14) v.g14 v.o14 v.m14 1 (cV v.x14), rD (v.A3) v.g3 v.o3 v.m3 1 (cV v.x3), .gen (bunO i (TS.pxs ts)), .gen (bunO i (TS.ops ts)), .gen (rowE (Ao) gw i co 60 14 (dvals TS.cells ts) true), rD (A) g o n 16 (dvals V17.cells xs), sB3 n xs, sB14 n xs, sB15 n xs]) (fun x_ => True) (fun w hT => (refOf As gs 0 ns cs ss w (hT.viewRo (.cons (i := 0) rfl Vw.rowRd .nil) rfl) (by omega)).mono fun e w' ⟨A84, g85, k86, cp87, he_, ht_⟩ => ⟨(A84, g85, k86, cp87), he_, trivial, hT.news ht_ rfl⟩) ?_
      rintro ⟨A84, g85, k86, cp87⟩ hf88_
      refine cM ?_
      refine fR 0 k86 A84 g85 cp87 (canR ss) rfl fun hr89_a hr89_l hr89_c hr89_m => ?_
      refine bZ [0, 2] 4 0 [(0, .slice A n cap), (3, .slice Ao i co), (4, iQ (i : Int)), (6, pT b64), (15, iQ (i : Int)), (16, .bool true)] [.gen (rowE (A84) g85 k86 cp87 53 4 (rvals (canR ss)) true), .gen (rowE (As) gs ns cs 53 4 (rvals ss) true), .cells b64 [.bool true, iQ (1 + aroundI (aroundI v.x12 6) 16), iQ (1 + aroundI (aroundI v.x13 6) 16), sL r52 n53 n53, iQ (aroundI v.x4 24 - 6), iQ (aroundI v.x5 24 - 6), iQ (1 + aroundI v.x6 3), iQ (aroundI v.x7 256), iQ v.x8, iQ v.x9, iQ v.x10, iQ v.x11, .slice A84 k86 cp87, .string ⟨#[]⟩] 60 true, oE r52 n53 n53 24 1 (cV (goodP n53 v.x14 n53)), rD (v.A15) v.g15 v.o15 v.m15 4 (rvals v.x15), rD (v.A14) v.g14 v.o14 v.m14 1 (cV v.x14), rD (v.A3) v.g3 v.o3 v.m3 1 (cV v.x3), .gen (bunO i (TS.pxs ts)), .gen (bunO i (TS.ops ts)), .gen (rowE (Ao) gw i co 60 14 (dvals TS.cells ts) true), rD (A) g o n 16 (dvals V17.cells xs), sB3 n xs, sB14 n xs, sB15 n xs] <| zDNR 5 <| bW [0, 2, 0] 3 2 (fun b90 => [(0, .slice A n cap), (4, iQ (i : Int)), (15, iQ (i : Int)), (16, .bool true), (118, .slice Ao i co), (120, sL b90 1 1)]) (fun b90 => [.cells b90 [.bool true, iQ (1 + aroundI (aroundI v.x12 6) 16), iQ (1 + aroundI (aroundI v.x13 6) 16), sL r52 n53 n53, iQ (aroundI v.x4 24 - 6), iQ (aroundI v.x5 24 - 6), iQ (1 + aroundI v.x6 3), iQ (aroundI v.x7 256), iQ v.x8, iQ v.x9, iQ v.x10, iQ v.x11, .slice A84 k86 cp87, .string ⟨#[]⟩] 60 true, .gen (rowE (A84) g85 k86 cp87 53 4 (rvals (canR ss)) true), .gen (rowE (As) gs ns cs 53 4 (rvals ss) true), .cells b64 [.bool true, iQ (1 + aroundI (aroundI v.x12 6) 16), iQ (1 + aroundI (aroundI v.x13 6) 16), sL r52 n53 n53, iQ (aroundI v.x4 24 - 6), iQ (aroundI v.x5 24 - 6), iQ (1 + aroundI v.x6 3), iQ (aroundI v.x7 256), iQ v.x8, iQ v.x9, iQ v.x10, iQ v.x11, .slice A84 k86 cp87, .string ⟨#[]⟩] 60 true, oE r52 n53 n53 24 1 (cV (goodP n53 v.x14 n53)), rD (v.A15) v.g15 v.o15 v.m15 4 (rvals v.x15), rD (v.A14) v.g14 v.o14 v.m14 1 (cV v.x14), rD (v.A3) v.g3 v.o3 v.m3 1 (cV v.x3), .gen (bunO i (TS.pxs ts)), .gen (bunO i (TS.ops ts)), .gen (rowE (Ao) gw i co 60 14 (dvals TS.cells ts) true), rD (A) g o n 16 (dvals V17.cells xs), sB3 n xs, sB14 n xs, sB15 n xs]) [0, 4, 15, 16, 118, 120] fun b90 => ?_
      refine fG 3 <| pS 4 1 <| sSW (α := Option Addr × Nat × Nat) 121 (Builtin.append_ #[25, 25] 25 #[.slice Ao i co, sL b90 1 1]) (fun x_ => .slice x_.1 (i + 1) x_.2.2) (fun x_ => [.cells b90 [.bool true, iQ (1 + aroundI (aroundI v.x12 6) 16), iQ (1 + aroundI (aroundI v.x13 6) 16), sL r52 n53 n53, iQ (aroundI v.x4 24 - 6), iQ (aroundI v.x5 24 - 6), iQ (1 + aroundI v.x6 3), iQ (aroundI v.x7 256), iQ v.x8, iQ v.x9, iQ v.x10, iQ v.x11, .slice A84 k86 cp87, .string ⟨#[]⟩] 60 true, .gen (rowE (A84) g85 k86 cp87 53 4 (rvals (canR ss)) true), .gen (rowE (As) gs ns cs 53 4 (rvals ss) true), oE r52 n53 n53 24 1 (cV (goodP n53 v.x14 n53)), rD (v.A15) v.g15 v.o15 v.m15 4 (rvals v.x15), rD (v.A14) v.g14 v.o14 v.m14 1 (cV v.x14), rD (v.A3) v.g3 v.o3 v.m3 1 (cV v.x3), .gen (bunO i (TS.pxs ts)), .gen (bunO i (TS.ops ts)), .gen (rowE (x_.1) x_.2.1 (i + 1) x_.2.2 60 14 (dvals TS.cells (ts ++ [(⟨(1 + aroundI (aroundI v.x12 6) 16), (1 + aroundI (aroundI v.x13 6) 16), r52, n53, n53, goodP n53 v.x14 n53, (aroundI v.x4 24 - 6), (aroundI v.x5 24 - 6), 1 + aroundI v.x6 3, aroundI v.x7 256, v.x8, v.x9, v.x10, v.x11, A84, g85, k86, cp87, canR ss⟩ : TS)])) true), rD (A) g o n 16 (dvals V17.cells xs), sB3 n xs, sB14 n xs, sB15 n xs]) (fun _ => True) (by kernel_rfl) (fun w hT => append_own (n' := (i + 1)) (z := .agg #[.bool false, iQ 0, iQ 0, .slice none 0 0, iQ 0, iQ 0, iQ 0, iQ 0, iQ 0, iQ 0, iQ 0, iQ 0, .slice none 0 0, .string ⟨#[]⟩]) hT (i := 9) (bytes := 152) rfl (by kernel_rfl) (by kernel_rfl) rfl (by decide) (by decide) (Rd.ofCells (vals := dvals TS.cells [(⟨(1 + aroundI (aroundI v.x12 6) 16), (1 + aroundI (aroundI v.x13 6) 16), r52, n53, n53, goodP n53 v.x14 n53, (aroundI v.x4 24 - 6), (aroundI v.x5 24 - 6), 1 + aroundI v.x6 3, aroundI v.x7 256, v.x8, v.x9, v.x10, v.x11, A84, g85, k86, cp87, canR ss⟩ : TS)]) (hT.ok 0 _ rfl) rfl rfl) (dvals_one TS.one [(⟨(1 + aroundI (aroundI v.x12 6) 16), (1 + aroundI (aroundI v.x13 6) 16), r52, n53, n53, goodP n53 v.x14 n53, (aroundI v.x4 24 - 6), (aroundI v.x5 24 - 6), 1 + aroundI v.x6 3, aroundI v.x7 256, v.x8, v.x9, v.x10, v.x11, A84, g85, k86, cp87, canR ss⟩ : TS)]) (by omega) (dvals_append ts [(⟨(1 + aroundI (aroundI v.x12 6) 16), (1 + aroundI (aroundI v.x13 6) 16), r52, n53, n53, goodP n53 v.x14 n53, (aroundI v.x4 24 - 6), (aroundI v.x5 24 - 6), 1 + aroundI v.x6 3, aroundI v.x7 256, v.x8, v.x9, v.x10, v.x11, A84, g85, k86, cp87, canR ss⟩ : TS)]) rfl) ?_
      rintro ⟨A91, g91, cp91⟩ -
      refine cM ?_
      refine cont_fact (F := (0 < (i + 1) → (A91 : Option Addr) = some ⟨g91, 0, none⟩) ∧ (ts ++ [(⟨(1 + aroundI (aroundI v.x12 6) 16), (1 + aroundI (aroundI v.x13 6) 16), r52, n53, n53, goodP n53 v.x14 n53, (aroundI v.x4 24 - 6), (aroundI v.x5 24 - 6), 1 + aroundI v.x6 3, aroundI v.x7 256, v.x8, v.x9, v.x10, v.x11, A84, g85, k86, cp87, canR ss⟩ : TS)]).length = (i + 1) ∧ (i + 1) ≤ cp91 ∧ cp91 ≤ maxLen) (fun w hT => Row.factsD TS.size (by decide) (hT.ok 9 _ rfl)) (fun hr92_ => ?_)
      obtain ⟨hr92_a, hr92_l, hr92_c, hr92_m⟩ := hr92_
      unfold maxLen at hr92_m
      refine bD [0] 5 0 [(3, .slice A91 (i + 1) cp91)] [] <| fG 0 <| zDbNR 3 <| bD [0, 0] 2 1 [(19, iQ (IntKind.i64.wrap ((i : Int) + 1)))] [18] <| wI 19 ((i : Int) + 1) <| bD [0] 3 0 [(4, iQ ((i : Int) + 1))] [] <| zDN ?_
      obtain ⟨t, ht⟩ : ∃ t_ : TS, t_ = (⟨(1 + aroundI (aroundI v.x12 6) 16), (1 + aroundI (aroundI v.x13 6) 16), r52, n53, n53, goodP n53 v.x14 n53, (aroundI v.x4 24 - 6), (aroundI v.x5 24 - 6), 1 + aroundI v.x6 3, aroundI v.x7 256, v.x8, v.x9, v.x10, v.x11, A84, g85, k86, cp87, canR ss⟩ : TS) := ⟨_, rfl⟩
      refine cont_rowEqD (cel := TS.cells) (z := 14) 8 (ts ++ [(⟨(1 + aroundI (aroundI v.x12 6) 16), (1 + aroundI (aroundI v.x13 6) 16), r52, n53, n53, goodP n53 v.x14 n53, (aroundI v.x4 24 - 6), (aroundI v.x5 24 - 6), 1 + aroundI v.x6 3, aroundI v.x7 256, v.x8, v.x9, v.x10, v.x11, A84, g85, k86, cp87, canR ss⟩ : TS)]) (ts ++ [t]) rfl (by rw [ht]) ?_
      refine cM ?_
      have hpa := TS.pxs_app (t := t) hlen
      have hoa := TS.ops_app (t := t) hlen
      refine cont_bun 2 6 i (TS.pxs ts) (TS.pxs (ts ++ [t])) t.pxG rfl rfl (by rw [ht]; exact Vw.rowRd) rfl (by decide) hpa.1 hpa.2 ?_
      refine cM ?_
      refine cont_bun 0 6 i (TS.ops ts) (TS.ops (ts ++ [t])) t.opG rfl rfl (by rw [ht]; exact Vw.rowRd) rfl (by decide) hoa.1 hoa.2 ?_
      refine cM ?_
      have hokt : TS.Ok t := by rw [ht]; exact ⟨hM63_, hM63_m, by dsimp only; omega, by dsimp only; omega, ⟨by dsimp only; omega, by dsimp only; omega⟩, ⟨by dsimp only; omega, by dsimp only; omega⟩, ⟨by dsimp only; omega, by dsimp only; omega⟩, ⟨by dsimp only; omega, by dsimp only; omega⟩, hvg.clip, ⟨ss, rfl, by omega, hss⟩⟩
      refine fG 3 <| fG 2 <| fG 1 <| fG 0 <| cA (i + 1, ts ++ [t], A91, g91, cp91) (show (i + 1) ≤ n ∧ (i + 1) ≤ 5 ∧ (ts ++ [t]).length = (i + 1) ∧ ∀ u_ ∈ (ts ++ [t]), TS.Ok u_ from ⟨by omega, by omega, by rw [List.length_append, hlen]; rfl, fun x hx => by rcases List.mem_append.1 hx with h_ | h_; exact hts x h_; (have e_ := List.mem_singleton.1 h_; subst e_; exact hokt)⟩)
    refine rC 16 (.bool false) rfl (congrArg Value.bool c4_) ?_
    replace c4_ := of_decide_eq_false c4_
    refine zFXxxeNSR 2 <| bS [0, 0] 2 0 [(2, .slice Ao i co)] <| zDNr <| rA rfl 0 (.slice Ao i co) fun w hT => ?_
    replace hT := hT.erase 6 (fun e h hw => by cases h; first | rfl | cases hw)
    replace hT := hT.erase 5 (fun e h hw => by cases h; first | rfl | cases hw)
    replace hT := hT.erase 4 (fun e h hw => by cases h; first | rfl | cases hw)
    replace hT := hT.erase 3 (fun e h hw => by cases h; first | rfl | cases hw)
    exact ⟨_, _, _, _, ts, rfl, ⟨by omega, hts⟩, hT⟩
  refine bD [0, 0, 0] 8 0 [(15, undef), (16, undef), (17, .bool false)] [] <| zDN <| zFXxxeNSR 2 <| bS [0, 0] 2 0 [(2, .slice Ao i co)] <| zDNr <| rA rfl 0 (.slice Ao i co) fun w hT => ?_
  replace hT := hT.erase 6 (fun e h hw => by cases h; first | rfl | cases hw)
  replace hT := hT.erase 5 (fun e h hw => by cases h; first | rfl | cases hw)
  replace hT := hT.erase 4 (fun e h hw => by cases h; first | rfl | cases hw)
  replace hT := hT.erase 3 (fun e h hw => by cases h; first | rfl | cases hw)
  exact ⟨_, _, _, _, ts, rfl, ⟨by omega, hts⟩, hT⟩
end Go.Proofs.Ytlfahohbkgdabaa
namespace Go.Proofs.Ytlfahohbkgdabaa
open Go Go.RowKit
set_option maxRecDepth 100000
set_option maxHeartbeats 8000000
theorem surfLayer (b : Nat) (X Y s al ca cb cc cd : Int) (A : Option Addr) (k cp : Nat) (w : World) :
    Calls Try.prog 50 #[.agg #[pT b, iQ X, iQ Y, iQ s, iQ al, iQ ca, iQ cb, iQ cc, iQ cd, .slice A k cp, .string ⟨#[]⟩]] w fun e w' => e = .returned (.agg #[pT b, iQ X, iQ Y, iQ s, iQ al, iQ ca, iQ cb, iQ cc, iQ cd]) ∧ Below w.heap.size w w' := by
 refine eN [(0, .agg #[.pointer (pB b), iq X, iq Y, iq s, iq al, iq ca, iq cb, iq cc, iq cd, .slice A k cp, .string ⟨#[]⟩])] Try.func50 Try.ntmps50 rfl (Tab.start w) ?_
 refine zSR 2 <| batch2 [0, 0] 2 0 (fun b1 b2 => [(1, .pointer (pB b1)), (2, .pointer (pB b2))]) (fun b1 b2 => [.cells b2 [.pointer none, iq 0, iq 0, iq 0, iq 0, iq 0, iq 0, iq 0, iq 0] 106 true, .cells b1 [.pointer (pB b), iq X, iq Y, iq s, iq al, iq ca, iq cb, iq cc, iq cd, .slice A k cp, .string ⟨#[]⟩] 99 true]) rfl rfl [1, 2] (fun _ _ => rfl) (fun b1 b2 => by kernel_rfl) (fun b1 b2 => by kernel_rfl) (fun b1 b2 => ?_)
 refine zDNSR 12 <| bZ [0, 1, 0, 1, 0, 1, 0, 1, 0, 1, 0, 0] 12 0 [(2, .pointer (pB b2))] [.cells b2 [.pointer (pB b), iq X, iq Y, iq s, iq al, iq ca, iq cb, iq cc, iq cd] 106 true, .cells b1 [.pointer (pB b), iq X, iq Y, iq s, iq al, iq ca, iq cb, iq cc, iq cd, .slice A k cp, .string ⟨#[]⟩] 99 true] <| fG 1 <| zDNr <| rA rfl 0 (.agg #[.pointer (pB b), iq X, iq Y, iq s, iq al, iq ca, iq cb, iq cc, iq cd]) fun w hT => ?_
 exact ⟨rfl, hT.post rfl⟩
theorem refLayer13 (W H : Int) (r n cap : Nat) (X Y s al ca cb cc cd : Int) (A : Option Addr) (k cp : Nat) (w : World) :
    Calls Try.prog 53 #[.agg #[.bool true, iQ W, iQ H, sL r n cap, iQ X, iQ Y, iQ s, iQ al, iQ ca, iQ cb, iQ cc, iQ cd, .slice A k cp, .string ⟨#[]⟩]] w fun e w' => e = .returned (.agg #[.bool true, iQ W, iQ H, sL r n cap, iQ X, iQ Y, iQ s, iQ al, iQ ca, iQ cb, iQ cc, iQ cd]) ∧ Below w.heap.size w w' := by
 refine eN [(0, .agg #[.bool true, iq W, iq H, .slice (pB r) n cap, iq X, iq Y, iq s, iq al, iq ca, iq cb, iq cc, iq cd, .slice A k cp, .string ⟨#[]⟩])] Try.func53 Try.ntmps53 rfl (Tab.start w) ?_
 refine zSR 2 <| batch2 [0, 0] 2 0 (fun b1 b2 => [(1, .pointer (pB b1)), (2, .pointer (pB b2))]) (fun b1 b2 => [.cells b2 [.bool false, iq 0, iq 0, .slice none 0 0, iq 0, iq 0, iq 0, iq 0, iq 0, iq 0, iq 0, iq 0] 93 true, .cells b1 [.bool true, iq W, iq H, .slice (pB r) n cap, iq X, iq Y, iq s, iq al, iq ca, iq cb, iq cc, iq cd, .slice A k cp, .string ⟨#[]⟩] 60 true]) rfl rfl [1, 2] (fun _ _ => rfl) (fun b1 b2 => by kernel_rfl) (fun b1 b2 => by kernel_rfl) (fun b1 b2 => ?_)
 refine zDNSR 14 <| bZ [0, 1, 0, 1, 0, 1, 0, 1, 0, 1, 0, 1, 0, 0] 14 0 [(2, .pointer (pB b2))] [.cells b2 [.bool true, iq W, iq H, .slice (pB r) n cap, iq X, iq Y, iq s, iq al, iq ca, iq cb, iq cc, iq cd] 93 true, .cells b1 [.bool true, iq W, iq H, .slice (pB r) n cap, iq X, iq Y, iq s, iq al, iq ca, iq cb, iq cc, iq cd, .slice A k cp, .string ⟨#[]⟩] 60 true] <| fG 1 <| zDNr <| rA rfl 0 (.agg #[.bool true, iq W, iq H, .slice (pB r) n cap, iq X, iq Y, iq s, iq al, iq ca, iq cb, iq cc, iq cd]) fun w hT => ?_
 exact ⟨rfl, hT.post rfl⟩
theorem shot (A : Option Addr) (g o n cap : Nat) (ts : List TS) (w : World) (hT0 : Tab w w [rD (A) g o n 14 (dvals TS.cells ts), .gen (subE n (TS.pxs ts))]) (hts : ∀ t ∈ ts, TS.Ok t) (hn : n ≤ 100) :
    Calls Try.prog 30 #[.slice A n cap] w fun e w' => ∃ (A_ : Option Addr) (g_ cp_ : Nat) (its : List IT), e = .returned (.tuple #[.agg #[iQ 0, .slice A_ n cp_], .bool true]) ∧ its.map (·.t) = ts ∧ Tab w w' [.gen (bunO n (IT.pxs its)), .gen (bunO n (IT.hds 118 its)), .gen (rowE (A_) g_ n cp_ 103 14 (dvals IT.cells its) true)] := by
  obtain ⟨hra, hrl⟩ := Rd.factsD TS.size (by decide) (hT0.ok 0 _ rfl)
  refine eN [(0, .slice A n cap)] Try.func30 Try.ntmps30 rfl hT0 ?_
  refine zSR 2 <| bW [0, 0] 2 0 (fun b1 => [(0, .slice A n cap), (2, pT b1)]) (fun b1 => [.cells b1 [iQ 0, .slice none 0 0] 29 true, rD (A) g o n 14 (dvals TS.cells ts), .gen (subE n (TS.pxs ts))]) [0, 2] fun b1 => ?_
  refine zDNSR 1 <| bW [0] 1 0 (fun b2 => [(0, .slice A n cap), (2, pT b1), (4, pT b2)]) (fun b2 => [.cells b2 [iQ 0, .slice none 0 0] 29 true, .cells b1 [iQ 0, .slice none 0 0] 29 true, rD (A) g o n 14 (dvals TS.cells ts), .gen (subE n (TS.pxs ts))]) [0, 2, 4] fun b2 => ?_
  refine zDNSSR 1 <| bD [0] 1 0 [(5, iQ 0)] [] <| zDNB <| cont_nilrow 103 14 ?_
  refine cM ?_
  refine cont_rowEqD (cel := IT.cells) (z := 14) 0 ([]) (([] : List IT)) rfl rfl ?_
  refine cont_nilbun (IT.hds 118 ([] : List IT)) ?_
  refine cM ?_
  refine cont_nilbun (IT.pxs ([] : List IT)) ?_
  refine cM ?_
  refine cL (α := Nat × List IT × Option Addr × Nat × Nat) (fun x_ : Nat × List IT × Option Addr × Nat × Nat => x_.1 ≤ n ∧ x_.2.1.map (·.t) = ts.take x_.1) (fun x_ : Nat × List IT × Option Addr × Nat × Nat => [(0, .slice A n cap), (2, pT b1), (4, pT b2), (5, iQ (x_.1 : Int))]) (fun x_ : Nat × List IT × Option Addr × Nat × Nat => [.gen (bunO x_.1 (IT.pxs x_.2.1)), .gen (bunO x_.1 (IT.hds 118 x_.2.1)), .gen (rowE (x_.2.2.1) x_.2.2.2.1 x_.1 x_.2.2.2.2 103 14 (dvals IT.cells x_.2.1) true), .cells b2 [iQ 0, .slice x_.2.2.1 x_.1 x_.2.2.2.2] 29 true, .cells b1 [iQ 0, .slice none 0 0] 29 true, rD (A) g o n 14 (dvals TS.cells ts), .gen (subE n (TS.pxs ts))]) (fun x_ : Nat × List IT × Option Addr × Nat × Nat => n - x_.1) (0, ([] : List IT), none, 0, 0) (show (0) ≤ n ∧ (([] : List IT)).map (·.t) = ts.take (0) from ⟨by omega, rfl⟩) ?_
  rintro ⟨i, its, Ao, gw, co⟩ hinv4_
  replace hinv4_ : i ≤ n ∧ its.map (·.t) = ts.take i := hinv4_
  refine cM ?_
  obtain ⟨hi, hmap⟩ := hinv4_
  have hlen := map_len hmap (by omega)
  refine zSSR 4 <| bD [0, 0, 0, 0] 4 0 [(11, .bool (decide ((i : Int) < (n : Int))))] [8, 9, 10] <| zDN <| sD 11 rfl (fun c5_ => ?_) fun c5_ => ?_
  ·
    refine zTKNSBSR 6 ?_
    have htk := hts _ (dget_mem (l := ts) (i := i) (by omega))
    generalize ht : dget ts i = t at *
    obtain ⟨htw1, htw2⟩ : 1 ≤ t.W ∧ t.W ≤ 16 := ⟨htk.img.w1, htk.w16⟩
    obtain ⟨hth1, hth2⟩ : 1 ≤ t.H ∧ t.H ≤ 16 := ⟨htk.img.h1, htk.h16⟩
    obtain ⟨hts1, hts2⟩ := htk.s_
    obtain ⟨htx1, htx2⟩ := htk.x_
    obtain ⟨hty1, hty2⟩ := htk.y_
    obtain ⟨hta1, hta2⟩ := htk.a_
    have htl := htk.img.le
    refine cont_see 6 (rD (some ⟨t.r, 0, none⟩) t.r 0 t.n 1 (cV t.px)) rfl rfl (by rw [← ht]; exact Vw.subAt i (by omega) rfl rfl) rfl ?_
    refine cM ?_
    refine bD [0, 0] 2 4 [(14, .slice A n cap), (15, iQ (i : Int))] [] <| pS 3 3 <| rC 14 (.slice (some ⟨g, o, none⟩) n cap) rfl (by rw [hra (by omega)]) <| sS 16 (Instr.indexAt 25 (.slice (some ⟨g, o, none⟩) n cap) (iQ (i : Int))) (.pointer (some ⟨g, o + i * 14, none⟩)) (fun w hT => rI 60 14 w) <| pS 4 2 <| sS 17 (Instr.loadAt 60 (.pointer (some ⟨g, o + i * 14, none⟩))) (.agg #[.bool true, iQ t.W, iQ t.H, sL t.r t.n t.cap, iQ t.X, iQ t.Y, iQ t.s, iQ t.al, iQ t.ca, iQ t.cb, iQ t.cc, iQ t.cd, .slice t.A t.k t.cp, .string ⟨#[]⟩]) (fun w hT => rM 14 ([.bool true, iQ t.W, iQ t.H, sL t.r t.n t.cap, iQ t.X, iQ t.Y, iQ t.s, iQ t.al, iQ t.ca, iQ t.cb, iQ t.cc, iQ t.cd, .slice t.A t.k t.cp, .string ⟨#[]⟩]) (by have h_ := Rd.dcell TS.size (hT.ok 6 _ rfl) (i := i) (by omega); rw [ht] at h_; exact h_)) <| bW [0, 0] 6 0 (fun b6 => [(0, .slice A n cap), (2, pT b1), (4, pT b2), (5, iQ (i : Int)), (6, pT b6)]) (fun b6 => [.cells b6 [.bool true, iQ t.W, iQ t.H, sL t.r t.n t.cap, iQ t.X, iQ t.Y, iQ t.s, iQ t.al, iQ t.ca, iQ t.cb, iQ t.cc, iQ t.cd, .slice t.A t.k t.cp, .string ⟨#[]⟩] 60 true, rD (some ⟨t.r, 0, none⟩) t.r 0 t.n 1 (cV t.px), .gen (bunO i (IT.pxs its)), .gen (bunO i (IT.hds 118 its)), .gen (rowE (Ao) gw i co 103 14 (dvals IT.cells its) true), .cells b2 [iQ 0, .slice Ao i co] 29 true, .cells b1 [iQ 0, .slice none 0 0] 29 true, rD (A) g o n 14 (dvals TS.cells ts), .gen (subE n (TS.pxs ts))]) [0, 2, 4, 5, 6] fun b6 => ?_
    refine zDNSR 4 <| bD [0, 0] 2 2 [(19, .agg #[iQ t.W, iQ t.H, sL t.r t.n t.cap])] [18] <| pS 3 1 <| cG (d := 20) (α := Nat × Nat) (fun x_ => pT x_.1) (fun x_ => [.cells x_.1 [iQ t.W, iQ t.H, sL x_.2 t.n t.n] 118 true, .gen (rowE (some ⟨x_.2, 0, none⟩) x_.2 t.n t.n 24 1 (cV t.px) true), .cells b6 [.bool true, iQ t.W, iQ t.H, sL t.r t.n t.cap, iQ t.X, iQ t.Y, iQ t.s, iQ t.al, iQ t.ca, iQ t.cb, iQ t.cc, iQ t.cd, .slice t.A t.k t.cp, .string ⟨#[]⟩] 60 true, rD (some ⟨t.r, 0, none⟩) t.r 0 t.n 1 (cV t.px), .gen (bunO i (IT.pxs its)), .gen (bunO i (IT.hds 118 its)), .gen (rowE (Ao) gw i co 103 14 (dvals IT.cells its) true), .cells b2 [iQ 0, .slice Ao i co] 29 true, .cells b1 [iQ 0, .slice none 0 0] 29 true, rD (A) g o n 14 (dvals TS.cells ts), .gen (subE n (TS.pxs ts))]) (fun _ => True) (fun w hT => (bld t.W t.H t.r t.n t.cap t.px w (hT.view (.cons (i := 1) rfl Vw.rd .nil) (by decide)) htk.img htk.may).mono fun e w' ⟨b_, q_, he_, hi_⟩ => ⟨(b_, q_), he_, trivial, hT.addImg hi_⟩) ?_
    rintro ⟨bl7, bq7⟩ -
    refine cM ?_
    refine bD [0] 4 0 [(7, pT bl7)] [] <| zDNSSR 2 <| bD [0, 0] 2 0 [(22, .bool false)] [21] <| zDN <| cFa rfl <| cont_skip <| zN <| cRg 19 rfl ?_
    refine bW [0, 7, 0, 0, 2, 0, 2, 0, 2, 0, 2, 0, 2, 0, 0, 0] 16 3 (fun b8 => [(0, .slice A n cap), (2, pT b1), (4, pT b2), (5, iQ (i : Int)), (25, .slice Ao i co), (39, sL b8 1 1)]) (fun b8 => [.cells b8 [iQ 0, iQ 0, pT bl7, iQ t.X, iQ t.Y, iQ t.s, iQ t.al, iQ t.ca, iQ t.cb, iQ t.cc, iQ t.cd, .slice t.A t.k t.cp, .string ⟨#[]⟩, iQ 0] 103 true, .cells bl7 [iQ t.W, iQ t.H, sL bq7 t.n t.n] 118 true, oE bq7 t.n t.n 24 1 (cV t.px), .cells b6 [.bool true, iQ t.W, iQ t.H, sL t.r t.n t.cap, iQ t.X, iQ t.Y, iQ t.s, iQ t.al, iQ t.ca, iQ t.cb, iQ t.cc, iQ t.cd, .slice t.A t.k t.cp, .string ⟨#[]⟩] 60 true, rD (some ⟨t.r, 0, none⟩) t.r 0 t.n 1 (cV t.px), .gen (bunO i (IT.pxs its)), .gen (bunO i (IT.hds 118 its)), .gen (rowE (Ao) gw i co 103 14 (dvals IT.cells its) true), .cells b2 [iQ 0, .slice Ao i co] 29 true, .cells b1 [iQ 0, .slice none 0 0] 29 true, rD (A) g o n 14 (dvals TS.cells ts), .gen (subE n (TS.pxs ts))]) [0, 2, 4, 5, 25, 39] fun b8 => ?_
    refine fG 3 <| pS 17 2 <| sSW (α := Option Addr × Nat × Nat) 40 (Builtin.append_ #[27, 27] 27 #[.slice Ao i co, sL b8 1 1]) (fun x_ => .slice x_.1 (i + 1) x_.2.2) (fun x_ => [.cells b8 [iQ 0, iQ 0, pT bl7, iQ t.X, iQ t.Y, iQ t.s, iQ t.al, iQ t.ca, iQ t.cb, iQ t.cc, iQ t.cd, .slice t.A t.k t.cp, .string ⟨#[]⟩, iQ 0] 103 true, .cells bl7 [iQ t.W, iQ t.H, sL bq7 t.n t.n] 118 true, oE bq7 t.n t.n 24 1 (cV t.px), rD (some ⟨t.r, 0, none⟩) t.r 0 t.n 1 (cV t.px), .gen (bunO i (IT.pxs its)), .gen (bunO i (IT.hds 118 its)), .gen (rowE (x_.1) x_.2.1 (i + 1) x_.2.2 103 14 (dvals IT.cells (its ++ [(⟨bl7, bq7, t⟩ : IT)])) true), .cells b2 [iQ 0, .slice Ao i co] 29 true, .cells b1 [iQ 0, .slice none 0 0] 29 true, rD (A) g o n 14 (dvals TS.cells ts), .gen (subE n (TS.pxs ts))]) (fun _ => True) (by kernel_rfl) (fun w hT => append_own (n' := (i + 1)) (z := .agg #[iQ 0, iQ 0, .pointer none, iQ 0, iQ 0, iQ 0, iQ 0, iQ 0, iQ 0, iQ 0, iQ 0, .slice none 0 0, .string ⟨#[]⟩, iQ 0]) hT (i := 6) (bytes := 136) rfl (by kernel_rfl) (by kernel_rfl) rfl (by decide) (by decide) (Rd.ofCells (vals := dvals IT.cells [(⟨bl7, bq7, t⟩ : IT)]) (hT.ok 0 _ rfl) rfl rfl) (dvals_one IT.one [(⟨bl7, bq7, t⟩ : IT)]) (by omega) (dvals_append its [(⟨bl7, bq7, t⟩ : IT)]) rfl) ?_
    rintro ⟨A9, g9, cp9⟩ -
    refine cM ?_
    refine cont_fact (F := (0 < (i + 1) → (A9 : Option Addr) = some ⟨g9, 0, none⟩) ∧ (its ++ [(⟨bl7, bq7, t⟩ : IT)]).length = (i + 1) ∧ (i + 1) ≤ cp9 ∧ cp9 ≤ maxLen) (fun w hT => Row.factsD IT.size (by decide) (hT.ok 6 _ rfl)) (fun hr10_ => ?_)
    obtain ⟨hr10_a, hr10_l, hr10_c, hr10_m⟩ := hr10_
    unfold maxLen at hr10_m
    refine bZ [0, 7] 19 0 [(0, .slice A n cap), (2, pT b1), (4, pT b2), (5, iQ (i : Int))] [.cells b8 [iQ 0, iQ 0, pT bl7, iQ t.X, iQ t.Y, iQ t.s, iQ t.al, iQ t.ca, iQ t.cb, iQ t.cc, iQ t.cd, .slice t.A t.k t.cp, .string ⟨#[]⟩, iQ 0] 103 true, .cells bl7 [iQ t.W, iQ t.H, sL bq7 t.n t.n] 118 true, oE bq7 t.n t.n 24 1 (cV t.px), rD (some ⟨t.r, 0, none⟩) t.r 0 t.n 1 (cV t.px), .gen (bunO i (IT.pxs its)), .gen (bunO i (IT.hds 118 its)), .gen (rowE (A9) g9 (i + 1) cp9 103 14 (dvals IT.cells (its ++ [(⟨bl7, bq7, t⟩ : IT)])) true), .cells b2 [iQ 0, .slice A9 (i + 1) cp9] 29 true, .cells b1 [iQ 0, .slice none 0 0] 29 true, rD (A) g o n 14 (dvals TS.cells ts), .gen (subE n (TS.pxs ts))] <| fG 0 <| zDbNR 3 <| bD [0, 0] 2 1 [(13, iQ (IntKind.i64.wrap ((i : Int) + 1)))] [12] <| wI 13 ((i : Int) + 1) <| bD [0] 3 0 [(5, iQ ((i : Int) + 1))] [] <| zDN ?_
    obtain ⟨x, hx⟩ : ∃ x_ : IT, x_ = (⟨bl7, bq7, t⟩ : IT) := ⟨_, rfl⟩
    refine cont_rowEqD (cel := IT.cells) (z := 14) 5 (its ++ [(⟨bl7, bq7, t⟩ : IT)]) (its ++ [x]) rfl (by rw [hx]) ?_
    refine cM ?_
    have hpa := IT.pxs_app (t := x) hlen
    have hha := IT.hds_app (tI := 118) (t := x) hlen
    refine cont_bun 1 3 i (IT.pxs its) (IT.pxs (its ++ [x])) x.pxG rfl rfl (by rw [hx]; exact Vw.rowRd) rfl (by decide) hpa.1 hpa.2 ?_
    refine cM ?_
    refine cont_bun 0 3 i (IT.hds 118 its) (IT.hds 118 (its ++ [x])) (x.hdG 118) rfl rfl (by rw [hx]; exact Vw.cellsRo) rfl (by decide) hha.1 hha.2 ?_
    refine cM ?_
    refine fG 0 <| cA (i + 1, its ++ [x], A9, g9, cp9) (show (i + 1) ≤ n ∧ (its ++ [x]).map (·.t) = ts.take (i + 1) from ⟨by omega, map_take hmap (by omega) (by rw [hx, ht])⟩)
  refine zFXxxeNSR 3 <| bZ [3, 4, 0] 3 0 [(2, pT b1), (3, .bool true)] [.gen (bunO i (IT.pxs its)), .gen (bunO i (IT.hds 118 its)), .gen (rowE (Ao) gw i co 103 14 (dvals IT.cells its) true), .cells b2 [iQ 0, .slice Ao i co] 29 true, .cells b1 [iQ 0, .slice Ao i co] 29 true, rD (A) g o n 14 (dvals TS.cells ts), .gen (subE n (TS.pxs ts))] <| fG 3 <| zDNr <| rB rfl 3 0 (.agg #[iQ 0, .slice Ao i co]) (.bool true) fun w hT => ?_
  replace hT := hT.erase 5 (fun e h hw => by cases h; first | rfl | cases hw)
  replace hT := hT.erase 4 (fun e h hw => by cases h; first | rfl | cases hw)
  replace hT := hT.erase 3 (fun e h hw => by cases h; first | rfl | cases hw)
  have hin : i = n := by omega
  subst hin
  rw [List.take_of_length_le (by omega)] at hmap
  exact ⟨_, _, _, its, rfl, hmap, hT⟩
end Go.Proofs.Ytlfahohbkgdabaa
namespace Go.Proofs.Ytlfahohbkgdabaa
open Go Go.RowKit
def noDef (ops : Array Oper) : Bool := ops.toList.all fun o => match o.op with | .defer _ => false | _ => true
theorem noDef_at {ops : Array Oper} (h : noDef ops = true) {i : Nat} {o : Oper} (ho : ops[i]? = some o) : ∀ c, o.op ≠ .defer c := by
  intro c hc
  have hm : o ∈ ops.toList := Array.mem_toList_iff.2 (Array.mem_of_getElem? ho)
  have := List.all_eq_true.1 h o hm
  rw [hc] at this
  cases this
structure Open (F : Fence) : Prop where
  fn : ∀ f, F.fn f
  depth : F.depth = none
  alive : F.alive = false
theorem open_wide : Open Fence.wide := ⟨fun _ => trivial, rfl, rfl⟩
theorem open_round (l : Nat) : Open (Fence.wide.inRound l) := ⟨fun _ => trivial, rfl, rfl⟩
theorem fenced_open {F : Fence} (h : Open F) (P : Program) (m : Machine) : m.fenced P F := by
  intro g _
  refine ⟨fun ha => ?_, Or.inl (h.fn _), fun _ _ => h.fn _, fun d hd => ?_⟩
  · rw [h.alive] at ha; cases ha
  · rw [h.depth] at hd; cases hd
theorem steps_open {F : Fence} (h : Open F) {P : Program} {m m' : Machine} (s : Steps P m m') : StepsIn (Machine.fenced P F) P m m' :=
  (StepsIn.of_steps s).mono fun m _ => fenced_open h P m
theorem calls_open {F : Fence} (h : Open F) {n : Nat} {P : Program} {f : FuncId} {args : Array Value} {w : World} {R : Ending → World → Prop} (c : Calls P f args w R) : CallsIn F n P f args w R :=
  ⟨h.fn f, fun cs _ => by
    obtain ⟨e, w', fr, r, s, x⟩ := c cs
    refine ⟨e, w', fr, r, ?_, x⟩
    cases e with
    | returned v => exact steps_open h s
    | panicked ch => exact steps_open h s
    | outgrown => exact s⟩
theorem rows_open {F : Fence} (h : Open F) {n : Nat} {P : Program} {row : String} {args : Array Value} {w : World} {R : Value → World → Prop} (c : Rows P row args w R) : RowsIn F n P row args w R :=
  fun fr cs _ => let ⟨v, w', r, s⟩ := c fr cs; ⟨v, w', r, steps_open h s⟩
section
variable {P : Program}
theorem oper_in {F : Fence} (hF : Open F) {o : Oper} {a : Act} {w : World} {K K' : Act → World → Prop} {Q Q' : Exit → Act → World → Prop} (ho : ∀ c, o.op ≠ .defer c) (hlo : ¬ LetsOut Q) (hK : ∀ a' w', K a' w' → K' a' w') (hQ : ∀ c w, Q (.panic c) a w → Q' (.panic c) a w)
    (h : o.wp P a w K Q) : o.wpIn F 0 P a w K' Q' := by
  refine ⟨fun f _ => hF.fn f, ?_⟩
  rw [Oper.semAt_eq _ _ _ ho]
  unfold Oper.wp at h
  generalize (execOp a.eval o).run P w = r at h ⊢
  have hdep : F.depth.isSome = true → 1 ≤ 0 := by rw [hF.depth]; intro hh; cases hh
  unfold Oper.upon at h
  split at h
  · exact hK _ _ h
  · exact hK _ _ h
  · exact hK _ _ h
  · refine ⟨hdep, calls_open hF (h.mono ?_)⟩
    intro e w'' hh
    cases e with
    | returned v => exact hK _ _ hh
    | panicked ch => exact hQ _ _ hh
    | outgrown => exact (hlo hh).elim
  · exact ⟨hdep, rows_open hF (h.mono fun v w'' hh => hK _ _ hh)⟩
  · exact hQ _ _ h
  · exact h.elim
theorem ops_in {F : Fence} (hF : Open F) {ops : Array Oper} (hops : noDef ops = true) {K : Act → World → Prop} {Q : Exit → Act → World → Prop} (hlo : ¬ LetsOut Q) (l2 : List Nat) (hK : ∀ a w, K a w → wpOpsIn F 0 P ops Q l2 a w) :
    ∀ (l : List Nat) (a : Act) (w : World), wpOps P ops (Exit.then K Q) l a w → wpOpsIn F 0 P ops Q (l ++ l2) a w := by
  intro l
  induction l with
  | nil => intro a w h; exact hK a w h
  | cons i l ih =>
    intro a w h
    rw [List.cons_append]
    simp only [wpOps, wpOpsIn] at h ⊢
    cases ho : ops[i]? with
    | none => simp only [ho] at h ⊢; exact ih _ _ h
    | some o =>
      simp only [ho] at h ⊢
      by_cases hw : Region.wanted o (yielded ops a.tmps) = true
      · simp only [hw, if_true] at h ⊢
        rcases h with h | ⟨_, a0, w0, h⟩
        · exact oper_in hF (noDef_at hops ho) (Q := Exit.then K Q) (fun ⟨a', w', hq⟩ => hlo ⟨a', w', hq⟩) (fun a' w' hh => ih a' w' hh) (fun c w' hh => hh) h
        · exact (hlo ⟨a0, w0, h⟩).elim
      · simp only [hw, Bool.false_eq_true, if_false] at h ⊢
        exact ⟨fun f _ => hF.fn f, ih _ _ h⟩
structure Mode (P : Program) where
  F : Fence
  hF : Open F
def Mode.wp (M : Mode P) (c : Code) (Q : Exit → Act → World → Prop) (a : Act) (w : World) : Prop := ¬ LetsOut Q → c.wpIn M.F 0 P Q a w
def Mode.round (P : Program) (l : Nat) : Mode P := ⟨Fence.wide.inRound l, open_round l⟩
def Mode.fence (P : Program) : Mode P := ⟨Fence.wide, open_wide⟩
theorem lo_then {K : Act → World → Prop} {Q : Exit → Act → World → Prop} (h : ¬ LetsOut Q) : ¬ LetsOut (Exit.then K Q) := fun ⟨a, w, hq⟩ => h ⟨a, w, hq⟩
theorem lo_blk {id : Nat} {Q : Exit → Act → World → Prop} (h : ¬ LetsOut Q) : ¬ LetsOut (Exit.inBlock id Q) := fun ⟨a, w, hq⟩ => h ⟨a, w, hq⟩
variable {dfs : List Deferred} {M : Mode P} {Q : Exit → Act → World → Prop} {n : Nat} {w0 : World} {L : List (Nat × Value)} {T : List Ent}
theorem mcont_seq {x y : Code} (h : Cont dfs (M.wp x (Exit.then (M.wp y Q) Q)) n w0 L T) : Cont dfs (M.wp (Code.seq x y) Q) n w0 L T :=
  fun a w ha hf hT hlo => wpIn_seq (wpIn_mono (h a w ha hf hT (lo_then hlo)) fun e a' w' hq => by
    cases e with
    | normal => exact hq hlo
    | _ => exact hq)
theorem mcont_region {id : Nat} {ops : Array Oper} (k : Nat) (hk : ops.size = k) (hops : noDef ops = true) (h : Cont dfs (PL P ops Q 0 k) n w0 L T) : Cont dfs (M.wp (Code.region id ops false) Q) n w0 L T := by
  intro a w ha hf hT hlo
  refine wpIn_region ?_
  have := h a w ha hf hT
  unfold PL at this
  rw [List.range_eq_range', hk]
  have e := ops_in M.hF hops (K := Q .normal) hlo [] (fun a w hh => by simpa [wpOpsIn] using hh) (List.range' 0 k) a w (by
    have hQ : Exit.then (Q .normal) Q = Q := by funext e; cases e <;> rfl
    rw [hQ]; exact this)
  simpa using e
theorem mdrawn_enter {id : Nat} {ops : Array Oper} (m : Nat) (ds : List Nat) (hm : ops.size = m) (hmix : P.follows .mixedOrders = true) (hops : noDef ops = true) (h : Cont dfs (AH P ops Q (fun w => Known w (dropT ds T)) m m []) n w0 L T) : Cont dfs (M.wp (Code.region id ops true) Q) n w0 L T := by
  intro a w ha hf hT hlo
  refine wpIn_region_draw fun t => ?_
  simp only [Region.schedule, hmix, Bool.true_or, if_true]
  have := h a w.drew ha hf hT.drew
  unfold AH marked at this
  subst hm
  have e := wpAny_sound ops.size t _ a _ (wpAny_of_held _ _ _ _ this)
  have hQ : Exit.then (Q .normal) Q = Q := by funext e; cases e <;> rfl
  have e2 := ops_in M.hF hops (K := Q .normal) hlo [] (fun a w hh => by simpa [wpOpsIn] using hh) _ a _ (by rw [hQ]; exact e)
  rw [List.append_nil] at e2
  exact e2
theorem mcont_skip (h : Cont dfs (Q .normal) n w0 L T) : Cont dfs (M.wp Code.skip Q) n w0 L T := fun a w ha hf hT _ => wpIn_skip (h a w ha hf hT)
theorem mcont_ret (h : Cont dfs (Q .ret) n w0 L T) : Cont dfs (M.wp Code.ret Q) n w0 L T := fun a w ha hf hT _ => wpIn_ret (h a w ha hf hT)
theorem mcont_exit {id : Nat} (h : Cont dfs (Q (.exit id)) n w0 L T) : Cont dfs (M.wp (Code.exit id) Q) n w0 L T := fun a w ha hf hT _ => wpIn_exit (h a w ha hf hT)
theorem mcont_block {id : Nat} {c : Code} (h : Cont dfs (M.wp c (Exit.inBlock id Q)) n w0 L T) : Cont dfs (M.wp (Code.block id c) Q) n w0 L T := fun a w ha hf hT hlo => wpIn_block (h a w ha hf hT (lo_blk hlo))
theorem mcont_true {c : Operand} {x y : Code} (hc : knownB L c = some (.bool true)) (h : Cont dfs (M.wp x Q) n w0 L T) : Cont dfs (M.wp (Code.cond c x y) Q) n w0 L T :=
  fun a w ha hf hT hlo => wpIn_cond_true (knownB_eval hf hc) (h a w ha hf hT hlo)
theorem mcont_false {c : Operand} {x y : Code} (hc : knownB L c = some (.bool false)) (h : Cont dfs (M.wp y Q) n w0 L T) : Cont dfs (M.wp (Code.cond c x y) Q) n w0 L T :=
  fun a w ha hf hT hlo => wpIn_cond_false (knownB_eval hf hc) (h a w ha hf hT hlo)
theorem wpIn_loop_ghost {F : Fence} {m : Nat} {a : Act} {w : World} {c : Code} (I : Nat → Act → World → Prop) (n₀ : Nat) (h₀ : I n₀ a w)
    (round : ∀ n a w, I n a w → c.wpIn F m P (Exit.then (fun a' w' => ∃ n', n' < n ∧ I n' a' w') Q) a w) : (Code.loop c).wpIn F m P Q a w := by
  refine wpIn_loop (fun a w => ∃ n, I n a w) (fun a w => leastOf (fun n => I n a w)) ⟨n₀, h₀⟩ ?_
  intro a w hI
  refine wpIn_mono (round _ a w (leastOf_spec hI).1) ?_
  intro e a' w' hq
  cases e with
  | normal =>
    obtain ⟨n', hlt, hI'⟩ := hq
    exact show (∃ n, I n a' w') ∧ leastOf (fun n => I n a' w') < leastOf (fun n => I n a w) from ⟨⟨n', hI'⟩, Nat.lt_of_le_of_lt ((leastOf_spec ⟨n', hI'⟩).2 n' hI') hlt⟩
  | _ => exact hq
theorem mcont_loop {α : Type} {body : Code} (Inv : α → Prop) (Lf : α → List (Nat × Value)) (Tf : α → List Ent) (m : α → Nat) (x0 : α) (hinv : Inv x0)
    (hL : ((Lf x0).map fun p => lk L p.1) = ((Lf x0).map fun p => some p.2)) (hTf : Tf x0 = T)
    (round : ∀ x, Inv x → Cont dfs (M.wp body (Exit.then (Again dfs Inv Lf Tf m n w0 x) Q)) n w0 (Lf x) (Tf x)) : Cont dfs (M.wp (Code.loop body) Q) n w0 L T := by
  subst hTf
  intro a w ha hf hT hlo
  refine wpIn_loop_ghost (fun k a' w' => ∃ x, m x = k ∧ Inv x ∧ a'.defers = dfs ∧ FrOk n a'.tmps (Lf x) ∧ Tab w0 w' (Tf x)) (m x0) ⟨x0, rfl, hinv, ha, hf.prune hL, hT⟩ ?_
  rintro k a' w' ⟨x, rfl, hx, ha', hf', hT'⟩
  refine wpIn_mono (round x hx a' w' ha' hf' hT' (lo_then hlo)) (fun e a'' w'' h => ?_)
  cases e with
  | normal =>
    obtain ⟨y, h1, h2, h3, h4, h5⟩ := h
    exact ⟨m y, h2, y, rfl, h1, h3, h4, h5⟩
  | _ => exact h
def objE (b : Nat) (o : Obj) : Ent := .gen { blk := (· = b), wr := true, own := true, ok := fun w => w.heap[b]? = some o, stable := fun w w' h hk => (h b rfl).trans hk, inb := fun w k hk hb => by cases hb; exact (Array.getElem?_eq_some_iff.1 hk).1 }
def markE (D : Nat) : Ent := objE D (.deferred (some []))
theorem Tab.putObj {w : World} (hT : Tab w0 w T) {i b : Nat} {o : Obj} (h : T[i]? = some (objE b o)) (o' : Obj) : Tab w0 (w.putObj b o') (T.set i (objE b o')) := by
  have hk : w.heap[b]? = some o := hT.ok i _ h
  refine hT.replace (e := objE b o) (e' := objE b o') h rfl rfl id (fun k hk => .inl hk) (fun k _ hk _ => hk) rfl rfl rfl (by simp) (fun k _ hk => World.putObj_heap_other (fun e => hk e)) ?_
  exact World.putObj_heap_same (Array.getElem?_eq_some_iff.1 hk).1
theorem Tab.allocObj {w : World} (hT : Tab w0 w T) (o : Obj) : Tab w0 (w.alloc o) (objE w.heap.size o :: T) := by
  refine hT.push (e := objE w.heap.size o) rfl rfl rfl (by simp) (fun k hk => Below.heap_alloc w _ k hk) (World.alloc_heap_new w o) (fun k hk => by have : k = w.heap.size := hk; omega)
theorem Cont.go {K : Act → World → Prop} (h : Cont dfs K n w0 L T) {a : Act} {w : World} (ha : a.defers = dfs) (hf : FrOk n a.tmps L) (hT : Tab w0 w T) : K a w := h a w ha hf hT
def NP (Q : Exit → Act → World → Prop) : Exit → Act → World → Prop
  | .panic _, _, _ => False
  | e, a, w => Q e a w
theorem NP.le {Q : Exit → Act → World → Prop} (e : Exit) (a : Act) (w : World) (h : NP Q e a w) : Q e a w := by cases e <;> first | exact h.elim | exact h
theorem pok_np {Q : Exit → Act → World → Prop} : PanicOk (NP Q) := fun c a d v w h => h
theorem enterM {f : FuncId} {fn : Func} {c : Code} {args : Array Value} {w : World} {R : Ending → World → Prop} (n : Nat) (L : List (Nat × Value)) (T : List Ent) (hf : P.funcs[f]? = some fn) (hb : fn.body = some c) (hn : fn.ntmps = n) (hsz : Nat.ble args.size n = true)
    (hL : (L.map fun p => args[p.1]?) = (L.map fun p => some p.2)) (hT : Tab w w T) (h : Cont [] (c.wp P (NP (bodyPostM Fence.wide 0 P fn R))) n w L T) : Calls P f args w R := by
  subst hn
  refine callsIn_wide.1 (callsIn_of_wp_marks hf hb trivial (wpIn_wide.2 (wp_mono (h _ _ rfl ⟨?_, ?_⟩ hT) fun e a w hq => hq.le)) rfl)
  · have := Nat.le_of_ble_eq_true hsz
    simp; omega
  · exact enter_lk hL
def coll (D : Nat) : Deferred := { target := .collected D, args := #[] }
theorem mark_end {fn : Func} {R : Ending → World → Prop} {e : Exit} {D : Nat} (i : Nat) (hi : T[i]? = some (markE D)) (he : e = .ret ∨ e = .normal) (h : Cont [] (bodyPost P fn R e) n w0 L (T.set i (objE D (.deferred none)))) : Cont [coll D] (NP (bodyPostM Fence.wide 0 P fn R) e) n w0 L T := by
  intro a w ha hf hT
  have hk : w.heap[D]? = some (.deferred (some [])) := hT.ok i _ hi
  have := h { a with defers := [] } (w.putObj D (.deferred none)) rfl hf (hT.putObj hi _)
  rcases he with rfl | rfl
  all_goals
    obtain ⟨_, v, h1, h2⟩ := this
    show LeavesInM Fence.wide 0 P fn a.tmps R a.defers .returning w
    rw [ha]
    exact ⟨by simp, .inl ⟨D, _, rfl, run_takeDeferred hk, v, h1, h2⟩⟩
def IterC {X : Type} (P : Program) (gf : Nat) (lb : Array Value) (encs : X → Array Value) (w0 : World) (Es : List Ent) (Ex : X → List Ent) (S Sp : List X → Prop) : Prop :=
  ∀ {β : Type} (Inv : List X → β → Prop) (Tr : β → List Ent) (Jx : World → Prop) (l : Nat) (e1 e2 : Ent) (W : World) (b0 : β), (∀ w w', Jx w → Below w.heap.size w w' → Jx w') →
    (∀ pre x b W1 z, (z.wr = true → z.own = true) → Inv pre b → Sp (pre ++ [x]) → Tab w0 W1 (Ex x ++ z :: e1 :: e2 :: (Es ++ Tr b)) →
      YieldAt Fence.wide 0 P l (encs x) W1 fun e W' => (e = .returned (.bool true) ∧ ∃ b', Inv (pre ++ [x]) b' ∧ Tab w0 W' (z :: e1 :: e2 :: (Es ++ Tr b'))) ∨ (e = .returned (.bool false) ∧ Jx W')) →
    Inv [] b0 → Tab w0 W (e1 :: e2 :: (Es ++ Tr b0)) →
    Calls P gf (#[.func (.yield l) #[] #[]] ++ lb) W fun e W' => (∃ v, e = .returned v) ∧ ((∃ xs b', S xs ∧ Inv xs b' ∧ Tab w0 W' (e1 :: e2 :: (Es ++ Tr b'))) ∨ Jx W')
theorem enterI {f : FuncId} {fn : Func} {c : Code} {args : Array Value} {w : World} {R : Ending → World → Prop} (n : Nat) (L : List (Nat × Value)) (T : List Ent) (hf : P.funcs[f]? = some fn) (hb : fn.body = some c) (hn : fn.ntmps = n) (hsz : Nat.ble args.size n = true)
    (hL : (L.map fun p => args[p.1]?) = (L.map fun p => some p.2)) (hT : Tab w0 w T) (hlo : ∀ w, ¬ R .outgrown w) (h : Cont [] ((Mode.fence P).wp c (bodyPost P fn R)) n w0 L T) : Calls P f args w R := by
  subst hn
  refine callsIn_wide.1 (callsIn_of_wp hf hb trivial (h _ _ rfl ⟨?_, ?_⟩ hT (fun ⟨_, w', hq⟩ => hlo w' hq)) rfl)
  · have := Nat.le_of_ble_eq_true hsz
    simp; omega
  · exact enter_lk hL
def PLI (P : Program) (ops : Array Oper) (Q : Exit → Act → World → Prop) (i k : Nat) (a : Act) (w : World) : Prop := ¬ LetsOut Q → wpOpsIn Fence.wide 0 P ops Q (List.range' i k) a w
theorem icont_region {id : Nat} {ops : Array Oper} (k : Nat) (hk : ops.size = k) (h : Cont dfs (PLI P ops Q 0 k) n w0 L T) : Cont dfs ((Mode.fence P).wp (Code.region id ops false) Q) n w0 L T := by
  intro a w ha hf hT hlo
  refine wpIn_region ?_
  rw [List.range_eq_range', hk]
  exact h a w ha hf hT hlo
theorem pli_ops {ops : Array Oper} {i k : Nat} (j m i' : Nat) (hk : k = j + m) (hi' : i' = i + j) (hops : noDef ops = true) (h : Cont dfs (PL P ops (Exit.then (PLI P ops Q i' m) Q) i j) n w0 L T) : Cont dfs (PLI P ops Q i k) n w0 L T := by
  subst hk; subst hi'
  intro a w ha hf hT hlo
  have := h a w ha hf hT
  have e : List.range' i (j + m) = List.range' i j ++ List.range' (i + j) m := (List.range'_append_1 ..).symm
  rw [e]
  exact ops_in open_wide hops hlo _ (fun a w hh => hh hlo) _ a w this
theorem pli_done {ops : Array Oper} {i : Nat} (h : Cont dfs (Q .normal) n w0 L T) : Cont dfs (PLI P ops Q i 0) n w0 L T :=
  fun a w ha hf hT _ => by
    have := h a w ha hf hT
    simpa [wpOpsIn] using this
theorem YieldAt.weaken {F : Fence} {m l : Nat} {args : Array Value} {W : World} {R R' : Ending → World → Prop} (h : YieldAt F m P l args W R) (hr : ∀ e w', R e w' → R' e w') : YieldAt F m P l args W R' :=
  let ⟨fn, tmps, assign, body, h1, h2⟩ := h; ⟨fn, tmps, assign, body, h1, h2.mono hr⟩
theorem pli_yield {ops : Array Oper} {i k : Nat} {l : Nat} {args : Array Value} (d : Tmp) (i' k' : Nat) (hi : i' = i + 1) (hk : k = k' + 1) (hops : noDef ops = true) (H : opS ops n i L = some (some d, Instr.yield l args))
    {R : Value → World → Prop} (hy : ∀ w, Tab w0 w T → YieldAt Fence.wide 0 P l args w fun e w' => ∃ v, e = .returned v ∧ R v w')
    (hR : ∀ a w v, a.defers = dfs → FrOk n a.tmps ((d, v) :: L) → R v w → PLI P ops Q i' k' a w) : Cont dfs (PLI P ops Q i k) n w0 L T := by
  subst hi; subst hk
  intro a w ha hf hT hlo
  obtain ⟨o, ho, hdst, hd, hw, he⟩ := opS_core H hf
  rw [List.range'_succ]
  simp only [wpOpsIn, ho, hw, if_true]
  refine ⟨fun f _ => trivial, ?_⟩
  rw [Oper.semAt_eq _ _ _ (noDef_at hops ho), he]
  obtain ⟨fn, tmps, assign, body, hrun, hround⟩ := hy w hT
  rw [hrun]
  refine ⟨(fun h => by cases h), hround.mono ?_⟩
  rintro e w' ⟨v, rfl, hr⟩
  exact hR (a.put o.dst v) w' v (by rw [put_defers]; exact ha) (by rw [hdst]; exact hf.put (hd d rfl) v) hr hlo
theorem FrOk.puts {tmps : Array Value} (h : FrOk n tmps L) : ∀ (ps : List Nat) (vs : List Value), (ps.all fun p => Nat.blt p n) = true → FrOk n ((ps.zip vs).foldl (fun t p => t.setIfInBounds p.1 p.2) tmps) ((ps.zip vs).reverse ++ L) := by
  intro ps
  induction ps generalizing tmps L with
  | nil => intro vs _; exact h
  | cons p ps ih =>
    intro vs hp
    cases vs with
    | nil => exact h
    | cons v vs =>
      simp only [List.all_cons, Bool.and_eq_true] at hp
      have := ih (h.put (d := p) (by simpa using hp.1) v) vs hp.2
      simp only [List.zip_cons_cons, List.foldl_cons, List.reverse_cons, List.append_assoc, List.singleton_append]
      exact this
def RQ {X β : Type} (w0 : World) (Inv : List X → β → Prop) (Tr : β → List Ent) (Es : List Ent) {γ : Type} (Jx : Code → γ → Prop) (Tx : γ → List Ent) (z e1 e2 : Ent) (xs : List X) : Exit → Act → World → Prop
  | .normal, _, w => ∃ b, Inv xs b ∧ Tab w0 w (z :: e1 :: e2 :: (Es ++ Tr b))
  | .ret, _, w => ∃ c, Jx .ret c ∧ Tab w0 w (e1 :: e2 :: Tx c)
  | .exit id, _, w => ∃ c, Jx (.exit id) c ∧ Tab w0 w (e1 :: e2 :: Tx c)
  | _, _, _ => False
theorem pok_rq {X β γ : Type} {Inv : List X → β → Prop} {Tr : β → List Ent} {Es : List Ent} {Jx : Code → γ → Prop} {Tx : γ → List Ent} {z e1 e2 : Ent} {xs : List X} : PanicOk (RQ w0 Inv Tr Es Jx Tx z e1 e2 xs) := fun c a d v w h => h
theorem rq_next {X β γ : Type} {Inv : List X → β → Prop} {Tr : β → List Ent} {Es : List Ent} {Jx : Code → γ → Prop} {Tx : γ → List Ent} {z e1 e2 : Ent} {xs : List X} (b : β) (hi : Inv xs b) (hT : z :: e1 :: e2 :: (Es ++ Tr b) = T) : Cont dfs (RQ w0 Inv Tr Es Jx Tx z e1 e2 xs .normal) n w0 L T := by
  subst hT; exact fun a w _ _ h => ⟨b, hi, h⟩
theorem cont_rangeFunc {X β γ : Type} {g : Operand} {ps : Array Tmp} {assign body : Code} {gf : Nat} {lb : Array Value} (encs : X → Array Value) (Es : List Ent) (Ex : X → List Ent) (S Sp : List X → Prop) (Inv : List X → β → Prop) (Tr : β → List Ent) (Jx : Code → γ → Prop) (Tx : γ → List Ent) (b0 : β)
    (hg : knownB L g = some (.func (.func gf) #[] lb)) (eg : ∀ args w, (callFunc gf args).run P w = .ok (.enter gf args) w) (hps : ∀ x, (encs x).size = ps.size) (hpn : (ps.toList.all fun p => Nat.blt p n) = true)
    (hseq : IterC P gf lb encs w0 Es Ex S Sp) (h0 : Inv [] b0) (hT0 : Es ++ Tr b0 = T)
    (hbody : ∀ (l : Nat) (z e1 e1b e2 : Ent) (pre : List X) (x : X) (b : β) (B : Act → World → Prop), (z.wr = true → z.own = true) → Inv pre b → Sp (pre ++ [x]) →
      (∀ L' Xs R, Cont [] ((Mode.round P l).wp body (RQ w0 Inv Tr Es Jx Tx z e1b e2 (pre ++ [x]))) n w0 L' (Xs ++ e1b :: R) → Cont [] B n w0 L' (Xs ++ e1 :: R)) →
      Cont [] ((Mode.round P l).wp assign (Exit.then B (fun _ _ _ => False))) n w0 ((ps.toList.zip (encs x).toList).reverse ++ L) (Ex x ++ z :: e1 :: e2 :: (Es ++ Tr b)))
    (hdone : ∀ (D : Nat) (xs : List X) (b : β), S xs → Inv xs b → Cont [coll D] (Q .normal) n w0 L (markE D :: (Es ++ Tr b)))
    (hret : ∀ (D : Nat) (c : γ), Jx .ret c → Cont [coll D] (Q .ret) n w0 L (markE D :: Tx c))
    (hexit : ∀ (D id : Nat) (c : γ), Jx (.exit id) c → Cont [coll D] (Q (.exit id)) n w0 L (markE D :: Tx c)) :
    Cont [] ((Code.rangeFunc g ps assign body).wp P Q) n w0 L T := by
  subst hT0
  intro a w ha hf hT
  refine (wpIn_wide (n := 0)).1 (wpIn_rangeFunc ?_)
  intro fn _
  obtain ⟨rec, hrec⟩ : ∃ rec : LoopState → Option Code → Loop, rec = fun st pe => { state := st, pending := pe, fn, tmps := a.tmps, params := ps, assign, body, defers := w.heap.size } := ⟨_, rfl⟩
  have hTab := (hT.allocObj (.deferred (some []))).allocObj (.loop (rec .ready none))
  rw [World.size_alloc] at hTab
  obtain ⟨W1, hW1⟩ : ∃ W1, (w.alloc (.deferred (some []))).alloc (.loop (rec .ready none)) = W1 := ⟨_, rfl⟩
  rw [hW1] at hTab
  have hgv : a.eval g = .func (.func gf) #[] lb := knownB_eval hf hg
  refine ⟨w.heap.size + 1, [coll w.heap.size], W1, { target := .fn (.func gf) lb, args := #[.func (.yield (w.heap.size + 1)) #[] #[]] }, W1, gf, #[.func (.yield (w.heap.size + 1)) #[] #[]] ++ lb, W1, by rw [← hW1, hrec]; exact run_enterLoop_outer _ _ _ _ _, ?_, fun _ _ => trivial, ?_, (fun h => by cases h), ?_⟩
  · simp only [resolve, hgv]
    simp [go_sem]
  · simp [invoke, go_sem, eg]
  · have key := hseq Inv Tr (fun W => ∃ c d, Jx c d ∧ (c = .ret ∨ ∃ id, c = .exit id) ∧ Tab w0 W (objE (w.heap.size + 1) (.loop (rec .done (some c))) :: markE w.heap.size :: Tx d)) (w.heap.size + 1) (objE (w.heap.size + 1) (.loop (rec .ready none))) (markE w.heap.size) W1 b0 ?_ ?_ h0 hTab
    · refine calls_open open_wide (key.mono ?_)
      rintro e W ⟨⟨v, rfl⟩, ⟨xs, b, hS, hi, hW⟩ | ⟨c, d, hj, hc, hW⟩⟩
      · have hl : W.heap[w.heap.size + 1]? = some (.loop (rec .ready none)) := hW.ok 0 _ rfl
        refine ⟨none, _, by rw [run_endLoop hl (by rw [hrec]; simp)]; rw [hrec], ?_⟩
        have hW2 := (hW.putObj (i := 0) rfl (.loop { rec .ready none with state := .exhausted })).drop (fun _ => rfl)
        refine hdone w.heap.size xs b hS hi _ _ (by simp [ha, coll]) hf (by rw [hrec] at hW2; exact hW2)
      · have hl : W.heap[w.heap.size + 1]? = some (.loop (rec .done (some c))) := hW.ok 0 _ rfl
        refine ⟨some c, _, by rw [run_endLoop hl (by rw [hrec]; simp)]; rw [hrec], ?_⟩
        have hW2 := (hW.putObj (i := 0) rfl (.loop { rec .done (some c) with state := .exhausted })).drop (fun _ => rfl)
        refine wpIn_wide.2 ?_
        rcases hc with rfl | ⟨id, rfl⟩
        · exact wp_ret (hret w.heap.size d hj _ _ (by simp [ha, coll]) hf (by rw [hrec] at hW2; exact hW2))
        · exact wp_exit (hexit w.heap.size id d hj _ _ (by simp [ha, coll]) hf (by rw [hrec] at hW2; exact hW2))
    · rintro wa wb ⟨c, d, h1, h2, h3⟩ hb
      exact ⟨c, d, h1, h2, h3.below hb⟩
    · -- one round
      intro pre x b W1 z hz hi hsp hW
      have hfr : FrOk n ((ps.zip (encs x)).foldl (fun tmps (t, v) => tmps.setIfInBounds t v) a.tmps) ((ps.toList.zip (encs x).toList).reverse ++ L) := by
        have := hf.puts ps.toList (encs x).toList hpn
        rw [← Array.foldl_toList, Array.toList_zip]
        exact this
      have hidx : (Ex x ++ z :: objE (w.heap.size + 1) (.loop (rec .ready none)) :: markE w.heap.size :: (Es ++ Tr b))[(Ex x).length + 1]? = some (objE (w.heap.size + 1) (.loop (rec .ready none))) := by simp [List.getElem?_append_right]
      have hl : W1.heap[w.heap.size + 1]? = some (.loop (rec .ready none)) := hW.ok _ _ hidx
      have hy := run_yield (P := P) (args := encs x) hl (by rw [hrec]; exact hps x)
      rw [hrec] at hy
      refine ⟨fn, _, assign, body, hy, roundIn_of_wpIn (F := Fence.wide) trivial ?_⟩
      refine hbody (w.heap.size + 1) z (objE (w.heap.size + 1) (.loop (rec .ready none))) (objE (w.heap.size + 1) (.loop { rec .ready none with state := .busy })) (markE w.heap.size) pre x b _ hz hi hsp ?_ _ W1 rfl hfr hW ?_
      rotate_left
      · rintro ⟨a', w', hq⟩; exact hq
      intro L' Xs R hB a' W2 ha' hf' hW2
      have hidx2 : (Xs ++ objE (w.heap.size + 1) (.loop (rec .ready none)) :: R)[Xs.length]? = some (objE (w.heap.size + 1) (.loop (rec .ready none))) := by simp
      have hl2 : W2.heap[w.heap.size + 1]? = some (.loop (rec .ready none)) := hW2.ok _ _ hidx2
      have hW3 := hW2.putObj hidx2 (.loop { rec .ready none with state := .busy })
      have hset : (Xs ++ objE (w.heap.size + 1) (.loop (rec .ready none)) :: R).set Xs.length (objE (w.heap.size + 1) (.loop { rec .ready none with state := .busy })) = Xs ++ objE (w.heap.size + 1) (.loop { rec .ready none with state := .busy }) :: R := by simp
      rw [hset] at hW3
      refine ⟨_, run_beginRound hl2 (by rw [hrec]), wpIn_mono (hB a' _ ha' hf' hW3 ?_) ?_⟩
      · rintro ⟨a', w', hq⟩; exact hq
      · intro e a'' W3 hq
        have fin : ∀ (jump : Option Code) (i : Nat) (T' : List Ent), T'[i]? = some (objE (w.heap.size + 1) (.loop { rec .ready none with state := .busy })) → Tab w0 W3 T' →
            (Instr.endRound (w.heap.size + 1) jump).run P W3 = .ok (.bool jump.isNone) (W3.putObj (w.heap.size + 1) (.loop (rec (if jump.isNone then .ready else .done) jump))) ∧ Tab w0 (W3.putObj (w.heap.size + 1) (.loop (rec (if jump.isNone then .ready else .done) jump))) (T'.set i (objE (w.heap.size + 1) (.loop (rec (if jump.isNone then .ready else .done) jump)))) := by
          intro jump i T' hi3 hW3
          have hl3 : W3.heap[w.heap.size + 1]? = some (.loop { rec .ready none with state := .busy }) := hW3.ok i _ hi3
          refine ⟨?_, hW3.putObj hi3 _⟩
          rw [run_endRound jump hl3, hrec]
        cases e with
        | normal =>
          obtain ⟨b', hi', hW3⟩ := hq
          obtain ⟨h1, h2⟩ := fin none 1 _ rfl hW3
          exact ⟨_, _, h1, .inl ⟨rfl, b', hi', h2⟩⟩
        | ret =>
          obtain ⟨c, hj, hW3⟩ := hq
          obtain ⟨h1, h2⟩ := fin (some .ret) 0 _ rfl hW3
          exact ⟨_, _, h1, .inr ⟨rfl, .ret, c, hj, .inl rfl, h2⟩⟩
        | exit id =>
          obtain ⟨c, hj, hW3⟩ := hq
          obtain ⟨h1, h2⟩ := fin (some (.exit id)) 0 _ rfl hW3
          exact ⟨_, _, h1, .inr ⟨rfl, .exit id, c, hj, .inr ⟨id, rfl⟩, h2⟩⟩
        | goto t => exact hq.elim
        | panic ch => exact hq.elim
        | outgrown => exact hq.elim
end
theorem Tab.weaken {w0 w : World} {T : List Ent} (hT : Tab w0 w T) {i : Nat} {e e0 : Ent} (hi : T[i]? = some e) (ho : e.own = true) (hv : Vw e e0) (hw : e0.wr = false) : Tab w0 w (T.set i e0) := by
  have hok := hT.ok i e hi
  refine ⟨hT.os, hT.tape, hT.output, hT.size, ?_, ?_, ?_, ?_⟩
  · intro j x hx
    rcases getElem?_set_cases _ _ _ _ _ hx with ⟨_, rfl⟩ | ⟨_, hx⟩
    · exact hv.ok w hok
    · exact hT.ok j x hx
  · intro k hk hno
    refine hT.frame k hk (fun j x hx hxw hb => ?_)
    by_cases hj : j = i
    · subst hj
      rw [hi] at hx; cases hx
      have := hT.own j e hi ho k hb; omega
    · exact hno j x (by rw [List.getElem?_set_ne (Ne.symm hj)]; exact hx) hxw hb
  · intro j x hx hxo k hk
    rcases getElem?_set_cases _ _ _ _ _ hx with ⟨_, rfl⟩ | ⟨_, hx⟩
    · rw [hv.own] at hxo; cases hxo
    · exact hT.own j x hx hxo k hk
  · intro j l x y hjl hx hy hxy k hk hk'
    rcases getElem?_set_cases _ _ _ _ _ hx with ⟨hji, rfl⟩ | ⟨hj, hx2⟩
    · rcases getElem?_set_cases _ _ _ _ _ hy with ⟨hli, rfl⟩ | ⟨hl, hy⟩
      · omega
      · rw [hw] at hxy
        exact hT.disj i l e y (Ne.symm hl) hi hy (.inr (hxy.resolve_left (by simp))) k (hv.blk w hok k hk) hk'
    · rcases getElem?_set_cases _ _ _ _ _ hy with ⟨hli, rfl⟩ | ⟨hl, hy⟩
      · rw [hw] at hxy
        exact hT.disj j i x e hj hx2 hi (.inl (hxy.resolve_right (by simp))) k hk (hv.blk w hok k hk')
      · exact hT.disj j l x y hjl hx2 hy hxy k hk hk'
theorem cont_weaken {dfs : List Deferred} {K : Act → World → Prop} {n : Nat} {w0 : World} {L : List (Nat × Value)} {T : List Ent} (i : Nat) (e0 : Ent) {e : Ent} (hi : T[i]? = some e) (ho : e.own = true) (hv : Vw e e0) (hw : e0.wr = false) (h : Cont dfs K n w0 L (T.set i e0)) : Cont dfs K n w0 L T :=
  fun a w ha hf hT => h a w ha hf (hT.weaken hi ho hv hw)
end Go.Proofs.Ytlfahohbkgdabaa
namespace Go.Proofs.Ytlfahohbkgdabaa
open Go Go.RowKit
def sameY (p r : Rect) : Prop := p.y0 = r.y0 ∧ p.y1 = r.y1
instance (p r : Rect) : Decidable (sameY p r) := inferInstanceAs (Decidable (_ ∧ _))
def part (l : List Rect) (a b : Nat) : List Rect := (l.drop a).take (b - a)
theorem bandR_mem {y y' : Int} {sp : Spans} {r : Rect} (h : r ∈ bandR y y' sp) : r.y0 = y ∧ r.y1 = y' ∧ ∃ s ∈ sp, r = spR y y' s := by
  unfold bandR at h
  rw [List.mem_reverse, List.mem_map] at h
  obtain ⟨s, hs, rfl⟩ := h
  exact ⟨rfl, rfl, s, hs, rfl⟩
theorem bandR_cons (y y' : Int) (s : Run Unit) (sp : Spans) : bandR y y' (s :: sp) = bandR y y' sp ++ [spR y y' s] := by simp [bandR]
theorem canR_small {l : List Rect} (h : l.length ≤ 14) : (canR l).length ≤ 784 := by
  have h1 := ysP_length l []
  have h2 := mgSt_length (al := fun a b _ => alikeL a b) (own := fun i => bandP orB l [] ((ysP l []).getD i 0) ((ysP l []).getD (i + 1) 0)) (ys := ysP l []) (m := 2 * (l.length + 0)) (fun i => bandP_length orB l [] _ _) ((ysP l []).length - 1)
  simp only [List.length_nil] at h1
  have h3 : ((ysP l []).length - 1) * (2 * (l.length + 0)) ≤ 28 * 28 := Nat.mul_le_mul (by omega) (by omega)
  unfold canR regM mgL
  rw [List.length_append]
  omega
end Go.Proofs.Ytlfahohbkgdabaa
namespace Go.Proofs.Ytlfahohbkgdabaa
open Go Go.RowKit
def rowP (y x : Int) (k : Nat) : List (Int × Int) := (List.range k).map fun i => (x + ((i : Nat) : Int), y)
def rectP (r : Rect) (j : Nat) : List (Int × Int) := (List.range j).flatMap fun q => rowP (r.y0 + ((q : Nat) : Int)) r.x0 (Int.toNat (r.x1 - r.x0))
def regP (l : List Rect) : List (Int × Int) := l.flatMap fun r => rectP r (Int.toNat (r.y1 - r.y0))
theorem rectP_succ (r : Rect) (j : Nat) : rectP r (j + 1) = rectP r j ++ rowP (r.y0 + ((j : Nat) : Int)) r.x0 (Int.toNat (r.x1 - r.x0)) := by simp [rectP, List.range_succ, List.flatMap_append]
theorem rowP_mem {y x : Int} {k : Nat} {p : Int × Int} : p ∈ rowP y x k ↔ p.2 = y ∧ x ≤ p.1 ∧ p.1 < x + ((k : Nat) : Int) := by
  unfold rowP
  rw [List.mem_map]
  constructor
  · rintro ⟨i, hi, rfl⟩
    have := List.mem_range.1 hi
    exact ⟨rfl, by simp only; omega, by simp only; omega⟩
  · rintro ⟨h1, h2, h3⟩
    exact ⟨Int.toNat (p.1 - x), List.mem_range.2 (by omega), Prod.ext (by simp only; omega) h1.symm⟩
theorem rectP_mem {r : Rect} {p : Int × Int} : p ∈ rectP r (Int.toNat (r.y1 - r.y0)) ↔ hasB r.x0 r.y0 r.x1 r.y1 p.1 p.2 = true := by
  unfold rectP
  rw [List.mem_flatMap, hasB_true]
  constructor
  · rintro ⟨q, hq, hp⟩
    have h1 := List.mem_range.1 hq
    obtain ⟨h2, h3, h4⟩ := rowP_mem.1 hp
    omega
  · rintro ⟨h1, h2, h3, h4⟩
    exact ⟨Int.toNat (p.2 - r.y0), List.mem_range.2 (by omega), rowP_mem.2 ⟨by omega, by omega, by omega⟩⟩
theorem regP_mem {l : List Rect} {p : Int × Int} : p ∈ regP l ↔ hasL l p.1 p.2 = true := by
  unfold regP hasL
  rw [List.mem_flatMap, List.any_eq_true]
  constructor
  · rintro ⟨r, hr, hp⟩; exact ⟨r, hr, rectP_mem.1 hp⟩
  · rintro ⟨r, hr, hp⟩; exact ⟨r, hr, rectP_mem.2 hp⟩
theorem rowP_nodup (y x : Int) (k : Nat) : (rowP y x k).Nodup := by
  unfold rowP
  refine List.pairwise_map.2 (List.Pairwise.imp ?_ (List.nodup_range (n := k)))
  intro a b hab h
  have := congrArg Prod.fst h
  simp only at this
  omega
theorem rectP_nodup (r : Rect) (j : Nat) : (rectP r j).Nodup := by
  unfold rectP
  refine List.pairwise_flatMap.2 ⟨fun q _ => rowP_nodup _ _ _, List.Pairwise.imp ?_ (List.nodup_range (n := j))⟩
  intro a b hab p hp q hq h
  have h1 := (rowP_mem.1 hp).1
  have h2 := (rowP_mem.1 hq).1
  rw [h] at h1
  omega
def DisR (r s : Rect) : Prop := ∀ x y, ¬ (hasB r.x0 r.y0 r.x1 r.y1 x y = true ∧ hasB s.x0 s.y0 s.x1 s.y1 x y = true)
theorem band_dis {y y' : Int} : ∀ {sp : Spans}, RunsOk sp → (bandR y y' sp).Pairwise DisR := by
  intro sp
  induction sp with
  | nil => intro _; exact List.Pairwise.nil
  | cons s sp ih =>
    intro h
    rw [bandR_cons]
    refine List.pairwise_append.2 ⟨ih h.tail, List.pairwise_singleton _ _, ?_⟩
    intro r hr q hq x z hh
    obtain ⟨_, _, u, hu, rfl⟩ := bandR_mem hr
    have hq : q = spR y y' s := by simpa using hq
    subst hq
    have h1 := hasB_true.1 hh.1
    have h2 := hasB_true.1 hh.2
    have := h.below u hu
    simp only [spR] at h1 h2
    omega
theorem flat_dis : ∀ {bs : Bands}, BandsOk bs → (flatR bs).Pairwise DisR := by
  intro bs h
  have hr := h.runs
  have he := h.each
  clear h
  induction bs with
  | nil => exact List.Pairwise.nil
  | cons b t ih =>
    rw [flatR]
    refine List.pairwise_append.2 ⟨ih hr.tail (fun c hc => he c (List.mem_cons_of_mem _ hc)), band_dis (he b (List.mem_cons_self ..)).1, ?_⟩
    intro r hr' q hq x z hh
    obtain ⟨c, hc, s, _, rfl⟩ := flatR_mem hr'
    obtain ⟨h3, _, _⟩ := bandR_mem hq
    have h1 := hasB_true.1 hh.1
    have h2 := hasB_true.1 hh.2
    have := hr.below c hc
    simp only at h1 h2
    omega
theorem regP_nodup {l : List Rect} {F : Int → Int → Bool} (h : IsReg l F) : (regP l).Nodup := by
  obtain ⟨bs, h1, rfl, _⟩ := h
  unfold regP
  refine List.pairwise_flatMap.2 ⟨fun r _ => rectP_nodup _ _, List.Pairwise.imp ?_ (flat_dis h1)⟩
  intro r s hd p hp q hq e
  subst e
  exact hd p.1 p.2 ⟨rectP_mem.1 hp, rectP_mem.1 hq⟩
end Go.Proofs.Ytlfahohbkgdabaa
namespace Go.Proofs.Ytlfahohbkgdabaa
open Go Go.RowKit
theorem pt_eq {W : Int} {p : Int × Int} {k : Nat} (h1 : 0 ≤ p.1) (h2 : p.1 < W) (h3 : 0 ≤ p.2) (e : (p.2 * W + p.1).toNat = k) : p = (((k : Nat) : Int) % W, ((k : Nat) : Int) / W) := by
  have h4 : 0 ≤ p.2 * W := Int.mul_nonneg h3 (by omega)
  have h5 : ((k : Nat) : Int) = p.1 + p.2 * W := by omega
  refine Prod.ext ?_ ?_
  · simp only; rw [h5, Int.add_mul_emod_self_right, Int.emod_eq_of_lt h1 h2]
  · simp only; rw [h5, Int.add_mul_ediv_right _ _ (by omega), Int.ediv_eq_zero_of_lt h1 h2]; omega
def OnImg (W H : Int) (R : List Rect) : Prop := ∀ x y, hasL R x y = true → 0 ≤ x ∧ x < W ∧ 0 ≤ y ∧ y < H
def cntL (W : Int) (n : Nat) (R : List Rect) : Nat := ((List.range n).filter fun k => hasL R (((k : Nat) : Int) % W) (((k : Nat) : Int) / W)).length
theorem cntL_le (W : Int) (n : Nat) (R : List Rect) : cntL W n R ≤ n := by
  have := List.length_filter_le (fun k => hasL R (((k : Nat) : Int) % W) (((k : Nat) : Int) / W)) (List.range n)
  simpa [cntL] using this
theorem nodup_len_le {α : Type} [DecidableEq α] : ∀ {a b : List α}, a.Nodup → (∀ x ∈ a, x ∈ b) → a.length ≤ b.length := by
  intro a
  induction a with
  | nil => intro b _ _; simp
  | cons x a ih =>
    intro b hn hs
    have hx : x ∈ b := hs x (List.mem_cons_self ..)
    have h1 := ih (b := b.erase x) (List.nodup_cons.1 hn).2 (fun y hy => by
      refine (List.mem_erase_of_ne ?_).2 (hs y (List.mem_cons_of_mem _ hy))
      intro e; subst e; exact (List.nodup_cons.1 hn).1 hy)
    have h2 := List.length_erase_of_mem hx
    have h3 := List.length_pos_of_mem hx
    simp only [List.length_cons]
    omega
theorem regP_len {W H : Int} {n : Nat} {R : List Rect} {F : Int → Int → Bool} (hR : IsReg R F) (hin : OnImg W H R) (hW : 1 ≤ W) (hn : (n : Int) = W * H) : (regP R).length = cntL W n R := by
  have e : cntL W n R = (((List.range n).filter fun k => hasL R (((k : Nat) : Int) % W) (((k : Nat) : Int) / W)).map fun k : Nat => ((((k : Nat) : Int) % W, ((k : Nat) : Int) / W) : Int × Int)).length := by simp [cntL]
  rw [e]
  refine Nat.le_antisymm (nodup_len_le (regP_nodup hR) ?_) (nodup_len_le ?_ ?_)
  · intro p hp
    have hh := regP_mem.1 hp
    obtain ⟨h1, h2, h3, h4⟩ := hin _ _ hh
    have h5 : 0 ≤ p.2 * W := Int.mul_nonneg h3 (by omega)
    have h6 : (p.2 + 1) * W ≤ H * W := Int.mul_le_mul_of_nonneg_right (by omega) (by omega)
    have h7 : (p.2 + 1) * W = p.2 * W + W := by rw [Int.add_mul]; omega
    have h8 : H * W = (n : Int) := by rw [hn, Int.mul_comm]
    have hp2 := pt_eq (k := (p.2 * W + p.1).toNat) h1 h2 h3 rfl
    refine List.mem_map.2 ⟨(p.2 * W + p.1).toNat, List.mem_filter.2 ⟨List.mem_range.2 (by omega), ?_⟩, hp2.symm⟩
    rw [← show p.1 = ((((p.2 * W + p.1).toNat : Nat) : Int) % W) from congrArg Prod.fst hp2, ← show p.2 = ((((p.2 * W + p.1).toNat : Nat) : Int) / W) from congrArg Prod.snd hp2]
    exact hh
  · refine List.pairwise_map.2 (List.Pairwise.imp ?_ (List.Pairwise.filter _ (List.nodup_range (n := n))))
    intro a b hab h
    have h1 := Int.emod_add_mul_ediv (a : Int) W
    have h2 := Int.emod_add_mul_ediv (b : Int) W
    have h3 := congrArg Prod.fst h
    have h4 := congrArg Prod.snd h
    simp only at h3 h4
    rw [h3, h4] at h1
    omega
  · intro p hp
    obtain ⟨k, hk, rfl⟩ := List.mem_map.1 hp
    exact regP_mem.2 (List.mem_filter.1 hk).2
theorem reg_in {R : List Rect} {F : Int → Int → Bool} {W H : Int} (hR : IsReg R F) (hin : OnImg W H R) : ∀ r ∈ R, 0 ≤ r.x0 ∧ r.x0 < r.x1 ∧ r.x1 ≤ W ∧ 0 ≤ r.y0 ∧ r.y0 < r.y1 ∧ r.y1 ≤ H := by
  intro r hr
  obtain ⟨bs, h1, e, _⟩ := hR
  subst e
  obtain ⟨b, hb, s, hs, rfl⟩ := flatR_mem hr
  have g1 := h1.runs.lt b hb
  have g2 := (h1.each b hb).1.lt s hs
  have k1 := hin s.1 b.1 (List.any_eq_true.2 ⟨_, hr, hasB_true.2 ⟨by simp only; omega, by simp only; omega, by simp only; omega, by simp only; omega⟩⟩)
  have k2 := hin (s.2.1 - 1) (b.2.1 - 1) (List.any_eq_true.2 ⟨_, hr, hasB_true.2 ⟨by simp only; omega, by simp only; omega, by simp only; omega, by simp only; omega⟩⟩)
  simp only
  omega
theorem onImg_can {W H : Int} {b : List Rect} (hb : OnImg W H b) : OnImg W H (canR b) := fun x y h => hb x y (by rw [← hasL_can]; exact h)
end Go.Proofs.Ytlfahohbkgdabaa
namespace Go.Proofs.Ytlfahohbkgdabaa
open Go Go.RowKit
set_option maxRecDepth 100000
set_option maxHeartbeats 8000000
theorem payWithin (Az : Option Addr) (gz oz nz capz : Nat) (xsz : List Rect) (a b c d : Int) (w : World) (hT0 : Tab w w [rD (Az) gz oz nz 4 (rvals xsz)]) (hnz : nz ≤ 200000) (hcz : (canR xsz).length ≤ 200000) :
    Calls Try.prog 115 #[.slice Az nz capz, .agg #[iQ a, iQ b, iQ c, iQ d]] w fun e w' => ∃ (A_ : Option Addr) (g_ k_ cp_ : Nat), e = .returned (.slice A_ k_ cp_) ∧ Tab w w' [.gen (rowE (A_) g_ k_ cp_ 53 4 (rvals (regM andB (canR xsz) (canR [(⟨a, b, c, d⟩ : Rect)]))) true)] := by
 obtain ⟨hraz, hrlz⟩ := Rd.factsR (hT0.ok 0 _ rfl)
 have hcb_ := canR_small (l := [(⟨a, b, c, d⟩ : Rect)]) (by simp)
 refine eN [(0, .slice Az nz capz), (1, .agg #[iq a, iq b, iq c, iq d])] Try.func115 Try.ntmps115 rfl hT0 ?_
 refine zSR 2 <| bW [0, 0] 2 0 (fun b1 => [(0, .slice Az nz capz), (3, .pointer (pB b1))]) (fun b1 => [.cells b1 [iq a, iq b, iq c, iq d] 53 true, rD (Az) gz oz nz 4 (rvals xsz)]) [0, 3] fun b1 => ?_
 refine zDNS <| drawn_enter 7 [] rfl (by kernel_rfl) ?_
 refine tD 0 [] [(0, 0), (2, 0)] 5 [2, 0] [(5, .slice Az nz capz), (7, .agg #[iq a, iq b, iq c, iq d])] [] <| drawn_two 1 3 4 rfl (by kernel_rfl) ?_ ?_
 ·
  refine cG (d := 6) (α := Option Addr × Nat × Nat × Nat) (fun x_ => .slice x_.1 x_.2.2.1 x_.2.2.2) (fun x_ => [.gen (rowE (x_.1) x_.2.1 x_.2.2.1 x_.2.2.2 53 4 (rvals (canR xsz)) true), .cells b1 [iq a, iq b, iq c, iq d] 53 true, rD (Az) gz oz nz 4 (rvals xsz)]) (fun x_ => True) (fun w hT => (regOf Az gz oz nz capz xsz w (hT.viewRo (.cons (i := 1) rfl Vw.rd .nil) rfl) (by omega)).mono fun e w' ⟨A2, g3, k4, cp5, he_, ht_⟩ => ⟨(A2, g3, k4, cp5), he_, trivial, hT.news ht_ rfl⟩) ?_
  rintro ⟨A2, g3, k4, cp5⟩ hf6_
  refine fR 0 k4 A2 g3 cp5 (canR xsz) rfl fun hr7_a hr7_l hr7_c hr7_m => ?_
  refine dX 1 [] <| dO 3 3 <| one_step1 0 (fun b8 => [(6, .slice A2 k4 cp5), (8, .slice (pB b8) 1 1)]) (fun b8 => [.cells b8 [iq a, iq b, iq c, iq d] 53 true, .gen (rowE (A2) g3 k4 cp5 53 4 (rvals (canR xsz)) true), .cells b1 [iq a, iq b, iq c, iq d] 53 true, rD (Az) gz oz nz 4 (rvals xsz)]) (fun b8 => by kernel_rfl) (fun b8 => by kernel_rfl) (fun b8 => ?_)
  refine dX 2 [] <| dO 4 2 <| cont_asRow 0 1 4 rfl (vals := rvals [(⟨a, b, c, d⟩ : Rect)]) rfl rfl (by decide) ?_
  refine cG (d := 9) (α := Option Addr × Nat × Nat × Nat) (fun x_ => .slice x_.1 x_.2.2.1 x_.2.2.2) (fun x_ => [.gen (rowE (x_.1) x_.2.1 x_.2.2.1 x_.2.2.2 53 4 (rvals (canR [(⟨a, b, c, d⟩ : Rect)])) true), .gen (rowE (pB b8) b8 1 1 53 4 (rvals [(⟨a, b, c, d⟩ : Rect)]) true), .gen (rowE (A2) g3 k4 cp5 53 4 (rvals (canR xsz)) true), .cells b1 [iq a, iq b, iq c, iq d] 53 true, rD (Az) gz oz nz 4 (rvals xsz)]) (fun x_ => True) (fun w hT => (regOf (pB b8) b8 0 1 1 [(⟨a, b, c, d⟩ : Rect)] w (hT.viewRo (.cons (i := 0) rfl Vw.rowRd .nil) rfl) (by omega)).mono fun e w' ⟨A9, g10, k11, cp12, he_, ht_⟩ => ⟨(A9, g10, k11, cp12), he_, trivial, hT.news ht_ rfl⟩) ?_
  rintro ⟨A9, g10, k11, cp12⟩ hf13_
  refine fR 0 k11 A9 g10 cp12 (canR [(⟨a, b, c, d⟩ : Rect)]) rfl fun hr14_a hr14_l hr14_c hr14_m => ?_
  refine dX 3 [] <| dO 5 1 <| cG (d := 10) (α := Option Addr × Nat × Nat × Nat) (fun x_ => .slice x_.1 x_.2.2.1 x_.2.2.2) (fun x_ => [.gen (rowE (x_.1) x_.2.1 x_.2.2.1 x_.2.2.2 53 4 (rvals (regM andB (canR xsz) (canR [(⟨a, b, c, d⟩ : Rect)]))) true), .gen (rowE (A9) g10 k11 cp12 53 4 (rvals (canR [(⟨a, b, c, d⟩ : Rect)])) true), .gen (rowE (pB b8) b8 1 1 53 4 (rvals [(⟨a, b, c, d⟩ : Rect)]) true), .gen (rowE (A2) g3 k4 cp5 53 4 (rvals (canR xsz)) true), .cells b1 [iq a, iq b, iq c, iq d] 53 true, rD (Az) gz oz nz 4 (rvals xsz)]) (fun x_ => True) (fun w hT => (regCut A2 g3 0 k4 cp5 (canR xsz) A9 g10 0 k11 cp12 (canR [(⟨a, b, c, d⟩ : Rect)]) w (hT.viewRo (.cons (i := 2) rfl Vw.rowRd (.cons (i := 0) rfl Vw.rowRd .nil)) rfl) (by omega)).mono fun e w' ⟨A15, g16, k17, cp18, he_, ht_⟩ => ⟨(A15, g16, k17, cp18), he_, trivial, hT.news ht_ rfl⟩) ?_
  rintro ⟨A15, g16, k17, cp18⟩ hf19_
  refine fR 0 k17 A15 g16 cp18 (regM andB (canR xsz) (canR [(⟨a, b, c, d⟩ : Rect)])) rfl fun hr20_a hr20_l hr20_c hr20_m => ?_
  refine dX 4 [] <| tD 4 [] [(6, 0)] 0 [6, 5, 4, 3, 1, 2, 0] [(4, .slice A15 k17 cp18)] [] <| dD <| zN <| cont_ret ?_
  refine rA rfl 0 (.slice A15 k17 cp18) fun w hT => ?_
  replace hT := hT.erase 5 (fun e h hw => by cases h; first | rfl | cases hw)
  replace hT := hT.erase 4 (fun e h hw => by cases h; first | rfl | cases hw)
  replace hT := hT.erase 3 (fun e h hw => by cases h; first | rfl | cases hw)
  replace hT := hT.erase 2 (fun e h hw => by cases h; first | rfl | cases hw)
  replace hT := hT.erase 1 (fun e h hw => by cases h; first | rfl | cases hw)
  exact ⟨_, _, _, _, rfl, hT⟩
 refine one_step1 0 (fun b21 => [(5, .slice Az nz capz), (8, .slice (pB b21) 1 1)]) (fun b21 => [.cells b21 [iq a, iq b, iq c, iq d] 53 true, .cells b1 [iq a, iq b, iq c, iq d] 53 true, rD (Az) gz oz nz 4 (rvals xsz)]) (fun b21 => by kernel_rfl) (fun b21 => by kernel_rfl) (fun b21 => ?_)
 refine dX 1 [] <| dO 1 3 <| cG (d := 6) (α := Option Addr × Nat × Nat × Nat) (fun x_ => .slice x_.1 x_.2.2.1 x_.2.2.2) (fun x_ => [.gen (rowE (x_.1) x_.2.1 x_.2.2.1 x_.2.2.2 53 4 (rvals (canR xsz)) true), .cells b21 [iq a, iq b, iq c, iq d] 53 true, .cells b1 [iq a, iq b, iq c, iq d] 53 true, rD (Az) gz oz nz 4 (rvals xsz)]) (fun x_ => True) (fun w hT => (regOf Az gz oz nz capz xsz w (hT.viewRo (.cons (i := 2) rfl Vw.rd .nil) rfl) (by omega)).mono fun e w' ⟨A22, g23, k24, cp25, he_, ht_⟩ => ⟨(A22, g23, k24, cp25), he_, trivial, hT.news ht_ rfl⟩) ?_
 rintro ⟨A22, g23, k24, cp25⟩ hf26_
 refine fR 0 k24 A22 g23 cp25 (canR xsz) rfl fun hr27_a hr27_l hr27_c hr27_m => ?_
 refine dX 2 [] <| dO 4 2 <| cont_asRow 1 1 4 rfl (vals := rvals [(⟨a, b, c, d⟩ : Rect)]) rfl rfl (by decide) ?_
 refine cG (d := 9) (α := Option Addr × Nat × Nat × Nat) (fun x_ => .slice x_.1 x_.2.2.1 x_.2.2.2) (fun x_ => [.gen (rowE (x_.1) x_.2.1 x_.2.2.1 x_.2.2.2 53 4 (rvals (canR [(⟨a, b, c, d⟩ : Rect)])) true), .gen (rowE (A22) g23 k24 cp25 53 4 (rvals (canR xsz)) true), .gen (rowE (pB b21) b21 1 1 53 4 (rvals [(⟨a, b, c, d⟩ : Rect)]) true), .cells b1 [iq a, iq b, iq c, iq d] 53 true, rD (Az) gz oz nz 4 (rvals xsz)]) (fun x_ => True) (fun w hT => (regOf (pB b21) b21 0 1 1 [(⟨a, b, c, d⟩ : Rect)] w (hT.viewRo (.cons (i := 1) rfl Vw.rowRd .nil) rfl) (by omega)).mono fun e w' ⟨A28, g29, k30, cp31, he_, ht_⟩ => ⟨(A28, g29, k30, cp31), he_, trivial, hT.news ht_ rfl⟩) ?_
 rintro ⟨A28, g29, k30, cp31⟩ hf32_
 refine fR 0 k30 A28 g29 cp31 (canR [(⟨a, b, c, d⟩ : Rect)]) rfl fun hr33_a hr33_l hr33_c hr33_m => ?_
 refine dX 3 [] <| dO 5 1 <| cG (d := 10) (α := Option Addr × Nat × Nat × Nat) (fun x_ => .slice x_.1 x_.2.2.1 x_.2.2.2) (fun x_ => [.gen (rowE (x_.1) x_.2.1 x_.2.2.1 x_.2.2.2 53 4 (rvals (regM andB (canR xsz) (canR [(⟨a, b, c, d⟩ : Rect)]))) true), .gen (rowE (A28) g29 k30 cp31 53 4 (rvals (canR [(⟨a, b, c, d⟩ : Rect)])) true), .gen (rowE (A22) g23 k24 cp25 53 4 (rvals (canR xsz)) true), .gen (rowE (pB b21) b21 1 1 53 4 (rvals [(⟨a, b, c, d⟩ : Rect)]) true), .cells b1 [iq a, iq b, iq c, iq d] 53 true, rD (Az) gz oz nz 4 (rvals xsz)]) (fun x_ => True) (fun w hT => (regCut A22 g23 0 k24 cp25 (canR xsz) A28 g29 0 k30 cp31 (canR [(⟨a, b, c, d⟩ : Rect)]) w (hT.viewRo (.cons (i := 1) rfl Vw.rowRd (.cons (i := 0) rfl Vw.rowRd .nil)) rfl) (by omega)).mono fun e w' ⟨A34, g35, k36, cp37, he_, ht_⟩ => ⟨(A34, g35, k36, cp37), he_, trivial, hT.news ht_ rfl⟩) ?_
 rintro ⟨A34, g35, k36, cp37⟩ hf38_
 refine fR 0 k36 A34 g35 cp37 (regM andB (canR xsz) (canR [(⟨a, b, c, d⟩ : Rect)])) rfl fun hr39_a hr39_l hr39_c hr39_m => ?_
 refine dX 4 [] <| tD 4 [] [(6, 0)] 0 [6, 5, 4, 1, 3, 2, 0] [(4, .slice A34 k36 cp37)] [] <| dD <| zN <| cont_ret ?_
 refine rA rfl 0 (.slice A34 k36 cp37) fun w hT => ?_
 replace hT := hT.erase 5 (fun e h hw => by cases h; first | rfl | cases hw)
 replace hT := hT.erase 4 (fun e h hw => by cases h; first | rfl | cases hw)
 replace hT := hT.erase 3 (fun e h hw => by cases h; first | rfl | cases hw)
 replace hT := hT.erase 2 (fun e h hw => by cases h; first | rfl | cases hw)
 replace hT := hT.erase 1 (fun e h hw => by cases h; first | rfl | cases hw)
 exact ⟨_, _, _, _, rfl, hT⟩
end Go.Proofs.Ytlfahohbkgdabaa
namespace Go.Proofs.Ytlfahohbkgdabaa
open Go Go.RowKit
end Go.Proofs.Ytlfahohbkgdabaa
namespace Go.Proofs.Ytlfahohbkgdabaa
open Go Go.RowKit
variable {dfs : List Deferred}
end Go.Proofs.Ytlfahohbkgdabaa
namespace Go.Proofs.Ytlfahohbkgdabaa
open Go Go.RowKit
theorem ImgOk.get {W H : Int} {n : Nat} {px : List Int} (hok : ImgOk W H n px) {k : Nat} (hk : k < n) : InC (px.getD k 0) := by
  rw [List.getD_eq_getElem?_getD, List.getElem?_eq_getElem (by rw [hok.len]; exact hk)]
  exact hok.rng _ (List.getElem_mem _)
theorem rowP_length (y x : Int) (k : Nat) : (rowP y x k).length = k := by simp [rowP]
theorem rectP_length (r : Rect) (j : Nat) : (rectP r j).length = j * Int.toNat (r.x1 - r.x0) := by
  induction j with
  | zero => simp [rectP]
  | succ j ih => rw [rectP_succ, List.length_append, ih, rowP_length, Nat.succ_mul]
end Go.Proofs.Ytlfahohbkgdabaa
