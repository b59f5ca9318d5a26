/- States and the items of a snapshot: how they stand in memory; what is shown at a point. -/
import Derived.Test.YtlfahohbkgdabaaPcBu
import Derived.Test.YtlfahohbkgdabaaPcDo
import Derived.Test.YtlfahohbkgdabaaPcPu
import Derived.Test.YtlfahohbkgdabaaPcRe
set_option linter.unusedVariables false
set_option linter.unusedSimpArgs false
namespace Go.Proofs.Ytlfahohbkgdabaa
open Go Go.RowKit
/-- A state of the document: of an image. -/
structure TS where
  W : Int
  H : Int
  r : Nat
  n : Nat
  cap : Nat
  px : List Int
  X : Int
  Y : Int
  s : Int
  al : Int
  ca : Int
  cb : Int
  cc : Int
  cd : Int
  A : Option Addr
  g : Nat
  k : Nat
  cp : Nat
  op : List Rect
instance : Inhabited TS := ⟨⟨0, 0, 0, 0, 0, [], 0, 0, 0, 0, 0, 0, 0, 0, none, 0, 0, 0, []⟩⟩
def TS.cells (t : TS) : List Value := [.bool true, .int .i64 t.W, .int .i64 t.H, .slice (some ⟨t.r, 0, none⟩) t.n t.cap, .int .i64 t.X, .int .i64 t.Y, .int .i64 t.s, .int .i64 t.al, .int .i64 t.ca, .int .i64 t.cb, .int .i64 t.cc, .int .i64 t.cd, .slice t.A t.k t.cp, .string ⟨#[]⟩]
theorem TS.size (t : TS) : (TS.cells t).length = 14 := rfl
theorem TS.one : ∀ a : TS, ∀ u ∈ TS.cells a, u.oneCell' = true := by
  intro a u hu
  simp only [TS.cells, List.mem_cons, List.not_mem_nil, or_false] at hu
  rcases hu with rfl | rfl | rfl | rfl | rfl | rfl | rfl | rfl | rfl | rfl | rfl | rfl | rfl | rfl <;> rfl
def TS.pxG (t : TS) : GenEnt := rdE (some ⟨t.r, 0, none⟩) t.r 0 t.n 1 (ivals .u32 t.px)
def TS.opG (t : TS) : GenEnt := rdE t.A t.g 0 t.k 4 (rvals t.op)
def TS.pxs (l : List TS) (i : Nat) : GenEnt := (dget l i).pxG
def TS.ops (l : List TS) (i : Nat) : GenEnt := (dget l i).opG
theorem TS.pxs_app {l : List TS} {t : TS} {m : Nat} (h : l.length = m) : (∀ k, k < m → TS.pxs (l ++ [t]) k = TS.pxs l k) ∧ TS.pxs (l ++ [t]) m = t.pxG :=
  ⟨fun k hk => by unfold TS.pxs; rw [dget_app (by omega)], by unfold TS.pxs; rw [dget_end h]⟩
theorem TS.ops_app {l : List TS} {t : TS} {m : Nat} (h : l.length = m) : (∀ k, k < m → TS.ops (l ++ [t]) k = TS.ops l k) ∧ TS.ops (l ++ [t]) m = t.opG :=
  ⟨fun k hk => by unfold TS.ops; rw [dget_app (by omega)], by unfold TS.ops; rw [dget_end h]⟩
/-- One point that is solid, as a rectangle. -/
def SolR (W : Int) (px : List Int) (r : Rect) : Prop := ∃ i : Nat, i < px.length ∧ r = ⟨(i : Int) % W, (i : Int) / W, (i : Int) % W + 1, (i : Int) / W + 1⟩ ∧ pa (px.getD i 0) = 255
/-- A state that may be. -/
structure TS.Ok (t : TS) : Prop where
  img : ImgOk t.W t.H t.n t.px
  may : AllMay t.px
  w16 : t.W ≤ 16
  h16 : t.H ≤ 16
  s_ : 1 ≤ t.s ∧ t.s ≤ 3
  x_ : -6 ≤ t.X ∧ t.X ≤ 17
  y_ : -6 ≤ t.Y ∧ t.Y ≤ 17
  a_ : 0 ≤ t.al ∧ t.al ≤ 255
  clip : R64 ⟨t.ca, t.cb, t.cc, t.cd⟩
  opq : ∃ l : List Rect, t.op = canR l ∧ l.length ≤ 65536 ∧ ∀ r ∈ l, SolR t.W t.px r
/-- An item of a snapshot: a state with an image of its own. -/
structure IT where
  b : Nat
  q : Nat
  t : TS
instance : Inhabited IT := ⟨⟨0, 0, default⟩⟩
def IT.cells (x : IT) : List Value := [.int .i64 0, .int .i64 0, .pointer (some ⟨x.b, 0, none⟩), .int .i64 x.t.X, .int .i64 x.t.Y, .int .i64 x.t.s, .int .i64 x.t.al, .int .i64 x.t.ca, .int .i64 x.t.cb, .int .i64 x.t.cc, .int .i64 x.t.cd, .slice x.t.A x.t.k x.t.cp, .string ⟨#[]⟩, .int .i64 0]
theorem IT.size (x : IT) : (IT.cells x).length = 14 := rfl
theorem IT.one : ∀ a : IT, ∀ u ∈ IT.cells a, u.oneCell' = true := by
  intro a u hu
  simp only [IT.cells, List.mem_cons, List.not_mem_nil, or_false] at hu
  rcases hu with rfl | rfl | rfl | rfl | rfl | rfl | rfl | rfl | rfl | rfl | rfl | rfl | rfl | rfl <;> rfl
def IT.hdG (tI : TypeId) (x : IT) : GenEnt := roE x.b [.int .i64 x.t.W, .int .i64 x.t.H, .slice (some ⟨x.q, 0, none⟩) x.t.n x.t.n] tI
def IT.pxG (x : IT) : GenEnt := rdE (some ⟨x.q, 0, none⟩) x.q 0 x.t.n 1 (ivals .u32 x.t.px)
def IT.hds (tI : TypeId) (l : List IT) (i : Nat) : GenEnt := (dget l i).hdG tI
def IT.pxs (l : List IT) (i : Nat) : GenEnt := (dget l i).pxG
theorem IT.hds_app {tI : TypeId} {l : List IT} {t : IT} {m : Nat} (h : l.length = m) : (∀ k, k < m → IT.hds tI (l ++ [t]) k = IT.hds tI l k) ∧ IT.hds tI (l ++ [t]) m = t.hdG tI :=
  ⟨fun k hk => by unfold IT.hds; rw [dget_app (by omega)], by unfold IT.hds; rw [dget_end h]⟩
theorem IT.pxs_app {l : List IT} {t : IT} {m : Nat} (h : l.length = m) : (∀ k, k < m → IT.pxs (l ++ [t]) k = IT.pxs l k) ∧ IT.pxs (l ++ [t]) m = t.pxG :=
  ⟨fun k hk => by unfold IT.pxs; rw [dget_app (by omega)], by unfold IT.pxs; rw [dget_end h]⟩
theorem dget_mapT {its : List IT} {ts : List TS} (h : its.map (·.t) = ts) {i : Nat} (hi : i < its.length) : (dget its i).t = dget ts i := by
  subst h
  unfold dget
  rw [List.getD_eq_getElem?_getD, List.getD_eq_getElem?_getD, List.getElem?_map, List.getElem?_eq_getElem hi]; rfl
theorem map_take {its : List IT} {ts : List TS} {x : IT} {i : Nat} (h : its.map (·.t) = ts.take i) (hi : i < ts.length) (hx : x.t = dget ts i) : (its ++ [x]).map (·.t) = ts.take (i + 1) := by
  rw [List.map_append, h, List.take_add_one, List.getElem?_eq_getElem hi]
  simp only [List.map_cons, List.map_nil, Option.toList_some]
  rw [hx]
  unfold dget
  rw [List.getD_eq_getElem?_getD, List.getElem?_eq_getElem hi]; rfl
/-! ### What is shown at a point -/
def TS.sh (t : TS) (x y : Int) : Bool := pcolB t.W t.H t.X t.Y t.s t.ca t.cb t.cc t.cd x y
def TS.co (t : TS) (x y : Int) : Int := pcolC t.W t.H t.X t.Y t.s t.al t.ca t.cb t.cc t.cd t.px x y
def colsS (l : List TS) (x y : Int) : List Int := (l.filter fun t => t.sh x y).map fun t => t.co x y
def pixS (l : List TS) (x y g : Int) : Int := pixC g (colsS l x y)
theorem takeT {l : List TS} {i : Nat} (h : i < l.length) : l.take (i + 1) = l.take i ++ [dget l i] := by
  rw [List.take_add_one, List.getElem?_eq_getElem h]
  unfold dget
  rw [List.getD_eq_getElem?_getD, List.getElem?_eq_getElem h]; rfl
theorem colsS_yes {l : List TS} {i : Nat} {x y : Int} (h : i < l.length) (hs : (dget l i).sh x y = true) : colsS (l.take (i + 1)) x y = colsS (l.take i) x y ++ [(dget l i).co x y] := by
  unfold colsS
  rw [takeT h, List.filter_append, List.map_append]
  simp [hs]
theorem colsS_no {l : List TS} {i : Nat} {x y : Int} (h : i < l.length) (hs : (dget l i).sh x y = false) : colsS (l.take (i + 1)) x y = colsS (l.take i) x y := by
  unfold colsS
  rw [takeT h, List.filter_append, List.map_append]
  simp [hs]
theorem colsS_len (l : List TS) (x y : Int) : (colsS l x y).length ≤ l.length := by
  unfold colsS
  rw [List.length_map]
  exact List.length_filter_le _ _
theorem pixC_snocS (c : Int) (l : List Int) (d : Int) : pixC c (l ++ [d]) = overC d (pixC c l) := by
  unfold pixC
  rw [List.foldl_append]; rfl
theorem pixS_yes {l : List TS} {i : Nat} {x y g : Int} (h : i < l.length) (hs : (dget l i).sh x y = true) : pixS (l.take (i + 1)) x y g = overC ((dget l i).co x y) (pixS (l.take i) x y g) := by
  unfold pixS
  rw [colsS_yes h hs, pixC_snocS]
theorem pixS_no {l : List TS} {i : Nat} {x y g : Int} (h : i < l.length) (hs : (dget l i).sh x y = false) : pixS (l.take (i + 1)) x y g = pixS (l.take i) x y g := by
  unfold pixS
  rw [colsS_no h hs]
theorem pcolC_inS (W H X Y s al a b c d : Int) (px : List Int) (x y : Int) : 0 ≤ pcolC W H X Y s al a b c d px x y ∧ pcolC W H X Y s al a b c d px x y < 4294967296 := by
  unfold pcolC
  split
  · exact mkC_range _ _ _ _
  · exact ⟨by decide, by decide⟩
theorem colsS_in (l : List TS) (x y : Int) : ∀ c ∈ colsS l x y, InC c := by
  intro c hc
  obtain ⟨t, _, rfl⟩ := List.mem_map.1 hc
  exact pcolC_inS _ _ _ _ _ _ _ _ _ _ _ _ _
theorem pixS_in (l : List TS) (x y : Int) {g : Int} (hg : InC g) : 0 ≤ pixS l x y g ∧ pixS l x y g < 4294967296 := pixC_in hg _
theorem map_len {its : List IT} {ts : List TS} {i : Nat} (h : its.map (·.t) = ts.take i) (hi : i ≤ ts.length) : its.length = i := by
  have := congrArg List.length h
  rw [List.length_map, List.length_take] at this
  omega
theorem okIT {its : List IT} {ts : List TS} (h : its.map (·.t) = ts) (hok : ∀ t ∈ ts, TS.Ok t) : ∀ x ∈ its, TS.Ok x.t := fun x hx => hok _ (by rw [← h]; exact List.mem_map.2 ⟨x, hx, rfl⟩)
end Go.Proofs.Ytlfahohbkgdabaa

