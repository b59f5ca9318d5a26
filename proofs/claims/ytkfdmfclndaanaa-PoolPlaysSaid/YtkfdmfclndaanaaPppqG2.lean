/- Texts of this proof's own, put together: what each holds is told ahead of it. -/
import Derived.Test.YtkfdmfclndaanaaPppqG1
import Derived.Test.YtkfdmfclndaanaaPppqG0
import Derived.Test.YtkfdmfclndaanaaProg
set_option linter.unusedSimpArgs false
set_option linter.unusedVariables false
namespace Go.Proofs.Ytkfdmfclndaanaa
open Go Go.RowKit
instance : Inhabited PB := ⟨⟨0, 0, 0, false, 0, 0, 0, 0, 0, 0, []⟩⟩
def PB.al (x : PB) : Bool := x.nm || decide (0 < x.hd)
def liveP (ds : List PB) : List PB := ds.filter PB.al
def restP (ds : List PB) (i : Nat) : List PB := liveP (ds.take i) ++ liveP (ds.drop (i + 1))
def keysP (l : List PB) : PmL := l.map fun x => (x.k, x.b)
structure PoolOk (ds : List PB) (B : Int) : Prop where
  key : ∀ i, i < ds.length → (dget ds i).k = (i : Int)
  one : ∀ x ∈ ds, ∀ y ∈ ds, x.nm = true → y.nm = true → x.id = y.id → x.k = y.k
  img : ∀ x ∈ ds, ImgOk x.W x.H x.n x.px
  may : ∀ x ∈ ds, AllMay x.px
  hd : ∀ x ∈ ds, 0 ≤ x.hd ∧ x.hd ≤ B
theorem PoolOk.nil (B : Int) : PoolOk [] B := ⟨fun i h => absurd h (Nat.not_lt_zero _), fun x h => absurd h (by simp), fun x h => absurd h (by simp), fun x h => absurd h (by simp), fun x h => absurd h (by simp)⟩
theorem cut_at {ds : List PB} {i : Nat} (h : i < ds.length) : ds = ds.take i ++ dget ds i :: ds.drop (i + 1) := by
  have : dget ds i = ds[i] := by unfold dget; rw [List.getD_eq_getElem?_getD, List.getElem?_eq_getElem h]; rfl
  rw [this, ← List.drop_eq_getElem_cons h, List.take_append_drop]
theorem set_at {ds : List PB} {i : Nat} (h : i < ds.length) (x : PB) : ds.set i x = ds.take i ++ x :: ds.drop (i + 1) := by
  conv => lhs; rw [cut_at h]
  rw [List.set_append_right _ _ (by rw [List.length_take]; omega), List.length_take, Nat.min_eq_left (by omega), Nat.sub_self]
  rfl
theorem liveP_app (a b : List PB) : liveP (a ++ b) = liveP a ++ liveP b := List.filter_append ..
theorem liveP_yes {x : PB} (h : x.al = true) (l : List PB) : liveP (x :: l) = x :: liveP l := by unfold liveP; rw [List.filter_cons, if_pos h]
theorem liveP_no {x : PB} (h : x.al = false) (l : List PB) : liveP (x :: l) = liveP l := by unfold liveP; rw [List.filter_cons, if_neg (by rw [h]; simp)]
theorem live_take {ds : List PB} {i : Nat} (h : i < ds.length) (ha : (dget ds i).al = true) : (liveP ds).Perm (dget ds i :: restP ds i) := by
  conv => lhs; rw [cut_at h]
  rw [liveP_app, liveP_yes ha]
  exact List.perm_middle
theorem live_put {ds : List PB} {i : Nat} (h : i < ds.length) {x : PB} (ha : x.al = true) : (x :: restP ds i).Perm (liveP (ds.set i x)) := by
  rw [set_at h, liveP_app, liveP_yes ha]
  exact List.perm_middle.symm
theorem live_dead {ds : List PB} {i : Nat} (h : i < ds.length) {x : PB} (ha : x.al = false) : restP ds i = liveP (ds.set i x) := by
  rw [set_at h, liveP_app, liveP_no ha]; rfl
theorem live_push {ds : List PB} {x : PB} (ha : x.al = true) : liveP (ds ++ [x]) = liveP ds ++ [x] := by
  rw [liveP_app, liveP_yes ha]; rfl
theorem keys_same {ds : List PB} {i : Nat} (h : i < ds.length) {x : PB} (ho : (dget ds i).al = true) (ha : x.al = true) (hk : x.k = (dget ds i).k) (hb : x.b = (dget ds i).b) : keysP (liveP ds) = keysP (liveP (ds.set i x)) := by
  rw [set_at h, liveP_app, liveP_yes ha]
  conv => lhs; rw [cut_at h]
  rw [liveP_app, liveP_yes ho]
  unfold keysP
  simp [hk, hb]
theorem mdel_app {k : Int} {v : Value} : ∀ {a b : MS}, (∀ p ∈ a, p.1 ≠ k) → mdel (a ++ (k, v) :: b) k = a ++ b := by
  intro a
  induction a with
  | nil => intro b _; simp [mdel]
  | cons p a ih =>
    intro b h
    obtain ⟨q, u⟩ := p
    have hq : k ≠ q := fun e => h (q, u) (by simp) e.symm
    show mdel ((q, u) :: (a ++ (k, v) :: b)) k = _
    simp only [mdel, if_neg hq]
    rw [ih (fun p hp => h p (by simp [hp]))]; rfl
theorem mput_app {k : Int} {v : Value} {l : MS} (h : ∀ p ∈ l, p.1 ≠ k) : mput l k v = l ++ [(k, v)] := by
  refine mput_new l ?_
  induction l with
  | nil => rfl
  | cons p r ih =>
    obtain ⟨q, u⟩ := p
    have hq : k ≠ q := fun e => h (q, u) (by simp) e.symm
    simp only [mget, if_neg hq]
    exact ih (fun p hp => h p (by simp [hp]))
theorem PoolOk.at {ds : List PB} {B : Int} (h : PoolOk ds B) {x : PB} (hx : x ∈ ds) : ∃ i, i < ds.length ∧ x = dget ds i ∧ x.k = (i : Int) := by
  obtain ⟨i, hi, rfl⟩ := List.mem_iff_getElem.1 hx
  have e : dget ds i = ds[i] := by unfold dget; rw [List.getD_eq_getElem?_getD, List.getElem?_eq_getElem hi]; rfl
  exact ⟨i, hi, e.symm, by rw [← e]; exact h.key i hi⟩
theorem take_key {ds : List PB} {B : Int} (h : PoolOk ds B) {i : Nat} {x : PB} (hx : x ∈ ds.take i) : x.k < (i : Int) := by
  obtain ⟨j, hj, rfl⟩ := List.mem_iff_getElem.1 hx
  rw [List.length_take] at hj
  have e : dget ds j = (ds.take i)[j] := by
    unfold dget
    rw [List.getD_eq_getElem?_getD, List.getElem?_eq_getElem (show j < ds.length by omega), List.getElem_take]; rfl
  rw [← e, h.key j (by omega)]
  omega
theorem keys_del {ds : List PB} {B : Int} (h : PoolOk ds B) {i : Nat} (hi : i < ds.length) {x : PB} (ho : (dget ds i).al = true) (ha : x.al = false) : mdel (pmsV (keysP (liveP ds))) (i : Int) = pmsV (keysP (liveP (ds.set i x))) := by
  rw [set_at hi, liveP_app, liveP_no ha]
  conv => lhs; rw [cut_at hi]
  rw [liveP_app, liveP_yes ho]
  have e : pmsV (keysP (liveP (ds.take i) ++ dget ds i :: liveP (ds.drop (i + 1)))) = pmsV (keysP (liveP (ds.take i))) ++ ((i : Int), Value.pointer (some ⟨(dget ds i).b, 0, none⟩)) :: pmsV (keysP (liveP (ds.drop (i + 1)))) := by
    unfold pmsV keysP
    simp [h.key i hi]
  rw [e, mdel_app]
  · unfold pmsV keysP; simp
  · intro p hp
    unfold pmsV keysP at hp
    simp only [List.map_map, List.mem_map, Function.comp] at hp
    obtain ⟨x, hx, rfl⟩ := hp
    have := take_key h (List.mem_filter.1 hx).1
    simp only
    omega
theorem keys_push {ds : List PB} {B : Int} (h : PoolOk ds B) {x : PB} (ha : x.al = true) (hk : x.k = (ds.length : Int)) : mput (pmsV (keysP (liveP ds))) (ds.length : Int) (.pointer (some ⟨x.b, 0, none⟩)) = pmsV (keysP (liveP (ds ++ [x]))) := by
  rw [mput_app]
  · rw [live_push ha]; unfold pmsV keysP; simp [hk]
  · intro p hp
    unfold pmsV keysP at hp
    simp only [List.map_map, List.mem_map, Function.comp] at hp
    obtain ⟨y, hy, rfl⟩ := hp
    obtain ⟨i, hi, _, e⟩ := h.at (List.mem_filter.1 hy).1
    simp only
    omega
theorem pget_mem {l : PmL} {x : Int} {v : Nat} : (l.map (·.1)).Nodup → (x, v) ∈ l → pget l x = some v := by
  induction l with
  | nil => intro _ h; cases h
  | cons p l ih =>
    intro hn hm
    obtain ⟨k, u⟩ := p
    rw [List.map_cons, List.nodup_cons] at hn
    show (if x = k then some u else pget l x) = _
    rcases List.mem_cons.1 hm with e | e
    · cases e; rw [if_pos rfl]
    · have hne : x ≠ k := fun h => hn.1 (h ▸ List.mem_map.2 ⟨(x, v), e, rfl⟩)
      rw [if_neg hne]; exact ih hn.2 e
theorem pget_none {l : PmL} {x : Int} : (∀ p ∈ l, p.1 ≠ x) → pget l x = none := by
  induction l with
  | nil => intro _; rfl
  | cons p l ih =>
    intro h
    obtain ⟨k, u⟩ := p
    show (if x = k then some u else pget l x) = _
    rw [if_neg (fun e => h (k, u) (by simp) e.symm)]
    exact ih (fun p hp => h p (by simp [hp]))
theorem PoolOk.nodup {ds : List PB} {B : Int} (h : PoolOk ds B) : ((keysP (liveP ds)).map (·.1)).Nodup := by
  have e : ds.map (·.k) = (List.range ds.length).map fun (i : Nat) => (i : Int) := by
    refine List.ext_getElem (by simp) (fun i h1 h2 => ?_)
    have hi : i < ds.length := by simpa using h1
    rw [List.getElem_map, List.getElem_map, List.getElem_range]
    have := h.key i hi
    unfold dget at this
    rwa [List.getD_eq_getElem?_getD, List.getElem?_eq_getElem hi] at this
  have e2 : (keysP (liveP ds)).map (·.1) = (liveP ds).map (·.k) := by unfold keysP; rw [List.map_map]; rfl
  rw [e2]
  refine List.Nodup.sublist (List.Sublist.map _ List.filter_sublist) ?_
  rw [e]
  exact List.pairwise_map.2 (List.Pairwise.imp (S := fun a b : Nat => (a : Int) ≠ (b : Int)) (fun {a b} (h : a ≠ b) e => h (by omega)) List.nodup_range)
def thereP (ds : List PB) (x : Int) : Bool := decide (0 ≤ x ∧ x < (ds.length : Int)) && (dget ds x.toNat).al
theorem pget_yes {ds : List PB} {B : Int} (h : PoolOk ds B) {i : Nat} (hi : i < ds.length) (ha : (dget ds i).al = true) : pget (keysP (liveP ds)) (i : Int) = some (dget ds i).b :=
  pget_mem h.nodup (List.mem_map.2 ⟨dget ds i, List.mem_filter.2 ⟨dget_mem hi, ha⟩, by rw [h.key i hi]⟩)
theorem pget_no {ds : List PB} {B : Int} (h : PoolOk ds B) {x : Int} (ha : thereP ds x = false) : pget (keysP (liveP ds)) x = none := by
  refine pget_none (fun p hp => ?_)
  obtain ⟨y, hy, rfl⟩ := List.mem_map.1 hp
  obtain ⟨h1, h2⟩ := List.mem_filter.1 hy
  obtain ⟨i, hi, e, hk⟩ := h.at h1
  intro hx
  simp only at hx
  rw [hk] at hx
  subst hx
  unfold thereP at ha
  rw [decide_eq_true (by omega), Bool.true_and, Int.toNat_natCast, ← e, h2] at ha
  cases ha
def hitB (id : Int) (x : PB) : Bool := x.nm && (x.id == id)
def findP (ds : List PB) (id : Int) : Int := match ds.find? (hitB id) with
  | some x => x.k
  | none => -1
theorem findP_yes {ds : List PB} {B : Int} (h : PoolOk ds B) {x : PB} {id : Int} (hx : x ∈ ds) (hh : hitB id x = true) : findP ds id = x.k := by
  unfold findP
  cases e : ds.find? (hitB id) with
  | none => exact absurd hh (by simpa using List.find?_eq_none.1 e x hx)
  | some y =>
    have hy := List.mem_of_find?_eq_some e
    have hy2 := List.find?_some e
    unfold hitB at hh hy2
    simp only [Bool.and_eq_true, beq_iff_eq] at hh hy2
    exact h.one y hy x hx hy2.1 hh.1 (hy2.2.trans hh.2.symm)
theorem findP_no {ds : List PB} {id : Int} (hh : ∀ x ∈ ds, hitB id x = false) : findP ds id = -1 := by
  unfold findP
  rw [List.find?_eq_none.2 (fun x hx => by rw [hh x hx]; simp)]
theorem findP_some {ds : List PB} {B : Int} (h : PoolOk ds B) {id : Int} (hf : findP ds id ≠ -1) : ∃ i, i < ds.length ∧ findP ds id = (i : Int) ∧ (dget ds i).nm = true ∧ (dget ds i).id = id := by
  unfold findP at hf ⊢
  cases e : ds.find? (hitB id) with
  | none => rw [e] at hf; exact absurd rfl hf
  | some y =>
    obtain ⟨i, hi, hy, hk⟩ := h.at (List.mem_of_find?_eq_some e)
    have h2 := List.find?_some e
    unfold hitB at h2
    simp only [Bool.and_eq_true, beq_iff_eq] at h2
    exact ⟨i, hi, hk, by rw [← hy]; exact h2.1, by rw [← hy]; exact h2.2⟩
theorem findP_none {ds : List PB} {B : Int} (h : PoolOk ds B) {id : Int} (hf : findP ds id = -1) : ∀ x ∈ ds, hitB id x = false := by
  intro x hx
  cases e : hitB id x with
  | false => rfl
  | true =>
    have := findP_yes h hx e
    obtain ⟨i, _, _, hk⟩ := h.at hx
    omega
theorem dget_setP {ds : List PB} {i j : Nat} (hi : i < ds.length) (x : PB) : dget (ds.set i x) j = if j = i then x else dget ds j := by
  unfold dget
  rw [List.getD_eq_getElem?_getD, List.getD_eq_getElem?_getD, List.getElem?_set]
  by_cases h : i = j
  · subst h; simp [hi]
  · rw [if_neg h, if_neg (fun e => h e.symm)]
theorem PoolOk.set {ds : List PB} {B : Int} (h : PoolOk ds B) {i : Nat} (hi : i < ds.length) {x : PB} {B' : Int} (hB : B ≤ B') (hk : x.k = (i : Int)) (hn : x.nm = true → (dget ds i).nm = true ∧ x.id = (dget ds i).id) (him : ImgOk x.W x.H x.n x.px) (hm : AllMay x.px) (hh : 0 ≤ x.hd ∧ x.hd ≤ B') : PoolOk (ds.set i x) B' := by
  have mem : ∀ y ∈ ds.set i x, y ∈ ds ∨ y = x := fun y hy => List.mem_or_eq_of_mem_set hy
  refine ⟨fun j hj => ?_, fun y hy z hz hyn hzn hyz => ?_, fun y hy => ?_, fun y hy => ?_, fun y hy => ?_⟩
  · rw [List.length_set] at hj
    rw [dget_setP hi]
    by_cases e : j = i
    · rw [if_pos e, hk, e]
    · rw [if_neg e]; exact h.key j hj
  · have hx0 : (dget ds i) ∈ ds := dget_mem hi
    have hk0 := h.key i hi
    rcases mem y hy with my | my <;> rcases mem z hz with mz | mz
    · exact h.one y my z mz hyn hzn hyz
    · rw [mz] at hzn hyz ⊢
      obtain ⟨a, b⟩ := hn hzn
      rw [h.one y my _ hx0 hyn a (hyz.trans b), hk0, hk]
    · rw [my] at hyn hyz ⊢
      obtain ⟨a, b⟩ := hn hyn
      rw [← h.one _ hx0 z mz a hzn (b.symm.trans hyz), hk0, hk]
    · rw [my, mz]
  · rcases mem y hy with hy | rfl
    · exact h.img y hy
    · exact him
  · rcases mem y hy with hy | rfl
    · exact h.may y hy
    · exact hm
  · rcases mem y hy with hy | rfl
    · have := h.hd y hy; omega
    · exact hh
theorem PoolOk.push {ds : List PB} {B : Int} (h : PoolOk ds B) {x : PB} (hB : 0 ≤ B) (hk : x.k = (ds.length : Int)) (hn : ∀ y ∈ ds, hitB x.id y = false) (him : ImgOk x.W x.H x.n x.px) (hm : AllMay x.px) (hh : x.hd = 0) : PoolOk (ds ++ [x]) B := by
  have mem : ∀ y ∈ ds ++ [x], y ∈ ds ∨ y = x := fun y hy => by simpa using hy
  have no : ∀ y ∈ ds, y.nm = true → y.id ≠ x.id := fun y hy hyn e => by
    have := hn y hy
    unfold hitB at this
    rw [hyn, Bool.true_and] at this
    simp [e] at this
  refine ⟨fun j hj => ?_, fun y hy z hz hyn hzn hyz => ?_, fun y hy => ?_, fun y hy => ?_, fun y hy => ?_⟩
  · rw [List.length_append, List.length_singleton] at hj
    by_cases e : j = ds.length
    · subst e
      have : dget (ds ++ [x]) ds.length = x := by unfold dget; rw [List.getD_eq_getElem?_getD, List.getElem?_append_right (Nat.le_refl _)]; simp
      rw [this, hk]
    · have : dget (ds ++ [x]) j = dget ds j := by unfold dget; rw [List.getD_eq_getElem?_getD, List.getD_eq_getElem?_getD, List.getElem?_append_left (by omega)]
      rw [this]; exact h.key j (by omega)
  · rcases mem y hy with my | my <;> rcases mem z hz with mz | mz
    · exact h.one y my z mz hyn hzn hyz
    · rw [mz] at hyz; exact absurd hyz (no y my hyn)
    · rw [my] at hyz; exact absurd hyz.symm (no z mz hzn)
    · rw [my, mz]
  · rcases mem y hy with hy | rfl
    · exact h.img y hy
    · exact him
  · rcases mem y hy with hy | rfl
    · exact h.may y hy
    · exact hm
  · rcases mem y hy with hy | rfl
    · exact h.hd y hy
    · omega
theorem keys_mem {ds : List PB} {B : Int} (h : PoolOk ds B) {k : Int} {v : Nat} (hm : (k, v) ∈ keysP (liveP ds)) : ∃ (i : Nat) (x : PB), i < ds.length ∧ x = dget ds i ∧ x.al = true ∧ k = (i : Int) ∧ v = x.b := by
  obtain ⟨y, hy, e⟩ := List.mem_map.1 hm
  obtain ⟨h1, h2⟩ := List.mem_filter.1 hy
  obtain ⟨i, hi, hx, hk⟩ := h.at h1
  cases e
  exact ⟨i, y, hi, hx, h2, hk, rfl⟩
theorem takeP {ds : List PB} {i : Nat} {x : PB} (h : i < ds.length) (hx : x = dget ds i) (ha : x.al = true) : (liveP ds).Perm (x :: restP ds i) := by
  subst hx; exact live_take h ha
theorem putP {ds : List PB} {i : Nat} {x : PB} (h : i < ds.length) (hx : x = dget ds i) (ha : x.al = true) : (x :: restP ds i).Perm (liveP ds) := (takeP h hx ha).symm
def fndE (ds : List PB) (id E : Int) : Int := if findP ds id = -1 then E else 0
theorem fndE_no {ds : List PB} {id E : Int} (h : findP ds id = -1) : fndE ds id E = E := if_pos h
theorem fndE_yes {ds : List PB} {id E : Int} (h : findP ds id ≠ -1) : fndE ds id E = 0 := if_neg h
def NoneP (ds : List PB) (id : Int) (dn : PmL) : Prop := ∀ p ∈ dn, ∀ x ∈ ds, x.al = true → x.k = p.1 → hitB id x = false
theorem NoneP.nil (ds : List PB) (id : Int) : NoneP ds id [] := fun p hp => by cases hp
theorem NoneP.step {ds : List PB} {B id : Int} (h : PoolOk ds B) {dn : PmL} (hn : NoneP ds id dn) {i : Nat} {x : PB} {v : Nat} (hi : i < ds.length) (hx : x = dget ds i) (hh : hitB id x = false) : NoneP ds id (dn ++ [((i : Int), v)]) := by
  intro p hp y hy ha hk
  rcases List.mem_append.1 hp with h1 | h1
  · exact hn p h1 y hy ha hk
  · have e := List.mem_singleton.1 h1
    subst e
    obtain ⟨j, hj, hyj, hkj⟩ := h.at hy
    simp only at hk
    have : j = i := by omega
    subst this
    rw [hyj, ← hx]; exact hh
theorem NoneP.all {ds : List PB} {B id : Int} (h : PoolOk ds B) {dn : PmL} (hn : NoneP ds id dn) (hp : dn.Perm (keysP (liveP ds))) : findP ds id = -1 := by
  refine findP_no (fun x hx => ?_)
  cases ha : x.al with
  | true => exact hn (x.k, x.b) (hp.mem_iff.2 (List.mem_map.2 ⟨x, List.mem_filter.2 ⟨hx, ha⟩, rfl⟩)) x hx ha rfl
  | false =>
    unfold PB.al at ha
    unfold hitB
    rw [(Bool.or_eq_false_iff.1 ha).1]; rfl
theorem findP_hit {ds : List PB} {B id : Int} (h : PoolOk ds B) {i : Nat} {x : PB} (hi : i < ds.length) (hx : x = dget ds i) (hn : x.nm = true) (hid : x.id = id) : findP ds id = (i : Int) := by
  have hm : x ∈ ds := by rw [hx]; exact dget_mem hi
  rw [findP_yes h hm (by unfold hitB; rw [hn, hid]; simp), hx, h.key i hi]
def PB.hold (x : PB) : PB := { x with hd := x.hd + 1 }
def PB.less (x : PB) : PB := { x with hd := x.hd - 1 }
def PB.drop (x : PB) : PB := { x with nm := false }
def PB.put (x : PB) (px : List Int) : PB := { x with px := px }
def swpM (x : PB) (k : Int) (ms : MS) : MS := bif !x.nm && (x.hd == 0) then mdel ms k else ms
theorem al_of {x : PB} (h : 0 ≤ x.hd) : x.al = !(!x.nm && (x.hd == 0)) := by
  unfold PB.al
  cases x.nm with
  | true => simp
  | false =>
    by_cases h0 : x.hd = 0
    · simp [h0]
    · have : 0 < x.hd := by omega
      simp [h0, this]
theorem swp_keys {ds : List PB} {B : Int} (h : PoolOk ds B) {i : Nat} {x y : PB} (hi : i < ds.length) (hx : x = dget ds i) (ha : x.al = true) (hk : y.k = x.k) (hb : y.b = x.b) (hy : 0 ≤ y.hd) : swpM y (i : Int) (pmsV (keysP (liveP ds))) = pmsV (keysP (liveP (ds.set i y))) := by
  unfold swpM
  cases e : (!y.nm && (y.hd == 0)) with
  | true => exact keys_del h hi (by rw [← hx]; exact ha) (by rw [al_of hy, e]; rfl)
  | false => rw [cond_false, keys_same hi (by rw [← hx]; exact ha) (by rw [al_of hy, e]; rfl) (by rw [hk, hx]) (by rw [hb, hx])]
theorem mget_yes {ds : List PB} {B : Int} (h : PoolOk ds B) {i : Nat} {x : PB} (hi : i < ds.length) (hx : x = dget ds i) (ha : x.al = true) : mget (pmsV (keysP (liveP ds))) (i : Int) = some (.pointer (some ⟨x.b, 0, none⟩)) := by
  rw [mget_pmsV, pget_yes h hi (by rw [← hx]; exact ha), hx]; rfl
theorem mget_no {ds : List PB} {B : Int} (h : PoolOk ds B) {k : Int} (ha : thereP ds k = false) : mget (pmsV (keysP (liveP ds))) k = none := by
  rw [mget_pmsV, pget_no h ha]; rfl
theorem there_at {ds : List PB} {k : Int} (h : thereP ds k = true) : ∃ (i : Nat) (x : PB), i < ds.length ∧ x = dget ds i ∧ x.al = true ∧ k = (i : Int) := by
  unfold thereP at h
  simp only [Bool.and_eq_true, decide_eq_true_eq] at h
  exact ⟨k.toNat, dget ds k.toNat, by omega, rfl, h.2, by omega⟩
theorem hit_at {ds : List PB} {B id : Int} (h : PoolOk ds B) (hf : findP ds id ≠ -1) : ∃ (i : Nat) (x : PB), i < ds.length ∧ x = dget ds i ∧ x.al = true ∧ findP ds id = (i : Int) ∧ x.nm = true ∧ x.id = id := by
  obtain ⟨i, hi, hk, hn, hid⟩ := findP_some h hf
  exact ⟨i, dget ds i, hi, rfl, by unfold PB.al; rw [hn]; rfl, hk, hn, hid⟩
section
variable {dfs : List Deferred}
theorem cont_entEq {K : Act → World → Prop} {n : Nat} {w0 : World} {L : List (Tmp × Value)} {T : List Ent} (i : Nat) (e e' : Ent) (hi : T[i]? = some e) (he : e = e') (h : Cont dfs K n w0 L (T.set i e')) : Cont dfs K n w0 L T := by
  subst he
  have : T.set i e = T := by
    obtain ⟨hlt, h2⟩ := List.getElem?_eq_some_iff.1 hi
    rw [← h2]
    exact List.set_getElem_self hlt
  rwa [this] at h
theorem Tab.putOr {w0 w : World} {T : List Ent} {tB tI tC : TypeId} (y : PB) {ds : List PB} {ix : Nat} (hT : Tab w0 w (.cells y.b y.c tB true :: .cells y.m y.i tI true :: .gen (y.r tC) :: T)) {i : Nat} (hi : T[i]? = some (.gen (allE tB tI tC (restP ds ix)))) (hix : ix < ds.length) : Tab w0 w (T.set i (.gen (allE tB tI tC (liveP (ds.set ix y))))) := by
  cases ha : y.al with
  | true => exact hT.putB hi (live_put hix ha)
  | false =>
    have h1 : Tab w0 w T := ((hT.erase 0 (fun e h _ => by cases h; rfl)).erase 0 (fun e h _ => by cases h; rfl)).erase 0 (fun e h _ => by cases h; rfl)
    exact h1.swapW hi rfl (fun _ => rfl) (fun k => by rw [live_dead hix ha]) (by rw [← live_dead hix ha]; exact h1.ok i _ hi)
theorem cont_putOr {K : Act → World → Prop} {n : Nat} {w0 : World} {L : List (Tmp × Value)} {T : List Ent} (i : Nat) {tB tI tC : TypeId} (y : PB) {ds : List PB} {ix : Nat} (hi : T[i]? = some (.gen (allE tB tI tC (restP ds ix)))) (hix : ix < ds.length) (h : Cont dfs K n w0 L (T.set i (.gen (allE tB tI tC (liveP (ds.set ix y)))))) : Cont dfs K n w0 L (.cells y.b y.c tB true :: .cells y.m y.i tI true :: .gen (y.r tC) :: T) :=
  fun a w ha hf hT => h a w ha hf (hT.putOr y hi hix)
end
def newP (k : Int) (b : Nat) (id : Int) (m : Nat) (W H : Int) (q n : Nat) : PB := ⟨k, b, id, true, 0, m, W, H, q, n, List.replicate n 0⟩
theorem perm_snoc {x : PB} {ds : List PB} (h : x.al = true) : (x :: liveP ds).Perm (liveP (ds ++ [x])) := by
  rw [live_push h]; exact (List.perm_append_comm (l₁ := liveP ds) (l₂ := [x])).symm
theorem keys_upd {ds : List PB} {i : Nat} {x y : PB} (hi : i < ds.length) (hx : x = dget ds i) (ha : x.al = true) (hy : y.al = true) (hk : y.k = x.k) (hb : y.b = x.b) : pmsV (keysP (liveP ds)) = pmsV (keysP (liveP (ds.set i y))) := by
  rw [keys_same hi (by rw [← hx]; exact ha) hy (by rw [hk, hx]) (by rw [hb, hx])]
end Go.Proofs.Ytkfdmfclndaanaa
namespace Go.Proofs.Ytkfdmfclndaanaa
open Go Go.RowKit
theorem enterB {P : Program} {f : FuncId} {fn : Func} {c : Code} {args : Array Value} {w w0 : World} {R : Ending → World → Prop} (n : Nat) (L : List (Nat × Value)) (T : List Ent) (hf : P.funcs[f]? = some fn) (hb : fn.body = some c) (hn : fn.ntmps = n) (hsz : Nat.ble args.size n = true)
    (hL : (L.map fun p => args[p.1]?) = (L.map fun p => some p.2)) (hT : Tab w0 w T) (h : Cont [] (c.wp P (bodyPost P fn R)) n w0 L T) : Calls P f args w R := by
  subst hn
  refine calls_of_wp hf hb (h _ _ rfl ⟨?_, ?_⟩ hT)
  · have := Nat.le_of_ble_eq_true hsz
    simp; omega
  · exact enter_lk hL
theorem Tab.perm {w0 w : World} {T T' : List Ent} (hT : Tab w0 w T) (h : T.Perm T') : Tab w0 w T' := by
  have mem : ∀ (i : Nat) (e : Ent), T'[i]? = some e → ∃ j : Nat, T[j]? = some e := fun i e he => by
    have h1 : e ∈ T := h.mem_iff.2 (List.mem_of_getElem? he)
    obtain ⟨j, hj, hje⟩ := List.mem_iff_getElem.1 h1
    exact ⟨j, by rw [List.getElem?_eq_getElem hj, hje]⟩
  have mem' : ∀ (j : Nat) (e : Ent), T[j]? = some e → ∃ i : Nat, T'[i]? = some e := fun j e he => by
    have h1 : e ∈ T' := h.mem_iff.1 (List.mem_of_getElem? he)
    obtain ⟨i, hi, hie⟩ := List.mem_iff_getElem.1 h1
    exact ⟨i, by rw [List.getElem?_eq_getElem hi, hie]⟩
  have hp : T.Pairwise (fun e e' => (e.wr = true ∨ e'.wr = true) → ∀ k, e.blk k → ¬ e'.blk k) :=
    List.pairwise_iff_getElem.2 fun i j hi hj hij hw k hk hk' => hT.disj i j _ _ (by omega) (List.getElem?_eq_getElem hi) (List.getElem?_eq_getElem hj) hw k hk hk'
  have hp' := (h.pairwise_iff (fun {x y} hxy hw k hk hk' => hxy (hw.elim .inr .inl) k hk' hk)).1 hp
  refine ⟨hT.os, hT.tape, hT.output, hT.size, fun i e he => ?_, fun k hk hno => ?_, fun i e he ho k hk => ?_, fun i j e e' hij he he' hw k hk hk' => ?_⟩
  · obtain ⟨j, hj⟩ := mem i e he; exact hT.ok j e hj
  · exact hT.frame k hk (fun j e he hw hb => by obtain ⟨i, hi⟩ := mem' j e he; exact hno i e hi hw hb)
  · obtain ⟨j, hj⟩ := mem i e he; exact hT.own j e hj ho k hk
  · obtain ⟨hi, rfl⟩ := List.getElem?_eq_some_iff.1 he
    obtain ⟨hj, rfl⟩ := List.getElem?_eq_some_iff.1 he'
    rcases Nat.lt_or_gt_of_ne hij with hlt | hlt
    · exact List.pairwise_iff_getElem.1 hp' i j hi hj hlt hw k hk hk'
    · exact List.pairwise_iff_getElem.1 hp' j i hj hi hlt (hw.elim .inr .inl) k hk' hk
theorem cont_pickT {dfs : List Deferred} {K : Act → World → Prop} {n : Nat} {w0 : World} {L : List (Nat × Value)} {T : List Ent} (σ : List Nat) (T1 T2 R T' : List Ent) (hT : T = T1 ++ R) (hT' : T2 ++ R = T') (hm : T2.map some = σ.map fun i => T1[i]?) (m : Nat) (hl : T1.length = m) (hp : σ.Perm (List.range m)) (h : Cont dfs K n w0 L T') : Cont dfs K n w0 L T := by
  subst hT hT' hl
  have e1 : (List.range T1.length).map (fun i => T1[i]?) = T1.map some := by
    refine List.ext_getElem (by simp) (fun i h1 h2 => ?_)
    simp at h1
    simp [h1]
  have h1 : (T2.map some).Perm (T1.map some) := by rw [hm, ← e1]; exact hp.map _
  have h2 : T1.Perm T2 := by
    have := h1.filterMap id
    simpa using this.symm
  exact fun a w ha hf hw => h a w ha hf (hw.perm (h2.append_right R))
end Go.Proofs.Ytkfdmfclndaanaa
namespace Go.Proofs.Ytkfdmfclndaanaa
open Go Go.RowKit
set_option maxRecDepth 100000
set_option maxHeartbeats 8000000
theorem poolNew (w : World) :
    Calls Try.prog 7 #[] w fun e w' => ∃ (p_ mp_ : Nat), e = .returned (pT p_) ∧ Tab w w' [.cells p_ [iQ ((([] : List PB).length : Nat) : Int), .map (some mp_)] 65 true, .gen (mapE mp_ (pmsV (keysP (liveP ([] : List PB)))) true), .gen (allE 67 81 48 (liveP ([] : List PB)))] := by
  refine eN [] Try.func7 Try.ntmps7 rfl (Tab.start w) ?_
  refine zSR 1 <| bS [0] 1 0 [] <| zDNSR 4 <| cont_nilB 67 81 48 ?_
  refine cM ?_
  refine pS 1 3 <| sSW 1 (Instr.makeMap 63 none) (fun mp1 => .map (some mp1)) (fun mp1 => [.gen (mapE mp1 ([]) true), .gen (allE 67 81 48 ([]))]) (fun _ => True) (by kernel_rfl) (fun w hT => run_makeMap' hT 63) (fun mp1 _ => ?_)
  refine cM ?_
  refine bW [0, 0, 0] 4 0 (fun b2 => [(0, pT b2)]) (fun b2 => [.cells b2 [iQ 0, .map (some mp1)] 65 true, .gen (mapE mp1 ([]) true), .gen (allE 67 81 48 ([]))]) [0] fun b2 => ?_
  refine zDNr <| rA rfl 0 (pT b2) fun w hT => ?_
  exact ⟨_, _, rfl, hT⟩
theorem poolFind (p mp : Nat) (ds : List PB) (id : Int) (B : Int) (R : List Ent) (w0 w : World) (hT0 : Tab w0 w ((.cells p [iQ ((ds.length : Nat) : Int), .map (some mp)] 65 true) :: (.gen (mapE mp (pmsV (keysP (liveP ds))) true)) :: (.gen (allE 67 81 48 (liveP ds))) :: R)) (hok : PoolOk ds B) :
    Calls Try.prog 11 #[pT p, iQ id] w fun e w' => e = .returned (.tuple #[iQ (findP ds id), iQ (fndE ds id 5)]) ∧ Tab w0 w' ((.cells p [iQ ((ds.length : Nat) : Int), .map (some mp)] 65 true) :: (.gen (mapE mp (pmsV (keysP (liveP ds))) true)) :: (.gen (allE 67 81 48 (liveP ds))) :: R) := by
  refine enterB 31 [(0, pT p), (1, iQ id)] ((.cells p [iQ ((ds.length : Nat) : Int), .map (some mp)] 65 true) :: (.gen (mapE mp (pmsV (keysP (liveP ds))) true)) :: (.gen (allE 67 81 48 (liveP ds))) :: R) Try.func11 rfl Try.ntmps11 rfl (by kernel_rfl) hT0 ?_
  refine zSR 2 <| bD [0, 0] 2 0 [] [4, 5] <| zDNSSR 5 <| bD [0, 0, 0, 0] 4 1 [(11, .map (some mp))] [8, 9, 10] <| pS 5 0 <| cont_openMapP 1 (l := keysP (liveP ds)) rfl (fun es ck hMF => ?_)
  refine cM ?_
  refine sem_rangeP 12 (m := 1) (t := 63) (k := 3) (e := 68) (by kernel_rfl) (by kernel_rfl) ⟨_, rfl, fun _ h_ => h_⟩ (fun ri => ?_)
  refine cM ?_
  refine zDNB <| cL (α := Array Nat × PmL) (fun x_ : Array Nat × PmL => IterPP es (keysP (liveP ds)) x_.1 x_.2 ∧ NoneP ds id x_.2) (fun x_ : Array Nat × PmL => [(1, iQ id), (12, pT ri)]) (fun x_ : Array Nat × PmL => ((objE ri (.mapIter (some mp) ck x_.1 ck)) :: (.cells p [iQ ((ds.length : Nat) : Int), .map (some mp)] 65 true) :: (objE mp (.map es ck)) :: (.gen (allE 67 81 48 (liveP ds))) :: R)) (fun x_ : Array Nat × PmL => (keysP (liveP ds)).length - x_.2.length) (#[], []) (show IterPP es (keysP (liveP ds)) (#[]) ([]) ∧ NoneP ds id ([]) from ⟨IterPP.start hMF, NoneP.nil _ _⟩) ?_
  rintro ⟨sn, dn⟩ hinv1_
  replace hinv1_ : IterPP es (keysP (liveP ds)) sn dn ∧ NoneP ds id dn := hinv1_
  refine cM ?_
  obtain ⟨hIP, hno⟩ := hinv1_
  have hil := hIP.len
  refine zSR 2 <| pS 1 1 <| sem_nextP 13 (j := 0) (m := 2) (ty := 0) (by kernel_rfl) rfl ⟨_, rfl, fun _ h_ => h_⟩ hMF hIP (fun hpm => ?_) (fun xk_ vk_ sn2 hxm hIP2 hls => ?_)
  ·
    refine bD [0] 2 0 [(14, .bool false)] [] <| zDNS <| zFXxxeNSR 2 <| cont_closeMapP 2 (l := keysP (liveP ds)) rfl hMF ?_
    refine cM ?_
    refine fG 0 <| bS [0, 0] 2 0 [(4, iQ (-1)), (5, iQ 5)] <| zDNr <| rB rfl 0 0 (iQ (-1)) (iQ 5) fun w hT => ?_
    have hf9 := hno.all hok hpm
    exact ⟨by rw [hf9, fndE_no hf9], hT⟩
  ·
    refine cM ?_
    refine bD [0] 2 0 [(14, .bool true)] [] <| zDNS <| cTr rfl <| cont_skip <| zN <| cont_block <| zSR 5 <| pS 1 4 <| sS 15 (Instr.entry (pT ri)) (.tuple #[iQ xk_, pT vk_]) (fun w hT => run_entryP (hT.ok 0 _ rfl) (hT.ok 2 _ rfl) hMF hls) <| bD [0, 0, 0, 0] 5 0 [(6, iQ xk_), (7, pT vk_)] [16, 17] <| zDNSR 12 ?_
    obtain ⟨ix, x, hix, hx, hal, rfl, rfl⟩ := keys_mem hok hxm
    refine cont_takeB 3 x (restP ds ix) rfl (takeP hix hx hal) ?_
    refine cM ?_
    refine bD [0, 0, 0, 0, 0] 5 7 [(22, .bool x.nm)] [18, 19, 20, 21] <| cSp 22 _ rfl (fun c2_ => ?_) fun c2_ => ?_
    ·
      refine bD [0, 0, 0, 0, 0, 0, 0] 12 0 [(23, pT x.b), (24, pT x.b), (25, pT x.b), (26, iQ x.id), (27, iQ id), (28, .bool (x.id == id)), (29, .bool (x.id == id))] [] <| zDN <| cSp 29 _ rfl (fun c3_ => ?_) fun c3_ => ?_
      ·
        refine rC 28 (.bool true) rfl (congrArg Value.bool c3_) ?_
        replace c3_ := eq_of_beqt c3_
        refine zTSR 3 <| cM ?_
        refine cont_putB 3 x (restP ds ix) (liveP ds) rfl (putP hix hx hal) ?_
        refine cM ?_
        refine cont_closeMapP 2 (l := keysP (liveP ds)) rfl hMF ?_
        refine cM ?_
        refine fG 0 <| bS [0, 0, 0] 3 0 [(4, iQ ((ix : Nat) : Int)), (5, iQ 0)] <| zDNrut <| blk_ret <| then_ret ?_
        refine rB rfl 0 0 (iQ ((ix : Nat) : Int)) (iQ 0) fun w hT => ?_
        have hf9 := findP_hit hok hix hx c2_ c3_
        exact ⟨by rw [hf9, fndE_yes (by omega)], hT⟩
      refine rC 28 (.bool false) rfl (congrArg Value.bool c3_) ?_
      replace c3_ := ne_of_beqf c3_
      refine cFa rfl <| cont_skip <| blk_normal <| zN <| cM ?_
      refine cont_putB 3 x (restP ds ix) (liveP ds) rfl (putP hix hx hal) ?_
      refine cM ?_
      refine cA (sn2, dn ++ [(((ix : Nat) : Int), x.b)]) (show IterPP es (keysP (liveP ds)) (sn2) (dn ++ [(((ix : Nat) : Int), x.b)]) ∧ NoneP ds id (dn ++ [(((ix : Nat) : Int), x.b)]) from ⟨hIP2, hno.step hok hix hx (by unfold hitB; rw [beq_eq_false_iff_ne.2 c3_, Bool.and_false])⟩) (show (keysP (liveP ds)).length - (dn ++ [(((ix : Nat) : Int), x.b)]).length < (keysP (liveP ds)).length - dn.length from by have h_ := hIP2.len; rw [List.length_append, List.length_singleton] at h_ ⊢; omega)
    refine bD [0, 0, 0, 0, 0, 0, 0] 12 0 [(23, undef), (24, undef), (25, undef), (26, undef), (27, undef), (28, undef), (29, .bool false)] [] <| zDN <| cFa rfl <| cont_skip <| blk_normal <| zN <| cM ?_
    refine cont_putB 3 x (restP ds ix) (liveP ds) rfl (putP hix hx hal) ?_
    refine cM ?_
    refine cA (sn2, dn ++ [(((ix : Nat) : Int), x.b)]) (show IterPP es (keysP (liveP ds)) (sn2) (dn ++ [(((ix : Nat) : Int), x.b)]) ∧ NoneP ds id (dn ++ [(((ix : Nat) : Int), x.b)]) from ⟨hIP2, hno.step hok hix hx (by unfold hitB; rw [c2_]; rfl)⟩) (show (keysP (liveP ds)).length - (dn ++ [(((ix : Nat) : Int), x.b)]).length < (keysP (liveP ds)).length - dn.length from by have h_ := hIP2.len; rw [List.length_append, List.length_singleton] at h_ ⊢; omega)
theorem poolSweep (p mp : Nat) (nx : Int) (ms : MS) (y : PB) (k : Int) (R : List Ent) (w0 w : World) (hT0 : Tab w0 w ((.cells p [iQ nx, .map (some mp)] 65 true) :: (.gen (mapE mp (ms) true)) :: (.cells y.b [iQ y.id, .bool y.nm, pT y.m, iQ y.hd] 67 true) :: R)) (hm : mget ms k = some (pT y.b)) :
    Calls Try.prog 23 #[pT p, iQ k] w fun e w' => e = .returned (.tuple #[]) ∧ Tab w0 w' ((.cells p [iQ nx, .map (some mp)] 65 true) :: (.gen (mapE mp (swpM y k ms) true)) :: (.cells y.b [iQ y.id, .bool y.nm, pT y.m, iQ y.hd] 67 true) :: R) := by
  refine enterB 28 [(0, pT p), (1, iQ k)] ((.cells p [iQ nx, .map (some mp)] 65 true) :: (.gen (mapE mp (ms) true)) :: (.cells y.b [iQ y.id, .bool y.nm, pT y.m, iQ y.hd] 67 true) :: R) Try.func23 rfl Try.ntmps23 rfl (by kernel_rfl) hT0 ?_
  refine zSR 7 <| bD [0, 0, 0, 0, 0] 5 2 [(8, .map (some mp)), (9, iQ k)] [5, 6, 7] <| pS 6 1 <| sS 10 (Instr.lookup 63 (.map (some mp)) (iQ k) false) (pT y.b) (fun w hT => (run_lookup (z := .pointer none) (hT.ok 1 _ rfl) (kt := 3) (et := 68) (kf := .i64) (by kernel_rfl) (by kernel_rfl) (by kernel_rfl) k).trans (by rw [hm]; rfl)) <| bD [0] 7 0 [(4, pT y.b)] [] <| zDNSR 12 <| bD [0, 0, 0, 2, 0, 0] 6 6 [(16, .bool (!y.nm))] [11, 12, 13, 14, 15] <| cSp 16 _ rfl (fun c1_ => ?_) fun c1_ => ?_
  ·
    replace c1_ : y.nm = false := by simpa using c1_
    refine bD [0, 0, 0, 2, 0, 0] 12 0 [(22, .bool (y.hd == 0))] [17, 18, 19, 20, 21] <| zDN <| sE 22 rfl (fun c2_ => ?_) fun c2_ => ?_
    ·
      refine cTr rfl <| cRg 6 rfl <| bS [0, 0, 0, 0, 0] 5 1 [(26, .map (some mp)), (27, iQ k)] <| pS 6 0 <| sem_stepN (Builtin.delete_ #[63, 3] 0 #[.map (some mp), iQ k]) (fun _ => ((.cells p [iQ nx, .map (some mp)] 65 true) :: (.gen (mapE mp (mdel (ms) k) true)) :: (.cells y.b [iQ y.id, .bool y.nm, pT y.m, iQ y.hd] 67 true) :: R)) (fun _ => True) (by kernel_rfl) (fun w hT => run_delete (kt := 3) (et := 68) (kf := .i64) hT (i := 1) rfl rfl (by kernel_rfl) (by kernel_rfl) k) (fun _ _ => ?_)
      refine cM ?_
      refine cDn ?_
      refine ret_none (.inr rfl) rfl (fun w hT => ?_)
      refine ⟨rfl, ?_⟩
      rw [show swpM y k ms = mdel (ms) k from by unfold swpM; rw [c1_, c2_]; rfl]
      exact hT
    refine cFa rfl <| cont_skip ?_
    refine ret_none (.inr rfl) rfl (fun w hT => ?_)
    refine ⟨rfl, ?_⟩
    rw [show swpM y k ms = ms from by unfold swpM; rw [c1_, beq_eq_false_iff_ne.2 c2_]; rfl]
    exact hT
  replace c1_ : y.nm = true := by simpa using c1_
  refine bD [0, 0, 0, 0, 0, 0] 12 0 [(22, .bool false)] [17, 18, 19, 20, 21] <| zDN <| cFa rfl <| cont_skip ?_
  refine ret_none (.inr rfl) rfl (fun w hT => ?_)
  refine ⟨rfl, ?_⟩
  rw [show swpM y k ms = ms from by unfold swpM; rw [c1_]; rfl]
  exact hT
theorem poolDestroyN (p mp : Nat) (ds : List PB) (id : Int) (B : Int) (R : List Ent) (w0 w : World) (hT0 : Tab w0 w ((.cells p [iQ ((ds.length : Nat) : Int), .map (some mp)] 65 true) :: (.gen (mapE mp (pmsV (keysP (liveP ds))) true)) :: (.gen (allE 67 81 48 (liveP ds))) :: R)) (hok : PoolOk ds B) (hf : findP ds id = -1) :
    Calls Try.prog 9 #[pT p, iQ id] w fun e w' => e = .returned (iQ 5) ∧ Tab w0 w' ((.cells p [iQ ((ds.length : Nat) : Int), .map (some mp)] 65 true) :: (.gen (mapE mp (pmsV (keysP (liveP ds))) true)) :: (.gen (allE 67 81 48 (liveP ds))) :: R) := by
  refine enterB 27 [(0, pT p), (1, iQ id)] ((.cells p [iQ ((ds.length : Nat) : Int), .map (some mp)] 65 true) :: (.gen (mapE mp (pmsV (keysP (liveP ds))) true)) :: (.gen (allE 67 81 48 (liveP ds))) :: R) Try.func9 rfl Try.ntmps9 rfl (by kernel_rfl) hT0 ?_
  refine zSR 1 <| bD [0] 1 0 [] [4] <| zDNSR 8 <| bD [0, 0] 2 6 [(8, pT p), (9, iQ id)] [] <| pS 3 5 <| cG (d := 10) (α := Unit) (fun x_ => .tuple #[iQ (findP ds id), iQ (fndE ds id 5)]) (fun x_ => ((.cells p [iQ ((ds.length : Nat) : Int), .map (some mp)] 65 true) :: (.gen (mapE mp (pmsV (keysP (liveP ds))) true)) :: (.gen (allE 67 81 48 (liveP ds))) :: R)) (fun x_ => True) (fun w hT => (poolFind p mp ds id _ (R) _ w hT hok).mono fun e w' ⟨he_, ht_⟩ => ⟨(), he_, trivial, ht_⟩) ?_
  rintro ⟨⟩ -
  refine cM ?_
  refine bD [0, 0, 0, 0, 0] 8 0 [(5, iQ (findP ds id)), (6, iQ (fndE ds id 5))] [7, 11, 12] <| zDNSSR 2 <| rC 6 (iQ 5) rfl (congrArg (Value.int .i64) (fndE_no hf)) <| bD [0, 0] 2 0 [(14, .bool true)] [13] <| zDNTSR 2 <| bS [0, 0] 2 0 [(4, iQ 5)] <| zDNrt <| rA rfl 0 (iQ 5) fun w hT => ?_
  exact ⟨rfl, hT⟩
theorem poolDestroyY (p mp : Nat) (ds : List PB) (id : Int) (ix : Nat) (x : PB) (B : Int) (R : List Ent) (w0 w : World) (hT0 : Tab w0 w ((.cells p [iQ ((ds.length : Nat) : Int), .map (some mp)] 65 true) :: (.gen (mapE mp (pmsV (keysP (liveP ds))) true)) :: (.gen (allE 67 81 48 (liveP ds))) :: R)) (hok : PoolOk ds B) (hix : ix < ds.length) (hx : x = dget ds ix) (hal : x.al = true) (hfk : findP ds id = (ix : Int)) :
    Calls Try.prog 9 #[pT p, iQ id] w fun e w' => e = .returned (iQ 0) ∧ Tab w0 w' ((.cells p [iQ (((ds.set ix (PB.drop x)).length : Nat) : Int), .map (some mp)] 65 true) :: (.gen (mapE mp (pmsV (keysP (liveP (ds.set ix (PB.drop x))))) true)) :: (.gen (allE 67 81 48 (liveP (ds.set ix (PB.drop x))))) :: R) := by
  refine enterB 27 [(0, pT p), (1, iQ id)] ((.cells p [iQ ((ds.length : Nat) : Int), .map (some mp)] 65 true) :: (.gen (mapE mp (pmsV (keysP (liveP ds))) true)) :: (.gen (allE 67 81 48 (liveP ds))) :: R) Try.func9 rfl Try.ntmps9 rfl (by kernel_rfl) hT0 ?_
  refine zSR 1 <| bD [0] 1 0 [] [4] <| zDNSR 8 <| bD [0, 0] 2 6 [(8, pT p), (9, iQ id)] [] <| pS 3 5 <| cG (d := 10) (α := Unit) (fun x_ => .tuple #[iQ (findP ds id), iQ (fndE ds id 5)]) (fun x_ => ((.cells p [iQ ((ds.length : Nat) : Int), .map (some mp)] 65 true) :: (.gen (mapE mp (pmsV (keysP (liveP ds))) true)) :: (.gen (allE 67 81 48 (liveP ds))) :: R)) (fun x_ => True) (fun w hT => (poolFind p mp ds id _ (R) _ w hT hok).mono fun e w' ⟨he_, ht_⟩ => ⟨(), he_, trivial, ht_⟩) ?_
  rintro ⟨⟩ -
  refine cM ?_
  refine bD [0, 0, 0, 0, 0] 8 0 [(5, iQ (findP ds id)), (6, iQ (fndE ds id 5))] [7, 11, 12] <| zDNSSR 2 <| rC 5 (iQ ((ix : Nat) : Int)) rfl (congrArg (Value.int .i64) hfk) <| rC 6 (iQ 0) rfl (congrArg (Value.int .i64) (fndE_yes (by omega))) <| bD [0, 0] 2 0 [(14, .bool false)] [13] <| zDNFKNSR 9 <| cont_takeB 2 x (restP ds ix) rfl (takeP hix hx hal) ?_
  refine cM ?_
  have hhd := hok.hd _ (dget_mem hix)
  rw [← hx] at hhd
  refine bD [0, 0, 0, 3, 0] 5 4 [(19, .map (some mp)), (20, iQ ((ix : Nat) : Int))] [16, 17, 18] <| pS 6 3 <| sS 21 (Instr.lookup 63 (.map (some mp)) (iQ ((ix : Nat) : Int)) false) (pT x.b) (fun w hT => (run_lookup (z := .pointer none) (hT.ok 4 _ rfl) (kt := 3) (et := 68) (kf := .i64) (by kernel_rfl) (by kernel_rfl) (by kernel_rfl) ((ix : Nat) : Int)).trans (by rw [mget_yes hok hix hx hal]; rfl)) <| bZ [0, 0, 0] 9 0 [(0, pT p), (5, iQ ((ix : Nat) : Int))] ((.cells x.b [iQ x.id, .bool false, pT x.m, iQ x.hd] 67 true) :: (.cells x.m [iQ x.W, iQ x.H, sL x.q x.n x.n] 81 true) :: (.gen (rowE (some ⟨x.q, 0, none⟩) x.q x.n x.n 48 1 (cV x.px) true)) :: (.cells p [iQ ((ds.length : Nat) : Int), .map (some mp)] 65 true) :: (.gen (mapE mp (pmsV (keysP (liveP ds))) true)) :: (.gen (allE 67 81 48 (restP ds ix))) :: R) <| zDNSR 3 <| bS [0, 0] 2 1 [(24, pT p), (25, iQ ((ix : Nat) : Int))] <| pS 3 0 <| cont_pickT [3, 4, 0, 1, 2, 5] [.cells x.b [iQ x.id, .bool false, pT x.m, iQ x.hd] 67 true, .cells x.m [iQ x.W, iQ x.H, sL x.q x.n x.n] 81 true, .gen (rowE (some ⟨x.q, 0, none⟩) x.q x.n x.n 48 1 (cV x.px) true), .cells p [iQ ((ds.length : Nat) : Int), .map (some mp)] 65 true, .gen (mapE mp (pmsV (keysP (liveP ds))) true), .gen (allE 67 81 48 (restP ds ix))] [.cells p [iQ ((ds.length : Nat) : Int), .map (some mp)] 65 true, .gen (mapE mp (pmsV (keysP (liveP ds))) true), .cells x.b [iQ x.id, .bool false, pT x.m, iQ x.hd] 67 true, .cells x.m [iQ x.W, iQ x.H, sL x.q x.n x.n] 81 true, .gen (rowE (some ⟨x.q, 0, none⟩) x.q x.n x.n 48 1 (cV x.px) true), .gen (allE 67 81 48 (restP ds ix))] R ((.cells p [iQ ((ds.length : Nat) : Int), .map (some mp)] 65 true) :: (.gen (mapE mp (pmsV (keysP (liveP ds))) true)) :: (.cells x.b [iQ x.id, .bool false, pT x.m, iQ x.hd] 67 true) :: (.cells x.m [iQ x.W, iQ x.H, sL x.q x.n x.n] 81 true) :: (.gen (rowE (some ⟨x.q, 0, none⟩) x.q x.n x.n 48 1 (cV x.px) true)) :: (.gen (allE 67 81 48 (restP ds ix))) :: R) rfl rfl rfl 6 rfl (by decide) ?_
  refine cG (d := 26) (α := Unit) (fun x_ => .tuple #[]) (fun x_ => ((.cells p [iQ ((ds.length : Nat) : Int), .map (some mp)] 65 true) :: (.gen (mapE mp (swpM (PB.drop x) ((ix : Nat) : Int) (pmsV (keysP (liveP ds)))) true)) :: (.cells x.b [iQ x.id, .bool false, pT x.m, iQ x.hd] 67 true) :: (.cells x.m [iQ x.W, iQ x.H, sL x.q x.n x.n] 81 true) :: (.gen (rowE (some ⟨x.q, 0, none⟩) x.q x.n x.n 48 1 (cV x.px) true)) :: (.gen (allE 67 81 48 (restP ds ix))) :: R)) (fun x_ => True) (fun w hT => (poolSweep p mp ((ds.length : Nat) : Int) (pmsV (keysP (liveP ds))) (PB.drop x) ((ix : Nat) : Int) ((.cells x.m [iQ x.W, iQ x.H, sL x.q x.n x.n] 81 true) :: (.gen (rowE (some ⟨x.q, 0, none⟩) x.q x.n x.n 48 1 (cV x.px) true)) :: (.gen (allE 67 81 48 (restP ds ix))) :: R) _ w hT (mget_yes (x := x) hok hix hx hal)).mono fun e w' ⟨he_, ht_⟩ => ⟨(), he_, trivial, ht_⟩) ?_
  rintro ⟨⟩ -
  refine cont_pickT [2, 3, 4, 0, 1, 5] [.cells p [iQ ((ds.length : Nat) : Int), .map (some mp)] 65 true, .gen (mapE mp (swpM (PB.drop x) ((ix : Nat) : Int) (pmsV (keysP (liveP ds)))) true), .cells x.b [iQ x.id, .bool false, pT x.m, iQ x.hd] 67 true, .cells x.m [iQ x.W, iQ x.H, sL x.q x.n x.n] 81 true, .gen (rowE (some ⟨x.q, 0, none⟩) x.q x.n x.n 48 1 (cV x.px) true), .gen (allE 67 81 48 (restP ds ix))] [.cells x.b [iQ x.id, .bool false, pT x.m, iQ x.hd] 67 true, .cells x.m [iQ x.W, iQ x.H, sL x.q x.n x.n] 81 true, .gen (rowE (some ⟨x.q, 0, none⟩) x.q x.n x.n 48 1 (cV x.px) true), .cells p [iQ ((ds.length : Nat) : Int), .map (some mp)] 65 true, .gen (mapE mp (swpM (PB.drop x) ((ix : Nat) : Int) (pmsV (keysP (liveP ds)))) true), .gen (allE 67 81 48 (restP ds ix))] R ((.cells x.b [iQ x.id, .bool false, pT x.m, iQ x.hd] 67 true) :: (.cells x.m [iQ x.W, iQ x.H, sL x.q x.n x.n] 81 true) :: (.gen (rowE (some ⟨x.q, 0, none⟩) x.q x.n x.n 48 1 (cV x.px) true)) :: (.cells p [iQ ((ds.length : Nat) : Int), .map (some mp)] 65 true) :: (.gen (mapE mp (swpM (PB.drop x) ((ix : Nat) : Int) (pmsV (keysP (liveP ds)))) true)) :: (.gen (allE 67 81 48 (restP ds ix))) :: R) rfl rfl rfl 6 rfl (by decide) ?_
  refine cM ?_
  refine zDNSR 1 <| cont_entEq 4 (.gen (mapE mp (swpM (PB.drop x) ((ix : Nat) : Int) (pmsV (keysP (liveP ds)))) true)) (.gen (mapE mp (pmsV (keysP (liveP (ds.set ix (PB.drop x))))) true)) rfl (congrArg (fun m_ => Ent.gen (mapE mp m_ true)) (swp_keys (y := PB.drop x) hok hix hx hal rfl rfl hhd.1)) ?_
  refine cont_norm [(24, pT p), (25, iQ ((ix : Nat) : Int)), (26, .tuple #[])] ((.cells x.b [iQ x.id, .bool false, pT x.m, iQ x.hd] 67 true) :: (.cells x.m [iQ x.W, iQ x.H, sL x.q x.n x.n] 81 true) :: (.gen (rowE (some ⟨x.q, 0, none⟩) x.q x.n x.n 48 1 (cV x.px) true)) :: (.cells p [iQ (((ds.set ix (PB.drop x)).length : Nat) : Int), .map (some mp)] 65 true) :: (.gen (mapE mp (pmsV (keysP (liveP (ds.set ix (PB.drop x))))) true)) :: (.gen (allE 67 81 48 (restP ds ix))) :: R) (by kernel_rfl) (congrArg (fun c_ : List Value => (((.cells x.b [iQ x.id, .bool false, pT x.m, iQ x.hd] 67 true) :: (.cells x.m [iQ x.W, iQ x.H, sL x.q x.n x.n] 81 true) :: (.gen (rowE (some ⟨x.q, 0, none⟩) x.q x.n x.n 48 1 (cV x.px) true)) :: (.cells p c_ 65 true) :: (.gen (mapE mp (pmsV (keysP (liveP (ds.set ix (PB.drop x))))) true)) :: (.gen (allE 67 81 48 (restP ds ix))) :: R) : List Ent)) (by rw [List.length_set])) ?_
  refine cM ?_
  refine cM ?_
  refine cont_putOr 2 (PB.drop x) (ds := ds) (ix := ix) rfl hix ?_
  refine cM ?_
  refine bS [0] 1 0 [(4, iQ 0)] <| zDNr <| rA rfl 0 (iQ 0) fun w hT => ?_
  exact ⟨rfl, hT⟩
theorem poolHoldN (p mp : Nat) (ds : List PB) (k : Int) (B : Int) (R : List Ent) (w0 w : World) (hT0 : Tab w0 w ((.cells p [iQ ((ds.length : Nat) : Int), .map (some mp)] 65 true) :: (.gen (mapE mp (pmsV (keysP (liveP ds))) true)) :: (.gen (allE 67 81 48 (liveP ds))) :: R)) (hok : PoolOk ds B) (hB : B ≤ 1000000000) (hno : thereP ds k = false) :
    Calls Try.prog 14 #[pT p, iQ k] w fun e w' => e = .returned (iQ 5) ∧ Tab w0 w' ((.cells p [iQ ((ds.length : Nat) : Int), .map (some mp)] 65 true) :: (.gen (mapE mp (pmsV (keysP (liveP ds))) true)) :: (.gen (allE 67 81 48 (liveP ds))) :: R) := by
  refine enterB 21 [(0, pT p), (1, iQ k)] ((.cells p [iQ ((ds.length : Nat) : Int), .map (some mp)] 65 true) :: (.gen (mapE mp (pmsV (keysP (liveP ds))) true)) :: (.gen (allE 67 81 48 (liveP ds))) :: R) Try.func14 rfl Try.ntmps14 rfl (by kernel_rfl) hT0 ?_
  refine zSR 1 <| bD [0] 1 0 [] [4] <| zDNSR 7 <| bS [0, 0, 0, 0, 0] 5 2 [(9, .map (some mp)), (10, iQ k)] <| pS 6 1 <| sS 11 (Instr.lookup 63 (.map (some mp)) (iQ k) false) (.pointer none) (fun w hT => (run_lookup (z := .pointer none) (hT.ok 1 _ rfl) (kt := 3) (et := 68) (kf := .i64) (by kernel_rfl) (by kernel_rfl) (by kernel_rfl) k).trans (by rw [mget_no hok hno]; rfl)) <| bS [0] 7 0 [(5, .pointer none)] <| zDNSSR 2 <| bD [0, 0] 2 0 [(13, .bool true)] [12] <| zDNTSR 1 <| bS [0] 1 0 [(4, iQ 5)] <| zDNrt <| rA rfl 0 (iQ 5) fun w hT => ?_
  exact ⟨rfl, hT⟩
theorem poolHoldY (p mp : Nat) (ds : List PB) (ix : Nat) (x : PB) (B : Int) (R : List Ent) (w0 w : World) (hT0 : Tab w0 w ((.cells p [iQ ((ds.length : Nat) : Int), .map (some mp)] 65 true) :: (.gen (mapE mp (pmsV (keysP (liveP ds))) true)) :: (.gen (allE 67 81 48 (liveP ds))) :: R)) (hok : PoolOk ds B) (hB : B ≤ 1000000000) (hix : ix < ds.length) (hx : x = dget ds ix) (hal : x.al = true) :
    Calls Try.prog 14 #[pT p, iQ ((ix : Nat) : Int)] w fun e w' => e = .returned (iQ 0) ∧ Tab w0 w' ((.cells p [iQ (((ds.set ix (PB.hold x)).length : Nat) : Int), .map (some mp)] 65 true) :: (.gen (mapE mp (pmsV (keysP (liveP (ds.set ix (PB.hold x))))) true)) :: (.gen (allE 67 81 48 (liveP (ds.set ix (PB.hold x))))) :: R) := by
  refine enterB 21 [(0, pT p), (1, iQ ((ix : Nat) : Int))] ((.cells p [iQ ((ds.length : Nat) : Int), .map (some mp)] 65 true) :: (.gen (mapE mp (pmsV (keysP (liveP ds))) true)) :: (.gen (allE 67 81 48 (liveP ds))) :: R) Try.func14 rfl Try.ntmps14 rfl (by kernel_rfl) hT0 ?_
  refine zSR 1 <| bD [0] 1 0 [] [4] <| zDNSR 7 <| cont_takeB 2 x (restP ds ix) rfl (takeP hix hx hal) ?_
  refine cM ?_
  have hhd := hok.hd _ (dget_mem hix)
  rw [← hx] at hhd
  refine bS [0, 0, 0, 3, 0] 5 2 [(9, .map (some mp)), (10, iQ ((ix : Nat) : Int))] <| pS 6 1 <| sS 11 (Instr.lookup 63 (.map (some mp)) (iQ ((ix : Nat) : Int)) false) (pT x.b) (fun w hT => (run_lookup (z := .pointer none) (hT.ok 4 _ rfl) (kt := 3) (et := 68) (kf := .i64) (by kernel_rfl) (by kernel_rfl) (by kernel_rfl) ((ix : Nat) : Int)).trans (by rw [mget_yes hok hix hx hal]; rfl)) <| bS [0] 7 0 [(5, pT x.b)] <| zDNSSR 2 <| bD [0, 0] 2 0 [(13, .bool false)] [12] <| zDNFKNSR 8 <| bS [0, 0, 0, 0, 0] 5 3 [(14, pT x.b), (18, iQ (IntKind.i64.wrap (x.hd + 1)))] <| wI 18 (x.hd + 1) <| bZ [0, 0, 0] 8 0 [] ((.cells x.b [iQ x.id, .bool x.nm, pT x.m, iQ (x.hd + 1)] 67 true) :: (.cells x.m [iQ x.W, iQ x.H, sL x.q x.n x.n] 81 true) :: (.gen (rowE (some ⟨x.q, 0, none⟩) x.q x.n x.n 48 1 (cV x.px) true)) :: (.cells p [iQ ((ds.length : Nat) : Int), .map (some mp)] 65 true) :: (.gen (mapE mp (pmsV (keysP (liveP ds))) true)) :: (.gen (allE 67 81 48 (restP ds ix))) :: R) <| zDNSR 1 <| cont_norm [] ((.cells x.b [iQ x.id, .bool x.nm, pT x.m, iQ (x.hd + 1)] 67 true) :: (.cells x.m [iQ x.W, iQ x.H, sL x.q x.n x.n] 81 true) :: (.gen (rowE (some ⟨x.q, 0, none⟩) x.q x.n x.n 48 1 (cV x.px) true)) :: (.cells p [iQ (((ds.set ix (PB.hold x)).length : Nat) : Int), .map (some mp)] 65 true) :: (.gen (mapE mp (pmsV (keysP (liveP ds))) true)) :: (.gen (allE 67 81 48 (restP ds ix))) :: R) (by kernel_rfl) (congrArg (fun c_ : List Value => (((.cells x.b [iQ x.id, .bool x.nm, pT x.m, iQ (x.hd + 1)] 67 true) :: (.cells x.m [iQ x.W, iQ x.H, sL x.q x.n x.n] 81 true) :: (.gen (rowE (some ⟨x.q, 0, none⟩) x.q x.n x.n 48 1 (cV x.px) true)) :: (.cells p c_ 65 true) :: (.gen (mapE mp (pmsV (keysP (liveP ds))) true)) :: (.gen (allE 67 81 48 (restP ds ix))) :: R) : List Ent)) (by rw [List.length_set])) ?_
  refine cont_entEq 4 (.gen (mapE mp (pmsV (keysP (liveP ds))) true)) (.gen (mapE mp (pmsV (keysP (liveP (ds.set ix (PB.hold x))))) true)) rfl (congrArg (fun m_ => Ent.gen (mapE mp m_ true)) (keys_upd (y := PB.hold x) hix hx hal (by unfold PB.al; rw [show decide (0 < (PB.hold x).hd) = true from decide_eq_true (by show 0 < x.hd + 1; omega), Bool.or_true]) rfl rfl)) ?_
  refine cM ?_
  refine cM ?_
  refine cont_putOr 2 (PB.hold x) (ds := ds) (ix := ix) rfl hix ?_
  refine cM ?_
  refine bS [0] 1 0 [(4, iQ 0)] <| zDNr <| rA rfl 0 (iQ 0) fun w hT => ?_
  exact ⟨rfl, hT⟩
theorem poolHeldN (p mp : Nat) (ds : List PB) (k : Int) (B : Int) (R : List Ent) (w0 w : World) (hT0 : Tab w0 w ((.cells p [iQ ((ds.length : Nat) : Int), .map (some mp)] 65 true) :: (.gen (mapE mp (pmsV (keysP (liveP ds))) true)) :: (.gen (allE 67 81 48 (liveP ds))) :: R)) (hok : PoolOk ds B) (hB : B ≤ 1000000000) (hno : thereP ds k = false) :
    Calls Try.prog 16 #[pT p, iQ k] w fun e w' => e = .returned (iQ 0) ∧ Tab w0 w' ((.cells p [iQ ((ds.length : Nat) : Int), .map (some mp)] 65 true) :: (.gen (mapE mp (pmsV (keysP (liveP ds))) true)) :: (.gen (allE 67 81 48 (liveP ds))) :: R) := by
  refine enterB 18 [(0, pT p), (1, iQ k)] ((.cells p [iQ ((ds.length : Nat) : Int), .map (some mp)] 65 true) :: (.gen (mapE mp (pmsV (keysP (liveP ds))) true)) :: (.gen (allE 67 81 48 (liveP ds))) :: R) Try.func16 rfl Try.ntmps16 rfl (by kernel_rfl) hT0 ?_
  refine zSR 1 <| bD [0] 1 0 [] [4] <| zDNSR 7 <| bS [0, 0, 0, 0, 0] 5 2 [(9, .map (some mp)), (10, iQ k)] <| pS 6 1 <| sS 11 (Instr.lookup 63 (.map (some mp)) (iQ k) false) (.pointer none) (fun w hT => (run_lookup (z := .pointer none) (hT.ok 1 _ rfl) (kt := 3) (et := 68) (kf := .i64) (by kernel_rfl) (by kernel_rfl) (by kernel_rfl) k).trans (by rw [mget_no hok hno]; rfl)) <| bS [0] 7 0 [(5, .pointer none)] <| zDNSSR 2 <| bD [0, 0] 2 0 [(13, .bool true)] [12] <| zDNTSR 1 <| bS [0] 1 0 [(4, iQ 0)] <| zDNrt <| rA rfl 0 (iQ 0) fun w hT => ?_
  exact ⟨rfl, hT⟩
theorem poolImageN (p mp : Nat) (ds : List PB) (k : Int) (B : Int) (R : List Ent) (w0 w : World) (hT0 : Tab w0 w ((.cells p [iQ ((ds.length : Nat) : Int), .map (some mp)] 65 true) :: (.gen (mapE mp (pmsV (keysP (liveP ds))) true)) :: (.gen (allE 67 81 48 (liveP ds))) :: R)) (hok : PoolOk ds B) (hB : B ≤ 1000000000) (hno : thereP ds k = false) :
    Calls Try.prog 18 #[pT p, iQ k] w fun e w' => e = .returned (.tuple #[.pointer none, .bool false]) ∧ Tab w0 w' ((.cells p [iQ ((ds.length : Nat) : Int), .map (some mp)] 65 true) :: (.gen (mapE mp (pmsV (keysP (liveP ds))) true)) :: (.gen (allE 67 81 48 (liveP ds))) :: R) := by
  refine enterB 19 [(0, pT p), (1, iQ k)] ((.cells p [iQ ((ds.length : Nat) : Int), .map (some mp)] 65 true) :: (.gen (mapE mp (pmsV (keysP (liveP ds))) true)) :: (.gen (allE 67 81 48 (liveP ds))) :: R) Try.func18 rfl Try.ntmps18 rfl (by kernel_rfl) hT0 ?_
  refine zSR 2 <| bD [0, 0] 2 0 [] [4, 5] <| zDNSR 7 <| bS [0, 0, 0, 0, 0] 5 2 [(10, .map (some mp)), (11, iQ k)] <| pS 6 1 <| sS 12 (Instr.lookup 63 (.map (some mp)) (iQ k) false) (.pointer none) (fun w hT => (run_lookup (z := .pointer none) (hT.ok 1 _ rfl) (kt := 3) (et := 68) (kf := .i64) (by kernel_rfl) (by kernel_rfl) (by kernel_rfl) k).trans (by rw [mget_no hok hno]; rfl)) <| bS [0] 7 0 [(6, .pointer none)] <| zDNSSR 2 <| bD [0, 0] 2 0 [(14, .bool true)] [13] <| zDNTSR 2 <| bS [0, 0] 2 0 [(4, .pointer none), (5, .bool false)] <| zDNrt <| rB rfl 0 0 (.pointer none) (.bool false) fun w hT => ?_
  exact ⟨rfl, hT⟩
theorem poolImageY (p mp : Nat) (ds : List PB) (ix : Nat) (x : PB) (B : Int) (R : List Ent) (w0 w : World) (hT0 : Tab w0 w ((.cells p [iQ ((ds.length : Nat) : Int), .map (some mp)] 65 true) :: (.gen (mapE mp (pmsV (keysP (liveP ds))) true)) :: (.gen (allE 67 81 48 (liveP ds))) :: R)) (hok : PoolOk ds B) (hB : B ≤ 1000000000) (hix : ix < ds.length) (hx : x = dget ds ix) (hal : x.al = true) :
    Calls Try.prog 18 #[pT p, iQ ((ix : Nat) : Int)] w fun e w' => e = .returned (.tuple #[pT x.m, .bool true]) ∧ Tab w0 w' ((.cells p [iQ ((ds.length : Nat) : Int), .map (some mp)] 65 true) :: (.gen (mapE mp (pmsV (keysP (liveP ds))) true)) :: (.gen (allE 67 81 48 (liveP ds))) :: R) := by
  refine enterB 19 [(0, pT p), (1, iQ ((ix : Nat) : Int))] ((.cells p [iQ ((ds.length : Nat) : Int), .map (some mp)] 65 true) :: (.gen (mapE mp (pmsV (keysP (liveP ds))) true)) :: (.gen (allE 67 81 48 (liveP ds))) :: R) Try.func18 rfl Try.ntmps18 rfl (by kernel_rfl) hT0 ?_
  refine zSR 2 <| bD [0, 0] 2 0 [] [4, 5] <| zDNSR 7 <| cont_takeB 2 x (restP ds ix) rfl (takeP hix hx hal) ?_
  refine cM ?_
  have hhd := hok.hd _ (dget_mem hix)
  rw [← hx] at hhd
  refine bS [0, 0, 0, 3, 0] 5 2 [(10, .map (some mp)), (11, iQ ((ix : Nat) : Int))] <| pS 6 1 <| sS 12 (Instr.lookup 63 (.map (some mp)) (iQ ((ix : Nat) : Int)) false) (pT x.b) (fun w hT => (run_lookup (z := .pointer none) (hT.ok 4 _ rfl) (kt := 3) (et := 68) (kf := .i64) (by kernel_rfl) (by kernel_rfl) (by kernel_rfl) ((ix : Nat) : Int)).trans (by rw [mget_yes hok hix hx hal]; rfl)) <| bS [0] 7 0 [(6, pT x.b)] <| zDNSSR 2 <| bD [0, 0] 2 0 [(14, .bool false)] [13] <| zDNFKNSR 6 <| bS [0, 0, 0, 0, 0, 0] 6 0 [(4, pT x.m), (5, .bool true)] <| zDNr <| cM ?_
  refine cont_putB 2 x (restP ds ix) (liveP ds) rfl (putP hix hx hal) ?_
  refine cM ?_
  refine rB rfl 0 0 (pT x.m) (.bool true) fun w hT => ?_
  exact ⟨rfl, hT⟩
theorem poolLetN (p mp : Nat) (ds : List PB) (k : Int) (B : Int) (R : List Ent) (w0 w : World) (hT0 : Tab w0 w ((.cells p [iQ ((ds.length : Nat) : Int), .map (some mp)] 65 true) :: (.gen (mapE mp (pmsV (keysP (liveP ds))) true)) :: (.gen (allE 67 81 48 (liveP ds))) :: R)) (hok : PoolOk ds B) (hB : B ≤ 1000000000) (hno : thereP ds k = false) :
    Calls Try.prog 17 #[pT p, iQ k] w fun e w' => e = .returned (.tuple #[iQ 0, .bool false]) ∧ Tab w0 w' ((.cells p [iQ ((ds.length : Nat) : Int), .map (some mp)] 65 true) :: (.gen (mapE mp (pmsV (keysP (liveP ds))) true)) :: (.gen (allE 67 81 48 (liveP ds))) :: R) := by
  refine enterB 47 [(0, pT p), (1, iQ k)] ((.cells p [iQ ((ds.length : Nat) : Int), .map (some mp)] 65 true) :: (.gen (mapE mp (pmsV (keysP (liveP ds))) true)) :: (.gen (allE 67 81 48 (liveP ds))) :: R) Try.func17 rfl Try.ntmps17 rfl (by kernel_rfl) hT0 ?_
  refine zSR 2 <| bD [0, 0] 2 0 [] [4, 5] <| zDNSR 7 <| bD [0, 0, 0, 0, 0] 5 2 [(10, .map (some mp)), (11, iQ k)] [7, 8, 9] <| pS 6 1 <| sS 12 (Instr.lookup 63 (.map (some mp)) (iQ k) false) (.pointer none) (fun w hT => (run_lookup (z := .pointer none) (hT.ok 1 _ rfl) (kt := 3) (et := 68) (kf := .i64) (by kernel_rfl) (by kernel_rfl) (by kernel_rfl) k).trans (by rw [mget_no hok hno]; rfl)) <| bD [0] 7 0 [(6, .pointer none)] [] <| zDNSSR 9 <| bD [0, 0, 0, 0, 0, 0, 0, 0, 0] 9 0 [(21, .bool true)] [13, 14, 15, 16, 17, 18, 19, 20] <| zDNTSR 2 <| bS [0, 0] 2 0 [(4, iQ 0), (5, .bool false)] <| zDNrt <| rB rfl 0 0 (iQ 0) (.bool false) fun w hT => ?_
  exact ⟨rfl, hT⟩
theorem poolLetZ (p mp : Nat) (ds : List PB) (ix : Nat) (x : PB) (B : Int) (R : List Ent) (w0 w : World) (hT0 : Tab w0 w ((.cells p [iQ ((ds.length : Nat) : Int), .map (some mp)] 65 true) :: (.gen (mapE mp (pmsV (keysP (liveP ds))) true)) :: (.gen (allE 67 81 48 (liveP ds))) :: R)) (hok : PoolOk ds B) (hB : B ≤ 1000000000) (hix : ix < ds.length) (hx : x = dget ds ix) (hal : x.al = true) (hz : x.hd = 0) :
    Calls Try.prog 17 #[pT p, iQ ((ix : Nat) : Int)] w fun e w' => e = .returned (.tuple #[iQ 0, .bool false]) ∧ Tab w0 w' ((.cells p [iQ ((ds.length : Nat) : Int), .map (some mp)] 65 true) :: (.gen (mapE mp (pmsV (keysP (liveP ds))) true)) :: (.gen (allE 67 81 48 (liveP ds))) :: R) := by
  refine enterB 47 [(0, pT p), (1, iQ ((ix : Nat) : Int))] ((.cells p [iQ ((ds.length : Nat) : Int), .map (some mp)] 65 true) :: (.gen (mapE mp (pmsV (keysP (liveP ds))) true)) :: (.gen (allE 67 81 48 (liveP ds))) :: R) Try.func17 rfl Try.ntmps17 rfl (by kernel_rfl) hT0 ?_
  refine zSR 2 <| bD [0, 0] 2 0 [] [4, 5] <| zDNSR 7 <| cont_takeB 2 x (restP ds ix) rfl (takeP hix hx hal) ?_
  refine cM ?_
  have hhd := hok.hd _ (dget_mem hix)
  rw [← hx] at hhd
  refine bD [0, 0, 0, 3, 0] 5 2 [(10, .map (some mp)), (11, iQ ((ix : Nat) : Int))] [7, 8, 9] <| pS 6 1 <| sS 12 (Instr.lookup 63 (.map (some mp)) (iQ ((ix : Nat) : Int)) false) (pT x.b) (fun w hT => (run_lookup (z := .pointer none) (hT.ok 4 _ rfl) (kt := 3) (et := 68) (kf := .i64) (by kernel_rfl) (by kernel_rfl) (by kernel_rfl) ((ix : Nat) : Int)).trans (by rw [mget_yes hok hix hx hal]; rfl)) <| bD [0] 7 0 [(6, pT x.b)] [] <| zDNSSR 9 <| bD [0, 0, 0, 0, 0, 0, 0, 0, 0] 9 0 [(21, .bool (x.hd == 0))] [13, 14, 15, 16, 17, 18, 19, 20] <| zDN <| rC 21 (.bool true) rfl (congrArg Value.bool (beq_iff_eq.2 hz)) <| zTSR 2 <| bS [0, 0] 2 0 [(4, iQ 0), (5, .bool false)] <| zDNrt <| cM ?_
  refine cont_putB 2 x (restP ds ix) (liveP ds) rfl (putP hix hx hal) ?_
  refine cM ?_
  refine rB rfl 0 0 (iQ 0) (.bool false) fun w hT => ?_
  exact ⟨rfl, hT⟩
theorem poolLetY (p mp : Nat) (ds : List PB) (ix : Nat) (x : PB) (B : Int) (R : List Ent) (w0 w : World) (hT0 : Tab w0 w ((.cells p [iQ ((ds.length : Nat) : Int), .map (some mp)] 65 true) :: (.gen (mapE mp (pmsV (keysP (liveP ds))) true)) :: (.gen (allE 67 81 48 (liveP ds))) :: R)) (hok : PoolOk ds B) (hB : B ≤ 1000000000) (hix : ix < ds.length) (hx : x = dget ds ix) (hal : x.al = true) (hz : 0 < x.hd) :
    Calls Try.prog 17 #[pT p, iQ ((ix : Nat) : Int)] w fun e w' => e = .returned (.tuple #[iQ x.id, .bool (x.nm && (x.hd - 1 == 0))]) ∧ Tab w0 w' ((.cells p [iQ (((ds.set ix (PB.less x)).length : Nat) : Int), .map (some mp)] 65 true) :: (.gen (mapE mp (pmsV (keysP (liveP (ds.set ix (PB.less x))))) true)) :: (.gen (allE 67 81 48 (liveP (ds.set ix (PB.less x))))) :: R) := by
  refine enterB 47 [(0, pT p), (1, iQ ((ix : Nat) : Int))] ((.cells p [iQ ((ds.length : Nat) : Int), .map (some mp)] 65 true) :: (.gen (mapE mp (pmsV (keysP (liveP ds))) true)) :: (.gen (allE 67 81 48 (liveP ds))) :: R) Try.func17 rfl Try.ntmps17 rfl (by kernel_rfl) hT0 ?_
  refine zSR 2 <| bD [0, 0] 2 0 [] [4, 5] <| zDNSR 7 <| cont_takeB 2 x (restP ds ix) rfl (takeP hix hx hal) ?_
  refine cM ?_
  have hhd := hok.hd _ (dget_mem hix)
  rw [← hx] at hhd
  refine bD [0, 0, 0, 3, 0] 5 2 [(10, .map (some mp)), (11, iQ ((ix : Nat) : Int))] [7, 8, 9] <| pS 6 1 <| sS 12 (Instr.lookup 63 (.map (some mp)) (iQ ((ix : Nat) : Int)) false) (pT x.b) (fun w hT => (run_lookup (z := .pointer none) (hT.ok 4 _ rfl) (kt := 3) (et := 68) (kf := .i64) (by kernel_rfl) (by kernel_rfl) (by kernel_rfl) ((ix : Nat) : Int)).trans (by rw [mget_yes hok hix hx hal]; rfl)) <| bD [0] 7 0 [(6, pT x.b)] [] <| zDNSSR 9 <| bD [0, 0, 0, 0, 0, 0, 0, 0, 0] 9 0 [(21, .bool (x.hd == 0))] [13, 14, 15, 16, 17, 18, 19, 20] <| zDN <| rC 21 (.bool false) rfl (congrArg Value.bool (beq_eq_false_iff_ne.2 (by omega))) <| zFKNSR 8 <| bD [0, 0, 0, 0, 0] 5 3 [(22, pT x.b), (26, iQ (IntKind.i64.wrap (x.hd - 1)))] [23, 24, 25] <| wI 26 (x.hd - 1) <| bZ [0, 0, 0] 8 0 [(0, pT p), (1, iQ ((ix : Nat) : Int)), (6, pT x.b)] ((.cells x.b [iQ x.id, .bool x.nm, pT x.m, iQ (x.hd - 1)] 67 true) :: (.cells x.m [iQ x.W, iQ x.H, sL x.q x.n x.n] 81 true) :: (.gen (rowE (some ⟨x.q, 0, none⟩) x.q x.n x.n 48 1 (cV x.px) true)) :: (.cells p [iQ ((ds.length : Nat) : Int), .map (some mp)] 65 true) :: (.gen (mapE mp (pmsV (keysP (liveP ds))) true)) :: (.gen (allE 67 81 48 (restP ds ix))) :: R) <| zDNSR 3 <| bD [0, 0] 2 1 [(29, pT p), (30, iQ ((ix : Nat) : Int))] [] <| pS 3 0 <| cont_pickT [3, 4, 0, 1, 2, 5] [.cells x.b [iQ x.id, .bool x.nm, pT x.m, iQ (x.hd - 1)] 67 true, .cells x.m [iQ x.W, iQ x.H, sL x.q x.n x.n] 81 true, .gen (rowE (some ⟨x.q, 0, none⟩) x.q x.n x.n 48 1 (cV x.px) true), .cells p [iQ ((ds.length : Nat) : Int), .map (some mp)] 65 true, .gen (mapE mp (pmsV (keysP (liveP ds))) true), .gen (allE 67 81 48 (restP ds ix))] [.cells p [iQ ((ds.length : Nat) : Int), .map (some mp)] 65 true, .gen (mapE mp (pmsV (keysP (liveP ds))) true), .cells x.b [iQ x.id, .bool x.nm, pT x.m, iQ (x.hd - 1)] 67 true, .cells x.m [iQ x.W, iQ x.H, sL x.q x.n x.n] 81 true, .gen (rowE (some ⟨x.q, 0, none⟩) x.q x.n x.n 48 1 (cV x.px) true), .gen (allE 67 81 48 (restP ds ix))] R ((.cells p [iQ ((ds.length : Nat) : Int), .map (some mp)] 65 true) :: (.gen (mapE mp (pmsV (keysP (liveP ds))) true)) :: (.cells x.b [iQ x.id, .bool x.nm, pT x.m, iQ (x.hd - 1)] 67 true) :: (.cells x.m [iQ x.W, iQ x.H, sL x.q x.n x.n] 81 true) :: (.gen (rowE (some ⟨x.q, 0, none⟩) x.q x.n x.n 48 1 (cV x.px) true)) :: (.gen (allE 67 81 48 (restP ds ix))) :: R) rfl rfl rfl 6 rfl (by decide) ?_
  refine cG (d := 31) (α := Unit) (fun x_ => .tuple #[]) (fun x_ => ((.cells p [iQ ((ds.length : Nat) : Int), .map (some mp)] 65 true) :: (.gen (mapE mp (swpM (PB.less x) ((ix : Nat) : Int) (pmsV (keysP (liveP ds)))) true)) :: (.cells x.b [iQ x.id, .bool x.nm, pT x.m, iQ (x.hd - 1)] 67 true) :: (.cells x.m [iQ x.W, iQ x.H, sL x.q x.n x.n] 81 true) :: (.gen (rowE (some ⟨x.q, 0, none⟩) x.q x.n x.n 48 1 (cV x.px) true)) :: (.gen (allE 67 81 48 (restP ds ix))) :: R)) (fun x_ => True) (fun w hT => (poolSweep p mp ((ds.length : Nat) : Int) (pmsV (keysP (liveP ds))) (PB.less x) ((ix : Nat) : Int) ((.cells x.m [iQ x.W, iQ x.H, sL x.q x.n x.n] 81 true) :: (.gen (rowE (some ⟨x.q, 0, none⟩) x.q x.n x.n 48 1 (cV x.px) true)) :: (.gen (allE 67 81 48 (restP ds ix))) :: R) _ w hT (mget_yes (x := x) hok hix hx hal)).mono fun e w' ⟨he_, ht_⟩ => ⟨(), he_, trivial, ht_⟩) ?_
  rintro ⟨⟩ -
  refine cont_pickT [2, 3, 4, 0, 1, 5] [.cells p [iQ ((ds.length : Nat) : Int), .map (some mp)] 65 true, .gen (mapE mp (swpM (PB.less x) ((ix : Nat) : Int) (pmsV (keysP (liveP ds)))) true), .cells x.b [iQ x.id, .bool x.nm, pT x.m, iQ (x.hd - 1)] 67 true, .cells x.m [iQ x.W, iQ x.H, sL x.q x.n x.n] 81 true, .gen (rowE (some ⟨x.q, 0, none⟩) x.q x.n x.n 48 1 (cV x.px) true), .gen (allE 67 81 48 (restP ds ix))] [.cells x.b [iQ x.id, .bool x.nm, pT x.m, iQ (x.hd - 1)] 67 true, .cells x.m [iQ x.W, iQ x.H, sL x.q x.n x.n] 81 true, .gen (rowE (some ⟨x.q, 0, none⟩) x.q x.n x.n 48 1 (cV x.px) true), .cells p [iQ ((ds.length : Nat) : Int), .map (some mp)] 65 true, .gen (mapE mp (swpM (PB.less x) ((ix : Nat) : Int) (pmsV (keysP (liveP ds)))) true), .gen (allE 67 81 48 (restP ds ix))] R ((.cells x.b [iQ x.id, .bool x.nm, pT x.m, iQ (x.hd - 1)] 67 true) :: (.cells x.m [iQ x.W, iQ x.H, sL x.q x.n x.n] 81 true) :: (.gen (rowE (some ⟨x.q, 0, none⟩) x.q x.n x.n 48 1 (cV x.px) true)) :: (.cells p [iQ ((ds.length : Nat) : Int), .map (some mp)] 65 true) :: (.gen (mapE mp (swpM (PB.less x) ((ix : Nat) : Int) (pmsV (keysP (liveP ds)))) true)) :: (.gen (allE 67 81 48 (restP ds ix))) :: R) rfl rfl rfl 6 rfl (by decide) ?_
  refine cM ?_
  refine zDNS <| drawn_enter 17 [] rfl (by kernel_rfl) ?_
  refine tD 0 [] [(0, 0), (4, 0), (1, 0), (5, 0), (2, 0), (6, 0), (3, 0), (7, 0), (8, 0)] 8 [8, 7, 3, 6, 2, 5, 1, 4, 0] [(35, iQ x.id), (40, .bool x.nm)] [32, 33, 34, 36, 37, 38, 39] <| cSp 40 _ rfl (fun c3_ => ?_) fun c3_ => ?_
  ·
    refine tD 0 [] [(9, 0), (15, 0), (10, 0), (11, 0), (12, 0), (13, 0), (14, 0), (16, 0)] 0 [16, 14, 13, 12, 11, 10, 15, 9, 8, 7, 3, 6, 2, 5, 1, 4, 0] [(4, iQ x.id), (5, .bool ((x.hd - 1) == 0))] [41, 42, 43, 44, 45, 46] <| dD <| zN <| cont_ret <| cont_entEq 4 (.gen (mapE mp (swpM (PB.less x) ((ix : Nat) : Int) (pmsV (keysP (liveP ds)))) true)) (.gen (mapE mp (pmsV (keysP (liveP (ds.set ix (PB.less x))))) true)) rfl (congrArg (fun m_ => Ent.gen (mapE mp m_ true)) (swp_keys (y := PB.less x) hok hix hx hal rfl rfl (by show 0 ≤ x.hd - 1; omega))) ?_
    refine cont_norm [(4, iQ x.id), (5, .bool ((x.hd - 1) == 0))] ((.cells x.b [iQ x.id, .bool x.nm, pT x.m, iQ (x.hd - 1)] 67 true) :: (.cells x.m [iQ x.W, iQ x.H, sL x.q x.n x.n] 81 true) :: (.gen (rowE (some ⟨x.q, 0, none⟩) x.q x.n x.n 48 1 (cV x.px) true)) :: (.cells p [iQ (((ds.set ix (PB.less x)).length : Nat) : Int), .map (some mp)] 65 true) :: (.gen (mapE mp (pmsV (keysP (liveP (ds.set ix (PB.less x))))) true)) :: (.gen (allE 67 81 48 (restP ds ix))) :: R) (by kernel_rfl) (congrArg (fun c_ : List Value => (((.cells x.b [iQ x.id, .bool x.nm, pT x.m, iQ (x.hd - 1)] 67 true) :: (.cells x.m [iQ x.W, iQ x.H, sL x.q x.n x.n] 81 true) :: (.gen (rowE (some ⟨x.q, 0, none⟩) x.q x.n x.n 48 1 (cV x.px) true)) :: (.cells p c_ 65 true) :: (.gen (mapE mp (pmsV (keysP (liveP (ds.set ix (PB.less x))))) true)) :: (.gen (allE 67 81 48 (restP ds ix))) :: R) : List Ent)) (by rw [List.length_set])) ?_
    refine cM ?_
    refine cM ?_
    refine cont_putOr 2 (PB.less x) (ds := ds) (ix := ix) rfl hix ?_
    refine cM ?_
    refine rB rfl 0 0 (iQ x.id) (.bool ((x.hd - 1) == 0)) fun w hT => ?_
    exact ⟨by rw [c3_]; rfl, hT⟩
  refine tD 0 [] [(9, 0), (15, 0), (10, 0), (11, 0), (12, 0), (13, 0), (14, 0), (16, 0)] 0 [16, 14, 13, 12, 11, 10, 15, 9, 8, 7, 3, 6, 2, 5, 1, 4, 0] [(4, iQ x.id), (5, .bool false)] [41, 42, 43, 44, 45, 46] <| dD <| zN <| cont_ret <| cont_entEq 4 (.gen (mapE mp (swpM (PB.less x) ((ix : Nat) : Int) (pmsV (keysP (liveP ds)))) true)) (.gen (mapE mp (pmsV (keysP (liveP (ds.set ix (PB.less x))))) true)) rfl (congrArg (fun m_ => Ent.gen (mapE mp m_ true)) (swp_keys (y := PB.less x) hok hix hx hal rfl rfl (by show 0 ≤ x.hd - 1; omega))) ?_
  refine cont_norm [(4, iQ x.id), (5, .bool false)] ((.cells x.b [iQ x.id, .bool x.nm, pT x.m, iQ (x.hd - 1)] 67 true) :: (.cells x.m [iQ x.W, iQ x.H, sL x.q x.n x.n] 81 true) :: (.gen (rowE (some ⟨x.q, 0, none⟩) x.q x.n x.n 48 1 (cV x.px) true)) :: (.cells p [iQ (((ds.set ix (PB.less x)).length : Nat) : Int), .map (some mp)] 65 true) :: (.gen (mapE mp (pmsV (keysP (liveP (ds.set ix (PB.less x))))) true)) :: (.gen (allE 67 81 48 (restP ds ix))) :: R) (by kernel_rfl) (congrArg (fun c_ : List Value => (((.cells x.b [iQ x.id, .bool x.nm, pT x.m, iQ (x.hd - 1)] 67 true) :: (.cells x.m [iQ x.W, iQ x.H, sL x.q x.n x.n] 81 true) :: (.gen (rowE (some ⟨x.q, 0, none⟩) x.q x.n x.n 48 1 (cV x.px) true)) :: (.cells p c_ 65 true) :: (.gen (mapE mp (pmsV (keysP (liveP (ds.set ix (PB.less x))))) true)) :: (.gen (allE 67 81 48 (restP ds ix))) :: R) : List Ent)) (by rw [List.length_set])) ?_
  refine cM ?_
  refine cM ?_
  refine cont_putOr 2 (PB.less x) (ds := ds) (ix := ix) rfl hix ?_
  refine cM ?_
  refine rB rfl 0 0 (iQ x.id) (.bool false) fun w hT => ?_
  exact ⟨by rw [c3_]; rfl, hT⟩
theorem poolMakeX (p mp : Nat) (ds : List PB) (id W H : Int) (B : Int) (R : List Ent) (w0 w : World) (hT0 : Tab w0 w ((.cells p [iQ ((ds.length : Nat) : Int), .map (some mp)] 65 true) :: (.gen (mapE mp (pmsV (keysP (liveP ds))) true)) :: (.gen (allE 67 81 48 (liveP ds))) :: R)) (hok : PoolOk ds B) (hf : findP ds id ≠ -1) :
    Calls Try.prog 10 #[pT p, iQ id, iQ W, iQ H] w fun e w' => e = .returned (.tuple #[iQ (-1), iQ 6]) ∧ Tab w0 w' ((.cells p [iQ ((ds.length : Nat) : Int), .map (some mp)] 65 true) :: (.gen (mapE mp (pmsV (keysP (liveP ds))) true)) :: (.gen (allE 67 81 48 (liveP ds))) :: R) := by
  refine enterB 53 [(0, pT p), (1, iQ id), (2, iQ W), (3, iQ H)] ((.cells p [iQ ((ds.length : Nat) : Int), .map (some mp)] 65 true) :: (.gen (mapE mp (pmsV (keysP (liveP ds))) true)) :: (.gen (allE 67 81 48 (liveP ds))) :: R) Try.func10 rfl Try.ntmps10 rfl (by kernel_rfl) hT0 ?_
  refine zSR 2 <| bD [0, 0] 2 0 [] [8, 9] <| zDNSSR 8 <| bD [0, 0] 2 6 [(16, pT p), (17, iQ id)] [] <| pS 3 5 <| cG (d := 18) (α := Unit) (fun x_ => .tuple #[iQ (findP ds id), iQ (fndE ds id 5)]) (fun x_ => ((.cells p [iQ ((ds.length : Nat) : Int), .map (some mp)] 65 true) :: (.gen (mapE mp (pmsV (keysP (liveP ds))) true)) :: (.gen (allE 67 81 48 (liveP ds))) :: R)) (fun x_ => True) (fun w hT => (poolFind p mp ds id _ (R) _ w hT hok).mono fun e w' ⟨he_, ht_⟩ => ⟨(), he_, trivial, ht_⟩) ?_
  rintro ⟨⟩ -
  refine cM ?_
  refine bD [0, 0, 0, 0, 0] 8 0 [(11, iQ (fndE ds id 5))] [10, 15, 19, 20] <| zDNSR 2 <| rC 11 (iQ 0) rfl (congrArg (Value.int .i64) (fndE_yes hf)) <| bD [0, 0] 2 0 [(22, .bool true)] [21] <| zDNTSR 2 <| bS [0, 0] 2 0 [(8, iQ (-1)), (9, iQ 6)] <| zDNrt <| rB rfl 0 0 (iQ (-1)) (iQ 6) fun w hT => ?_
  exact ⟨rfl, hT⟩
theorem poolMakeA (p mp : Nat) (ds : List PB) (id W H : Int) (B : Int) (R : List Ent) (w0 w : World) (hT0 : Tab w0 w ((.cells p [iQ ((ds.length : Nat) : Int), .map (some mp)] 65 true) :: (.gen (mapE mp (pmsV (keysP (liveP ds))) true)) :: (.gen (allE 67 81 48 (liveP ds))) :: R)) (hok : PoolOk ds B) (hf : findP ds id = -1) (hbad : ¬ (1 ≤ W ∧ W ≤ 256 ∧ 1 ≤ H ∧ H ≤ 256)) :
    Calls Try.prog 10 #[pT p, iQ id, iQ W, iQ H] w fun e w' => e = .returned (.tuple #[iQ (-1), iQ 1]) ∧ Tab w0 w' ((.cells p [iQ ((ds.length : Nat) : Int), .map (some mp)] 65 true) :: (.gen (mapE mp (pmsV (keysP (liveP ds))) true)) :: (.gen (allE 67 81 48 (liveP ds))) :: R) := by
  refine enterB 53 [(0, pT p), (1, iQ id), (2, iQ W), (3, iQ H)] ((.cells p [iQ ((ds.length : Nat) : Int), .map (some mp)] 65 true) :: (.gen (mapE mp (pmsV (keysP (liveP ds))) true)) :: (.gen (allE 67 81 48 (liveP ds))) :: R) Try.func10 rfl Try.ntmps10 rfl (by kernel_rfl) hT0 ?_
  refine zSR 2 <| bD [0, 0] 2 0 [] [8, 9] <| zDNSSR 8 <| bD [0, 0] 2 6 [(16, pT p), (17, iQ id)] [] <| pS 3 5 <| cG (d := 18) (α := Unit) (fun x_ => .tuple #[iQ (findP ds id), iQ (fndE ds id 5)]) (fun x_ => ((.cells p [iQ ((ds.length : Nat) : Int), .map (some mp)] 65 true) :: (.gen (mapE mp (pmsV (keysP (liveP ds))) true)) :: (.gen (allE 67 81 48 (liveP ds))) :: R)) (fun x_ => True) (fun w hT => (poolFind p mp ds id _ (R) _ w hT hok).mono fun e w' ⟨he_, ht_⟩ => ⟨(), he_, trivial, ht_⟩) ?_
  rintro ⟨⟩ -
  refine cM ?_
  refine bD [0, 0, 0, 0, 0] 8 0 [(11, iQ (fndE ds id 5))] [10, 15, 19, 20] <| zDNSR 2 <| rC 11 (iQ 5) rfl (congrArg (Value.int .i64) (fndE_no hf)) <| bD [0, 0] 2 0 [(22, .bool false)] [21] <| zDNFKNSR 8 <| bD [0, 0] 2 6 [(24, iQ W), (25, iQ H)] [] <| pS 3 5 <| cP 26 (.tuple #[.pointer none, iQ 1]) (fun w hT => imgNewBad W H w hbad) <| bD [0, 0, 0, 0, 0] 8 0 [(12, .pointer none), (13, iQ 1)] [23, 27, 28] <| zDNSSR 2 <| bD [0, 0] 2 0 [(30, .bool true)] [29] <| zDNTSR 3 <| bS [0, 0, 0] 3 0 [(8, iQ (-1)), (9, iQ 1)] <| zDNrt <| rB rfl 0 0 (iQ (-1)) (iQ 1) fun w hT => ?_
  exact ⟨rfl, hT⟩
theorem poolMakeY (p mp : Nat) (ds : List PB) (id W H : Int) (B : Int) (R : List Ent) (w0 w : World) (hT0 : Tab w0 w ((.cells p [iQ ((ds.length : Nat) : Int), .map (some mp)] 65 true) :: (.gen (mapE mp (pmsV (keysP (liveP ds))) true)) :: (.gen (allE 67 81 48 (liveP ds))) :: R)) (hok : PoolOk ds B) (hf : findP ds id = -1) (hgood : 1 ≤ W ∧ W ≤ 256 ∧ 1 ≤ H ∧ H ≤ 256) (hlen : ds.length ≤ 1000000) :
    Calls Try.prog 10 #[pT p, iQ id, iQ W, iQ H] w fun e w' => ∃ (b_ m_ q_ n_ : Nat), e = .returned (.tuple #[iQ ((ds.length : Nat) : Int), iQ 0]) ∧ (n_ : Int) = W * H ∧ Tab w0 w' ((.cells p [iQ (((ds ++ [newP ((ds.length : Nat) : Int) b_ id m_ W H q_ n_]).length : Nat) : Int), .map (some mp)] 65 true) :: (.gen (mapE mp (pmsV (keysP (liveP (ds ++ [newP ((ds.length : Nat) : Int) b_ id m_ W H q_ n_])))) true)) :: (.gen (allE 67 81 48 (liveP (ds ++ [newP ((ds.length : Nat) : Int) b_ id m_ W H q_ n_])))) :: R) := by
  refine enterB 53 [(0, pT p), (1, iQ id), (2, iQ W), (3, iQ H)] ((.cells p [iQ ((ds.length : Nat) : Int), .map (some mp)] 65 true) :: (.gen (mapE mp (pmsV (keysP (liveP ds))) true)) :: (.gen (allE 67 81 48 (liveP ds))) :: R) Try.func10 rfl Try.ntmps10 rfl (by kernel_rfl) hT0 ?_
  refine zSR 2 <| bD [0, 0] 2 0 [] [8, 9] <| zDNSSR 8 <| bD [0, 0] 2 6 [(16, pT p), (17, iQ id)] [] <| pS 3 5 <| cG (d := 18) (α := Unit) (fun x_ => .tuple #[iQ (findP ds id), iQ (fndE ds id 5)]) (fun x_ => ((.cells p [iQ ((ds.length : Nat) : Int), .map (some mp)] 65 true) :: (.gen (mapE mp (pmsV (keysP (liveP ds))) true)) :: (.gen (allE 67 81 48 (liveP ds))) :: R)) (fun x_ => True) (fun w hT => (poolFind p mp ds id _ (R) _ w hT hok).mono fun e w' ⟨he_, ht_⟩ => ⟨(), he_, trivial, ht_⟩) ?_
  rintro ⟨⟩ -
  refine cM ?_
  refine bD [0, 0, 0, 0, 0] 8 0 [(11, iQ (fndE ds id 5))] [10, 15, 19, 20] <| zDNSR 2 <| rC 11 (iQ 5) rfl (congrArg (Value.int .i64) (fndE_no hf)) <| bD [0, 0] 2 0 [(22, .bool false)] [21] <| zDNFKNSR 8 <| bD [0, 0] 2 6 [(24, iQ W), (25, iQ H)] [] <| pS 3 5 <| cG (d := 26) (α := Nat × Nat × Nat) (fun x_ => .tuple #[pT x_.1, iQ 0]) (fun x_ => ((.cells x_.1 [iQ W, iQ H, sL x_.2.1 x_.2.2 x_.2.2] 81 true) :: (.gen (rowE (some ⟨x_.2.1, 0, none⟩) x_.2.1 x_.2.2 x_.2.2 48 1 (cV (List.replicate x_.2.2 0)) true)) :: (.cells p [iQ ((ds.length : Nat) : Int), .map (some mp)] 65 true) :: (.gen (mapE mp (pmsV (keysP (liveP ds))) true)) :: (.gen (allE 67 81 48 (liveP ds))) :: R)) (fun x_ => (x_.2.2 : Int) = W * H) (fun w hT => (imgNew W H w hgood).mono fun e w' ⟨b_, r_, n_, he_, hn_, hi_⟩ => ⟨(b_, r_, n_), he_, hn_, hT.addImg hi_⟩) ?_
  rintro ⟨b2, r2, n2⟩ hn2
  replace hn2 : (n2 : Int) = W * H := hn2
  refine cM ?_
  refine bD [0, 0, 0, 0, 0] 8 0 [(12, pT b2), (13, iQ 0)] [23, 27, 28] <| zDNSSR 2 <| bD [0, 0] 2 0 [(30, .bool false)] [29] <| zDNFKNSR 5 <| bD [0, 0, 0, 2, 0] 5 0 [(14, iQ ((ds.length : Nat) : Int))] [32, 33, 34, 35] <| zDNSR 8 <| bD [0, 0, 0, 2, 0] 5 3 [(36, pT p), (40, iQ (IntKind.i64.wrap (((ds.length : Nat) : Int) + 1)))] [37, 38, 39] <| wI 40 (((ds.length : Nat) : Int) + 1) <| bZ [0, 0, 2] 8 0 [(0, pT p), (1, iQ id), (12, pT b2), (14, iQ ((ds.length : Nat) : Int))] ((.cells b2 [iQ W, iQ H, sL r2 n2 n2] 81 true) :: (oE r2 n2 n2 48 1 (cV (List.replicate n2 0))) :: (.cells p [iQ (((ds.length : Nat) : Int) + 1), .map (some mp)] 65 true) :: (.gen (mapE mp (pmsV (keysP (liveP ds))) true)) :: (.gen (allE 67 81 48 (liveP ds))) :: R) <| zDNSR 10 <| bW [0, 0, 0, 2, 0, 0, 0, 0, 0] 9 1 (fun b3 => [(14, iQ ((ds.length : Nat) : Int)), (46, .map (some mp)), (47, iQ ((ds.length : Nat) : Int)), (51, pT b3)]) (fun b3 => ((.cells b3 [iQ id, .bool true, pT b2, iQ 0] 67 true) :: (.cells b2 [iQ W, iQ H, sL r2 n2 n2] 81 true) :: (oE r2 n2 n2 48 1 (cV (List.replicate n2 0))) :: (.cells p [iQ (((ds.length : Nat) : Int) + 1), .map (some mp)] 65 true) :: (.gen (mapE mp (pmsV (keysP (liveP ds))) true)) :: (.gen (allE 67 81 48 (liveP ds))) :: R)) [14, 46, 47, 51] fun b3 => ?_
  refine pS 10 0 <| sem_stepU (Instr.mapUpdate 63 (.map (some mp)) (iQ ((ds.length : Nat) : Int)) (pT b3)) (fun _ => ((.cells b3 [iQ id, .bool true, pT b2, iQ 0] 67 true) :: (.cells b2 [iQ W, iQ H, sL r2 n2 n2] 81 true) :: (oE r2 n2 n2 48 1 (cV (List.replicate n2 0))) :: (.cells p [iQ (((ds.length : Nat) : Int) + 1), .map (some mp)] 65 true) :: (.gen (mapE mp (mput (pmsV (keysP (liveP ds))) ((ds.length : Nat) : Int) (pT b3)) true)) :: (.gen (allE 67 81 48 (liveP ds))) :: R)) (fun _ => True) (by kernel_rfl) (fun w hT => run_update (kt := 3) (et := 68) (kf := .i64) hT (i := 4) rfl (by kernel_rfl) (by kernel_rfl) ((ds.length : Nat) : Int) (pT b3)) (fun _ _ => ?_)
  refine cM ?_
  refine zDNSR 3 <| cont_entEq 4 (.gen (mapE mp (mput (pmsV (keysP (liveP ds))) ((ds.length : Nat) : Int) (pT b3)) true)) (.gen (mapE mp (pmsV (keysP (liveP (ds ++ [(newP ((ds.length : Nat) : Int) b3 id b2 W H r2 n2)])))) true)) rfl (congrArg (fun m_ => Ent.gen (mapE mp m_ true)) (keys_push (x := (newP ((ds.length : Nat) : Int) b3 id b2 W H r2 n2)) hok rfl rfl)) ?_
  refine cont_norm [(14, iQ ((ds.length : Nat) : Int)), (46, .map (some mp)), (47, iQ ((ds.length : Nat) : Int)), (51, pT b3)] ((.cells b3 [iQ id, .bool true, pT b2, iQ 0] 67 true) :: (.cells b2 [iQ W, iQ H, sL r2 n2 n2] 81 true) :: (oE r2 n2 n2 48 1 (cV (List.replicate n2 0))) :: (.cells p [iQ (((ds ++ [(newP ((ds.length : Nat) : Int) b3 id b2 W H r2 n2)]).length : Nat) : Int), .map (some mp)] 65 true) :: (.gen (mapE mp (pmsV (keysP (liveP (ds ++ [(newP ((ds.length : Nat) : Int) b3 id b2 W H r2 n2)])))) true)) :: (.gen (allE 67 81 48 (liveP ds))) :: R) (by kernel_rfl) (congrArg (fun c_ : List Value => (((.cells b3 [iQ id, .bool true, pT b2, iQ 0] 67 true) :: (.cells b2 [iQ W, iQ H, sL r2 n2 n2] 81 true) :: (oE r2 n2 n2 48 1 (cV (List.replicate n2 0))) :: (.cells p c_ 65 true) :: (.gen (mapE mp (pmsV (keysP (liveP (ds ++ [(newP ((ds.length : Nat) : Int) b3 id b2 W H r2 n2)])))) true)) :: (.gen (allE 67 81 48 (liveP ds))) :: R) : List Ent)) (by rw [List.length_append, List.length_singleton]; rfl)) ?_
  refine cM ?_
  refine cM ?_
  refine cont_putB 2 (newP ((ds.length : Nat) : Int) b3 id b2 W H r2 n2) (liveP ds) (liveP (ds ++ [(newP ((ds.length : Nat) : Int) b3 id b2 W H r2 n2)])) rfl (perm_snoc rfl) ?_
  refine nL [(14, iQ ((ds.length : Nat) : Int)), (46, .map (some mp)), (47, iQ ((ds.length : Nat) : Int)), (51, pT b3)] ?_
  refine bS [0, 0, 0] 3 0 [(8, iQ ((ds.length : Nat) : Int)), (9, iQ 0)] <| zDNr <| rB rfl 0 0 (iQ ((ds.length : Nat) : Int)) (iQ 0) fun w hT => ?_
  exact ⟨_, _, _, _, rfl, hn2, hT⟩
theorem poolWriteN (p mp : Nat) (ds : List PB) (id a b c d : Int) (A : Option Addr) (n cap : Nat) (B : Int) (R : List Ent) (w0 w : World) (hT0 : Tab w0 w ((.cells p [iQ ((ds.length : Nat) : Int), .map (some mp)] 65 true) :: (.gen (mapE mp (pmsV (keysP (liveP ds))) true)) :: (.gen (allE 67 81 48 (liveP ds))) :: R)) (hok : PoolOk ds B) (hf : findP ds id = -1) :
    Calls Try.prog 15 #[pT p, iQ id, .agg #[iQ a, iQ b, iQ c, iQ d], .slice A n cap] w fun e w' => e = .returned (iQ 5) ∧ Tab w0 w' ((.cells p [iQ ((ds.length : Nat) : Int), .map (some mp)] 65 true) :: (.gen (mapE mp (pmsV (keysP (liveP ds))) true)) :: (.gen (allE 67 81 48 (liveP ds))) :: R) := by
  refine enterB 44 [(0, pT p), (1, iQ id), (2, .agg #[iQ a, iQ b, iQ c, iQ d]), (3, .slice A n cap)] ((.cells p [iQ ((ds.length : Nat) : Int), .map (some mp)] 65 true) :: (.gen (mapE mp (pmsV (keysP (liveP ds))) true)) :: (.gen (allE 67 81 48 (liveP ds))) :: R) Try.func15 rfl Try.ntmps15 rfl (by kernel_rfl) hT0 ?_
  refine zSR 2 <| bW [0, 0] 2 0 (fun b1 => [(0, pT p), (1, iQ id), (3, .slice A n cap), (6, pT b1)]) (fun b1 => ((.cells b1 [iQ a, iQ b, iQ c, iQ d] 37 true) :: (.cells p [iQ ((ds.length : Nat) : Int), .map (some mp)] 65 true) :: (.gen (mapE mp (pmsV (keysP (liveP ds))) true)) :: (.gen (allE 67 81 48 (liveP ds))) :: R)) [0, 1, 3, 6] fun b1 => ?_
  refine zDNSR 8 <| bD [0, 0] 2 6 [(12, pT p), (13, iQ id)] [] <| pS 3 5 <| cont_pickT [1, 2, 3, 0] [.cells b1 [iQ a, iQ b, iQ c, iQ d] 37 true, .cells p [iQ ((ds.length : Nat) : Int), .map (some mp)] 65 true, .gen (mapE mp (pmsV (keysP (liveP ds))) true), .gen (allE 67 81 48 (liveP ds))] [.cells p [iQ ((ds.length : Nat) : Int), .map (some mp)] 65 true, .gen (mapE mp (pmsV (keysP (liveP ds))) true), .gen (allE 67 81 48 (liveP ds)), .cells b1 [iQ a, iQ b, iQ c, iQ d] 37 true] R ((.cells p [iQ ((ds.length : Nat) : Int), .map (some mp)] 65 true) :: (.gen (mapE mp (pmsV (keysP (liveP ds))) true)) :: (.gen (allE 67 81 48 (liveP ds))) :: (.cells b1 [iQ a, iQ b, iQ c, iQ d] 37 true) :: R) rfl rfl rfl 4 rfl (by decide) ?_
  refine cG (d := 14) (α := Unit) (fun x_ => .tuple #[iQ (findP ds id), iQ (fndE ds id 5)]) (fun x_ => ((.cells p [iQ ((ds.length : Nat) : Int), .map (some mp)] 65 true) :: (.gen (mapE mp (pmsV (keysP (liveP ds))) true)) :: (.gen (allE 67 81 48 (liveP ds))) :: (.cells b1 [iQ a, iQ b, iQ c, iQ d] 37 true) :: R)) (fun x_ => True) (fun w hT => (poolFind p mp ds id _ ((.cells b1 [iQ a, iQ b, iQ c, iQ d] 37 true) :: R) _ w hT hok).mono fun e w' ⟨he_, ht_⟩ => ⟨(), he_, trivial, ht_⟩) ?_
  rintro ⟨⟩ -
  refine cont_pickT [3, 0, 1, 2] [.cells p [iQ ((ds.length : Nat) : Int), .map (some mp)] 65 true, .gen (mapE mp (pmsV (keysP (liveP ds))) true), .gen (allE 67 81 48 (liveP ds)), .cells b1 [iQ a, iQ b, iQ c, iQ d] 37 true] [.cells b1 [iQ a, iQ b, iQ c, iQ d] 37 true, .cells p [iQ ((ds.length : Nat) : Int), .map (some mp)] 65 true, .gen (mapE mp (pmsV (keysP (liveP ds))) true), .gen (allE 67 81 48 (liveP ds))] R ((.cells b1 [iQ a, iQ b, iQ c, iQ d] 37 true) :: (.cells p [iQ ((ds.length : Nat) : Int), .map (some mp)] 65 true) :: (.gen (mapE mp (pmsV (keysP (liveP ds))) true)) :: (.gen (allE 67 81 48 (liveP ds))) :: R) rfl rfl rfl 4 rfl (by decide) ?_
  refine cM ?_
  refine bD [0, 0, 0, 0, 0] 8 0 [(9, iQ (findP ds id)), (10, iQ (fndE ds id 5))] [11, 15, 16] <| zDNS <| cont_block <| zSR 3 <| rC 10 (iQ 5) rfl (congrArg (Value.int .i64) (fndE_no hf)) <| bD [0, 0, 0] 3 0 [(17, .bool true)] [18, 19] <| zDNTSR 2 <| bS [0, 0] 2 0 [(8, iQ 5)] <| fG 0 <| zDNrut <| rA rfl 0 (iQ 5) fun w hT => ?_
  exact ⟨rfl, hT⟩
theorem poolWriteB (p mp : Nat) (ds : List PB) (id a b c d : Int) (A : Option Addr) (n cap : Nat) (ix : Nat) (x : PB) (B : Int) (R : List Ent) (w0 w : World) (hT0 : Tab w0 w ((.cells p [iQ ((ds.length : Nat) : Int), .map (some mp)] 65 true) :: (.gen (mapE mp (pmsV (keysP (liveP ds))) true)) :: (.gen (allE 67 81 48 (liveP ds))) :: R)) (hok : PoolOk ds B) (hix : ix < ds.length) (hx : x = dget ds ix) (hal : x.al = true) (hfk : findP ds id = (ix : Int)) (hz : 0 < x.hd) :
    Calls Try.prog 15 #[pT p, iQ id, .agg #[iQ a, iQ b, iQ c, iQ d], .slice A n cap] w fun e w' => e = .returned (iQ 8) ∧ Tab w0 w' ((.cells p [iQ ((ds.length : Nat) : Int), .map (some mp)] 65 true) :: (.gen (mapE mp (pmsV (keysP (liveP ds))) true)) :: (.gen (allE 67 81 48 (liveP ds))) :: R) := by
  refine enterB 44 [(0, pT p), (1, iQ id), (2, .agg #[iQ a, iQ b, iQ c, iQ d]), (3, .slice A n cap)] ((.cells p [iQ ((ds.length : Nat) : Int), .map (some mp)] 65 true) :: (.gen (mapE mp (pmsV (keysP (liveP ds))) true)) :: (.gen (allE 67 81 48 (liveP ds))) :: R) Try.func15 rfl Try.ntmps15 rfl (by kernel_rfl) hT0 ?_
  refine zSR 2 <| bW [0, 0] 2 0 (fun b1 => [(0, pT p), (1, iQ id), (3, .slice A n cap), (6, pT b1)]) (fun b1 => ((.cells b1 [iQ a, iQ b, iQ c, iQ d] 37 true) :: (.cells p [iQ ((ds.length : Nat) : Int), .map (some mp)] 65 true) :: (.gen (mapE mp (pmsV (keysP (liveP ds))) true)) :: (.gen (allE 67 81 48 (liveP ds))) :: R)) [0, 1, 3, 6] fun b1 => ?_
  refine zDNSR 8 <| bD [0, 0] 2 6 [(12, pT p), (13, iQ id)] [] <| pS 3 5 <| cont_pickT [1, 2, 3, 0] [.cells b1 [iQ a, iQ b, iQ c, iQ d] 37 true, .cells p [iQ ((ds.length : Nat) : Int), .map (some mp)] 65 true, .gen (mapE mp (pmsV (keysP (liveP ds))) true), .gen (allE 67 81 48 (liveP ds))] [.cells p [iQ ((ds.length : Nat) : Int), .map (some mp)] 65 true, .gen (mapE mp (pmsV (keysP (liveP ds))) true), .gen (allE 67 81 48 (liveP ds)), .cells b1 [iQ a, iQ b, iQ c, iQ d] 37 true] R ((.cells p [iQ ((ds.length : Nat) : Int), .map (some mp)] 65 true) :: (.gen (mapE mp (pmsV (keysP (liveP ds))) true)) :: (.gen (allE 67 81 48 (liveP ds))) :: (.cells b1 [iQ a, iQ b, iQ c, iQ d] 37 true) :: R) rfl rfl rfl 4 rfl (by decide) ?_
  refine cG (d := 14) (α := Unit) (fun x_ => .tuple #[iQ (findP ds id), iQ (fndE ds id 5)]) (fun x_ => ((.cells p [iQ ((ds.length : Nat) : Int), .map (some mp)] 65 true) :: (.gen (mapE mp (pmsV (keysP (liveP ds))) true)) :: (.gen (allE 67 81 48 (liveP ds))) :: (.cells b1 [iQ a, iQ b, iQ c, iQ d] 37 true) :: R)) (fun x_ => True) (fun w hT => (poolFind p mp ds id _ ((.cells b1 [iQ a, iQ b, iQ c, iQ d] 37 true) :: R) _ w hT hok).mono fun e w' ⟨he_, ht_⟩ => ⟨(), he_, trivial, ht_⟩) ?_
  rintro ⟨⟩ -
  refine cont_pickT [3, 0, 1, 2] [.cells p [iQ ((ds.length : Nat) : Int), .map (some mp)] 65 true, .gen (mapE mp (pmsV (keysP (liveP ds))) true), .gen (allE 67 81 48 (liveP ds)), .cells b1 [iQ a, iQ b, iQ c, iQ d] 37 true] [.cells b1 [iQ a, iQ b, iQ c, iQ d] 37 true, .cells p [iQ ((ds.length : Nat) : Int), .map (some mp)] 65 true, .gen (mapE mp (pmsV (keysP (liveP ds))) true), .gen (allE 67 81 48 (liveP ds))] R ((.cells b1 [iQ a, iQ b, iQ c, iQ d] 37 true) :: (.cells p [iQ ((ds.length : Nat) : Int), .map (some mp)] 65 true) :: (.gen (mapE mp (pmsV (keysP (liveP ds))) true)) :: (.gen (allE 67 81 48 (liveP ds))) :: R) rfl rfl rfl 4 rfl (by decide) ?_
  refine cM ?_
  refine bD [0, 0, 0, 0, 0] 8 0 [(9, iQ (findP ds id)), (10, iQ (fndE ds id 5))] [11, 15, 16] <| zDNS <| cont_block <| zSR 3 <| rC 9 (iQ ((ix : Nat) : Int)) rfl (congrArg (Value.int .i64) hfk) <| rC 10 (iQ 0) rfl (congrArg (Value.int .i64) (fndE_yes (by omega))) <| bD [0, 0, 0] 3 0 [(17, .bool false)] [18, 19] <| zDN <| cFa rfl <| zSR 11 <| cont_takeB 3 x (restP ds ix) rfl (takeP hix hx hal) ?_
  refine cM ?_
  have hhd := hok.hd _ (dget_mem hix)
  rw [← hx] at hhd
  refine bD [0, 0, 0, 4, 0] 5 6 [(25, .map (some mp)), (26, iQ ((ix : Nat) : Int))] [22, 23, 24] <| pS 6 5 <| sS 27 (Instr.lookup 63 (.map (some mp)) (iQ ((ix : Nat) : Int)) false) (pT x.b) (fun w hT => (run_lookup (z := .pointer none) (hT.ok 5 _ rfl) (kt := 3) (et := 68) (kf := .i64) (by kernel_rfl) (by kernel_rfl) (by kernel_rfl) ((ix : Nat) : Int)).trans (by rw [mget_yes hok hix hx hal]; rfl)) <| bD [0, 0, 0, 0, 0] 11 0 [(21, .bool (decide (x.hd > 0)))] [28, 29, 30, 31] <| zDN <| rC 21 (.bool true) rfl (congrArg Value.bool (decide_eq_true (by omega))) <| zTSR 1 <| bS [0] 1 0 [(8, iQ 8)] <| fG 3 <| zDNrut <| cM ?_
  refine cont_putB 2 x (restP ds ix) (liveP ds) rfl (putP hix hx hal) ?_
  refine cM ?_
  refine rA rfl 0 (iQ 8) fun w hT => ?_
  exact ⟨rfl, hT⟩
theorem keysIter0 (kb mp : Nat) (es : Array MapEntry) (ck : Nat) (l : PmL) (hMF : MapFP es ck l) (w0 : World) {β : Type} (Inv : List Int → β → Prop) (Tr : β → List Ent) (Jx : World → Prop) (l_ : Nat) (e1 e2 : Ent) (w : World) (b0 : β) (hJx : ∀ w w', Jx w → Below w.heap.size w w' → Jx w') (hY : ∀ (pre : List Int) (x : Int) (b : β) W1 z, (z.wr = true → z.own = true) → Inv pre b → (pre ++ [x]).length ≤ l.length → Tab w0 W1 (z :: e1 :: e2 :: (.ro kb [.map (some mp)] 63) :: (roObjE mp (.map es ck)) :: (Tr b)) → YieldAt Fence.wide 0 Try.prog l_ #[iQ x] W1 fun e W' => (e = .returned (.bool true) ∧ ∃ b', Inv (pre ++ [x]) b' ∧ Tab w0 W' (z :: e1 :: e2 :: (.ro kb [.map (some mp)] 63) :: (roObjE mp (.map es ck)) :: (Tr b'))) ∨ (e = .returned (.bool false) ∧ Jx W')) (h0 : Inv [] b0) (hT0 : Tab w0 w (e1 :: e2 :: (.ro kb [.map (some mp)] 63) :: (roObjE mp (.map es ck)) :: (Tr b0))) :
    Calls Try.prog 40 #[.func (.yield l_) #[] #[], pT kb] w fun e W' => (∃ v, e = .returned v) ∧ ((∃ xs_ b', xs_.Perm (l.map Prod.fst) ∧ Inv xs_ b' ∧ Tab w0 W' (e1 :: e2 :: (.ro kb [.map (some mp)] 63) :: (roObjE mp (.map es ck)) :: (Tr b'))) ∨ Jx W') := by
  refine enterI 14 [(0, .func (.yield l_) #[] #[]), (1, pT kb)] (e1 :: e2 :: (.ro kb [.map (some mp)] 63) :: (roObjE mp (.map es ck)) :: (Tr b0)) Try.func40 rfl Try.ntmps40 rfl (by kernel_rfl) hT0 (fun _ h_ => by simp at h_) ?_
  refine mcont_seq ?_
  refine mcont_region 2 rfl (by kernel_rfl) ?_
  refine bD [2] 1 1 [(4, .map (some mp))] [] <| pS 2 0 <| sem_rangeP 5 (m := 3) (t := 63) (k := 3) (e := 68) (by kernel_rfl) (by kernel_rfl) ⟨_, rfl, fun _ h_ => h_⟩ (fun ri => ?_)
  refine cM ?_
  refine zDN <| mcont_block ?_
  refine mcont_loop (α := Array Nat × PmL × β) (fun x_ : Array Nat × PmL × β => IterPP es l x_.1 x_.2.1 ∧ Inv (x_.2.1.map Prod.fst) x_.2.2) (fun x_ : Array Nat × PmL × β => [(0, .func (.yield l_) #[] #[]), (5, pT ri)]) (fun x_ : Array Nat × PmL × β => ((objE ri (.mapIter (some mp) ck x_.1 ck)) :: e1 :: e2 :: (.ro kb [.map (some mp)] 63) :: (roObjE mp (.map es ck)) :: (Tr x_.2.2))) (fun x_ : Array Nat × PmL × β => l.length - x_.2.1.length) (#[], [], b0) (show IterPP es l (#[]) ([]) ∧ Inv (([]).map Prod.fst) (b0) from ⟨IterPP.start hMF, h0⟩) (by kernel_rfl) (by kernel_rfl) ?_
  rintro ⟨sn, dn, b⟩ hinv1_
  replace hinv1_ : IterPP es l sn dn ∧ Inv (dn.map Prod.fst) b := hinv1_
  refine cM ?_
  obtain ⟨hIP, hI⟩ := hinv1_
  have hil := hIP.len
  refine mcont_seq ?_
  refine mcont_region 2 rfl (by kernel_rfl) ?_
  refine pS 1 1 <| sem_nextP 6 (j := 0) (m := 4) (ty := 0) (by kernel_rfl) rfl ⟨_, rfl, fun _ h_ => h_⟩ hMF hIP (fun hpm => ?_) (fun xk_ vk_ sn2 hxm hIP2 hls => ?_)
  ·
    refine bD [0] 2 0 [(7, .bool false)] [] <| zDN <| mcont_seq ?_
    refine mcont_false rfl ?_
    refine mcont_exit ?_
    refine then_exit <| then_exit <| blk_exit ?_
    refine ret_none (.inr rfl) rfl (fun w hT => ?_)
    exact ⟨⟨_, rfl⟩, .inl ⟨dn.map Prod.fst, b, hpm.map _, hI, hT.drop (fun _ => rfl)⟩⟩
  ·
    refine cM ?_
    refine bD [0] 2 0 [(7, .bool true)] [] <| zDN <| mcont_seq ?_
    refine mcont_true rfl ?_
    refine mcont_skip ?_
    refine zN <| mcont_block ?_
    refine mcont_seq ?_
    refine mcont_region 3 rfl (by kernel_rfl) ?_
    refine pS 1 2 <| sS 8 (Instr.entry (pT ri)) (.tuple #[iQ xk_, pT vk_]) (fun w hT => run_entryP (hT.ok 0 _ rfl) (hT.ok 4 _ rfl) hMF hls) <| bD [0, 0] 3 0 [(3, iQ xk_)] [9] <| zDN <| mcont_seq ?_
    refine icont_region 4 rfl ?_
    refine pli_ops 2 2 2 rfl rfl (by kernel_rfl) ?_
    refine bD [0, 0] 2 0 [(10, .func (.yield l_) #[] #[]), (11, iQ xk_)] [] <| zDN <| pli_yield 12 3 1 rfl rfl (by kernel_rfl) (by kernel_rfl) (R := fun v_ w_ => (v_ = .bool true ∧ ∃ b_, Inv (dn.map Prod.fst ++ [xk_]) b_ ∧ Tab w0 w_ ((objE ri (.mapIter (some mp) ck sn2 ck)) :: e1 :: e2 :: (.ro kb [.map (some mp)] 63) :: (roObjE mp (.map es ck)) :: (Tr b_))) ∨ (v_ = .bool false ∧ Jx w_)) (fun w_ hT_ => YieldAt.weaken (hY (dn.map Prod.fst) xk_ b w_ _ (fun _ => rfl) hI (by have h_ := hIP2.len; rw [List.length_append, List.length_singleton] at h_; rw [List.length_append, List.length_map, List.length_singleton]; exact h_) hT_) (fun e_ w_ h_ => by rcases h_ with ⟨rfl, hh_⟩ | ⟨rfl, hh_⟩; exact ⟨_, rfl, .inl ⟨rfl, hh_⟩⟩; exact ⟨_, rfl, .inr ⟨rfl, hh_⟩⟩)) ?_
    rintro a_ w_ v_ ha_ hf_ (⟨rfl, b, hI, hT_⟩ | ⟨rfl, hJ⟩)
    ·
      refine Cont.go ?_ ha_ hf_ hT_
      refine cM ?_
      refine pli_ops 1 0 4 rfl rfl (by kernel_rfl) ?_
      refine bD [0] 4 0 [(13, .bool false)] [] <| zDN <| pli_done ?_
      refine zN <| mcont_false rfl ?_
      refine mcont_skip ?_
      refine blk_normal <| zN <| cA (sn2, dn ++ [(xk_, vk_)], b) (show IterPP es l (sn2) (dn ++ [(xk_, vk_)]) ∧ Inv ((dn ++ [(xk_, vk_)]).map Prod.fst) (b) from ⟨hIP2, by rw [List.map_append]; exact hI⟩) (show l.length - (dn ++ [(xk_, vk_)]).length < l.length - dn.length from by have h_ := hIP2.len; rw [List.length_append, List.length_singleton] at h_ ⊢; omega)
    ·
      refine Cont.go ?_ ha_ hf_ (Tab.start w_)
      refine cM ?_
      refine pli_ops 1 0 4 rfl rfl (by kernel_rfl) ?_
      refine bD [0] 4 0 [(13, .bool true)] [] <| zDN <| pli_done ?_
      refine zN <| mcont_true rfl ?_
      refine mcont_ret ?_
      refine blk_ret <| then_ret <| blk_ret ?_
      refine ret_none (.inl rfl) rfl (fun w hT => ?_)
      exact ⟨⟨_, rfl⟩, .inr (hJx _ _ hJ (hT.toBelow (fun i e h => by simp at h)))⟩
theorem keysIter (kb mp : Nat) (es : Array MapEntry) (ck : Nat) (l : PmL) (hMF : MapFP es ck l) (w0 : World) : IterC Try.prog 40 #[pT kb] (fun x_ : Int => #[iQ x_]) w0 [.ro kb [.map (some mp)] 63, roObjE mp (.map es ck)] (fun _ => []) (fun xs_ => xs_.Perm (l.map Prod.fst)) (fun p_ => p_.length ≤ l.length) :=
  fun Inv Tr Jx l_ e1 e2 W1 b0 hJx hY h0 hT => keysIter0 kb mp es ck l hMF w0 Inv Tr Jx l_ e1 e2 W1 b0 hJx hY h0 hT
theorem appSeq (kb mp : Nat) (es : Array MapEntry) (ck : Nat) (l : PmL) (w : World) (hT0 : Tab w w [.ro kb [.map (some mp)] 63, roObjE mp (.map es ck)]) (hMF : MapFP es ck l) (hlb : l.length ≤ 1000000) :
    Calls Try.prog 50 #[.slice none 0 0, .func (.func 40) #[] #[pT kb]] w fun e w' => ∃ (A_ : Option Addr) (g_ k_ cp_ : Nat) (xs_ : List Int), e = .returned (.slice A_ k_ cp_) ∧ xs_.Perm (l.map Prod.fst) ∧ Tab w w' [.gen (rowE (A_) g_ k_ cp_ 3 1 (iV xs_) true)] := by
  refine enterM 13 [(0, .slice none 0 0), (1, .func (.func 40) #[] #[pT kb])] [.ro kb [.map (some mp)] 63, roObjE mp (.map es ck)] Try.func50 rfl Try.ntmps50 rfl (by kernel_rfl) hT0 ?_
  refine zSR 2 <| bW [0, 0] 2 0 (fun b1 => [(1, .func (.func 40) #[] #[pT kb]), (2, pT b1)]) (fun b1 => [.cells b1 [.slice none 0 0] 22 true, .ro kb [.map (some mp)] 63, roObjE mp (.map es ck)]) [1, 2] fun b1 => ?_
  refine zDNSSR 1 <| bD [0] 1 0 [(6, .func (.func 40) #[] #[pT kb])] [] <| zDNB <| cont_nilrow 3 1 ?_
  refine cM ?_
  refine cont_rowEq (k := .i64) 0 ([]) (([] : List Int)) rfl rfl ?_
  refine cont_pick [2, 3, 0, 1] [.ro kb [.map (some mp)] 63, roObjE mp (.map es ck), .gen (rowE (none) 0 0 0 3 1 (iV ([] : List Int)) true), .cells b1 [.slice none 0 0] 22 true] (by decide) rfl rfl ?_
  refine cont_rangeFunc (X := Int) (β := Option Addr × Nat × Nat × Nat × List Int) (γ := Unit) (gf := 40) (lb := #[pT kb]) (fun z_ : Int => #[iQ z_]) [.ro kb [.map (some mp)] 63, roObjE mp (.map es ck)] (fun z_ : Int => []) (fun xs_ => xs_.Perm (l.map Prod.fst)) (fun xs_ => xs_.length ≤ l.length) (fun (pre : List (Int)) (x_ : Option Addr × Nat × Nat × Nat × List Int) => x_.2.2.2.2 = pre) (fun x_ : Option Addr × Nat × Nat × Nat × List Int => [.gen (rowE (x_.1) x_.2.1 x_.2.2.1 x_.2.2.2.1 3 1 (iV x_.2.2.2.2) true), .cells b1 [.slice x_.1 x_.2.2.1 x_.2.2.2.1] 22 true]) (fun (_ : Code) (_ : Unit) => False) (fun x_ : Unit => []) (none, 0, 0, 0, ([] : List Int)) rfl (fun _ _ => rfl) (fun _ => rfl) (by kernel_rfl) (keysIter kb mp es ck l hMF _) rfl rfl ?_ ?_ ?_ ?_
  ·
    rintro l_ z3_ e3_ e3b_ e3q_ pre x ⟨A9, g9, k9, c9, xs9⟩ B_ hz_ hinv4_ hsp_ hB_
    replace hinv4_ : xs9 = pre := hinv4_
    replace hsp_ : (pre ++ [(x)]).length ≤ l.length := hsp_
    refine cM ?_
    refine mcont_region 1 rfl (by kernel_rfl) ?_
    refine bD [0] 1 0 [(5, iQ x)] [] <| zDN <| hB_ _ [z3_] [e3q_, .ro kb [.map (some mp)] 63, roObjE mp (.map es ck), .gen (rowE (A9) g9 k9 c9 3 1 (iV xs9) true), .cells b1 [.slice A9 k9 c9] 22 true] ?_
    refine cM ?_
    have hxs : xs9 = pre := hinv4_
    rw [List.length_append, List.length_singleton, ← hxs] at hsp_
    refine mcont_block ?_
    refine mcont_region 5 rfl (by kernel_rfl) ?_
    refine bW [6, 0, 0] 3 2 (fun b5 => [(2, pT b1), (8, .slice A9 k9 c9), (10, sL b5 1 1)]) (fun b5 => [.cells b5 [iQ x] 3 true, z3_, e3b_, e3q_, .ro kb [.map (some mp)] 63, roObjE mp (.map es ck), .gen (rowE (A9) g9 k9 c9 3 1 (iV xs9) true), .cells b1 [.slice A9 k9 c9] 22 true]) [2, 8, 10] fun b5 => ?_
    refine fI 6 k9 A9 g9 c9 xs9 rfl fun hr6_a hr6_l hr6_c hr6_m => ?_
    refine pS 4 1 <| sSW (α := Option Addr × Nat × Nat) 11 (Builtin.append_ #[22, 22] 22 #[.slice A9 k9 c9, sL b5 1 1]) (fun x_ => .slice x_.1 (k9 + 1) x_.2.2) (fun x_ => [.cells b5 [iQ x] 3 true, z3_, e3b_, e3q_, .ro kb [.map (some mp)] 63, roObjE mp (.map es ck), .gen (rowE (x_.1) x_.2.1 (k9 + 1) x_.2.2 3 1 (iV (xs9 ++ [x])) true), .cells b1 [.slice A9 k9 c9] 22 true]) (fun _ => True) (by kernel_rfl) (fun w hT => append_own (n' := (k9 + 1)) (z := iQ 0) hT (i := 6) (bytes := 8) rfl (by kernel_rfl) (by kernel_rfl) rfl (by decide) (by decide) (Rd.ofCells (vals := ivals .i64 [x]) (hT.ok 0 _ rfl) rfl rfl) (ivals_one .i64 [x]) (by omega) (ivals_append .i64 xs9 [x]) rfl) ?_
    rintro ⟨A7, g7, cp7⟩ -
    refine cM ?_
    refine fI 6 (k9 + 1) A7 g7 cp7 (xs9 ++ [x]) rfl fun hr8_a hr8_l hr8_c hr8_m => ?_
    refine bZ [7] 5 0 [] [.cells b5 [iQ x] 3 true, z3_, e3b_, e3q_, .ro kb [.map (some mp)] 63, roObjE mp (.map es ck), .gen (rowE (A7) g7 (k9 + 1) cp7 3 1 (iV (xs9 ++ [x])) true), .cells b1 [.slice A7 (k9 + 1) cp7] 22 true] <| fG 0 <| cDn <| blk_normal ?_
    refine rq_next (A7, g7, (k9 + 1), cp7, xs9 ++ [x]) (show (xs9 ++ [x]) = (pre ++ [x]) from (by rw [hxs])) rfl
  ·
    rintro D10_ xs_ ⟨A9, g9, k9, c9, xs9⟩ hS_ hinv9_
    replace hinv9_ : xs9 = xs_ := hinv9_
    replace hS_ : xs_.Perm (l.map Prod.fst) := hS_
    refine cM ?_
    have hxs : xs9 = xs_ := hinv9_
    refine blk_normal <| zN <| zSR 2 <| bS [4, 0] 2 0 [(4, .slice A9 k9 c9)] <| fG 4 <| zDNr <| mark_end 0 rfl (.inl rfl) ?_
    refine cM ?_
    refine rA rfl 0 (.slice A9 k9 c9) fun w hT => ?_
    replace hT := hT.erase 2 (fun e h hw => by cases h; first | rfl | cases hw)
    replace hT := hT.erase 1 (fun e h hw => by cases h; first | rfl | cases hw)
    replace hT := hT.erase 0 (fun e h hw => by cases h; first | rfl | cases hw)
    exact ⟨_, _, _, _, xs9, rfl, by rw [hxs]; exact hS_, hT⟩
  ·
    intro D_  c_ h_; exact h_.elim
  ·
    intro D_ id_ c_ h_; exact h_.elim
theorem collect12 (kb mp : Nat) (es : Array MapEntry) (ck : Nat) (l : PmL) (w : World) (hT0 : Tab w w [.ro kb [.map (some mp)] 63, roObjE mp (.map es ck)]) (hMF : MapFP es ck l) (hlb : l.length ≤ 1000000) :
    Calls Try.prog 38 #[.func (.func 40) #[] #[pT kb]] w fun e w' => ∃ (A_ : Option Addr) (g_ k_ cp_ : Nat) (xs_ : List Int), e = .returned (.slice A_ k_ cp_) ∧ xs_.Perm (l.map Prod.fst) ∧ Tab w w' [.gen (rowE (A_) g_ k_ cp_ 3 1 (iV xs_) true)] := by
  refine eN [(0, .func (.func 40) #[] #[pT kb])] Try.func38 Try.ntmps38 rfl hT0 ?_
  refine zSR 1 <| bD [0] 1 0 [] [2] <| zDNSR 3 <| bS [0] 1 2 [(3, .func (.func 40) #[] #[pT kb])] <| pS 2 1 <| cG (d := 4) (α := Option Addr × Nat × Nat × Nat × List Int) (fun x_ => .slice x_.1 x_.2.2.1 x_.2.2.2.1) (fun x_ => [.gen (rowE (x_.1) x_.2.1 x_.2.2.1 x_.2.2.2.1 3 1 (iV x_.2.2.2.2) true), .ro kb [.map (some mp)] 63, roObjE mp (.map es ck)]) (fun x_ => x_.2.2.2.2.Perm (l.map Prod.fst)) (fun w hT => (appSeq kb mp es ck l w (hT.viewRo (.cons (i := 0) rfl Vw.ro (.cons (i := 1) rfl Vw.roObj .nil)) rfl) hMF (by omega)).mono fun e w' ⟨A1, g2, k3, cp4, xs5, he_, hf_, ht_⟩ => ⟨(A1, g2, k3, cp4, xs5), he_, hf_, hT.news ht_ rfl⟩) ?_
  rintro ⟨A1, g2, k3, cp4, xs5⟩ hf6_
  replace hf6_ : xs5.Perm (l.map Prod.fst) := hf6_
  refine cM ?_
  refine fI 0 k3 A1 g2 cp4 xs5 rfl fun hr7_a hr7_l hr7_c hr7_m => ?_
  refine bS [0] 3 0 [(2, .slice A1 k3 cp4)] <| zDNr <| rA rfl 0 (.slice A1 k3 cp4) fun w hT => ?_
  replace hT := hT.erase 2 (fun e h hw => by cases h; first | rfl | cases hw)
  replace hT := hT.erase 1 (fun e h hw => by cases h; first | rfl | cases hw)
  exact ⟨_, _, _, _, _, rfl, hf6_, hT⟩
theorem sorted12 (kb mp : Nat) (es : Array MapEntry) (ck : Nat) (l : PmL) (w : World) (hT0 : Tab w w [.ro kb [.map (some mp)] 63, roObjE mp (.map es ck)]) (hMF : MapFP es ck l) (hlb : l.length ≤ 1000000) :
    Calls Try.prog 25 #[.func (.func 40) #[] #[pT kb]] w fun e w' => ∃ (A_ : Option Addr) (g_ k_ cp_ : Nat), e = .returned (.slice A_ k_ cp_) ∧ Tab w w' [.gen (rowE (A_) g_ k_ cp_ 3 1 (iV (sortL (l.map Prod.fst))) true)] := by
  refine eN [(0, .func (.func 40) #[] #[pT kb])] Try.func25 Try.ntmps25 rfl hT0 ?_
  refine zSR 1 <| bD [0] 1 0 [] [2] <| zDNSR 3 <| bS [0] 1 2 [(4, .func (.func 40) #[] #[pT kb])] <| pS 2 1 <| cG (d := 5) (α := Option Addr × Nat × Nat × Nat × List Int) (fun x_ => .slice x_.1 x_.2.2.1 x_.2.2.2.1) (fun x_ => [.gen (rowE (x_.1) x_.2.1 x_.2.2.1 x_.2.2.2.1 3 1 (iV x_.2.2.2.2) true), .ro kb [.map (some mp)] 63, roObjE mp (.map es ck)]) (fun x_ => x_.2.2.2.2.Perm (l.map Prod.fst)) (fun w hT => (collect12 kb mp es ck l w (hT.viewRo (.cons (i := 0) rfl Vw.ro (.cons (i := 1) rfl Vw.roObj .nil)) rfl) hMF (by omega)).mono fun e w' ⟨A1, g2, k3, cp4, xs5, he_, hf_, ht_⟩ => ⟨(A1, g2, k3, cp4, xs5), he_, hf_, hT.news ht_ rfl⟩) ?_
  rintro ⟨A1, g2, k3, cp4, xs5⟩ hf6_
  replace hf6_ : xs5.Perm (l.map Prod.fst) := hf6_
  refine cM ?_
  refine fI 0 k3 A1 g2 cp4 xs5 rfl fun hr7_a hr7_l hr7_c hr7_m => ?_
  refine bS [0] 3 0 [(3, .slice A1 k3 cp4)] <| zDNSR 2 ?_
  have hpl9 := hf6_.length_eq
  rw [List.length_map] at hpl9
  refine bD [0] 1 1 [(6, .slice A1 k3 cp4)] [] <| pS 2 0 <| cG (d := 7) (α := Unit) (fun _ => .tuple #[]) (fun _ => [.gen (rowE (A1) g2 k3 cp4 3 1 (iV (sortL xs5)) true), .ro kb [.map (some mp)] 63, roObjE mp (.map es ck)]) (fun _ => True) (fun w hT => (sortRow A1 g2 k3 cp4 xs5 w (hT.view (.cons (i := 0) rfl Vw.row .nil) (by decide)) (by omega)).mono fun e w' ⟨he_, ht_⟩ => ⟨(), he_, trivial, hT.merge (N := []) (s := [0]) ht_ (.cons (i := 0) rfl Mg.row .nil) (by decide) (fun i e h => by simp at h)⟩) (fun _ _ => ?_)
  refine zDNSR 2 <| bS [0, 0] 2 0 [(2, .slice A1 k3 cp4)] <| zDNr <| rA rfl 0 (.slice A1 k3 cp4) fun w hT => ?_
  replace hT := hT.erase 2 (fun e h hw => by cases h; first | rfl | cases hw)
  replace hT := hT.erase 1 (fun e h hw => by cases h; first | rfl | cases hw)
  rw [sortL_perm hf6_] at hT
  exact ⟨_, _, _, _, rfl, hT⟩
theorem keysFn (mp : Nat) (w : World) :
    Calls Try.prog 26 #[.map (some mp)] w fun e w' => ∃ kb : Nat, e = .returned (.func (.func 40) #[] #[pT kb]) ∧ Tab w w' [.cells kb [.map (some mp)] 63 true] := by
  refine eN [(0, .map (some mp))] Try.func26 Try.ntmps26 rfl (Tab.start w) ?_
  refine zSR 2 <| bW [0, 0] 2 0 (fun b1 => [(1, pT b1)]) (fun b1 => [.cells b1 [.map (some mp)] 63 true]) [1] fun b1 => ?_
  refine zDNSR 2 <| bS [0, 0] 2 0 [(2, .func (.func 40) #[] #[pT b1])] <| zDNr <| rA rfl 0 (.func (.func 40) #[] #[pT b1]) fun w hT => ?_
  exact ⟨_, rfl, hT⟩
theorem poolThere (p mp : Nat) (ds : List PB) (R : List Ent) (w0 w : World) (hT0 : Tab w0 w ((.cells p [iQ ((ds.length : Nat) : Int), .map (some mp)] 65 true) :: (.gen (mapE mp (pmsV (keysP (liveP ds))) true)) :: (.gen (allE 67 81 48 (liveP ds))) :: R)) (hlb : ds.length ≤ 1000000) :
    Calls Try.prog 12 #[pT p] w fun e w' => ∃ (A_ : Option Addr) (g_ k_ cp_ : Nat), e = .returned (.slice A_ k_ cp_) ∧ Tab w0 w' ((.gen (rowE (A_) g_ k_ cp_ 3 1 (iV (sortL ((keysP (liveP ds)).map Prod.fst))) true)) :: (.cells p [iQ ((ds.length : Nat) : Int), .map (some mp)] 65 true) :: (.gen (mapE mp (pmsV (keysP (liveP ds))) true)) :: (.gen (allE 67 81 48 (liveP ds))) :: R) := by
  have hlb2 : (keysP (liveP ds)).length ≤ 1000000 := by unfold keysP liveP; rw [List.length_map]; exact Nat.le_trans (List.length_filter_le _ _) hlb
  refine enterB 9 [(0, pT p)] ((.cells p [iQ ((ds.length : Nat) : Int), .map (some mp)] 65 true) :: (.gen (mapE mp (pmsV (keysP (liveP ds))) true)) :: (.gen (allE 67 81 48 (liveP ds))) :: R) Try.func12 rfl Try.ntmps12 rfl (by kernel_rfl) hT0 ?_
  refine zSR 1 <| bD [0] 1 0 [] [2] <| zDNSR 7 <| cont_openMapP 1 (l := keysP (liveP ds)) rfl (fun es ck hMF => ?_)
  refine cM ?_
  refine bS [0, 0, 0, 0] 4 3 [(6, .map (some mp))] <| pS 5 2 <| cG (d := 7) (α := Nat) (fun x_ => .func (.func 40) #[] #[pT x_]) (fun x_ => ((.cells x_ [.map (some mp)] 63 true) :: (.cells p [iQ ((ds.length : Nat) : Int), .map (some mp)] 65 true) :: (objE mp (.map es ck)) :: (.gen (allE 67 81 48 (liveP ds))) :: R)) (fun x_ => True) (fun w hT => (keysFn mp w).mono fun e w' ⟨kb1, he_, ht_⟩ => ⟨kb1, he_, trivial, hT.news ht_ rfl⟩) ?_
  rintro kb1 hf2_
  refine cM ?_
  refine pS 6 1 <| cG (d := 8) (α := Option Addr × Nat × Nat × Nat) (fun x_ => .slice x_.1 x_.2.2.1 x_.2.2.2) (fun x_ => ((.gen (rowE (x_.1) x_.2.1 x_.2.2.1 x_.2.2.2 3 1 (iV (sortL ((keysP (liveP ds)).map Prod.fst))) true)) :: (.cells kb1 [.map (some mp)] 63 true) :: (.cells p [iQ ((ds.length : Nat) : Int), .map (some mp)] 65 true) :: (objE mp (.map es ck)) :: (.gen (allE 67 81 48 (liveP ds))) :: R)) (fun x_ => True) (fun w hT => (sorted12 kb1 mp es ck (keysP (liveP ds)) w (hT.viewRo (.cons (i := 0) rfl Vw.roc (.cons (i := 2) rfl Vw.objRo .nil)) rfl) hMF (by omega)).mono fun e w' ⟨A3, g4, k5, cp6, he_, ht_⟩ => ⟨(A3, g4, k5, cp6), he_, trivial, hT.news ht_ rfl⟩) ?_
  rintro ⟨A3, g4, k5, cp6⟩ hf7_
  refine cM ?_
  refine fI 0 k5 A3 g4 cp6 (sortL ((keysP (liveP ds)).map Prod.fst)) rfl fun hr8_a hr8_l hr8_c hr8_m => ?_
  refine bS [0] 7 0 [(2, .slice A3 k5 cp6)] <| fG 1 <| zDNr <| cont_closeMapP 2 (l := keysP (liveP ds)) rfl hMF ?_
  refine cM ?_
  refine rA rfl 0 (.slice A3 k5 cp6) fun w hT => ?_
  exact ⟨_, _, _, _, rfl, hT⟩
end Go.Proofs.Ytkfdmfclndaanaa
namespace Go.Proofs.Ytkfdmfclndaanaa
open Go Go.RowKit
variable {P : Program}
theorem run_slice3 {t e : TypeId} {g o n cap sz : Nat} {kl kh km : IntKind} {l h m : Int} (hu : P.underlying t = some (.slice e)) (hi : (P.info? e).map (·.size) = some sz) (h0 : 0 ≤ l) (h1 : l < h) (h2 : h ≤ m) (h3 : m ≤ (cap : Int)) {off n' c' : Nat} (hl : off = o + l.toNat * sz) (hn' : n' = h.toNat - l.toNat) (hc' : c' = m.toNat - l.toNat) (w : World) :
    (Instr.sliceAt t (.slice (some ⟨g, o, none⟩) n cap) (some (.int kl l)) (some (.int kh h)) (some (.int km m))).run P w = .ok (.slice (some ⟨g, off, none⟩) n' c') w := by
  subst hl; subst hn'; subst hc'
  obtain ⟨i, hi1, hi2⟩ := Option.map_eq_some_iff.1 hi
  have ha : (⟨g, o, none⟩ : Addr).add (l.toNat * sz) = ⟨g, o + l.toNat * sz, none⟩ := by unfold Addr.add; split <;> simp_all
  have hle : l ≤ (h.toNat : Int) := by omega
  have hlm : h ≤ (m.toNat : Int) := by omega
  simp only [Instr.sliceAt, Instr.slice, Instr.sliceBounds, Instr.sliceBound, asIntOf]
  have e1 : max m 0 = m := by omega
  have e2 : max h 0 = h := by omega
  have e3 : ¬ m.toNat = l.toNat := by omega
  have e4 : l ≤ h := by omega
  simp [Sem.run_bind, run_underlying hu, h0, h2, h3, e1, e2, e3, e4, show (0 : Int) ≤ h by omega, show (0 : Int) ≤ m by omega, sizeOf, typeInfo, hi1, hi2, ha]
theorem run_sliceLoC {t e : TypeId} {g o n cap sz : Nat} {kl : IntKind} {l : Int} (ln : Nat) (hu : P.underlying t = some (.slice e)) (hi : (P.info? e).map (·.size) = some sz) (h0 : 0 ≤ l) (h1 : l ≤ (n : Int)) (h2 : n ≤ cap) (hl : l.toNat = ln) (w : World) :
    (Instr.sliceAt t (.slice (some ⟨g, o, none⟩) n cap) (some (.int kl l)) none none).run P w = .ok (.slice (sliceA g o ln cap sz) (n - ln) (cap - ln)) w := by
  subst hl
  obtain ⟨i, hi1, hi2⟩ := Option.map_eq_some_iff.1 hi
  have ha : (⟨g, o, none⟩ : Addr).add (l.toNat * sz) = ⟨g, o + l.toNat * sz, none⟩ := by unfold Addr.add; split <;> simp_all
  simp only [Instr.sliceAt, Instr.slice, Instr.sliceBounds, Instr.sliceBound, asIntOf]
  simp [Sem.run_bind, run_underlying hu, h0, h1, show (n : Int) ≤ cap by omega, sizeOf, typeInfo, hi1, hi2, ha, sliceA]
theorem Row.subA {w : World} {g n cap : Nat} {e : TypeId} {k : IntKind} {xs : List Int} {A B : Option Addr} (h : Row w A g n cap e 1 (ivals k xs)) {J m : Nat} (hJ : J + m ≤ n) (hB : 0 < m → B = some ⟨g, 0 + J * 1, none⟩) : Rd w B g (0 + J * 1) m 1 (ivals k ((xs.drop J).take m)) := by
  have h2 := h.sub (J := J) (m := m) hJ
  exact ⟨h2.len, hB, h2.cell⟩
def ChP (N : Nat) (p : List Nat) : Prop := p = List.range p.length ∧ p.length ≤ N
theorem ChP.nil (N : Nat) : ChP N [] := ⟨rfl, Nat.zero_le _⟩
theorem ChP.step {N : Nat} {p : List Nat} (hp : ChP N p) (hl : p.length < N) : ChP N (p ++ [p.length]) := by
  refine ⟨?_, by rw [List.length_append, List.length_singleton]; omega⟩
  rw [List.length_append, List.length_singleton, List.range_succ, ← hp.1]
theorem ChP.last {N : Nat} {p : List Nat} {x : Nat} (hp : ChP N (p ++ [x])) : x = p.length ∧ p.length < N := by
  obtain ⟨h1, h2⟩ := hp
  rw [List.length_append, List.length_singleton] at h1 h2
  rw [List.range_succ] at h1
  have := (List.append_inj h1 (by simp)).2
  exact ⟨by simpa using this, by omega⟩
def mkB (bs : List Int) (k : Nat) : Int := mkC (bs.getD (4 * k) 0) (bs.getD (4 * k + 1) 0) (bs.getD (4 * k + 2) 0) (bs.getD (4 * k + 3) 0)
theorem mkB_in (bs : List Int) (k : Nat) : 0 ≤ mkB bs k ∧ mkB bs k < 4294967296 := mkC_range _ _ _ _
def wrL (bs : List Int) (k : Nat) : List Int := (List.range k).map (mkB bs)
theorem wrL_succ (bs : List Int) (k : Nat) : wrL bs (k + 1) = wrL bs k ++ [mkB bs k] := by unfold wrL; rw [List.range_succ, List.map_append]; rfl
theorem wrL_get {bs : List Int} {k j : Nat} (h : j < k) : (wrL bs k)[j]? = some (mkB bs j) := by simp [wrL, h]
def okN (bs : List Int) (k : Nat) : Prop := ∀ j, j < k → mayB (mkB bs j) = true
theorem okN.step {bs : List Int} {k : Nat} (h : okN bs k) (hk : mayB (mkB bs k) = true) : okN bs (k + 1) := fun j hj => by
  rcases Nat.lt_or_ge j k with h1 | h1
  · exact h j h1
  · rw [show j = k by omega]; exact hk
def wIdx (W a b : Int) (w k : Nat) : Nat := Int.toNat ((b + ((k / w : Nat) : Int)) * W + a + ((k % w : Nat) : Int))
def wrS (W a b : Int) (w : Nat) (bs px : List Int) : Nat → List Int
  | 0 => px
  | k + 1 => (wrS W a b w bs px k).set (wIdx W a b w k) (mkB bs k)
theorem wrS_length (W a b : Int) (w : Nat) (bs px : List Int) : ∀ k, (wrS W a b w bs px k).length = px.length := by
  intro k
  induction k with
  | zero => rfl
  | succ k ih => simp [wrS, ih]
theorem wrS_part (W a b : Int) {w : Nat} (bs px : List Int) {j lo : Nat} (hlo : lo = Int.toNat ((b + (j : Int)) * W + a)) (h0 : 0 ≤ (b + (j : Int)) * W + a) (hl : lo + w ≤ px.length) : ∀ t, t ≤ w →
    wrS W a b w bs px (j * w + t) = (wrS W a b w bs px (j * w)).take lo ++ ((List.range t).map fun i => mkB bs (j * w + i)) ++ (wrS W a b w bs px (j * w)).drop (lo + t) := by
  intro t
  induction t with
  | zero => intro _; simp
  | succ t ih =>
    intro ht
    have hw : 0 < w := by omega
    rw [← Nat.add_assoc, wrS, ih (by omega)]
    have hi : wIdx W a b w (j * w + t) = lo + t := by
      unfold wIdx
      rw [show (j * w + t) / w = j by rw [Nat.add_comm, Nat.add_mul_div_right _ _ hw, Nat.div_eq_of_lt (by omega), Nat.zero_add], show (j * w + t) % w = t by rw [Nat.add_comm, Nat.add_mul_mod_self_right, Nat.mod_eq_of_lt (by omega)], hlo]
      omega
    have hlen := wrS_length W a b w bs px (j * w)
    rw [hi]
    have e1 : ((wrS W a b w bs px (j * w)).take lo ++ (List.range t).map fun i => mkB bs (j * w + i)).length = lo + t := by
      rw [List.length_append, List.length_take, List.length_map, List.length_range]; omega
    rw [List.set_append_right _ _ (by rw [e1]; exact Nat.le_refl _), e1, Nat.sub_self, List.range_succ, List.map_append]
    rw [show (wrS W a b w bs px (j * w)).drop (lo + t) = (wrS W a b w bs px (j * w))[lo + t] :: (wrS W a b w bs px (j * w)).drop (lo + t + 1) from List.drop_eq_getElem_cons (by omega)]
    simp only [List.set_cons_zero, List.map_cons, List.map_nil, List.append_assoc, List.singleton_append, List.cons_append, List.nil_append, Nat.add_assoc]
theorem wrL_part {bs : List Int} {N j w : Nat} (h : j * w + w ≤ N) : ((wrL bs N).drop (j * w)).take w = (List.range w).map fun i => mkB bs (j * w + i) := by
  refine List.ext_getElem? fun i => ?_
  rw [List.getElem?_take, List.getElem?_drop]
  split
  · rename_i hi
    rw [wrL_get (by omega), List.getElem?_map, List.getElem?_range hi]; rfl
  · rename_i hi
    rw [List.getElem?_eq_none (by simp; omega)]
theorem wrS_row {W H a b c d : Int} {n : Nat} {px bs : List Int} (hok : ImgOk W H n px) {j w N kn dl lo : Nat} (hg : 0 ≤ a ∧ a < c ∧ c ≤ W ∧ 0 ≤ b ∧ d ≤ H) (hj : b + (j : Int) < d) (hw : w = Int.toNat (c - a)) (hN : j * w + w ≤ N) (hkn : kn = N - j * w) (hlo : lo = Int.toNat ((b + (j : Int)) * W + a)) (hdl : dl = Int.toNat ((b + (j : Int)) * W + c) - Int.toNat ((b + (j : Int)) * W + a)) :
    (wrS W a b w bs px (j * w)).take lo ++ (((wrL bs N).drop (j * w)).take kn).take (min kn dl) ++ (wrS W a b w bs px (j * w)).drop (lo + min kn dl) = wrS W a b w bs px ((j + 1) * w) := by
  have hp := hok.place (x := W - 1) (y := b + (j : Int)) (by omega) (by omega) (by omega) (by omega)
  have hlen := hok.len
  have hdw : dl = w := by omega
  have hm : min kn dl = w := by omega
  rw [hm, List.take_take, show min w kn = w by omega, wrL_part hN, show (j + 1) * w = j * w + w by rw [Nat.add_mul, Nat.one_mul]]
  exact (wrS_part W a b bs px hlo (by omega) (by omega) w (Nat.le_refl _)).symm
def wrE (W H a b c d : Int) (bs : List Int) : Int := if insB W H a b c d = false then 4 else if (bs.length : Int) < 4 * areaI a b c d then 3 else if (bs.length : Int) > 4 * areaI a b c d then 2 else if (List.range (bs.length / 4)).all (fun k => mayB (mkB bs k)) = true then 0 else 1
def wrA (W H : Int) (px : List Int) (a b c d : Int) (bs : List Int) : List Int := if wrE W H a b c d bs = 0 then wrS W a b (Int.toNat (c - a)) bs px (bs.length / 4) else px
theorem wrA_no {W H a b c d : Int} {px bs : List Int} (h : wrE W H a b c d bs ≠ 0) : wrA W H px a b c d bs = px := if_neg h
theorem wrA_yes {W H a b c d : Int} {px bs : List Int} (h : wrE W H a b c d bs = 0) : wrA W H px a b c d bs = wrS W a b (Int.toNat (c - a)) bs px (bs.length / 4) := if_pos h
theorem wrE_ins {W H a b c d : Int} {bs : List Int} (h : insB W H a b c d = false) : wrE W H a b c d bs = 4 := if_pos h
theorem wrE_short {W H a b c d : Int} {bs : List Int} (h : insB W H a b c d = true) (h1 : (bs.length : Int) < 4 * areaI a b c d) : wrE W H a b c d bs = 3 := by unfold wrE; rw [if_neg (by rw [h]; simp), if_pos h1]
theorem wrE_long {W H a b c d : Int} {bs : List Int} (h : insB W H a b c d = true) (h1 : (bs.length : Int) > 4 * areaI a b c d) : wrE W H a b c d bs = 2 := by unfold wrE; rw [if_neg (by rw [h]; simp), if_neg (by omega), if_pos h1]
theorem wrE_bad {W H a b c d : Int} {bs : List Int} (h : insB W H a b c d = true) (h1 : (bs.length : Int) = 4 * areaI a b c d) {k N : Nat} (hN : N = bs.length / 4) (hk : k < N) (hm : mayB (mkB bs k) = false) : wrE W H a b c d bs = 1 := by
  unfold wrE
  rw [if_neg (by rw [h]; simp), if_neg (by omega), if_neg (by omega), if_neg]
  intro hall
  have := List.all_eq_true.1 hall k (List.mem_range.2 (by omega))
  rw [hm] at this; cases this
theorem wrE_ok {W H a b c d : Int} {bs : List Int} (h : insB W H a b c d = true) (h1 : (bs.length : Int) = 4 * areaI a b c d) {N : Nat} (hN : N = bs.length / 4) (hm : okN bs N) : wrE W H a b c d bs = 0 := by
  unfold wrE
  rw [if_neg (by rw [h]; simp), if_neg (by omega), if_neg (by omega), if_pos]
  exact List.all_eq_true.2 (fun k hk => hm k (by have := List.mem_range.1 hk; omega))
theorem ins_area {W H a b c d : Int} {n : Nat} {px : List Int} (hok : ImgOk W H n px) (h : insB W H a b c d = true) : areaI a b c d = (c - a) * (d - b) ∧ 1 ≤ areaI a b c d ∧ areaI a b c d ≤ 65536 := by
  obtain ⟨h1, h2, h3, h4, h5, h6⟩ := insB_true h
  have hw := hok.w2
  have hh := hok.h2
  have e : areaI a b c d = (c - a) * (d - b) := by unfold areaI; rw [emptyB_false.2 ⟨h1, h2⟩]; rfl
  have h7 : (c - a) * (d - b) ≤ 256 * 256 := mul_le_of (by omega) (by omega) (by omega) (by omega)
  have h8 : 1 * 1 ≤ (c - a) * (d - b) := mul_le_of (by omega) (by omega) (by omega) (by omega)
  omega
theorem wrS_in {W H a b : Int} {n w : Nat} {px bs : List Int} (hok : ImgOk W H n px) : ∀ k, ImgOk W H n (wrS W a b w bs px k) := by
  intro k
  refine ⟨hok.w1, hok.w2, hok.h1, hok.h2, hok.num, by rw [wrS_length]; exact hok.len, ?_⟩
  induction k with
  | zero => exact hok.rng
  | succ k ih =>
    intro c hc
    rcases List.mem_or_eq_of_mem_set hc with h | h
    · exact ih c h
    · rw [h]; exact mkB_in bs k
theorem ImgOk.wrA {W H a b c d : Int} {n : Nat} {px bs : List Int} (hok : ImgOk W H n px) : ImgOk W H n (wrA W H px a b c d bs) := by
  unfold Go.Proofs.Ytkfdmfclndaanaa.wrA
  split
  · exact wrS_in hok _
  · exact hok
theorem wrE_zero {W H a b c d : Int} {bs : List Int} (h : wrE W H a b c d bs = 0) : insB W H a b c d = true ∧ (bs.length : Int) = 4 * areaI a b c d ∧ okN bs (bs.length / 4) := by
  unfold wrE at h
  split at h
  · cases h
  · rename_i h1
    split at h
    · cases h
    · split at h
      · cases h
      · split at h
        · rename_i h2 h3 h4
          exact ⟨by simpa using h1, by omega, fun k hk => List.all_eq_true.1 h4 k (List.mem_range.2 hk)⟩
        · cases h
theorem getD_byte {bs : List Int} (h : ∀ x ∈ bs, 0 ≤ x ∧ x ≤ 255) (j : Nat) : 0 ≤ bs.getD j 0 ∧ bs.getD j 0 ≤ 255 := by
  rw [List.getD_eq_getElem?_getD]
  cases hj : bs[j]? with
  | none => exact ⟨by simp, by simp⟩
  | some v => exact h v (List.mem_of_getElem? hj)
theorem wIdx_eq {W a b c : Int} {wn i : Nat} (hwn : wn = Int.toNat (c - a)) (h : a < c) : Int.toNat ((b + (i : Int) / (c - a)) * W + a + (i : Int) % (c - a)) = wIdx W a b wn i := by
  have e : c - a = (wn : Int) := by omega
  rw [e]; rfl
theorem row_of {a b c d : Int} {N i : Nat} (hx : a < c) (hy : b < d) (h : (N : Int) = (c - a) * (d - b)) (hi : i < N) : 0 ≤ (i : Int) / (c - a) ∧ b + (i : Int) / (c - a) < d ∧ 0 ≤ (i : Int) % (c - a) ∧ (i : Int) % (c - a) < c - a := by
  refine ⟨Int.ediv_nonneg (by omega) (by omega), ?_, Int.emod_nonneg _ (by omega), Int.emod_lt_of_pos _ (by omega)⟩
  have : (i : Int) / (c - a) < d - b := Int.ediv_lt_of_lt_mul (by omega) (by rw [Int.mul_comm]; omega)
  omega
theorem area_nat {a b c d : Int} {N : Nat} (hx : a < c) (hy : b < d) (h : (N : Int) = (c - a) * (d - b)) {j : Nat} (hj : b + (j : Int) < d) : j * Int.toNat (c - a) + Int.toNat (c - a) ≤ N := by
  have h2 : (((j + 1) * Int.toNat (c - a) : Nat) : Int) ≤ (d - b) * (c - a) := by
    rw [Int.natCast_mul, show ((Int.toNat (c - a) : Nat) : Int) = c - a by omega]
    exact Int.mul_le_mul_of_nonneg_right (by omega) (by omega)
  rw [Int.mul_comm (d - b)] at h2
  have e : (j + 1) * Int.toNat (c - a) = j * Int.toNat (c - a) + Int.toNat (c - a) := by rw [Nat.add_mul, Nat.one_mul]
  omega
theorem area_end {a b c d : Int} {N : Nat} (hx : a < c) (hy : b < d) (h : (N : Int) = (c - a) * (d - b)) {j : Nat} (hj : (j : Int) = d - b) : j * Int.toNat (c - a) = N := by
  have h2 : ((j * Int.toNat (c - a) : Nat) : Int) = (d - b) * (c - a) := by
    rw [Int.natCast_mul, show ((Int.toNat (c - a) : Nat) : Int) = c - a by omega, hj]
  rw [Int.mul_comm (d - b)] at h2
  omega
end Go.Proofs.Ytkfdmfclndaanaa
namespace Go.Proofs.Ytkfdmfclndaanaa
open Go Go.RowKit
set_option maxRecDepth 100000
set_option maxHeartbeats 8000000
theorem sliceChunk (g o n cap : Nat) (w : World) :
    Calls Try.prog 43 #[.slice (some ⟨g, o, none⟩) n cap, iQ 4] w fun e w' => ∃ kb1 kb2 : Nat, e = .returned (.func (.func 55) #[] #[pT kb1, pT kb2]) ∧ Tab w w' [.cells kb2 [iQ 4] 3 true, .cells kb1 [.slice (some ⟨g, o, none⟩) n cap] 38 true] := by
 refine eN [(0, .slice (some ⟨g, o, none⟩) n cap), (1, iq 4)] Try.func43 Try.ntmps43 rfl (Tab.start w) ?_
 refine zSR 3 <| batch2 [0, 0, 0] 3 0 (fun b1 b2 => [(2, .pointer (pB b1)), (3, .pointer (pB b2))]) (fun b1 b2 => [.cells b2 [iq 4] 3 true, .cells b1 [.slice (some ⟨g, o, none⟩) n cap] 38 true]) rfl rfl [2, 3] (fun _ _ => rfl) (fun b1 b2 => by kernel_rfl) (fun b1 b2 => by kernel_rfl) (fun b1 b2 => ?_)
 refine zDNSSR 2 <| bD [0, 0] 2 0 [(6, .bool false)] [5] <| zDNFKNSR 2 <| bS [0, 0] 2 0 [(4, .func (.func 55) #[] #[.pointer (pB b1), .pointer (pB b2)])] <| zDNr <| rA rfl 0 (.func (.func 55) #[] #[.pointer (pB b1), .pointer (pB b2)]) fun w hT => ?_
 exact ⟨_, _, rfl, hT⟩
theorem chunkIter0 (kb1 kb2 : Nat) (A : Option Addr) (g o n cap : Nat) (xs : List Int) (N : Nat) (hN : n = 4 * N) (hcap : n ≤ cap) (hm : n ≤ 1048576) (w0 : World) {β : Type} (Inv : List Nat → β → Prop) (Tr : β → List Ent) (Jx : World → Prop) (l_ : Nat) (e1 e2 : Ent) (w : World) (b0 : β) (hJx : ∀ w w', Jx w → Below w.heap.size w w' → Jx w') (hY : ∀ pre x b W1 z, (z.wr = true → z.own = true) → Inv pre b → ChP N (pre ++ [x]) → Tab w0 W1 ([] ++ (z :: e1 :: e2 :: (.ro kb1 [.slice (some ⟨g, o, none⟩) n cap] 38) :: (.ro kb2 [iQ 4] 3) :: (rD (A) g o n 1 (ivals .u8 xs)) :: (Tr b))) → YieldAt Fence.wide 0 Try.prog l_ #[.slice (some ⟨g, o + 4 * x, none⟩) 4 4] W1 fun e W' => (e = .returned (.bool true) ∧ ∃ b', Inv (pre ++ [x]) b' ∧ Tab w0 W' (z :: e1 :: e2 :: (.ro kb1 [.slice (some ⟨g, o, none⟩) n cap] 38) :: (.ro kb2 [iQ 4] 3) :: (rD (A) g o n 1 (ivals .u8 xs)) :: (Tr b'))) ∨ (e = .returned (.bool false) ∧ Jx W')) (h0 : Inv [] b0) (hT0 : Tab w0 w (e1 :: e2 :: (.ro kb1 [.slice (some ⟨g, o, none⟩) n cap] 38) :: (.ro kb2 [iQ 4] 3) :: (rD (A) g o n 1 (ivals .u8 xs)) :: (Tr b0))) :
    Calls Try.prog 55 #[.func (.yield l_) #[] #[], pT kb1, pT kb2] w fun e W' => (∃ v, e = .returned v) ∧ ((∃ xs_ b', (ChP N xs_ ∧ xs_.length = N) ∧ Inv xs_ b' ∧ Tab w0 W' (e1 :: e2 :: (.ro kb1 [.slice (some ⟨g, o, none⟩) n cap] 38) :: (.ro kb2 [iQ 4] 3) :: (rD (A) g o n 1 (ivals .u8 xs)) :: (Tr b'))) ∨ Jx W') := by
 refine enterI 31 [(0, .func (.yield l_) #[] #[]), (1, .pointer (pB kb1)), (2, .pointer (pB kb2))] (e1 :: e2 :: (.ro kb1 [.slice (some ⟨g, o, none⟩) n cap] 38) :: (.ro kb2 [iq 4] 3) :: (rD (A) g o n 1 (ivals .u8 xs)) :: (Tr b0)) Try.func55 rfl Try.ntmps55 rfl (by kernel_rfl) hT0 (fun _ h_ => by simp at h_) ?_
 refine mcont_seq ?_
 refine mcont_region 1 rfl (by kernel_rfl) ?_
 refine bD [0] 1 0 [(4, iq 0)] [] <| zDN <| mcont_block ?_
 refine cont_nilrow 5 1 ?_
 refine rC 4 (iq ((4 * ([] : List Nat).length : Nat) : Int)) rfl (congrArg (Value.int .i64) (by simp)) <| mcont_loop (α := List Nat × β) (fun x_ : List Nat × β => ChP N x_.1 ∧ Inv x_.1 x_.2) (fun x_ : List Nat × β => [(0, .func (.yield l_) #[] #[]), (1, .pointer (pB kb1)), (2, .pointer (pB kb2)), (4, iq ((4 * x_.1.length : Nat) : Int))]) (fun x_ : List Nat × β => ((.gen (rowE (none) 0 0 0 5 1 (ivals .u8 []) true)) :: e1 :: e2 :: (.ro kb1 [.slice (some ⟨g, o, none⟩) n cap] 38) :: (.ro kb2 [iq 4] 3) :: (rD (A) g o n 1 (ivals .u8 xs)) :: (Tr x_.2))) (fun x_ : List Nat × β => N - x_.1.length) ([], b0) (show ChP N ([]) ∧ Inv ([]) (b0) from ⟨ChP.nil _, h0⟩) (by kernel_rfl) (by kernel_rfl) ?_
 rintro ⟨pre, b⟩ hinv2_
 replace hinv2_ : ChP N pre ∧ Inv pre b := hinv2_
 obtain ⟨hP, hI⟩ := hinv2_
 have hpl := hP.2
 refine mcont_seq ?_
 refine mcont_seq ?_
 refine mcont_region 4 rfl (by kernel_rfl) ?_
 refine bD [0, 3, 0, 0] 4 0 [(9, .bool (decide (((4 * pre.length : Nat) : Int) < (n : Int))))] [6, 7, 8] <| zDN <| sD 9 rfl (fun c3_ => ?_) fun c3_ => ?_
 ·
  refine mcont_true rfl ?_
  refine mcont_skip ?_
  refine zN <| mcont_seq ?_
  refine mcont_block ?_
  refine mcont_seq ?_
  refine mdrawn_enter 7 [] rfl (by kernel_rfl) (by kernel_rfl) ?_
  refine tD 0 [] [(0, 4), (1, 3), (2, 0)] 4 [2, 1, 0] [(13, iq 4), (14, .slice (some ⟨g, o, none⟩) n cap), (15, iq ((4 * pre.length : Nat) : Int))] [] <| sT 0 [] 3 3 16 (Instr.sliceAt 38 (.slice (some ⟨g, o, none⟩) n cap) (some (iq ((4 * pre.length : Nat) : Int))) none none) (.slice (sliceA g o (4 * pre.length : Nat) cap 1) (n - (4 * pre.length : Nat)) (cap - (4 * pre.length : Nat))) (fun w hT => run_sliceLoC (e := 5) (sz := 1) _ (by kernel_rfl) (by kernel_rfl) (by omega) (by omega) (by omega) (by omega) w) <| tD 0 [] [(4, 0), (5, 0), (6, 0)] 0 [6, 5, 4, 3, 2, 1, 0] [(5, iq (mn 4 (((n - (4 * pre.length : Nat)) : Nat) : Int)))] [17, 18] <| dD <| zN <| mcont_seq ?_
  refine icont_region 12 rfl ?_
  refine pli_ops 10 2 10 rfl rfl (by kernel_rfl) ?_
  refine rC 5 (iq 4) rfl (congrArg (Value.int .i64) (by unfold mn; split <;> omega)) <| bD [0, 3, 0, 0, 0, 0] 6 4 [(19, .func (.yield l_) #[] #[]), (20, .slice (some ⟨g, o, none⟩) n cap), (21, iq ((4 * pre.length : Nat) : Int)), (24, iq (IntKind.i64.wrap (((4 * pre.length : Nat) : Int) + 4)))] [22, 23] <| wI 24 (((4 * pre.length : Nat) : Int) + 4) <| bD [0, 0, 0] 9 1 [(27, iq (IntKind.i64.wrap (((4 * pre.length : Nat) : Int) + 4)))] [25, 26] <| wI 27 (((4 * pre.length : Nat) : Int) + 4) <| pS 10 0 <| sS 28 (Instr.sliceAt 38 (.slice (some ⟨g, o, none⟩) n cap) (some (iq ((4 * pre.length : Nat) : Int))) (some (iq (((4 * pre.length : Nat) : Int) + 4))) (some (iq (((4 * pre.length : Nat) : Int) + 4)))) (.slice (some ⟨g, o + 4 * pre.length, none⟩) 4 4) (fun w hT => run_slice3 (e := 5) (sz := 1) (by kernel_rfl) (by kernel_rfl) (by omega) (by omega) (by omega) (by omega) (by omega) (by omega) (by omega) w) <| zDN ?_
  have hP2 : ChP N (pre ++ [pre.length]) := hP.step (by omega)
  refine pli_yield 29 11 1 rfl rfl (by kernel_rfl) (by kernel_rfl) (R := fun v_ w_ => (v_ = .bool true ∧ ∃ b_, Inv (pre ++ [pre.length]) b_ ∧ Tab w0 w_ ((.gen (rowE (none) 0 0 0 5 1 (ivals .u8 []) true)) :: e1 :: e2 :: (.ro kb1 [.slice (some ⟨g, o, none⟩) n cap] 38) :: (.ro kb2 [iq 4] 3) :: (rD (A) g o n 1 (ivals .u8 xs)) :: (Tr b_))) ∨ (v_ = .bool false ∧ Jx w_)) (fun w_ hT_ => YieldAt.weaken (hY pre pre.length b w_ _ (fun _ => rfl) hI hP2 hT_) (fun e_ w_ h_ => by rcases h_ with ⟨rfl, hh_⟩ | ⟨rfl, hh_⟩; exact ⟨_, rfl, .inl ⟨rfl, hh_⟩⟩; exact ⟨_, rfl, .inr ⟨rfl, hh_⟩⟩)) ?_
  rintro a_ w_ v_ ha_ hf_ (⟨rfl, b, hI, hT_⟩ | ⟨rfl, hJ⟩)
  ·
   refine Cont.go ?_ ha_ hf_ hT_
   refine pli_ops 1 0 12 rfl rfl (by kernel_rfl) ?_
   refine bD [0] 12 0 [(30, .bool false)] [] <| zDN <| pli_done ?_
   refine zN <| mcont_false rfl ?_
   refine mcont_skip ?_
   refine blk_normal <| zN <| mcont_region 4 rfl (by kernel_rfl) ?_
   refine bD [0, 4, 0] 3 1 [(12, iq (IntKind.i64.wrap (((4 * pre.length : Nat) : Int) + 4)))] [10, 11] <| wI 12 (((4 * pre.length : Nat) : Int) + 4) <| bD [0] 4 0 [(4, iq (((4 * pre.length : Nat) : Int) + 4))] [] <| zDN <| rC 4 (iq ((4 * (pre ++ [pre.length]).length : Nat) : Int)) rfl (congrArg (Value.int .i64) (by rw [List.length_append, List.length_singleton]; omega)) <| cA (pre ++ [pre.length], b) (show ChP N (pre ++ [pre.length]) ∧ Inv (pre ++ [pre.length]) (b) from ⟨hP2, hI⟩) (show N - (pre ++ [pre.length]).length < N - pre.length from by have h_ := hP2.2; rw [List.length_append, List.length_singleton] at h_ ⊢; omega)
  ·
   refine Cont.go ?_ ha_ hf_ (Tab.start w_)
   refine pli_ops 1 0 12 rfl rfl (by kernel_rfl) ?_
   refine bD [0] 12 0 [(30, .bool true)] [] <| zDN <| pli_done ?_
   refine zN <| mcont_true rfl ?_
   refine mcont_ret ?_
   refine blk_ret <| then_ret <| then_ret <| blk_ret ?_
   refine ret_none (.inl rfl) rfl (fun w hT => ?_)
   exact ⟨⟨_, rfl⟩, .inr (hJx _ _ hJ (hT.toBelow (fun i e h => by simp at h)))⟩
 refine mcont_false rfl ?_
 refine mcont_exit ?_
 refine then_exit <| then_exit <| blk_exit ?_
 refine ret_none (.inr rfl) rfl (fun w hT => ?_)
 exact ⟨⟨_, rfl⟩, .inl ⟨pre, b, ⟨hP, by omega⟩, hI, hT.drop (fun _ => rfl)⟩⟩
theorem chunkIter (kb1 kb2 : Nat) (A : Option Addr) (g o n cap : Nat) (xs : List Int) (N : Nat) (hN : n = 4 * N) (hcap : n ≤ cap) (hm : n ≤ 1048576) (w0 : World) : IterC Try.prog 55 #[pT kb1, pT kb2] (fun z_ : Nat => #[.slice (some ⟨g, o + 4 * z_, none⟩) 4 4]) w0 [.ro kb1 [.slice (some ⟨g, o, none⟩) n cap] 38, .ro kb2 [iQ 4] 3, rD (A) g o n 1 (ivals .u8 xs)] (fun _ => []) (fun xs_ => ChP N xs_ ∧ xs_.length = N) (fun p_ => ChP N p_) :=
  fun Inv Tr Jx l e1 e2 W1 b0 hJx hY h0 hT => chunkIter0 kb1 kb2 A g o n cap xs N hN hcap hm w0 Inv Tr Jx l e1 e2 W1 b0 hJx hY h0 hT
theorem imgWrite (m : Nat) (W H : Int) (r n cap : Nat) (px : List Int) (a b c d : Int) (A2 : Option Addr) (g2 o2 n2 cap2 : Nat) (xs2 : List Int) (w : World) (hT0 : Tab w w [.ro m [iQ W, iQ H, sL r n cap] 81, .gen (rowE (some ⟨r, 0, none⟩) r n cap 48 1 (cV px) false), rD (A2) g2 o2 n2 1 (ivals .u8 xs2)]) (hok : ImgOk W H n px) (hcap : n ≤ cap) (hc2 : n2 ≤ cap2) (hx2 : ∀ x ∈ xs2, 0 ≤ x ∧ x ≤ 255) :
    Calls Try.prog 27 #[pT m, .agg #[iQ a, iQ b, iQ c, iQ d], .slice A2 n2 cap2] w fun e w' => e = .returned (iQ (wrE W H a b c d xs2)) ∧ Tab w w' [.ro m [iQ W, iQ H, sL r n cap] 81, .gen (rowE (some ⟨r, 0, none⟩) r n cap 48 1 (cV (wrA W H px a b c d xs2)) false)] := by
  have hw1 := hok.w1
  have hw2 := hok.w2
  have hh1 := hok.h1
  have hh2 := hok.h2
  have hnum := hok.num
  have hlen := hok.len
  have hle := hok.le
  have hra2 := ((hT0.ok 2 _ rfl : Rd w A2 g2 o2 n2 1 (ivals .u8 xs2)).at_)
  have hl2 : xs2.length = n2 := Rd.flen (hT0.ok 2 _ rfl)
  refine enterM 78 [(0, pT m), (1, .agg #[iQ a, iQ b, iQ c, iQ d]), (2, .slice A2 n2 cap2)] [.ro m [iQ W, iQ H, sL r n cap] 81, .gen (rowE (some ⟨r, 0, none⟩) r n cap 48 1 (cV px) false), rD (A2) g2 o2 n2 1 (ivals .u8 xs2)] Try.func27 rfl Try.ntmps27 rfl (by kernel_rfl) hT0 ?_
  refine cont_fact (F := (0 < n2 → (A2 : Option Addr) = some ⟨g2, o2, none⟩) ∧ xs2.length = n2) (fun w hT => Rd.facts (hT.ok 2 _ rfl)) (fun hl1_ => ?_)
  obtain ⟨hl1_a, hl1_l⟩ := hl1_
  refine zSR 2 <| batch2 [0, 0] 2 0 (fun b2 b3 => [(0, pT m), (2, .slice A2 n2 cap2), (4, pT b2), (6, pT b3)]) (fun b2 b3 => [.cells b3 [iQ 0] 26 true, .cells b2 [iQ a, iQ b, iQ c, iQ d] 37 true, .ro m [iQ W, iQ H, sL r n cap] 81, .gen (rowE (some ⟨r, 0, none⟩) r n cap 48 1 (cV px) false), rD (A2) g2 o2 n2 1 (ivals .u8 xs2)]) rfl rfl [0, 2, 4, 6] (fun _ _ => rfl) (fun b2 b3 => by kernel_rfl) (fun b2 b3 => by kernel_rfl) (fun b2 b3 => ?_)
  refine zDNS <| cont_block <| zSR 5 <| bD [0, 1] 2 3 [(13, pT m), (14, .agg #[iQ a, iQ b, iQ c, iQ d])] [] <| pS 3 2 <| cP 15 (.bool (insB W H a b c d)) (fun w hT => imgIns m W H r n cap px a b c d w ⟨hT.ok 2 _ rfl, Row.rd (hT.ok 3 _ rfl), Row.capLe (hT.ok 3 _ rfl)⟩ hok) <| bD [0, 0] 5 0 [(12, .bool (!(insB W H a b c d)))] [16] <| zDN <| cSp 12 _ rfl (fun c4_ => ?_) fun c4_ => ?_
  ·
    replace c4_ : (insB W H a b c d) = false := by simpa using c4_
    have hgF : insB W H a b c d = false := c4_
    refine zTSR 1 <| bZ [0] 1 0 [(6, pT b3)] [.cells b3 [iQ 4] 26 true, .cells b2 [iQ a, iQ b, iQ c, iQ d] 37 true, .ro m [iQ W, iQ H, sL r n cap] 81, .gen (rowE (some ⟨r, 0, none⟩) r n cap 48 1 (cV px) false), rD (A2) g2 o2 n2 1 (ivals .u8 xs2)] <| fG 1 <| zDNrut <| plain_end (.inl rfl) ?_
    refine rA rfl 0 (iQ 4) fun w hT => ?_
    replace hT := hT.erase 3 (fun e h hw => by cases h; first | rfl | cases hw)
    replace hT := hT.erase 0 (fun e h hw => by cases h; first | rfl | cases hw)
    have hE : wrE W H a b c d xs2 = 4 := wrE_ins hgF
    exact ⟨ret_int hE.symm, by rw [wrA_no (by rw [hE]; decide)]; exact hT⟩
  replace c4_ : (insB W H a b c d) = true := by simpa using c4_
  have hg : insB W H a b c d = true := c4_
  obtain ⟨hg1, hg2, hg3, hg4, hg5, hg6⟩ := insB_true hg
  obtain ⟨har0, har1, har2⟩ := ins_area hok hg
  refine cFa rfl <| zSR 7 <| bD [0, 0, 1] 3 4 [(19, iQ (n2 : Int)), (20, .agg #[iQ a, iQ b, iQ c, iQ d])] [18] <| pS 4 3 <| cP 21 (iQ (areaI a b c d)) (fun w hT => rectArea a b c d w (by omega) (by omega) (by omega) (by omega)) <| bD [0] 5 2 [(22, iQ (IntKind.i64.wrap (4 * (areaI a b c d))))] [] <| wI 22 (4 * (areaI a b c d)) <| bD [0, 0] 7 0 [(17, .bool (decide ((n2 : Int) < (4 * (areaI a b c d)))))] [23] <| zDN <| sD 17 rfl (fun c5_ => ?_) fun c5_ => ?_
  ·
    refine zTSR 1 <| bZ [0] 1 0 [(6, pT b3)] [.cells b3 [iQ 3] 26 true, .cells b2 [iQ a, iQ b, iQ c, iQ d] 37 true, .ro m [iQ W, iQ H, sL r n cap] 81, .gen (rowE (some ⟨r, 0, none⟩) r n cap 48 1 (cV px) false), rD (A2) g2 o2 n2 1 (ivals .u8 xs2)] <| fG 1 <| zDNrut <| plain_end (.inl rfl) ?_
    refine rA rfl 0 (iQ 3) fun w hT => ?_
    replace hT := hT.erase 3 (fun e h hw => by cases h; first | rfl | cases hw)
    replace hT := hT.erase 0 (fun e h hw => by cases h; first | rfl | cases hw)
    have hE : wrE W H a b c d xs2 = 3 := wrE_short hg (by omega)
    exact ⟨ret_int hE.symm, by rw [wrA_no (by rw [hE]; decide)]; exact hT⟩
  refine cFa rfl <| zSR 7 <| bD [0, 0, 1] 3 4 [(26, iQ (n2 : Int)), (27, .agg #[iQ a, iQ b, iQ c, iQ d])] [25] <| pS 4 3 <| cP 28 (iQ (areaI a b c d)) (fun w hT => rectArea a b c d w (by omega) (by omega) (by omega) (by omega)) <| bD [0] 5 2 [(29, iQ (IntKind.i64.wrap (4 * (areaI a b c d))))] [] <| wI 29 (4 * (areaI a b c d)) <| bD [0, 0] 7 0 [(24, .bool (decide ((n2 : Int) > (4 * (areaI a b c d)))))] [30] <| zDN <| sD 24 rfl (fun c6_ => ?_) fun c6_ => ?_
  ·
    refine zTSR 1 <| bZ [0] 1 0 [(6, pT b3)] [.cells b3 [iQ 2] 26 true, .cells b2 [iQ a, iQ b, iQ c, iQ d] 37 true, .ro m [iQ W, iQ H, sL r n cap] 81, .gen (rowE (some ⟨r, 0, none⟩) r n cap 48 1 (cV px) false), rD (A2) g2 o2 n2 1 (ivals .u8 xs2)] <| fG 1 <| zDNrut <| plain_end (.inl rfl) ?_
    refine rA rfl 0 (iQ 2) fun w hT => ?_
    replace hT := hT.erase 3 (fun e h hw => by cases h; first | rfl | cases hw)
    replace hT := hT.erase 0 (fun e h hw => by cases h; first | rfl | cases hw)
    have hE : wrE W H a b c d xs2 = 2 := wrE_long hg (by omega)
    exact ⟨ret_int hE.symm, by rw [wrA_no (by rw [hE]; decide)]; exact hT⟩
  refine cFa rfl <| cont_skip <| blk_normal <| zN <| zSR 1 <| bW [0] 1 0 (fun b7 => [(0, pT m), (2, .slice A2 n2 cap2), (4, pT b2), (6, pT b3), (7, pT b7)]) (fun b7 => [.cells b7 [.slice none 0 0] 79 true, .cells b3 [iQ 0] 26 true, .cells b2 [iQ a, iQ b, iQ c, iQ d] 37 true, .ro m [iQ W, iQ H, sL r n cap] 81, .gen (rowE (some ⟨r, 0, none⟩) r n cap 48 1 (cV px) false), rD (A2) g2 o2 n2 1 (ivals .u8 xs2)]) [0, 2, 4, 6, 7] fun b7 => ?_
  refine zDNSSR 2 ?_
  obtain ⟨N, hN⟩ : ∃ N : Nat, (N : Int) = areaI a b c d := ⟨Int.toNat (areaI a b c d), by omega⟩
  refine bD [0] 1 1 [(31, .slice A2 n2 cap2)] [] <| pS 2 0 <| rC 31 (.slice (some ⟨g2, o2, none⟩) n2 cap2) rfl (by rw [hl1_a (by omega)]) <| cG (d := 32) (α := Nat × Nat) (fun x_ => .func (.func 55) #[] #[pT x_.1, pT x_.2]) (fun x_ => [.cells x_.2 [iQ 4] 3 true, .cells x_.1 [.slice (some ⟨g2, o2, none⟩) n2 cap2] 38 true, .cells b7 [.slice none 0 0] 79 true, .cells b3 [iQ 0] 26 true, .cells b2 [iQ a, iQ b, iQ c, iQ d] 37 true, .ro m [iQ W, iQ H, sL r n cap] 81, .gen (rowE (some ⟨r, 0, none⟩) r n cap 48 1 (cV px) false), rD (A2) g2 o2 n2 1 (ivals .u8 xs2)]) (fun x_ => True) (fun w hT => (sliceChunk g2 o2 n2 cap2 w).mono fun e w' ⟨kb18, kb29, he_, ht_⟩ => ⟨(kb18, kb29), he_, trivial, hT.news ht_ rfl⟩) ?_
  rintro ⟨kb18, kb29⟩ hf10_
  refine cM ?_
  refine zDNB <| cont_weaken 1 (.ro kb18 [.slice (some ⟨g2, o2, none⟩) n2 cap2] 38) rfl rfl Vw.roc rfl ?_
  refine cM ?_
  refine cont_weaken 0 (.ro kb29 [iQ 4] 3) rfl rfl Vw.roc rfl ?_
  refine cM ?_
  refine cont_nilrow 48 1 ?_
  refine cM ?_
  refine cont_pick [2, 1, 8, 0, 3, 4, 5, 6, 7] [.ro kb18 [.slice (some ⟨g2, o2, none⟩) n2 cap2] 38, .ro kb29 [iQ 4] 3, rD (A2) g2 o2 n2 1 (ivals .u8 xs2), .gen (rowE (none) 0 0 0 48 1 (ivals .u32 []) true), .cells b7 [.slice none 0 0] 79 true, .cells b3 [iQ 0] 26 true, .cells b2 [iQ a, iQ b, iQ c, iQ d] 37 true, .ro m [iQ W, iQ H, sL r n cap] 81, .gen (rowE (some ⟨r, 0, none⟩) r n cap 48 1 (cV px) false)] (by decide) rfl rfl ?_
  refine cont_rangeFunc (X := Nat) (β := Nat × Option Addr × Nat × Nat) (γ := Unit) (gf := 55) (lb := #[pT kb18, pT kb29]) (fun z_ : Nat => #[.slice (some ⟨g2, o2 + 4 * z_, none⟩) 4 4]) [.ro kb18 [.slice (some ⟨g2, o2, none⟩) n2 cap2] 38, .ro kb29 [iQ 4] 3, rD (A2) g2 o2 n2 1 (ivals .u8 xs2)] (fun z_ : Nat => []) (fun xs_ => ChP N xs_ ∧ xs_.length = N) (fun xs_ => ChP N xs_) (fun (pre : List (Nat)) (x_ : Nat × Option Addr × Nat × Nat) => x_.1 = pre.length ∧ okN xs2 x_.1) (fun x_ : Nat × Option Addr × Nat × Nat => [.gen (rowE (x_.2.1) x_.2.2.1 x_.1 x_.2.2.2 48 1 (cV (wrL xs2 x_.1)) true), .cells b7 [.slice x_.2.1 x_.1 x_.2.2.2] 79 true, .cells b3 [iQ 0] 26 true, .cells b2 [iQ a, iQ b, iQ c, iQ d] 37 true, .ro m [iQ W, iQ H, sL r n cap] 81, .gen (rowE (some ⟨r, 0, none⟩) r n cap 48 1 (cV px) false)]) (fun (c_ : Code) (x_ : Unit) => (c_ = .ret ∧ ∃ k_, k_ < N ∧ mayB (mkB xs2 k_) = false)) (fun x_ : Unit => [.cells b3 [iQ 1] 26 true, .ro m [iQ W, iQ H, sL r n cap] 81, .gen (rowE (some ⟨r, 0, none⟩) r n cap 48 1 (cV px) false)]) (0, none, 0, 0) rfl (fun _ _ => rfl) (fun _ => rfl) (by kernel_rfl) (chunkIter kb18 kb29 A2 g2 o2 n2 cap2 xs2 N (by omega) hc2 (by omega) _) (⟨rfl, fun j hj => by omega⟩) rfl ?_ ?_ ?_ ?_
  ·
    rintro l_ z12_ e12_ e12b_ e12q_ pre kk ⟨k, Ao, gw, co⟩ B_ hz_ hinv13_ hsp_ hB_
    replace hinv13_ : k = pre.length ∧ okN xs2 k := hinv13_
    replace hsp_ : ChP N (pre ++ [(kk)]) := hsp_
    refine cM ?_
    refine mcont_region 1 rfl (by kernel_rfl) ?_
    refine bD [0] 1 0 [(8, .slice (some ⟨g2, o2 + 4 * kk, none⟩) 4 4)] [] <| zDN <| hB_ _ [z12_] [e12q_, .ro kb18 [.slice (some ⟨g2, o2, none⟩) n2 cap2] 38, .ro kb29 [iQ 4] 3, rD (A2) g2 o2 n2 1 (ivals .u8 xs2), .gen (rowE (Ao) gw k co 48 1 (cV (wrL xs2 k)) true), .cells b7 [.slice Ao k co] 79 true, .cells b3 [iQ 0] 26 true, .cells b2 [iQ a, iQ b, iQ c, iQ d] 37 true, .ro m [iQ W, iQ H, sL r n cap] 81, .gen (rowE (some ⟨r, 0, none⟩) r n cap 48 1 (cV px) false)] ?_
    refine cM ?_
    obtain ⟨hkp, hokn⟩ := hinv13_
    obtain ⟨hkk0, hlt_⟩ := hsp_.last
    have hkk : kk = k := by omega
    have hmk := mkB_in xs2 kk
    have hb0 := getD_byte hx2 (4 * kk + 0)
    have hb1 := getD_byte hx2 (4 * kk + 1)
    have hb2 := getD_byte hx2 (4 * kk + 2)
    have hb3 := getD_byte hx2 (4 * kk + 3)
    refine mcont_block ?_
    refine mcont_seq ?_
    refine mdrawn_enter 18 [] rfl (by kernel_rfl) (by kernel_rfl) ?_
    refine tD 0 [] [(0, 0), (4, 0), (8, 0), (12, 0)] 14 [12, 8, 4, 0] [(34, .slice (some ⟨g2, o2 + 4 * kk, none⟩) 4 4), (38, .slice (some ⟨g2, o2 + 4 * kk, none⟩) 4 4), (42, .slice (some ⟨g2, o2 + 4 * kk, none⟩) 4 4), (46, .slice (some ⟨g2, o2 + 4 * kk, none⟩) 4 4)] [] ?_ (hpo := (pok_then (pok_blk pok_rq)))
    refine sem_take 0 [] 1 13 35 (Instr.indexAt 38 (.slice (some ⟨g2, o2 + 4 * kk, none⟩) 4 4) (iQ 0)) (.pointer (some ⟨g2, o2 + 4 * kk + 0, none⟩)) (by kernel_rfl) (pok_then (pok_blk pok_rq)) (by kernel_rfl) rfl (by kernel_rfl) (by kernel_rfl) (fun w hT => rI 5 1 w) ?_
    refine sem_take 0 [] 2 12 36 (Instr.loadAt 5 (.pointer (some ⟨g2, o2 + 4 * kk + 0, none⟩))) (.int .u8 (xs2.getD (4 * kk + 0) 0)) (by kernel_rfl) (pok_then (pok_blk pok_rq)) (by kernel_rfl) rfl (by kernel_rfl) (by kernel_rfl) (fun w hT => rL (Rd.cell (hT 5 _ rfl) (4 * kk + 0) _ (ivals_get (by omega)))) ?_
    refine tD 0 [] [(3, 0)] 11 [3, 2, 1, 12, 8, 4, 0] [(37, iQ (IntKind.i64.wrap (xs2.getD (4 * kk + 0) 0)))] [] ?_ (hpo := (pok_then (pok_blk pok_rq)))
    refine wI 37 (xs2.getD (4 * kk + 0) 0) <| sem_take 0 [] 5 10 39 (Instr.indexAt 38 (.slice (some ⟨g2, o2 + 4 * kk, none⟩) 4 4) (iQ 1)) (.pointer (some ⟨g2, o2 + 4 * kk + 1, none⟩)) (by kernel_rfl) (pok_then (pok_blk pok_rq)) (by kernel_rfl) rfl (by kernel_rfl) (by kernel_rfl) (fun w hT => rI 5 1 w) ?_
    refine sem_take 0 [] 6 9 40 (Instr.loadAt 5 (.pointer (some ⟨g2, o2 + 4 * kk + 1, none⟩))) (.int .u8 (xs2.getD (4 * kk + 1) 0)) (by kernel_rfl) (pok_then (pok_blk pok_rq)) (by kernel_rfl) rfl (by kernel_rfl) (by kernel_rfl) (fun w hT => rL (Rd.cell (hT 5 _ rfl) (4 * kk + 1) _ (ivals_get (by omega)))) ?_
    refine tD 0 [] [(7, 0)] 8 [7, 6, 5, 3, 2, 1, 12, 8, 4, 0] [(41, iQ (IntKind.i64.wrap (xs2.getD (4 * kk + 1) 0)))] [] ?_ (hpo := (pok_then (pok_blk pok_rq)))
    refine wI 41 (xs2.getD (4 * kk + 1) 0) <| sem_take 0 [] 9 7 43 (Instr.indexAt 38 (.slice (some ⟨g2, o2 + 4 * kk, none⟩) 4 4) (iQ 2)) (.pointer (some ⟨g2, o2 + 4 * kk + 2, none⟩)) (by kernel_rfl) (pok_then (pok_blk pok_rq)) (by kernel_rfl) rfl (by kernel_rfl) (by kernel_rfl) (fun w hT => rI 5 1 w) ?_
    refine sem_take 0 [] 10 6 44 (Instr.loadAt 5 (.pointer (some ⟨g2, o2 + 4 * kk + 2, none⟩))) (.int .u8 (xs2.getD (4 * kk + 2) 0)) (by kernel_rfl) (pok_then (pok_blk pok_rq)) (by kernel_rfl) rfl (by kernel_rfl) (by kernel_rfl) (fun w hT => rL (Rd.cell (hT 5 _ rfl) (4 * kk + 2) _ (ivals_get (by omega)))) ?_
    refine tD 0 [] [(11, 0)] 5 [11, 10, 9, 7, 6, 5, 3, 2, 1, 12, 8, 4, 0] [(45, iQ (IntKind.i64.wrap (xs2.getD (4 * kk + 2) 0)))] [] ?_ (hpo := (pok_then (pok_blk pok_rq)))
    refine wI 45 (xs2.getD (4 * kk + 2) 0) <| sem_take 0 [] 13 4 47 (Instr.indexAt 38 (.slice (some ⟨g2, o2 + 4 * kk, none⟩) 4 4) (iQ 3)) (.pointer (some ⟨g2, o2 + 4 * kk + 3, none⟩)) (by kernel_rfl) (pok_then (pok_blk pok_rq)) (by kernel_rfl) rfl (by kernel_rfl) (by kernel_rfl) (fun w hT => rI 5 1 w) ?_
    refine sem_take 0 [] 14 3 48 (Instr.loadAt 5 (.pointer (some ⟨g2, o2 + 4 * kk + 3, none⟩))) (.int .u8 (xs2.getD (4 * kk + 3) 0)) (by kernel_rfl) (pok_then (pok_blk pok_rq)) (by kernel_rfl) rfl (by kernel_rfl) (by kernel_rfl) (fun w hT => rL (Rd.cell (hT 5 _ rfl) (4 * kk + 3) _ (ivals_get (by omega)))) ?_
    refine tD 0 [] [(15, 0)] 2 [15, 14, 13, 11, 10, 9, 7, 6, 5, 3, 2, 1, 12, 8, 4, 0] [(49, iQ (IntKind.i64.wrap (xs2.getD (4 * kk + 3) 0)))] [] ?_ (hpo := (pok_then (pok_blk pok_rq)))
    refine wI 49 (xs2.getD (4 * kk + 3) 0) <| dO 16 1 <| cP 50 (cQ (mkC (xs2.getD (4 * kk + 0) 0) (xs2.getD (4 * kk + 1) 0) (xs2.getD (4 * kk + 2) 0) (xs2.getD (4 * kk + 3) 0))) (fun w hT => colorMake (xs2.getD (4 * kk + 0) 0) (xs2.getD (4 * kk + 1) 0) (xs2.getD (4 * kk + 2) 0) (xs2.getD (4 * kk + 3) 0) w) <| rC 50 (cQ (mkB xs2 kk)) rfl (congrArg (Value.int .u32) rfl) <| dX 0 [] <| tD 0 [] [(17, 0)] 0 [17, 16, 15, 14, 13, 11, 10, 9, 7, 6, 5, 3, 2, 1, 12, 8, 4, 0] [(9, cQ (mkB xs2 kk))] [] ?_ (hpo := (pok_then (pok_blk pok_rq)))
    refine dD <| zN <| mcont_seq ?_
    refine mcont_seq ?_
    refine mcont_region 3 rfl (by kernel_rfl) ?_
    refine bD [0] 1 2 [(51, cQ (mkB xs2 kk))] [] <| pS 2 1 <| cP 52 (.bool (mayB (mkB xs2 kk))) (fun w hT => colorMay (mkB xs2 kk) w (by omega) (by omega)) <| bD [0] 3 0 [(53, .bool (!(mayB (mkB xs2 kk))))] [] <| zDN <| cSp 53 _ rfl (fun c14_ => ?_) fun c14_ => ?_
    ·
      replace c14_ : (mayB (mkB xs2 kk)) = false := by simpa using c14_
      have hmy : mayB (mkB xs2 kk) = false := c14_
      refine mcont_true rfl ?_
      refine mcont_seq ?_
      refine mcont_region 1 rfl (by kernel_rfl) ?_
      refine bZ [8] 1 0 [(6, pT b3)] [z12_, e12b_, e12q_, .ro kb18 [.slice (some ⟨g2, o2, none⟩) n2 cap2] 38, .ro kb29 [iQ 4] 3, rD (A2) g2 o2 n2 1 (ivals .u8 xs2), .gen (rowE (Ao) gw k co 48 1 (cV (wrL xs2 k)) true), .cells b7 [.slice Ao k co] 79 true, .cells b3 [iQ 1] 26 true, .cells b2 [iQ a, iQ b, iQ c, iQ d] 37 true, .ro m [iQ W, iQ H, sL r n cap] 81, .gen (rowE (some ⟨r, 0, none⟩) r n cap 48 1 (cV px) false)] <| zDN <| mcont_ret ?_
      refine then_ret <| blk_ret <| cont_pick [0, 1, 2, 8, 10, 11] [z12_, e12b_, e12q_, .cells b3 [iQ 1] 26 true, .ro m [iQ W, iQ H, sL r n cap] 81, .gen (rowE (some ⟨r, 0, none⟩) r n cap 48 1 (cV px) false)] (by decide) rfl rfl ?_
      refine rq_ret hz_ () (⟨rfl, kk, by omega, hmy⟩) rfl
    replace c14_ : (mayB (mkB xs2 kk)) = true := by simpa using c14_
    have hmy : mayB (mkB xs2 kk) = true := c14_
    refine mcont_false rfl ?_
    refine mcont_skip ?_
    refine zN <| mcont_region 5 rfl (by kernel_rfl) ?_
    refine bW [7, 0, 0] 3 2 (fun b15 => [(7, pT b7), (54, .slice Ao k co), (56, sL b15 1 1)]) (fun b15 => [.cells b15 [cQ (mkB xs2 kk)] 48 true, z12_, e12b_, e12q_, .ro kb18 [.slice (some ⟨g2, o2, none⟩) n2 cap2] 38, .ro kb29 [iQ 4] 3, rD (A2) g2 o2 n2 1 (ivals .u8 xs2), .gen (rowE (Ao) gw k co 48 1 (cV (wrL xs2 k)) true), .cells b7 [.slice Ao k co] 79 true, .cells b3 [iQ 0] 26 true, .cells b2 [iQ a, iQ b, iQ c, iQ d] 37 true, .ro m [iQ W, iQ H, sL r n cap] 81, .gen (rowE (some ⟨r, 0, none⟩) r n cap 48 1 (cV px) false)]) [7, 54, 56] fun b15 => ?_
    refine pS 4 1 <| sSW (α := Option Addr × Nat × Nat) 57 (Builtin.append_ #[79, 79] 79 #[.slice Ao k co, sL b15 1 1]) (fun x_ => .slice x_.1 (k + 1) x_.2.2) (fun x_ => [.cells b15 [cQ (mkB xs2 kk)] 48 true, z12_, e12b_, e12q_, .ro kb18 [.slice (some ⟨g2, o2, none⟩) n2 cap2] 38, .ro kb29 [iQ 4] 3, rD (A2) g2 o2 n2 1 (ivals .u8 xs2), .gen (rowE (x_.1) x_.2.1 (k + 1) x_.2.2 48 1 (cV ((wrL xs2 k) ++ [mkB xs2 kk])) true), .cells b7 [.slice Ao k co] 79 true, .cells b3 [iQ 0] 26 true, .cells b2 [iQ a, iQ b, iQ c, iQ d] 37 true, .ro m [iQ W, iQ H, sL r n cap] 81, .gen (rowE (some ⟨r, 0, none⟩) r n cap 48 1 (cV px) false)]) (fun _ => True) (by kernel_rfl) (fun w hT => append_own (n' := (k + 1)) (z := cQ 0) hT (i := 7) (bytes := 4) rfl (by kernel_rfl) (by kernel_rfl) rfl (by decide) (by decide) (Rd.ofCells (vals := ivals .u32 [mkB xs2 kk]) (hT.ok 0 _ rfl) rfl rfl) (ivals_one .u32 [mkB xs2 kk]) (by omega) (ivals_append .u32 (wrL xs2 k) [mkB xs2 kk]) rfl) ?_
    rintro ⟨A16, g16, cp16⟩ -
    refine cM ?_
    refine fI 7 (k + 1) A16 g16 cp16 ((wrL xs2 k) ++ [mkB xs2 kk]) rfl fun hr17_a hr17_l hr17_c hr17_m => ?_
    refine bZ [8] 5 0 [] [.cells b15 [cQ (mkB xs2 kk)] 48 true, z12_, e12b_, e12q_, .ro kb18 [.slice (some ⟨g2, o2, none⟩) n2 cap2] 38, .ro kb29 [iQ 4] 3, rD (A2) g2 o2 n2 1 (ivals .u8 xs2), .gen (rowE (A16) g16 (k + 1) cp16 48 1 (cV ((wrL xs2 k) ++ [mkB xs2 kk])) true), .cells b7 [.slice A16 (k + 1) cp16] 79 true, .cells b3 [iQ 0] 26 true, .cells b2 [iQ a, iQ b, iQ c, iQ d] 37 true, .ro m [iQ W, iQ H, sL r n cap] 81, .gen (rowE (some ⟨r, 0, none⟩) r n cap 48 1 (cV px) false)] <| fG 0 <| cDn <| blk_normal <| cont_rowEq (k := .u32) 6 ((wrL xs2 k) ++ [mkB xs2 kk]) (wrL xs2 (k + 1)) rfl (by rw [wrL_succ, hkk]) ?_
    refine rq_next (k + 1, A16, g16, cp16) (show (k + 1) = (pre ++ [kk]).length ∧ okN xs2 (k + 1) from ⟨by rw [List.length_append, List.length_singleton]; omega, hokn.step (by rw [← hkk]; exact hmy)⟩) rfl
  ·
    rintro D19_ xs_ ⟨k, Ao, gw, co⟩ hS_ hinv18_
    replace hinv18_ : k = xs_.length ∧ okN xs2 k := hinv18_
    replace hS_ : ChP N xs_ ∧ xs_.length = N := hS_
    refine cM ?_
    obtain ⟨hkp, hokn⟩ := hinv18_
    have hkN : k = N := by rw [hkp]; exact hS_.2
    have hro := 0
    refine blk_normal <| zN <| cSq <| zSR 3 <| bD [0, 7, 0] 3 0 [(10, iQ b)] [58, 59] <| zDNB ?_
    clear hro
    refine fI 4 k Ao gw co (wrL xs2 k) rfl fun hr20_a hr20_l hr20_c hr20_m => ?_
    have hroa := hr20_a
    obtain ⟨wn, hwn⟩ : ∃ k_ : Nat, k_ = Int.toNat (c - a) := ⟨_, rfl⟩
    rw [har0] at hN
    refine cont_rowEq (k := .u32) 9 (px) (wrS W a b wn xs2 px (0 * wn)) rfl (by rw [Nat.zero_mul]; rfl) ?_
    refine rC 10 (iQ (b + ((0 : Nat) : Int))) rfl (congrArg (Value.int .i64) (by omega)) <| cL (α := Nat × Option Addr × Nat × Nat) (fun x_ : Nat × Option Addr × Nat × Nat => b + (x_.1 : Int) ≤ d ∧ x_.2.2.1 = k - x_.1 * wn ∧ x_.2.2.1 ≤ x_.2.2.2 ∧ (0 < x_.2.2.1 → x_.2.1 = some ⟨gw, 0 + (x_.1 * wn) * 1, none⟩)) (fun x_ : Nat × Option Addr × Nat × Nat => [(0, pT m), (4, pT b2), (6, pT b3), (7, pT b7), (10, iQ (b + (x_.1 : Int)))]) (fun x_ : Nat × Option Addr × Nat × Nat => [markE D19_, .ro kb18 [.slice (some ⟨g2, o2, none⟩) n2 cap2] 38, .ro kb29 [iQ 4] 3, rD (A2) g2 o2 n2 1 (ivals .u8 xs2), .gen (rowE (Ao) gw k co 48 1 (cV (wrL xs2 k)) true), .cells b7 [.slice x_.2.1 x_.2.2.1 x_.2.2.2] 79 true, .cells b3 [iQ 0] 26 true, .cells b2 [iQ a, iQ b, iQ c, iQ d] 37 true, .ro m [iQ W, iQ H, sL r n cap] 81, .gen (rowE (some ⟨r, 0, none⟩) r n cap 48 1 (cV (wrS W a b wn xs2 px (x_.1 * wn))) false)]) (fun x_ : Nat × Option Addr × Nat × Nat => (d - b - x_.1).toNat) (0, Ao, k, co) (show b + ((0) : Int) ≤ d ∧ (k) = k - (0) * wn ∧ (k) ≤ (co) ∧ (0 < (k) → (Ao) = some ⟨gw, 0 + ((0) * wn) * 1, none⟩) from ⟨by omega, by omega, by omega, fun h_ => by rw [Nat.zero_mul]; exact hroa h_⟩) ?_
    rintro ⟨j, Aj, kn, kc⟩ hinv21_
    replace hinv21_ : b + (j : Int) ≤ d ∧ kn = k - j * wn ∧ kn ≤ kc ∧ (0 < kn → Aj = some ⟨gw, 0 + (j * wn) * 1, none⟩) := hinv21_
    refine cM ?_
    obtain ⟨hj, hkn, hkc, hAj⟩ := hinv21_
    have hjw : b + (j : Int) < d → j * wn + wn ≤ k := fun h_ => by rw [hwn]; exact area_nat hg1 hg2 (by omega) h_
    have hjx : ∀ q : Nat, (wrS W a b wn xs2 px q).length = n := fun q => by rw [wrS_length]; exact hlen
    have hjl := hjx (j * wn)
    have hpl : b + (j : Int) < d → 0 ≤ (b + (j : Int)) * W ∧ (b + (j : Int)) * W ≤ 65536 ∧ (b + (j : Int)) * W + (W - 1) < n := fun h_ => hok.place (x := W - 1) (y := b + j) (by omega) (by omega) (by omega) (by omega)
    refine cSq <| zSR 4 <| bD [0, 0, 7, 0] 4 0 [(63, .bool (decide ((b + (j : Int)) < d)))] [60, 61, 62] <| zDN <| sD 63 rfl (fun c22_ => ?_) fun c22_ => ?_
    ·
      refine cTr rfl <| cont_skip <| zN <| cSq <| cont_block <| cSq ?_
      have hjw2 := hjw (by omega)
      obtain ⟨hpl1, hpl2, hpl3⟩ := hpl (by omega)
      refine drawn_enter 10 [9] rfl (by kernel_rfl) ?_
      refine tD 0 [9] [(0, 0), (1, 0), (2, 0), (4, 0), (7, 5), (3, 7), (5, 7)] 3 [5, 3, 7, 4, 2, 1, 0] [(66, pT m), (67, iQ (b + (j : Int))), (69, iQ a), (71, iQ c), (73, .slice Aj kn kc)] [68, 70] ?_ (hpo := (pok_then (pok_blk (pok_then (pok_then (pok_blk (pok_then pok_np)))))))
      refine dO 6 2 <| cP 72 (.slice (sliceA r 0 (Int.toNat ((b + (j : Int)) * W + a)) cap 1) (Int.toNat ((b + (j : Int)) * W + c) - Int.toNat ((b + (j : Int)) * W + a)) (cap - Int.toNat ((b + (j : Int)) * W + a))) (fun w hT => imgRow m W H r n cap (wrS W a b wn xs2 px (j * wn)) (b + (j : Int)) a c w ⟨hT.ok 8 _ rfl, Row.rd (hT.ok 9 _ rfl), Row.capLe (hT.ok 9 _ rfl)⟩ (wrS_in hok _) (by omega)) <| dX 0 [9] <| dO 8 1 <| sSW 74 (Builtin.copy_ #[79, 79] 3 #[.slice (sliceA r 0 (Int.toNat ((b + (j : Int)) * W + a)) cap 1) (Int.toNat ((b + (j : Int)) * W + c) - Int.toNat ((b + (j : Int)) * W + a)) (cap - Int.toNat ((b + (j : Int)) * W + a)), .slice Aj kn kc]) (fun _ => iQ ((min kn (Int.toNat ((b + (j : Int)) * W + c) - Int.toNat ((b + (j : Int)) * W + a)) : Nat) : Int)) (fun _ => [markE D19_, .ro kb18 [.slice (some ⟨g2, o2, none⟩) n2 cap2] 38, .ro kb29 [iQ 4] 3, rD (A2) g2 o2 n2 1 (ivals .u8 xs2), .gen (rowE (Ao) gw k co 48 1 (cV (wrL xs2 k)) true), .cells b7 [.slice Aj kn kc] 79 true, .cells b3 [iQ 0] 26 true, .cells b2 [iQ a, iQ b, iQ c, iQ d] 37 true, .ro m [iQ W, iQ H, sL r n cap] 81, .gen (rowE (some ⟨r, 0, none⟩) r n cap 48 1 (cV (wrS W a b wn xs2 px ((j + 1) * wn))) false)]) (fun _ => True) (by kernel_rfl) (fun w hT => copy_row (o := 0 + (Int.toNat ((b + (j : Int)) * W + a)) * 1) hT (i := 9) rfl (by kernel_rfl) (by kernel_rfl) (fun h_ => sliceA_pos (by omega)) (by omega) (Row.subA (hT.ok 4 _ rfl) (by omega) hAj) (wrS_row (H := H) (d := d) hok ⟨by omega, by omega, by omega, by omega, by omega⟩ (by omega) hwn hjw2 hkn (by omega) rfl)) (fun _ _ => ?_)
      refine dX 0 [9] <| tD 0 [9] [(9, 0)] 0 [9, 8, 6, 5, 3, 7, 4, 2, 1, 0] [(11, iQ ((min kn (Int.toNat ((b + (j : Int)) * W + c) - Int.toNat ((b + (j : Int)) * W + a)) : Nat) : Int))] [] ?_ (hpo := (pok_then (pok_blk (pok_then (pok_then (pok_blk (pok_then pok_np)))))))
      refine dD <| zN <| cRg 4 rfl <| rC 11 (iQ (wn : Int)) rfl (congrArg (Value.int .i64) (by omega)) <| bD [5, 0] 2 2 [(75, .slice Aj kn kc), (76, iQ (wn : Int))] [] <| pS 3 1 <| rC 75 (.slice (some ⟨gw, 0 + (j * wn) * 1, none⟩) kn kc) rfl (by rw [hAj (by omega)]) <| sS 77 (Instr.sliceAt 79 (.slice (some ⟨gw, 0 + (j * wn) * 1, none⟩) kn kc) (some (iQ (wn : Int))) none none) (.slice (sliceA gw (0 + (j * wn) * 1) wn kc 1) (kn - wn) (kc - wn)) (fun w hT => run_sliceLoC (e := 48) (sz := 1) _ (by kernel_rfl) (by kernel_rfl) (by omega) (by omega) (by omega) (by omega) w) <| bZ [5] 4 0 [(0, pT m), (4, pT b2), (6, pT b3), (7, pT b7), (10, iQ (b + (j : Int)))] [markE D19_, .ro kb18 [.slice (some ⟨g2, o2, none⟩) n2 cap2] 38, .ro kb29 [iQ 4] 3, rD (A2) g2 o2 n2 1 (ivals .u8 xs2), .gen (rowE (Ao) gw k co 48 1 (cV (wrL xs2 k)) true), .cells b7 [.slice (sliceA gw (0 + (j * wn) * 1) wn kc 1) (kn - wn) (kc - wn)] 79 true, .cells b3 [iQ 0] 26 true, .cells b2 [iQ a, iQ b, iQ c, iQ d] 37 true, .ro m [iQ W, iQ H, sL r n cap] 81, .gen (rowE (some ⟨r, 0, none⟩) r n cap 48 1 (cV (wrS W a b wn xs2 px ((j + 1) * wn))) false)] <| zDbNR 3 <| bD [0, 0] 2 1 [(65, iQ (IntKind.i64.wrap ((b + (j : Int)) + 1)))] [64] <| wI 65 ((b + (j : Int)) + 1) <| bD [0] 3 0 [(10, iQ ((b + (j : Int)) + 1))] [] <| zDN <| rC 10 (iQ (b + ((j + 1 : Nat) : Int))) rfl (congrArg (Value.int .i64) (by omega)) <| cA (j + 1, sliceA gw (0 + (j * wn) * 1) wn kc 1, (kn - wn), (kc - wn)) (show b + ((j + 1) : Int) ≤ d ∧ ((kn - wn)) = k - (j + 1) * wn ∧ ((kn - wn)) ≤ ((kc - wn)) ∧ (0 < ((kn - wn)) → (sliceA gw (0 + (j * wn) * 1) wn kc 1) = some ⟨gw, 0 + ((j + 1) * wn) * 1, none⟩) from ⟨by omega, by rw [Nat.add_mul, Nat.one_mul]; omega, by omega, fun h_ => by rw [sliceA_pos (by omega), show 0 + j * wn * 1 + wn * 1 = 0 + (j + 1) * wn * 1 by rw [Nat.add_mul]; omega]⟩)
    refine zFXxxeNSR 1 <| bD [6] 1 0 [] [] <| fG 5 <| fG 6 <| zDNr <| mark_end 0 rfl (.inl rfl) ?_
    refine cM ?_
    refine rA rfl 5 (iQ 0) fun w hT => ?_
    replace hT := hT.erase 5 (fun e h hw => by cases h; first | rfl | cases hw)
    replace hT := hT.erase 4 (fun e h hw => by cases h; first | rfl | cases hw)
    replace hT := hT.erase 3 (fun e h hw => by cases h; first | rfl | cases hw)
    replace hT := hT.erase 2 (fun e h hw => by cases h; first | rfl | cases hw)
    replace hT := hT.erase 1 (fun e h hw => by cases h; first | rfl | cases hw)
    replace hT := hT.erase 0 (fun e h hw => by cases h; first | rfl | cases hw)
    have hE : wrE W H a b c d xs2 = 0 := wrE_ok hg (by omega) (N := k) (by omega) hokn
    have hjk : j * wn = k := by rw [hwn]; exact area_end hg1 hg2 (by omega) (by omega)
    rw [hjk, hwn] at hT
    exact ⟨ret_int hE.symm, by rw [wrA_yes hE, show xs2.length / 4 = k by omega]; exact hT⟩
  ·
    rintro D23_ ⟨⟩ hinv24_
    replace hinv24_ : ∃ k_, k_ < N ∧ mayB (mkB xs2 k_) = false := by simpa using hinv24_
    refine cM ?_
    refine blk_ret <| then_ret <| mark_end 0 rfl (.inl rfl) ?_
    refine cM ?_
    refine rA rfl 1 (iQ 1) fun w hT => ?_
    replace hT := hT.erase 1 (fun e h hw => by cases h; first | rfl | cases hw)
    replace hT := hT.erase 0 (fun e h hw => by cases h; first | rfl | cases hw)
    obtain ⟨k_, hk1_, hk2_⟩ := hinv24_
    have hE : wrE W H a b c d xs2 = 1 := wrE_bad hg (by omega) (N := N) (by omega) hk1_ hk2_
    exact ⟨ret_int hE.symm, by rw [wrA_no (by rw [hE]; decide)]; exact hT⟩
  ·
    rintro D_ id_ c_ h_; simp at h_
end Go.Proofs.Ytkfdmfclndaanaa
