/- Plain words of Write: colors out of bytes, put into a rectangle row by row; chunks of four. -/
import Derived.Test.YtommojgfkkoghaaRd
import Derived.Test.YtommojgfkkoghaaRf
set_option linter.unusedVariables false
set_option linter.unusedSimpArgs false
namespace Go.Proofs.Ytommojgfkkoghaa
open Go Go.RowKit
variable {P : Program}
theorem run_slice3 {t e : TypeId} {g o n cap sz : Nat} {kl kh km : IntKind} {l h m : Int} (hu : P.underlying t = some (.slice e)) (hi : (P.info? e).map (·.size) = some sz) (h0 : 0 ≤ l) (h1 : l < h) (h2 : h ≤ m) (h3 : m ≤ (cap : Int)) {off n' c' : Nat} (hl : off = o + l.toNat * sz) (hn' : n' = h.toNat - l.toNat) (hc' : c' = m.toNat - l.toNat) (w : World) :
    (Instr.sliceAt t (.slice (some ⟨g, o, none⟩) n cap) (some (.int kl l)) (some (.int kh h)) (some (.int km m))).run P w = .ok (.slice (some ⟨g, off, none⟩) n' c') w := by
  subst hl; subst hn'; subst hc'
  obtain ⟨i, hi1, hi2⟩ := Option.map_eq_some_iff.1 hi
  have ha : (⟨g, o, none⟩ : Addr).add (l.toNat * sz) = ⟨g, o + l.toNat * sz, none⟩ := by unfold Addr.add; split <;> simp_all
  have hle : l ≤ (h.toNat : Int) := by omega
  have hlm : h ≤ (m.toNat : Int) := by omega
  simp only [Instr.sliceAt, Instr.slice, Instr.sliceBounds, Instr.sliceBound, asIntOf]
  have e1 : max m 0 = m := by omega
  have e2 : max h 0 = h := by omega
  have e3 : ¬ m.toNat = l.toNat := by omega
  have e4 : l ≤ h := by omega
  simp [Sem.run_bind, run_underlying hu, h0, h2, h3, e1, e2, e3, e4, show (0 : Int) ≤ h by omega, show (0 : Int) ≤ m by omega, sizeOf, typeInfo, hi1, hi2, ha]
theorem run_sliceLoC {t e : TypeId} {g o n cap sz : Nat} {kl : IntKind} {l : Int} (ln : Nat) (hu : P.underlying t = some (.slice e)) (hi : (P.info? e).map (·.size) = some sz) (h0 : 0 ≤ l) (h1 : l ≤ (n : Int)) (h2 : n ≤ cap) (hl : l.toNat = ln) (w : World) :
    (Instr.sliceAt t (.slice (some ⟨g, o, none⟩) n cap) (some (.int kl l)) none none).run P w = .ok (.slice (sliceA g o ln cap sz) (n - ln) (cap - ln)) w := by
  subst hl
  obtain ⟨i, hi1, hi2⟩ := Option.map_eq_some_iff.1 hi
  have ha : (⟨g, o, none⟩ : Addr).add (l.toNat * sz) = ⟨g, o + l.toNat * sz, none⟩ := by unfold Addr.add; split <;> simp_all
  simp only [Instr.sliceAt, Instr.slice, Instr.sliceBounds, Instr.sliceBound, asIntOf]
  simp [Sem.run_bind, run_underlying hu, h0, h1, show (n : Int) ≤ cap by omega, sizeOf, typeInfo, hi1, hi2, ha, sliceA]
theorem Row.subA {w : World} {g n cap : Nat} {e : TypeId} {k : IntKind} {xs : List Int} {A B : Option Addr} (h : Row w A g n cap e 1 (ivals k xs)) {J m : Nat} (hJ : J + m ≤ n) (hB : 0 < m → B = some ⟨g, 0 + J * 1, none⟩) : Rd w B g (0 + J * 1) m 1 (ivals k ((xs.drop J).take m)) := by
  have h2 := h.sub (J := J) (m := m) hJ
  exact ⟨h2.len, hB, h2.cell⟩
/-- What has come of the chunks: from the front, without a gap. -/
def ChP (N : Nat) (p : List Nat) : Prop := p = List.range p.length ∧ p.length ≤ N
theorem ChP.nil (N : Nat) : ChP N [] := ⟨rfl, Nat.zero_le _⟩
theorem ChP.step {N : Nat} {p : List Nat} (hp : ChP N p) (hl : p.length < N) : ChP N (p ++ [p.length]) := by
  refine ⟨?_, by rw [List.length_append, List.length_singleton]; omega⟩
  rw [List.length_append, List.length_singleton, List.range_succ, ← hp.1]
theorem ChP.last {N : Nat} {p : List Nat} {x : Nat} (hp : ChP N (p ++ [x])) : x = p.length ∧ p.length < N := by
  obtain ⟨h1, h2⟩ := hp
  rw [List.length_append, List.length_singleton] at h1 h2
  rw [List.range_succ] at h1
  have := (List.append_inj h1 (by simp)).2
  exact ⟨by simpa using this, by omega⟩
/-- The color that four bytes are. -/
def mkB (bs : List Int) (k : Nat) : Int := mkC (bs.getD (4 * k) 0) (bs.getD (4 * k + 1) 0) (bs.getD (4 * k + 2) 0) (bs.getD (4 * k + 3) 0)
theorem mkB_in (bs : List Int) (k : Nat) : 0 ≤ mkB bs k ∧ mkB bs k < 4294967296 := mkC_range _ _ _ _
def wrL (bs : List Int) (k : Nat) : List Int := (List.range k).map (mkB bs)
theorem wrL_succ (bs : List Int) (k : Nat) : wrL bs (k + 1) = wrL bs k ++ [mkB bs k] := by unfold wrL; rw [List.range_succ, List.map_append]; rfl
theorem wrL_length (bs : List Int) (k : Nat) : (wrL bs k).length = k := by simp [wrL]
theorem wrL_get {bs : List Int} {k j : Nat} (h : j < k) : (wrL bs k)[j]? = some (mkB bs j) := by simp [wrL, h]
def okN (bs : List Int) (k : Nat) : Prop := ∀ j, j < k → mayB (mkB bs j) = true
theorem okN.step {bs : List Int} {k : Nat} (h : okN bs k) (hk : mayB (mkB bs k) = true) : okN bs (k + 1) := fun j hj => by
  rcases Nat.lt_or_ge j k with h1 | h1
  · exact h j h1
  · rw [show j = k by omega]; exact hk
def wIdx (W a b : Int) (w k : Nat) : Nat := Int.toNat ((b + ((k / w : Nat) : Int)) * W + a + ((k % w : Nat) : Int))
/-- Colors out of bytes, one by one put into a rectangle of the width w at a, b. -/
def wrS (W a b : Int) (w : Nat) (bs px : List Int) : Nat → List Int
  | 0 => px
  | k + 1 => (wrS W a b w bs px k).set (wIdx W a b w k) (mkB bs k)
theorem wrS_length (W a b : Int) (w : Nat) (bs px : List Int) : ∀ k, (wrS W a b w bs px k).length = px.length := by
  intro k
  induction k with
  | zero => rfl
  | succ k ih => simp [wrS, ih]
theorem wrS_part (W a b : Int) {w : Nat} (bs px : List Int) {j lo : Nat} (hlo : lo = Int.toNat ((b + (j : Int)) * W + a)) (h0 : 0 ≤ (b + (j : Int)) * W + a) (hl : lo + w ≤ px.length) : ∀ t, t ≤ w →
    wrS W a b w bs px (j * w + t) = (wrS W a b w bs px (j * w)).take lo ++ ((List.range t).map fun i => mkB bs (j * w + i)) ++ (wrS W a b w bs px (j * w)).drop (lo + t) := by
  intro t
  induction t with
  | zero => intro _; simp
  | succ t ih =>
    intro ht
    have hw : 0 < w := by omega
    rw [← Nat.add_assoc, wrS, ih (by omega)]
    have hi : wIdx W a b w (j * w + t) = lo + t := by
      unfold wIdx
      rw [show (j * w + t) / w = j by rw [Nat.add_comm, Nat.add_mul_div_right _ _ hw, Nat.div_eq_of_lt (by omega), Nat.zero_add], show (j * w + t) % w = t by rw [Nat.add_comm, Nat.add_mul_mod_self_right, Nat.mod_eq_of_lt (by omega)], hlo]
      omega
    have hlen := wrS_length W a b w bs px (j * w)
    rw [hi]
    have e1 : ((wrS W a b w bs px (j * w)).take lo ++ (List.range t).map fun i => mkB bs (j * w + i)).length = lo + t := by
      rw [List.length_append, List.length_take, List.length_map, List.length_range]; omega
    rw [List.set_append_right _ _ (by rw [e1]; exact Nat.le_refl _), e1, Nat.sub_self, List.range_succ, List.map_append]
    rw [show (wrS W a b w bs px (j * w)).drop (lo + t) = (wrS W a b w bs px (j * w))[lo + t] :: (wrS W a b w bs px (j * w)).drop (lo + t + 1) from List.drop_eq_getElem_cons (by omega)]
    simp only [List.set_cons_zero, List.map_cons, List.map_nil, List.append_assoc, List.singleton_append, List.cons_append, List.nil_append, Nat.add_assoc]
theorem wrL_part {bs : List Int} {N j w : Nat} (h : j * w + w ≤ N) : ((wrL bs N).drop (j * w)).take w = (List.range w).map fun i => mkB bs (j * w + i) := by
  refine List.ext_getElem? fun i => ?_
  rw [List.getElem?_take, List.getElem?_drop]
  split
  · rename_i hi
    rw [wrL_get (by omega), List.getElem?_map, List.getElem?_range hi]; rfl
  · rename_i hi
    rw [List.getElem?_eq_none (by simp; omega)]
/-- One row that is copied. -/
theorem wrS_row {W H a b c d : Int} {n : Nat} {px bs : List Int} (hok : ImgOk W H n px) {j w N kn dl lo : Nat} (hg : 0 ≤ a ∧ a < c ∧ c ≤ W ∧ 0 ≤ b ∧ d ≤ H) (hj : b + (j : Int) < d) (hw : w = Int.toNat (c - a)) (hN : j * w + w ≤ N) (hkn : kn = N - j * w) (hlo : lo = Int.toNat ((b + (j : Int)) * W + a)) (hdl : dl = Int.toNat ((b + (j : Int)) * W + c) - Int.toNat ((b + (j : Int)) * W + a)) :
    (wrS W a b w bs px (j * w)).take lo ++ (((wrL bs N).drop (j * w)).take kn).take (min kn dl) ++ (wrS W a b w bs px (j * w)).drop (lo + min kn dl) = wrS W a b w bs px ((j + 1) * w) := by
  have hp := hok.place (x := W - 1) (y := b + (j : Int)) (by omega) (by omega) (by omega) (by omega)
  have hlen := hok.len
  have hdw : dl = w := by omega
  have hm : min kn dl = w := by omega
  rw [hm, List.take_take, show min w kn = w by omega, wrL_part hN, show (j + 1) * w = j * w + w by rw [Nat.add_mul, Nat.one_mul]]
  exact (wrS_part W a b bs px hlo (by omega) (by omega) w (Nat.le_refl _)).symm
/-- What Write answers, and what there is then. -/
def wrE (W H a b c d : Int) (bs : List Int) : Int := if insB W H a b c d = false then 4 else if (bs.length : Int) < 4 * areaI a b c d then 3 else if (bs.length : Int) > 4 * areaI a b c d then 2 else if (List.range (bs.length / 4)).all (fun k => mayB (mkB bs k)) = true then 0 else 1
def wrA (W H : Int) (px : List Int) (a b c d : Int) (bs : List Int) : List Int := if wrE W H a b c d bs = 0 then wrS W a b (Int.toNat (c - a)) bs px (bs.length / 4) else px
theorem wrA_no {W H a b c d : Int} {px bs : List Int} (h : wrE W H a b c d bs ≠ 0) : wrA W H px a b c d bs = px := if_neg h
theorem wrA_yes {W H a b c d : Int} {px bs : List Int} (h : wrE W H a b c d bs = 0) : wrA W H px a b c d bs = wrS W a b (Int.toNat (c - a)) bs px (bs.length / 4) := if_pos h
theorem wrE_ins {W H a b c d : Int} {bs : List Int} (h : insB W H a b c d = false) : wrE W H a b c d bs = 4 := if_pos h
theorem wrE_short {W H a b c d : Int} {bs : List Int} (h : insB W H a b c d = true) (h1 : (bs.length : Int) < 4 * areaI a b c d) : wrE W H a b c d bs = 3 := by unfold wrE; rw [if_neg (by rw [h]; simp), if_pos h1]
theorem wrE_long {W H a b c d : Int} {bs : List Int} (h : insB W H a b c d = true) (h1 : (bs.length : Int) > 4 * areaI a b c d) : wrE W H a b c d bs = 2 := by unfold wrE; rw [if_neg (by rw [h]; simp), if_neg (by omega), if_pos h1]
theorem wrE_bad {W H a b c d : Int} {bs : List Int} (h : insB W H a b c d = true) (h1 : (bs.length : Int) = 4 * areaI a b c d) {k N : Nat} (hN : N = bs.length / 4) (hk : k < N) (hm : mayB (mkB bs k) = false) : wrE W H a b c d bs = 1 := by
  unfold wrE
  rw [if_neg (by rw [h]; simp), if_neg (by omega), if_neg (by omega), if_neg]
  intro hall
  have := List.all_eq_true.1 hall k (List.mem_range.2 (by omega))
  rw [hm] at this; cases this
theorem wrE_ok {W H a b c d : Int} {bs : List Int} (h : insB W H a b c d = true) (h1 : (bs.length : Int) = 4 * areaI a b c d) {N : Nat} (hN : N = bs.length / 4) (hm : okN bs N) : wrE W H a b c d bs = 0 := by
  unfold wrE
  rw [if_neg (by rw [h]; simp), if_neg (by omega), if_neg (by omega), if_pos]
  exact List.all_eq_true.2 (fun k hk => hm k (by have := List.mem_range.1 hk; omega))
theorem ins_area {W H a b c d : Int} {n : Nat} {px : List Int} (hok : ImgOk W H n px) (h : insB W H a b c d = true) : areaI a b c d = (c - a) * (d - b) ∧ 1 ≤ areaI a b c d ∧ areaI a b c d ≤ 65536 := by
  obtain ⟨h1, h2, h3, h4, h5, h6⟩ := insB_true h
  have hw := hok.w2
  have hh := hok.h2
  have e : areaI a b c d = (c - a) * (d - b) := by unfold areaI; rw [emptyB_false.2 ⟨h1, h2⟩]; rfl
  have h7 : (c - a) * (d - b) ≤ 256 * 256 := mul_le_of (by omega) (by omega) (by omega) (by omega)
  have h8 : 1 * 1 ≤ (c - a) * (d - b) := mul_le_of (by omega) (by omega) (by omega) (by omega)
  omega
theorem wrS_in {W H a b : Int} {n w : Nat} {px bs : List Int} (hok : ImgOk W H n px) : ∀ k, ImgOk W H n (wrS W a b w bs px k) := by
  intro k
  refine ⟨hok.w1, hok.w2, hok.h1, hok.h2, hok.num, by rw [wrS_length]; exact hok.len, ?_⟩
  induction k with
  | zero => exact hok.rng
  | succ k ih =>
    intro c hc
    rcases List.mem_or_eq_of_mem_set hc with h | h
    · exact ih c h
    · rw [h]; exact mkB_in bs k
theorem ImgOk.wrA {W H a b c d : Int} {n : Nat} {px bs : List Int} (hok : ImgOk W H n px) : ImgOk W H n (wrA W H px a b c d bs) := by
  unfold Go.Proofs.Ytommojgfkkoghaa.wrA
  split
  · exact wrS_in hok _
  · exact hok
theorem wrE_zero {W H a b c d : Int} {bs : List Int} (h : wrE W H a b c d bs = 0) : insB W H a b c d = true ∧ (bs.length : Int) = 4 * areaI a b c d ∧ okN bs (bs.length / 4) := by
  unfold wrE at h
  split at h
  · cases h
  · rename_i h1
    split at h
    · cases h
    · split at h
      · cases h
      · split at h
        · rename_i h2 h3 h4
          exact ⟨by simpa using h1, by omega, fun k hk => List.all_eq_true.1 h4 k (List.mem_range.2 hk)⟩
        · cases h
theorem insB_split {W H a b c d : Int} (h : insB W H a b c d = true) : emptyB a b c d = false ∧ coversB 0 0 W H a b c d = true := by
  unfold insB at h
  rw [Bool.and_eq_true, Bool.not_eq_true'] at h
  exact h
theorem getD_byte {bs : List Int} (h : ∀ x ∈ bs, 0 ≤ x ∧ x ≤ 255) (j : Nat) : 0 ≤ bs.getD j 0 ∧ bs.getD j 0 ≤ 255 := by
  rw [List.getD_eq_getElem?_getD]
  cases hj : bs[j]? with
  | none => exact ⟨by simp, by simp⟩
  | some v => exact h v (List.mem_of_getElem? hj)
theorem wIdx_eq {W a b c : Int} {wn i : Nat} (hwn : wn = Int.toNat (c - a)) (h : a < c) : Int.toNat ((b + (i : Int) / (c - a)) * W + a + (i : Int) % (c - a)) = wIdx W a b wn i := by
  have e : c - a = (wn : Int) := by omega
  rw [e]; rfl
theorem row_of {a b c d : Int} {N i : Nat} (hx : a < c) (hy : b < d) (h : (N : Int) = (c - a) * (d - b)) (hi : i < N) : 0 ≤ (i : Int) / (c - a) ∧ b + (i : Int) / (c - a) < d ∧ 0 ≤ (i : Int) % (c - a) ∧ (i : Int) % (c - a) < c - a := by
  refine ⟨Int.ediv_nonneg (by omega) (by omega), ?_, Int.emod_nonneg _ (by omega), Int.emod_lt_of_pos _ (by omega)⟩
  have : (i : Int) / (c - a) < d - b := Int.ediv_lt_of_lt_mul (by omega) (by rw [Int.mul_comm]; omega)
  omega
/-- The numbers of rows and colors. -/
theorem area_nat {a b c d : Int} {N : Nat} (hx : a < c) (hy : b < d) (h : (N : Int) = (c - a) * (d - b)) {j : Nat} (hj : b + (j : Int) < d) : j * Int.toNat (c - a) + Int.toNat (c - a) ≤ N := by
  have h2 : (((j + 1) * Int.toNat (c - a) : Nat) : Int) ≤ (d - b) * (c - a) := by
    rw [Int.natCast_mul, show ((Int.toNat (c - a) : Nat) : Int) = c - a by omega]
    exact Int.mul_le_mul_of_nonneg_right (by omega) (by omega)
  rw [Int.mul_comm (d - b)] at h2
  have e : (j + 1) * Int.toNat (c - a) = j * Int.toNat (c - a) + Int.toNat (c - a) := by rw [Nat.add_mul, Nat.one_mul]
  omega
theorem area_end {a b c d : Int} {N : Nat} (hx : a < c) (hy : b < d) (h : (N : Int) = (c - a) * (d - b)) {j : Nat} (hj : (j : Int) = d - b) : j * Int.toNat (c - a) = N := by
  have h2 : ((j * Int.toNat (c - a) : Nat) : Int) = (d - b) * (c - a) := by
    rw [Int.natCast_mul, show ((Int.toNat (c - a) : Nat) : Int) = c - a by omega, hj]
  rw [Int.mul_comm (d - b)] at h2
  omega
end Go.Proofs.Ytommojgfkkoghaa
