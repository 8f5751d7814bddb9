/- Simple polygons: the sides of a polygon as a ring of points; sides with a common point meet. -/
import Derived.Test.YthnfepfbkmafaaaJ2
import Derived.Test.YthnfepfbkmafaaaY7
namespace Go.Proofs.Ythnfepfbkmafaaa.Geo
/-- The corner of a polygon, as a point. -/
def ptAt (ps : List Plc) (k : Nat) : Pt := ⟨(plcAt ps k).x, (plcAt ps k).y⟩
def ptsOf (ps : List Plc) : List Pt := ps.map fun p => ⟨p.x, p.y⟩
theorem pts_get {ps : List Plc} {k : Nat} (h : k < ps.length) : (ptsOf ps)[k]? = some (ptAt ps k) := by
  unfold ptsOf ptAt plcAt
  rw [List.getElem?_map, List.getElem?_eq_getElem h]
  rfl
theorem pts_len (ps : List Plc) : (ptsOf ps).length = ps.length := by unfold ptsOf; simp
theorem path_range : ∀ (L : List Pt) (f : Nat → Pt), (∀ k, k < L.length → L[k]? = some (f k)) → path L = (List.range (L.length - 1)).map fun k => (f k, f (k + 1))
  | [], _, _ => rfl
  | [_], _, _ => rfl
  | a :: b :: t, f, h => by
    have ih := path_range (b :: t) (fun k => f (k + 1)) (fun k hk => by
      have := h (k + 1) (by simp at hk ⊢; omega)
      simpa using this)
    have h0 := h 0 (by simp)
    have h1 := h 1 (by simp)
    simp at h0 h1
    rw [path, ih]
    simp only [List.length_cons, Nat.add_sub_cancel]
    rw [List.range_succ_eq_map, List.map_cons, List.map_map]
    rw [h0, h1]
    rfl
/-- The sides of a polygon, in order. -/
theorem ring_range {ps : List Plc} (h : 1 ≤ ps.length) : ring (ptsOf ps) = (List.range ps.length).map fun k => (ptAt ps k, ptAt ps (nextN ps.length k)) := by
  obtain ⟨a, t, ht⟩ : ∃ a t, ptsOf ps = a :: t := by
    cases hh : ptsOf ps with
    | nil => have := pts_len ps; rw [hh] at this; simp at this; omega
    | cons a t => exact ⟨a, t, rfl⟩
  have hl := pts_len ps
  rw [ht] at hl
  simp only [List.length_cons] at hl
  have h0 : a = ptAt ps 0 := by
    have := pts_get (ps := ps) (k := 0) (by omega)
    rw [ht] at this
    simpa using this
  rw [ht, ring, path_range (a :: (t ++ [a])) (fun k => if k < ps.length then ptAt ps k else ptAt ps 0) ?_]
  · simp only [List.length_cons, List.length_append, List.length_nil]
    rw [show t.length + (0 + 1) + 1 - 1 = ps.length by omega]
    refine List.map_congr_left fun k hk => ?_
    rw [List.mem_range] at hk
    simp only [if_pos hk]
    unfold nextN
    split <;> rfl
  · intro k hk
    simp only [List.length_cons, List.length_append, List.length_nil] at hk
    rw [← List.cons_append, ← ht]
    by_cases hkn : k < ps.length
    · rw [if_pos hkn, List.getElem?_append_left (by rw [pts_len]; exact hkn), pts_get hkn]
    · rw [if_neg hkn, List.getElem?_append_right (by rw [pts_len]; omega), pts_len, show k - ps.length = 0 by omega, ← h0]
      rfl
theorem ring_idx {ps : List Plc} (h : 1 ≤ ps.length) {s : Pt × Pt} : s ∈ ring (ptsOf ps) ↔ ∃ k, k < ps.length ∧ (ptAt ps k, ptAt ps (nextN ps.length k)) = s := by
  rw [ring_range h, List.mem_map]
  simp only [List.mem_range]
/-- A pair of points as a side. -/
def sdOf (s : Pt × Pt) : Sd := ⟨s.1.x, s.1.y, s.2.x, s.2.y⟩
theorem sdOf_at (ps : List Plc) (k : Nat) : sdOf (ptAt ps k, ptAt ps (nextN ps.length k)) = sideAt ps 1 k := (side1 ps k).symm
/-- Two sides that the program's check passes. -/
def OkB (s t : Pt × Pt) : Prop := (s.1 = t.1 ∧ s.2 = t.2) ∨ (s.1 = t.2 ∧ s.2 = t.1) ∨ (s.1 = t.1 ∧ NoFold s.1 s.2 t.2) ∨ (s.1 = t.2 ∧ NoFold s.1 s.2 t.1) ∨ (s.2 = t.1 ∧ NoFold s.2 s.1 t.2) ∨ (s.2 = t.2 ∧ NoFold s.2 s.1 t.1) ∨ meetR (sdOf s) (sdOf t) = false
theorem cr_cross (a b c : Pt) : cr a b c = crossP (sdOf (a, b)) c.x c.y := rfl
theorem fold_no {o a b : Pt} : NoFold o a b ↔ foldP o.x o.y a.x a.y b.x b.y = false := by
  unfold NoFold foldP
  rw [Bool.and_eq_false_iff, decide_eq_false_iff_not, decide_eq_false_iff_not]
  have e1 : cr o a b = crossP ⟨o.x, o.y, a.x, a.y⟩ b.x b.y := rfl
  have e2 : dt o a b = (a.x - o.x) * (b.x - o.x) + (a.y - o.y) * (b.y - o.y) := rfl
  rw [e1, e2]
  exact Classical.not_and_iff_not_or_not
theorem com_dot {i j k l : Int} {p q a b : Pt} (C : Com i j k l p q a b) : j * dt p q q = k * dt p q a + l * dt p q b ∧ k * cr p q a + l * cr p q b = 0 ∧ i * cr a b p + j * cr a b q = 0 := by
  obtain ⟨-, -, -, -, -, sum, ex, ey⟩ := C
  have hx : j * (q.x - p.x) = k * (a.x - p.x) + l * (b.x - p.x) := by grind
  have hy : j * (q.y - p.y) = k * (a.y - p.y) + l * (b.y - p.y) := by grind
  have ux : k * (a.x - p.x) + l * (b.x - p.x) - j * (q.x - p.x) = 0 := by omega
  have uy : k * (a.y - p.y) + l * (b.y - p.y) - j * (q.y - p.y) = 0 := by omega
  clear hx hy
  refine ⟨?_, ?_, ?_⟩
  · have : k * dt p q a + l * dt p q b - j * dt p q q = (q.x - p.x) * (k * (a.x - p.x) + l * (b.x - p.x) - j * (q.x - p.x)) + (q.y - p.y) * (k * (a.y - p.y) + l * (b.y - p.y) - j * (q.y - p.y)) := by clear ux uy ex ey sum; unfold dt; grind
    rw [ux, uy] at this
    simp at this
    omega
  · have : k * cr p q a + l * cr p q b = (q.x - p.x) * (k * (a.y - p.y) + l * (b.y - p.y) - j * (q.y - p.y)) - (q.y - p.y) * (k * (a.x - p.x) + l * (b.x - p.x) - j * (q.x - p.x)) := by clear ux uy ex ey sum; unfold cr; grind
    rw [this, ux, uy]
    simp
  · have hi : i = k + l - j := by omega
    subst hi
    unfold cr
    grind
/-- Sides with a common point meet. -/
theorem meet_of_com {i j k l : Int} {p q a b : Pt} (hpq : p ≠ q) (C : Com i j k l p q a b) : meetR (sdOf (p, q)) (sdOf (a, b)) = true := by
  rw [meet_meets]
  obtain ⟨e5, z1, z2⟩ := com_dot C
  obtain ⟨i0, j0, k0, l0, pos, sum, -, -⟩ := C
  refine Classical.byContradiction fun hn => ?_
  rw [Bool.not_eq_true] at hn
  unfold meetsP sdOf at hn
  dsimp only at hn
  rw [Bool.or_eq_false_iff, Bool.or_eq_false_iff, Bool.or_eq_false_iff, Bool.or_eq_false_iff, Bool.and_eq_false_iff, decide_eq_false_iff_not, decide_eq_false_iff_not, Classical.not_not, Classical.not_not] at hn
  obtain ⟨⟨h1, h2, h3, h4⟩, h5⟩ := hn
  have key : ∀ {u v m n : Int}, 0 ≤ m → 0 ≤ n → 0 < m + n → m * u + n * v = 0 → sgnP u = sgnP v → u = 0 ∧ v = 0 := by
    intro u v m n hm hn hmn hz hs
    unfold sgnP at hs
    rcases Int.lt_trichotomy u 0 with hu | hu | hu
    · have hv : v < 0 := by
        rw [if_neg (by omega), if_pos hu] at hs
        split at hs
        · omega
        · split at hs <;> omega
      exfalso
      have a1 := Int.mul_nonpos_of_nonneg_of_nonpos hm (Int.le_of_lt hu)
      have a2 := Int.mul_nonpos_of_nonneg_of_nonpos hn (Int.le_of_lt hv)
      rcases Int.lt_or_le 0 m with h | h
      · have := Int.mul_neg_of_pos_of_neg h hu; omega
      · have := Int.mul_neg_of_pos_of_neg (show 0 < n by omega) hv; omega
    · subst hu
      refine ⟨rfl, ?_⟩
      rw [if_neg (by omega), if_neg (by omega)] at hs
      split at hs
      · omega
      · split at hs <;> omega
    · have hv : 0 < v := by
        rw [if_pos hu] at hs
        split at hs
        · assumption
        · split at hs <;> omega
      exfalso
      have a1 := Int.mul_nonneg hm (Int.le_of_lt hu)
      have a2 := Int.mul_nonneg hn (Int.le_of_lt hv)
      rcases Int.lt_or_le 0 m with h | h
      · have := Int.mul_pos h hu; omega
      · have := Int.mul_pos (show 0 < n by omega) hv; omega
  have flat : cr p q a = 0 ∧ cr p q b = 0 := by
    rcases h5 with h5 | h5
    · exact key k0 l0 (by omega) z1 h5
    · obtain ⟨w1, w2⟩ := key i0 j0 pos z2 h5
      -- a side that is a point lies where both others do
      refine Classical.byContradiction fun hh => ?_
      by_cases hab : a = b
      · subst hab
        have : (k + l) * cr p q a = 0 := by rw [Int.add_mul]; exact z1
        rcases Int.mul_eq_zero.1 this with h | h
        · omega
        · exact hh ⟨h, h⟩
      · have hl := len_pos hab
        have : dt a b b * cr p q a = 0 := by unfold cr at *; unfold dt; grind
        have hA : cr p q a = 0 := by
          rcases Int.mul_eq_zero.1 this with h | h
          · omega
          · exact h
        have : dt a b b * cr p q b = 0 := by unfold cr at *; unfold dt; grind
        have hB : cr p q b = 0 := by
          rcases Int.mul_eq_zero.1 this with h | h
          · omega
          · exact h
        exact hh ⟨hA, hB⟩
  obtain ⟨c1, c2⟩ := flat
  have c3 : cr a b p = 0 := by unfold cr at *; grind
  have c4 : cr a b q = 0 := by unfold cr at *; grind
  have dots : 0 < dotP ⟨p.x, p.y, q.x, q.y⟩ a.x a.y ∧ 0 < dotP ⟨p.x, p.y, q.x, q.y⟩ b.x b.y ∧ 0 < dotP ⟨a.x, a.y, b.x, b.y⟩ p.x p.y ∧ 0 < dotP ⟨a.x, a.y, b.x, b.y⟩ q.x q.y := by
    have pick : ∀ {s : Sd} {x y : Int}, crossP s x y = 0 → hasP s x y = false → 0 < dotP s x y := by
      intro s x y hc hh
      unfold hasP turnP at hh
      rw [sgnP_zero.2 hc] at hh
      simpa using hh
    exact ⟨pick c1 h1, pick c2 h2, pick c3 h3, pick c4 h4⟩
  obtain ⟨d1, d2, d3, d4⟩ := dots
  unfold dotP at d1 d2 d3 d4
  dsimp only at d1 d2 d3 d4
  have hL := len_pos hpq
  obtain ⟨L, hLL⟩ : ∃ L, dt p q q = L := ⟨_, rfl⟩
  obtain ⟨ta, hta⟩ : ∃ t, dt p q a = t := ⟨_, rfl⟩
  obtain ⟨tb, htb⟩ : ∃ t, dt p q b = t := ⟨_, rfl⟩
  have g1 : dt p q q * ((p.x - a.x) * (q.x - a.x) + (p.y - a.y) * (q.y - a.y)) = dt p q a * (dt p q a - dt p q q) + cr p q a * cr p q a := by unfold cr dt; grind
  have g2 : dt p q q * ((p.x - b.x) * (q.x - b.x) + (p.y - b.y) * (q.y - b.y)) = dt p q b * (dt p q b - dt p q q) + cr p q b * cr p q b := by unfold cr dt; grind
  have g3 : dt p q q * ((a.x - p.x) * (b.x - p.x) + (a.y - p.y) * (b.y - p.y)) = dt p q a * dt p q b + cr p q a * cr p q b := by unfold cr dt; grind
  have g4 : dt p q q * ((a.x - q.x) * (b.x - q.x) + (a.y - q.y) * (b.y - q.y)) = (dt p q a - dt p q q) * (dt p q b - dt p q q) + cr p q a * cr p q b := by unfold cr dt; grind
  rw [c1] at g1 g3 g4
  rw [c2] at g2
  rw [hLL, hta, Int.mul_zero, Int.add_zero] at g1
  rw [hLL, htb, Int.mul_zero, Int.add_zero] at g2
  rw [hLL, hta, htb, Int.zero_mul, Int.add_zero] at g3 g4
  rw [hLL, hta, htb] at e5
  rw [hLL] at hL
  have f1 := Int.mul_pos hL d1
  have f2 := Int.mul_pos hL d2
  have f3 := Int.mul_pos hL d3
  have f4 := Int.mul_pos hL d4
  rw [g1] at f1
  rw [g2] at f2
  rw [g3] at f3
  rw [g4] at f4
  have hjL : 0 ≤ j * L := Int.mul_nonneg j0 (Int.le_of_lt hL)
  have hiL : 0 ≤ i * L := Int.mul_nonneg i0 (Int.le_of_lt hL)
  rcases Int.lt_trichotomy ta 0 with ha | ha | ha
  · have hb : tb < 0 := by
      refine Int.not_le.1 fun h => ?_
      have := Int.mul_nonpos_of_nonpos_of_nonneg (Int.le_of_lt ha) h
      omega
    have a1 := Int.mul_nonpos_of_nonneg_of_nonpos k0 (Int.le_of_lt ha)
    have a2 := Int.mul_nonpos_of_nonneg_of_nonpos l0 (Int.le_of_lt hb)
    rcases Int.lt_or_le 0 k with h | h
    · have := Int.mul_neg_of_pos_of_neg h ha; omega
    · have := Int.mul_neg_of_pos_of_neg (show 0 < l by omega) hb; omega
  · subst ha; simp at f1
  · have hb : 0 < tb := pos_right ha f3
    have ga : 0 < ta - L := pos_right ha f1
    have gb : 0 < tb - L := pos_right hb f2
    have a1 := Int.mul_nonneg k0 (Int.le_of_lt ga)
    have a2 := Int.mul_nonneg l0 (Int.le_of_lt gb)
    have e6 : k * (ta - L) + l * (tb - L) = - (i * L) := by
      have : k * (ta - L) + l * (tb - L) = k * ta + l * tb - (k + l) * L := by rw [Int.mul_sub, Int.mul_sub, Int.add_mul]; omega
      rw [this, ← e5, ← sum, Int.add_mul]; omega
    rcases Int.lt_or_le 0 k with h | h
    · have := Int.mul_pos h ga; omega
    · have := Int.mul_pos (show 0 < l by omega) gb; omega
end Go.Proofs.Ythnfepfbkmafaaa.Geo
