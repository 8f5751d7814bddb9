/- Polygons, in plain Lean: the program's 'crosses' (fractions) is the reference's 'passes' (corners). -/
import Derived.Test.YthnfepfbkmafaaaY1
namespace Go.Proofs.Ythnfepfbkmafaaa
set_option linter.unusedVariables false
open Go.RowKit
/-- The reference's 'passes': a side and the corners of a rectangle. -/
def leftB (s : Sd) (lx ly hx hy : Int) : Bool := ((decide (0 < crossP s lx ly) || decide (0 < crossP s hx ly)) || decide (0 < crossP s hx hy)) || decide (0 < crossP s lx hy)
def rightB (s : Sd) (lx ly hx hy : Int) : Bool := ((decide (crossP s lx ly < 0) || decide (crossP s hx ly < 0)) || decide (crossP s hx hy < 0)) || decide (crossP s lx hy < 0)
def asideB (s : Sd) (lx ly hx hy : Int) : Bool := decide (max s.x1 s.x2 ≤ lx) || (decide (hx ≤ min s.x1 s.x2) || (decide (max s.y1 s.y2 ≤ ly) || decide (hy ≤ min s.y1 s.y2)))
def passP (s : Sd) (lx ly hx hy : Int) : Bool := if asideB s lx ly hx hy then false else leftB s lx ly hx hy && rightB s lx ly hx hy
/-- A fraction. -/
structure Fr where
  n : Int
  d : Int
def frOf (n d : Int) : Fr := if d < 0 then ⟨-n, -d⟩ else ⟨n, d⟩
def Fr.lt (p q : Fr) : Bool := decide (p.n * q.d < q.n * p.d)
def frMax (p q : Fr) : Fr := if p.lt q then q else p
def frMin (p q : Fr) : Fr := if p.lt q then p else q
theorem Fr.trans {a b c : Fr} (ha : 0 < a.d) (hb : 0 < b.d) (hc : 0 < c.d) (h1 : a.lt b = false) (h2 : a.lt c = true) : b.lt c = true := by
  unfold Fr.lt at *
  simp only [decide_eq_false_iff_not, decide_eq_true_eq, Int.not_lt] at *
  refine Int.not_le.1 fun h => ?_
  have p1 := Int.mul_le_mul_of_nonneg_right h1 (Int.le_of_lt hc)
  have p2 := Int.mul_lt_mul_of_pos_right h2 hb
  have p3 := Int.mul_le_mul_of_nonneg_right h (Int.le_of_lt ha)
  grind
theorem Fr.trans2 {a b c : Fr} (ha : 0 < a.d) (hb : 0 < b.d) (hc : 0 < c.d) (h1 : b.lt c = true) (h2 : a.lt b = true) : a.lt c = true := by
  unfold Fr.lt at *
  simp only [decide_eq_true_eq] at *
  refine Int.not_le.1 fun h => ?_
  have p1 := Int.mul_lt_mul_of_pos_right h1 ha
  have p2 := Int.mul_lt_mul_of_pos_right h2 hc
  have p3 := Int.mul_le_mul_of_nonneg_right h (Int.le_of_lt hb)
  grind
theorem Fr.trans3 {a b c : Fr} (ha : 0 < a.d) (hb : 0 < b.d) (hc : 0 < c.d) (h1 : b.lt c = false) (h2 : a.lt c = true) : a.lt b = true := by
  unfold Fr.lt at *
  simp only [decide_eq_false_iff_not, decide_eq_true_eq, Int.not_lt] at *
  refine Int.not_le.1 fun h => ?_
  have p1 := Int.mul_le_mul_of_nonneg_right h1 (Int.le_of_lt ha)
  have p2 := Int.mul_lt_mul_of_pos_right h2 hb
  have p3 := Int.mul_le_mul_of_nonneg_right h (Int.le_of_lt hc)
  grind
theorem frMax_d {p q : Fr} (hp : 0 < p.d) (hq : 0 < q.d) : 0 < (frMax p q).d := by unfold frMax; split <;> assumption
theorem frMin_d {p q : Fr} (hp : 0 < p.d) (hq : 0 < q.d) : 0 < (frMin p q).d := by unfold frMin; split <;> assumption
theorem max_lt {p q c : Fr} (hp : 0 < p.d) (hq : 0 < q.d) (hc : 0 < c.d) : (frMax p q).lt c = (p.lt c && q.lt c) := by
  unfold frMax
  cases h : p.lt q
  · cases h2 : p.lt c
    · simp [h2]
    · rw [Fr.trans hp hq hc h h2]; simpa using h2
  · cases h2 : q.lt c
    · simp [h2]
    · rw [Fr.trans2 hp hq hc h2 h]; simpa using h2
theorem lt_min {p q c : Fr} (hp : 0 < p.d) (hq : 0 < q.d) (hc : 0 < c.d) : c.lt (frMin p q) = (c.lt p && c.lt q) := by
  unfold frMin
  cases h : p.lt q
  · cases h2 : c.lt q
    · simp [h2]
    · have : c.lt p = true := by
        cases h3 : c.lt p
        · have := Fr.trans hc hp hq h3 h2
          rw [this] at h; cases h
        · rfl
      simp [this, h2]
  · cases h2 : c.lt p
    · simp [h2]
    · rw [Fr.trans2 hc hp hq h h2]; simp [h2]
/-- One axis of 'crosses': from, to, the range, and the two bounds so far. -/
def axLow (f t lo hi : Int) (low : Fr) : Fr := if t - f = 0 then low else frMax low (if t - f < 0 then frOf (hi - f) (t - f) else frOf (lo - f) (t - f))
def axHigh (f t lo hi : Int) (high : Fr) : Fr := if t - f = 0 then high else frMin (if t - f < 0 then frOf (lo - f) (t - f) else frOf (hi - f) (t - f)) high
def axNo (f t lo hi : Int) : Bool := decide (t - f = 0) && (decide (f ≤ lo) || decide (hi ≤ f))
def low0 : Fr := ⟨-1, 1⟩
def high0 : Fr := ⟨2, 1⟩
def endB (low high : Fr) : Bool := low.lt high && (low.lt ⟨1, 1⟩ && Fr.lt ⟨0, 1⟩ high)
/-- The program's 'crosses'. -/
def crossesP (s : Sd) (lx ly hx hy : Int) : Bool :=
  if axNo s.x1 s.x2 lx hx then false else if axNo s.y1 s.y2 ly hy then false
  else endB (axLow s.y1 s.y2 ly hy (axLow s.x1 s.x2 lx hx low0)) (axHigh s.y1 s.y2 ly hy (axHigh s.x1 s.x2 lx hx high0))
theorem end_all {fx tx fy ty : Fr} (a1 : 0 < fx.d) (a2 : 0 < tx.d) (a3 : 0 < fy.d) (a4 : 0 < ty.d) (h1 : low0.lt high0 = true) :
    endB (frMax (frMax low0 fx) fy) (frMin ty (frMin tx high0)) = true ↔
      ((low0.lt tx = true ∧ low0.lt ty = true ∧ fx.lt high0 = true ∧ fy.lt high0 = true) ∧ (fx.lt tx = true ∧ fy.lt ty = true ∧ fx.lt ty = true ∧ fy.lt tx = true) ∧ (fx.lt ⟨1, 1⟩ = true ∧ fy.lt ⟨1, 1⟩ = true ∧ Fr.lt ⟨0, 1⟩ tx = true ∧ Fr.lt ⟨0, 1⟩ ty = true)) := by
  have l0 : 0 < low0.d := by decide
  have l1 : 0 < high0.d := by decide
  have l2 : 0 < (Fr.mk 1 1).d := by decide
  have l3 : 0 < (Fr.mk 0 1).d := by decide
  have k1 : low0.lt ⟨1, 1⟩ = true := by decide
  have k2 : Fr.lt ⟨0, 1⟩ high0 = true := by decide
  have m1 := frMin_d a2 l1
  have m2 := frMin_d a4 m1
  unfold endB
  rw [max_lt (frMax_d l0 a1) a3 m2, max_lt l0 a1 m2, max_lt (frMax_d l0 a1) a3 l2, max_lt l0 a1 l2]
  rw [lt_min a4 m1 l0, lt_min a4 m1 a1, lt_min a4 m1 a3, lt_min a4 m1 l3, lt_min a2 l1 l0, lt_min a2 l1 a1, lt_min a2 l1 a3, lt_min a2 l1 l3, h1, k1, k2]
  simp only [Bool.and_eq_true, Bool.and_true, Bool.true_and]
  constructor
  · rintro ⟨⟨⟨p1, p2⟩, p3, p4, p5⟩, p6, p7, p8⟩
    simp_all
  · rintro ⟨⟨p1, p2, p3, p4⟩, ⟨p5, p6, p7, p8⟩, p9, p10, p11, p12⟩
    simp_all
theorem end_one {fx tx : Fr} (a1 : 0 < fx.d) (a2 : 0 < tx.d) :
    endB (frMax low0 fx) (frMin tx high0) = true ↔ ((low0.lt tx = true ∧ fx.lt high0 = true) ∧ fx.lt tx = true ∧ (fx.lt ⟨1, 1⟩ = true ∧ Fr.lt ⟨0, 1⟩ tx = true)) := by
  have l0 : 0 < low0.d := by decide
  have l1 : 0 < high0.d := by decide
  have l2 : 0 < (Fr.mk 1 1).d := by decide
  have l3 : 0 < (Fr.mk 0 1).d := by decide
  have h1 : low0.lt high0 = true := by decide
  have k1 : low0.lt ⟨1, 1⟩ = true := by decide
  have k2 : Fr.lt ⟨0, 1⟩ high0 = true := by decide
  have m1 := frMin_d a2 l1
  unfold endB
  rw [max_lt l0 a1 m1, max_lt l0 a1 l2, lt_min a2 l1 l0, lt_min a2 l1 a1, lt_min a2 l1 l3, h1, k1, k2]
  simp only [Bool.and_eq_true, Bool.and_true, Bool.true_and]
  constructor
  · rintro ⟨⟨p1, p2, p3⟩, p4, p5⟩
    simp_all
  · rintro ⟨⟨p1, p2⟩, p3, p4, p5⟩
    simp_all
/-- The two fractions of an axis, for a side that goes along it. -/
def axF (f t lo hi : Int) : Fr := if t - f < 0 then ⟨f - hi, f - t⟩ else ⟨lo - f, t - f⟩
def axT (f t lo hi : Int) : Fr := if t - f < 0 then ⟨f - lo, f - t⟩ else ⟨hi - f, t - f⟩
theorem fr_ext {a b c d : Int} (h1 : a = c) (h2 : b = d) : Fr.mk a b = Fr.mk c d := by rw [h1, h2]
theorem axLow_eq {f t lo hi : Int} (low : Fr) (h : t - f ≠ 0) : axLow f t lo hi low = frMax low (axF f t lo hi) := by
  unfold axLow axF frOf
  rw [if_neg h]
  split
  · rw [fr_ext (show -(hi - f) = f - hi by omega) (show -(t - f) = f - t by omega)]
  · rfl
theorem axHigh_eq {f t lo hi : Int} (high : Fr) (h : t - f ≠ 0) : axHigh f t lo hi high = frMin (axT f t lo hi) high := by
  unfold axHigh axT frOf
  rw [if_neg h]
  split
  · rw [fr_ext (show -(lo - f) = f - lo by omega) (show -(t - f) = f - t by omega)]
  · rfl
theorem axF_d {f t lo hi : Int} (h : t - f ≠ 0) : 0 < (axF f t lo hi).d := by unfold axF; split <;> (dsimp only; omega)
theorem axT_d {f t lo hi : Int} (h : t - f ≠ 0) : 0 < (axT f t lo hi).d := by unfold axT; split <;> (dsimp only; omega)
theorem axNo_ne {f t lo hi : Int} (h : t - f ≠ 0) : axNo f t lo hi = false := by unfold axNo; rw [decide_eq_false h]; rfl
/-- What an axis alone says. -/
theorem ax_own {f t lo hi : Int} (h : t - f ≠ 0) (hl : lo < hi) :
    ((axF f t lo hi).lt ⟨1, 1⟩ = true ∧ Fr.lt ⟨0, 1⟩ (axT f t lo hi) = true ↔ lo < max f t ∧ min f t < hi) ∧ (axF f t lo hi).lt (axT f t lo hi) = true ∧
    ((axF f t lo hi).lt ⟨1, 1⟩ = true → (axF f t lo hi).lt high0 = true) ∧ (Fr.lt ⟨0, 1⟩ (axT f t lo hi) = true → low0.lt (axT f t lo hi) = true) := by
  unfold axF axT Fr.lt low0 high0
  by_cases h1 : t - f < 0
  · simp only [if_pos h1, decide_eq_true_eq]
    have := Int.mul_lt_mul_of_pos_right (show f - hi < f - lo by omega) (show 0 < f - t by omega)
    refine ⟨?_, this, ?_, ?_⟩ <;> omega
  · simp only [if_neg h1, decide_eq_true_eq]
    have := Int.mul_lt_mul_of_pos_right (show lo - f < hi - f by omega) (show 0 < t - f by omega)
    refine ⟨?_, this, ?_, ?_⟩ <;> omega
theorem crosses_two {x1 y1 x2 y2 lx ly hx hy : Int} (ha : x2 - x1 ≠ 0) (hb : y2 - y1 ≠ 0) (h1 : lx < hx) (h2 : ly < hy) :
    crossesP ⟨x1, y1, x2, y2⟩ lx ly hx hy = true ↔ (lx < max x1 x2 ∧ min x1 x2 < hx) ∧ (ly < max y1 y2 ∧ min y1 y2 < hy) ∧ (axF x1 x2 lx hx).lt (axT y1 y2 ly hy) = true ∧ (axF y1 y2 ly hy).lt (axT x1 x2 lx hx) = true := by
  unfold crossesP
  dsimp only
  rw [axNo_ne ha, axNo_ne hb, if_neg (by decide), if_neg (by decide), axLow_eq _ ha, axLow_eq _ hb, axHigh_eq _ ha, axHigh_eq _ hb, end_all (axF_d ha) (axT_d ha) (axF_d hb) (axT_d hb) (by decide)]
  obtain ⟨p1, p2, p3, p4⟩ := ax_own ha h1
  obtain ⟨q1, q2, q3, q4⟩ := ax_own hb h2
  rw [← p1, ← q1]
  constructor
  · rintro ⟨-, ⟨-, -, k1, k2⟩, k3, k4, k5, k6⟩
    exact ⟨⟨k3, k5⟩, ⟨k4, k6⟩, k1, k2⟩
  · rintro ⟨⟨k3, k5⟩, ⟨k4, k6⟩, k1, k2⟩
    exact ⟨⟨p4 k5, q4 k6, p3 k3, q3 k4⟩, ⟨p2, q2, k1, k2⟩, k3, k4, k5, k6⟩
theorem crosses_pass {s : Sd} {lx ly hx hy : Int} (hne : ¬ (s.x1 = s.x2 ∧ s.y1 = s.y2)) (h1 : lx < hx) (h2 : ly < hy) : crossesP s lx ly hx hy = passP s lx ly hx hy := by
  obtain ⟨x1, y1, x2, y2⟩ := s
  dsimp only at hne
  rw [Bool.eq_iff_iff]
  by_cases hb : y2 - y1 = 0
  · have ha : x2 - x1 ≠ 0 := by omega
    have hy12 : y2 = y1 := by omega
    subst hy12
    unfold crossesP passP asideB leftB rightB crossP
    dsimp only
    rw [axNo_ne ha, if_neg (by decide), axLow_eq _ ha, axHigh_eq _ ha, show axLow y2 y2 ly hy = fun l => l by unfold axLow; simp, show axHigh y2 y2 ly hy = fun l => l by unfold axHigh; simp]
    dsimp only
    have hown := ax_own ha h1
    have hend := end_one (axF_d (lo := lx) (hi := hx) ha) (axT_d (lo := lx) (hi := hx) ha)
    obtain ⟨p1, p2, p3, p4⟩ := hown
    have hz : axNo y2 y2 ly hy = decide (y2 ≤ ly ∨ hy ≤ y2) := by unfold axNo; simp
    rw [hz]
    by_cases hq : y2 ≤ ly ∨ hy ≤ y2
    · simp [hq]
    · simp only [hq, decide_false, Bool.false_eq_true, if_false, hend, show y2 - y2 = 0 by omega, Int.zero_mul, Int.sub_zero]
      have e : ((low0.lt (axT x1 x2 lx hx) = true ∧ (axF x1 x2 lx hx).lt high0 = true) ∧ (axF x1 x2 lx hx).lt (axT x1 x2 lx hx) = true ∧ (axF x1 x2 lx hx).lt ⟨1, 1⟩ = true ∧ Fr.lt ⟨0, 1⟩ (axT x1 x2 lx hx) = true) ↔ lx < max x1 x2 ∧ min x1 x2 < hx := by
        rw [← p1]
        exact ⟨fun h => ⟨h.2.2.1, h.2.2.2⟩, fun h => ⟨⟨p4 h.2, p3 h.1⟩, p2, h.1, h.2⟩⟩
      rw [e]
      rcases Int.lt_or_gt_of_ne ha with ha | ha
      · have m1 := Int.mul_neg_of_neg_of_pos ha (show 0 < hy - y2 by omega)
        have m2 := Int.mul_pos_of_neg_of_neg ha (show ly - y2 < 0 by omega)
        simp [m1, m2, Int.not_lt.2 (Int.le_of_lt m1), Int.not_lt.2 (Int.le_of_lt m2)]
        omega
      · have m1 := Int.mul_pos ha (show 0 < hy - y2 by omega)
        have m2 := Int.mul_neg_of_pos_of_neg ha (show ly - y2 < 0 by omega)
        simp [m1, m2, Int.not_lt.2 (Int.le_of_lt m1), Int.not_lt.2 (Int.le_of_lt m2)]
        omega
  · by_cases ha : x2 - x1 = 0
    · have hx12 : x2 = x1 := by omega
      subst hx12
      unfold crossesP passP asideB leftB rightB crossP
      dsimp only
      rw [axNo_ne hb, axLow_eq _ hb, axHigh_eq _ hb, show axLow x2 x2 lx hx low0 = low0 by unfold axLow; simp, show axHigh x2 x2 lx hx high0 = high0 by unfold axHigh; simp]
      have hown := ax_own hb h2
      have hend := end_one (axF_d (lo := ly) (hi := hy) hb) (axT_d (lo := ly) (hi := hy) hb)
      obtain ⟨p1, p2, p3, p4⟩ := hown
      have hz : axNo x2 x2 lx hx = decide (x2 ≤ lx ∨ hx ≤ x2) := by unfold axNo; simp
      rw [hz]
      by_cases hq : x2 ≤ lx ∨ hx ≤ x2
      · simp [hq]; omega
      · simp only [hq, decide_false, Bool.false_eq_true, if_false, hend, show x2 - x2 = 0 by omega, Int.zero_mul, Int.zero_sub]
        have e : ((low0.lt (axT y1 y2 ly hy) = true ∧ (axF y1 y2 ly hy).lt high0 = true) ∧ (axF y1 y2 ly hy).lt (axT y1 y2 ly hy) = true ∧ (axF y1 y2 ly hy).lt ⟨1, 1⟩ = true ∧ Fr.lt ⟨0, 1⟩ (axT y1 y2 ly hy) = true) ↔ ly < max y1 y2 ∧ min y1 y2 < hy := by
          rw [← p1]
          exact ⟨fun h => ⟨h.2.2.1, h.2.2.2⟩, fun h => ⟨⟨p4 h.2, p3 h.1⟩, p2, h.1, h.2⟩⟩
        rw [e]
        rcases Int.lt_or_gt_of_ne hb with hb | hb
        · have m1 := Int.mul_neg_of_neg_of_pos hb (show 0 < hx - x2 by omega)
          have m2 := Int.mul_pos_of_neg_of_neg hb (show lx - x2 < 0 by omega)
          simp [m1, m2, Int.not_lt.2 (Int.le_of_lt m1), Int.not_lt.2 (Int.le_of_lt m2)]
          omega
        · have m1 := Int.mul_pos hb (show 0 < hx - x2 by omega)
          have m2 := Int.mul_neg_of_pos_of_neg hb (show lx - x2 < 0 by omega)
          simp [m1, m2, Int.not_lt.2 (Int.le_of_lt m1), Int.not_lt.2 (Int.le_of_lt m2)]
          omega
    · rw [crosses_two ha hb h1 h2]
      unfold passP asideB leftB rightB crossP axF axT Fr.lt
      dsimp only
      rcases Int.lt_or_gt_of_ne ha with ha | ha <;> rcases Int.lt_or_gt_of_ne hb with hb | hb
      · have hp1 := Int.mul_pos (show 0 < x1 - x2 by omega) (show 0 < hy - ly by omega)
        have hp2 := Int.mul_pos (show 0 < y1 - y2 by omega) (show 0 < hx - lx by omega)
        rw [if_pos ha, if_pos hb, if_pos ha, if_pos hb, show max x1 x2 = x1 by omega, show min x1 x2 = x2 by omega, show max y1 y2 = y1 by omega, show min y1 y2 = y2 by omega]
        simp only [Bool.if_false_left, Bool.and_eq_true, Bool.or_eq_true, decide_eq_true_eq, Bool.not_eq_true', decide_eq_false_iff_not]
        grind
      · have hp1 := Int.mul_pos (show 0 < x1 - x2 by omega) (show 0 < hy - ly by omega)
        have hp2 := Int.mul_pos (show 0 < y2 - y1 by omega) (show 0 < hx - lx by omega)
        rw [if_pos ha, if_neg (by omega), if_neg (by omega), if_pos ha, show max x1 x2 = x1 by omega, show min x1 x2 = x2 by omega, show max y1 y2 = y2 by omega, show min y1 y2 = y1 by omega]
        simp only [Bool.if_false_left, Bool.and_eq_true, Bool.or_eq_true, decide_eq_true_eq, Bool.not_eq_true', decide_eq_false_iff_not]
        grind
      · have hp1 := Int.mul_pos (show 0 < x2 - x1 by omega) (show 0 < hy - ly by omega)
        have hp2 := Int.mul_pos (show 0 < y1 - y2 by omega) (show 0 < hx - lx by omega)
        rw [if_neg (by omega), if_pos hb, if_pos hb, if_neg (by omega), show max x1 x2 = x2 by omega, show min x1 x2 = x1 by omega, show max y1 y2 = y1 by omega, show min y1 y2 = y2 by omega]
        simp only [Bool.if_false_left, Bool.and_eq_true, Bool.or_eq_true, decide_eq_true_eq, Bool.not_eq_true', decide_eq_false_iff_not]
        grind
      · have hp1 := Int.mul_pos (show 0 < x2 - x1 by omega) (show 0 < hy - ly by omega)
        have hp2 := Int.mul_pos (show 0 < y2 - y1 by omega) (show 0 < hx - lx by omega)
        rw [if_neg (by omega), if_neg (by omega), if_neg (by omega), if_neg (by omega), show max x1 x2 = x2 by omega, show min x1 x2 = x1 by omega, show max y1 y2 = y2 by omega, show min y1 y2 = y1 by omega]
        simp only [Bool.if_false_left, Bool.and_eq_true, Bool.or_eq_true, decide_eq_true_eq, Bool.not_eq_true', decide_eq_false_iff_not]
        grind
end Go.Proofs.Ythnfepfbkmafaaa
