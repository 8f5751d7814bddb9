import Derived.Test.YtokpdmlmlkkekaaZY
import Derived.Test.YtokpdmlmlkkekaaY7
/- Polygons, in plain Lean: the program's 'crosses' (fractions) is the reference's 'passes' (corners). -/
namespace Go.Proofs.Ytokpdmlmlkkekaa
set_option linter.unusedVariables false
open Go.RowKit
/-- The reference's 'passes': a side and the corners of a rectangle. -/
def leftB (s : Sd) (lx ly hx hy : Int) : Bool := ((decide (0 < crossP s lx ly) || decide (0 < crossP s hx ly)) || decide (0 < crossP s hx hy)) || decide (0 < crossP s lx hy)
def rightB (s : Sd) (lx ly hx hy : Int) : Bool := ((decide (crossP s lx ly < 0) || decide (crossP s hx ly < 0)) || decide (crossP s hx hy < 0)) || decide (crossP s lx hy < 0)
def asideB (s : Sd) (lx ly hx hy : Int) : Bool := decide (max s.x1 s.x2 ≤ lx) || (decide (hx ≤ min s.x1 s.x2) || (decide (max s.y1 s.y2 ≤ ly) || decide (hy ≤ min s.y1 s.y2)))
def passP (s : Sd) (lx ly hx hy : Int) : Bool := if asideB s lx ly hx hy then false else leftB s lx ly hx hy && rightB s lx ly hx hy
/-- A fraction. -/
structure Fr where
  n : Int
  d : Int
def frOf (n d : Int) : Fr := if d < 0 then ⟨-n, -d⟩ else ⟨n, d⟩
def Fr.lt (p q : Fr) : Bool := decide (p.n * q.d < q.n * p.d)
def frMax (p q : Fr) : Fr := if p.lt q then q else p
def frMin (p q : Fr) : Fr := if p.lt q then p else q
theorem Fr.trans {a b c : Fr} (ha : 0 < a.d) (hb : 0 < b.d) (hc : 0 < c.d) (h1 : a.lt b = false) (h2 : a.lt c = true) : b.lt c = true := by
  unfold Fr.lt at *
  simp only [decide_eq_false_iff_not, decide_eq_true_eq, Int.not_lt] at *
  refine Int.not_le.1 fun h => ?_
  have p1 := Int.mul_le_mul_of_nonneg_right h1 (Int.le_of_lt hc)
  have p2 := Int.mul_lt_mul_of_pos_right h2 hb
  have p3 := Int.mul_le_mul_of_nonneg_right h (Int.le_of_lt ha)
  grind
theorem Fr.trans2 {a b c : Fr} (ha : 0 < a.d) (hb : 0 < b.d) (hc : 0 < c.d) (h1 : b.lt c = true) (h2 : a.lt b = true) : a.lt c = true := by
  unfold Fr.lt at *
  simp only [decide_eq_true_eq] at *
  refine Int.not_le.1 fun h => ?_
  have p1 := Int.mul_lt_mul_of_pos_right h1 ha
  have p2 := Int.mul_lt_mul_of_pos_right h2 hc
  have p3 := Int.mul_le_mul_of_nonneg_right h (Int.le_of_lt hb)
  grind
theorem Fr.trans3 {a b c : Fr} (ha : 0 < a.d) (hb : 0 < b.d) (hc : 0 < c.d) (h1 : b.lt c = false) (h2 : a.lt c = true) : a.lt b = true := by
  unfold Fr.lt at *
  simp only [decide_eq_false_iff_not, decide_eq_true_eq, Int.not_lt] at *
  refine Int.not_le.1 fun h => ?_
  have p1 := Int.mul_le_mul_of_nonneg_right h1 (Int.le_of_lt ha)
  have p2 := Int.mul_lt_mul_of_pos_right h2 hb
  have p3 := Int.mul_le_mul_of_nonneg_right h (Int.le_of_lt hc)
  grind
theorem frMax_d {p q : Fr} (hp : 0 < p.d) (hq : 0 < q.d) : 0 < (frMax p q).d := by unfold frMax; split <;> assumption
theorem frMin_d {p q : Fr} (hp : 0 < p.d) (hq : 0 < q.d) : 0 < (frMin p q).d := by unfold frMin; split <;> assumption
theorem max_lt {p q c : Fr} (hp : 0 < p.d) (hq : 0 < q.d) (hc : 0 < c.d) : (frMax p q).lt c = (p.lt c && q.lt c) := by
  unfold frMax
  cases h : p.lt q
  · cases h2 : p.lt c
    · simp [h2]
    · rw [Fr.trans hp hq hc h h2]; simpa using h2
  · cases h2 : q.lt c
    · simp [h2]
    · rw [Fr.trans2 hp hq hc h2 h]; simpa using h2
theorem lt_min {p q c : Fr} (hp : 0 < p.d) (hq : 0 < q.d) (hc : 0 < c.d) : c.lt (frMin p q) = (c.lt p && c.lt q) := by
  unfold frMin
  cases h : p.lt q
  · cases h2 : c.lt q
    · simp [h2]
    · have : c.lt p = true := by
        cases h3 : c.lt p
        · have := Fr.trans hc hp hq h3 h2
          rw [this] at h; cases h
        · rfl
      simp [this, h2]
  · cases h2 : c.lt p
    · simp [h2]
    · rw [Fr.trans2 hc hp hq h h2]; simp [h2]
/-- One axis of 'crosses': from, to, the range, and the two bounds so far. -/
def axLow (f t lo hi : Int) (low : Fr) : Fr := if t - f = 0 then low else frMax low (if t - f < 0 then frOf (hi - f) (t - f) else frOf (lo - f) (t - f))
def axHigh (f t lo hi : Int) (high : Fr) : Fr := if t - f = 0 then high else frMin (if t - f < 0 then frOf (lo - f) (t - f) else frOf (hi - f) (t - f)) high
def axNo (f t lo hi : Int) : Bool := decide (t - f = 0) && (decide (f ≤ lo) || decide (hi ≤ f))
def low0 : Fr := ⟨-1, 1⟩
def high0 : Fr := ⟨2, 1⟩
def endB (low high : Fr) : Bool := low.lt high && (low.lt ⟨1, 1⟩ && Fr.lt ⟨0, 1⟩ high)
/-- The program's 'crosses'. -/
def crossesP (s : Sd) (lx ly hx hy : Int) : Bool :=
  if axNo s.x1 s.x2 lx hx then false else if axNo s.y1 s.y2 ly hy then false
  else endB (axLow s.y1 s.y2 ly hy (axLow s.x1 s.x2 lx hx low0)) (axHigh s.y1 s.y2 ly hy (axHigh s.x1 s.x2 lx hx high0))
theorem end_all {fx tx fy ty : Fr} (a1 : 0 < fx.d) (a2 : 0 < tx.d) (a3 : 0 < fy.d) (a4 : 0 < ty.d) (h1 : low0.lt high0 = true) :
    endB (frMax (frMax low0 fx) fy) (frMin ty (frMin tx high0)) = true ↔
      ((low0.lt tx = true ∧ low0.lt ty = true ∧ fx.lt high0 = true ∧ fy.lt high0 = true) ∧ (fx.lt tx = true ∧ fy.lt ty = true ∧ fx.lt ty = true ∧ fy.lt tx = true) ∧ (fx.lt ⟨1, 1⟩ = true ∧ fy.lt ⟨1, 1⟩ = true ∧ Fr.lt ⟨0, 1⟩ tx = true ∧ Fr.lt ⟨0, 1⟩ ty = true)) := by
  have l0 : 0 < low0.d := by decide
  have l1 : 0 < high0.d := by decide
  have l2 : 0 < (Fr.mk 1 1).d := by decide
  have l3 : 0 < (Fr.mk 0 1).d := by decide
  have k1 : low0.lt ⟨1, 1⟩ = true := by decide
  have k2 : Fr.lt ⟨0, 1⟩ high0 = true := by decide
  have m1 := frMin_d a2 l1
  have m2 := frMin_d a4 m1
  unfold endB
  rw [max_lt (frMax_d l0 a1) a3 m2, max_lt l0 a1 m2, max_lt (frMax_d l0 a1) a3 l2, max_lt l0 a1 l2]
  rw [lt_min a4 m1 l0, lt_min a4 m1 a1, lt_min a4 m1 a3, lt_min a4 m1 l3, lt_min a2 l1 l0, lt_min a2 l1 a1, lt_min a2 l1 a3, lt_min a2 l1 l3, h1, k1, k2]
  simp only [Bool.and_eq_true, Bool.and_true, Bool.true_and]
  constructor
  · rintro ⟨⟨⟨p1, p2⟩, p3, p4, p5⟩, p6, p7, p8⟩
    simp_all
  · rintro ⟨⟨p1, p2, p3, p4⟩, ⟨p5, p6, p7, p8⟩, p9, p10, p11, p12⟩
    simp_all
theorem end_one {fx tx : Fr} (a1 : 0 < fx.d) (a2 : 0 < tx.d) :
    endB (frMax low0 fx) (frMin tx high0) = true ↔ ((low0.lt tx = true ∧ fx.lt high0 = true) ∧ fx.lt tx = true ∧ (fx.lt ⟨1, 1⟩ = true ∧ Fr.lt ⟨0, 1⟩ tx = true)) := by
  have l0 : 0 < low0.d := by decide
  have l1 : 0 < high0.d := by decide
  have l2 : 0 < (Fr.mk 1 1).d := by decide
  have l3 : 0 < (Fr.mk 0 1).d := by decide
  have h1 : low0.lt high0 = true := by decide
  have k1 : low0.lt ⟨1, 1⟩ = true := by decide
  have k2 : Fr.lt ⟨0, 1⟩ high0 = true := by decide
  have m1 := frMin_d a2 l1
  unfold endB
  rw [max_lt l0 a1 m1, max_lt l0 a1 l2, lt_min a2 l1 l0, lt_min a2 l1 a1, lt_min a2 l1 l3, h1, k1, k2]
  simp only [Bool.and_eq_true, Bool.and_true, Bool.true_and]
  constructor
  · rintro ⟨⟨p1, p2, p3⟩, p4, p5⟩
    simp_all
  · rintro ⟨⟨p1, p2⟩, p3, p4, p5⟩
    simp_all
/-- The two fractions of an axis, for a side that goes along it. -/
def axF (f t lo hi : Int) : Fr := if t - f < 0 then ⟨f - hi, f - t⟩ else ⟨lo - f, t - f⟩
def axT (f t lo hi : Int) : Fr := if t - f < 0 then ⟨f - lo, f - t⟩ else ⟨hi - f, t - f⟩
theorem fr_ext {a b c d : Int} (h1 : a = c) (h2 : b = d) : Fr.mk a b = Fr.mk c d := by rw [h1, h2]
theorem axLow_eq {f t lo hi : Int} (low : Fr) (h : t - f ≠ 0) : axLow f t lo hi low = frMax low (axF f t lo hi) := by
  unfold axLow axF frOf
  rw [if_neg h]
  split
  · rw [fr_ext (show -(hi - f) = f - hi by omega) (show -(t - f) = f - t by omega)]
  · rfl
theorem axHigh_eq {f t lo hi : Int} (high : Fr) (h : t - f ≠ 0) : axHigh f t lo hi high = frMin (axT f t lo hi) high := by
  unfold axHigh axT frOf
  rw [if_neg h]
  split
  · rw [fr_ext (show -(lo - f) = f - lo by omega) (show -(t - f) = f - t by omega)]
  · rfl
theorem axF_d {f t lo hi : Int} (h : t - f ≠ 0) : 0 < (axF f t lo hi).d := by unfold axF; split <;> (dsimp only; omega)
theorem axT_d {f t lo hi : Int} (h : t - f ≠ 0) : 0 < (axT f t lo hi).d := by unfold axT; split <;> (dsimp only; omega)
theorem axNo_ne {f t lo hi : Int} (h : t - f ≠ 0) : axNo f t lo hi = false := by unfold axNo; rw [decide_eq_false h]; rfl
/-- What an axis alone says. -/
theorem ax_own {f t lo hi : Int} (h : t - f ≠ 0) (hl : lo < hi) :
    ((axF f t lo hi).lt ⟨1, 1⟩ = true ∧ Fr.lt ⟨0, 1⟩ (axT f t lo hi) = true ↔ lo < max f t ∧ min f t < hi) ∧ (axF f t lo hi).lt (axT f t lo hi) = true ∧
    ((axF f t lo hi).lt ⟨1, 1⟩ = true → (axF f t lo hi).lt high0 = true) ∧ (Fr.lt ⟨0, 1⟩ (axT f t lo hi) = true → low0.lt (axT f t lo hi) = true) := by
  unfold axF axT Fr.lt low0 high0
  by_cases h1 : t - f < 0
  · simp only [if_pos h1, decide_eq_true_eq]
    have := Int.mul_lt_mul_of_pos_right (show f - hi < f - lo by omega) (show 0 < f - t by omega)
    refine ⟨?_, this, ?_, ?_⟩ <;> omega
  · simp only [if_neg h1, decide_eq_true_eq]
    have := Int.mul_lt_mul_of_pos_right (show lo - f < hi - f by omega) (show 0 < t - f by omega)
    refine ⟨?_, this, ?_, ?_⟩ <;> omega
theorem crosses_two {x1 y1 x2 y2 lx ly hx hy : Int} (ha : x2 - x1 ≠ 0) (hb : y2 - y1 ≠ 0) (h1 : lx < hx) (h2 : ly < hy) :
    crossesP ⟨x1, y1, x2, y2⟩ lx ly hx hy = true ↔ (lx < max x1 x2 ∧ min x1 x2 < hx) ∧ (ly < max y1 y2 ∧ min y1 y2 < hy) ∧ (axF x1 x2 lx hx).lt (axT y1 y2 ly hy) = true ∧ (axF y1 y2 ly hy).lt (axT x1 x2 lx hx) = true := by
  unfold crossesP
  dsimp only
  rw [axNo_ne ha, axNo_ne hb, if_neg (by decide), if_neg (by decide), axLow_eq _ ha, axLow_eq _ hb, axHigh_eq _ ha, axHigh_eq _ hb, end_all (axF_d ha) (axT_d ha) (axF_d hb) (axT_d hb) (by decide)]
  obtain ⟨p1, p2, p3, p4⟩ := ax_own ha h1
  obtain ⟨q1, q2, q3, q4⟩ := ax_own hb h2
  rw [← p1, ← q1]
  constructor
  · rintro ⟨-, ⟨-, -, k1, k2⟩, k3, k4, k5, k6⟩
    exact ⟨⟨k3, k5⟩, ⟨k4, k6⟩, k1, k2⟩
  · rintro ⟨⟨k3, k5⟩, ⟨k4, k6⟩, k1, k2⟩
    exact ⟨⟨p4 k5, q4 k6, p3 k3, q3 k4⟩, ⟨p2, q2, k1, k2⟩, k3, k4, k5, k6⟩
theorem crosses_pass {s : Sd} {lx ly hx hy : Int} (hne : ¬ (s.x1 = s.x2 ∧ s.y1 = s.y2)) (h1 : lx < hx) (h2 : ly < hy) : crossesP s lx ly hx hy = passP s lx ly hx hy := by
  obtain ⟨x1, y1, x2, y2⟩ := s
  dsimp only at hne
  rw [Bool.eq_iff_iff]
  by_cases hb : y2 - y1 = 0
  · have ha : x2 - x1 ≠ 0 := by omega
    have hy12 : y2 = y1 := by omega
    subst hy12
    unfold crossesP passP asideB leftB rightB crossP
    dsimp only
    rw [axNo_ne ha, if_neg (by decide), axLow_eq _ ha, axHigh_eq _ ha, show axLow y2 y2 ly hy = fun l => l by unfold axLow; simp, show axHigh y2 y2 ly hy = fun l => l by unfold axHigh; simp]
    dsimp only
    have hown := ax_own ha h1
    have hend := end_one (axF_d (lo := lx) (hi := hx) ha) (axT_d (lo := lx) (hi := hx) ha)
    obtain ⟨p1, p2, p3, p4⟩ := hown
    have hz : axNo y2 y2 ly hy = decide (y2 ≤ ly ∨ hy ≤ y2) := by unfold axNo; simp
    rw [hz]
    by_cases hq : y2 ≤ ly ∨ hy ≤ y2
    · simp [hq]
    · simp only [hq, decide_false, Bool.false_eq_true, if_false, hend, show y2 - y2 = 0 by omega, Int.zero_mul, Int.sub_zero]
      have e : ((low0.lt (axT x1 x2 lx hx) = true ∧ (axF x1 x2 lx hx).lt high0 = true) ∧ (axF x1 x2 lx hx).lt (axT x1 x2 lx hx) = true ∧ (axF x1 x2 lx hx).lt ⟨1, 1⟩ = true ∧ Fr.lt ⟨0, 1⟩ (axT x1 x2 lx hx) = true) ↔ lx < max x1 x2 ∧ min x1 x2 < hx := by
        rw [← p1]
        exact ⟨fun h => ⟨h.2.2.1, h.2.2.2⟩, fun h => ⟨⟨p4 h.2, p3 h.1⟩, p2, h.1, h.2⟩⟩
      rw [e]
      rcases Int.lt_or_gt_of_ne ha with ha | ha
      · have m1 := Int.mul_neg_of_neg_of_pos ha (show 0 < hy - y2 by omega)
        have m2 := Int.mul_pos_of_neg_of_neg ha (show ly - y2 < 0 by omega)
        simp [m1, m2, Int.not_lt.2 (Int.le_of_lt m1), Int.not_lt.2 (Int.le_of_lt m2)]
        omega
      · have m1 := Int.mul_pos ha (show 0 < hy - y2 by omega)
        have m2 := Int.mul_neg_of_pos_of_neg ha (show ly - y2 < 0 by omega)
        simp [m1, m2, Int.not_lt.2 (Int.le_of_lt m1), Int.not_lt.2 (Int.le_of_lt m2)]
        omega
  · by_cases ha : x2 - x1 = 0
    · have hx12 : x2 = x1 := by omega
      subst hx12
      unfold crossesP passP asideB leftB rightB crossP
      dsimp only
      rw [axNo_ne hb, axLow_eq _ hb, axHigh_eq _ hb, show axLow x2 x2 lx hx low0 = low0 by unfold axLow; simp, show axHigh x2 x2 lx hx high0 = high0 by unfold axHigh; simp]
      have hown := ax_own hb h2
      have hend := end_one (axF_d (lo := ly) (hi := hy) hb) (axT_d (lo := ly) (hi := hy) hb)
      obtain ⟨p1, p2, p3, p4⟩ := hown
      have hz : axNo x2 x2 lx hx = decide (x2 ≤ lx ∨ hx ≤ x2) := by unfold axNo; simp
      rw [hz]
      by_cases hq : x2 ≤ lx ∨ hx ≤ x2
      · simp [hq]; omega
      · simp only [hq, decide_false, Bool.false_eq_true, if_false, hend, show x2 - x2 = 0 by omega, Int.zero_mul, Int.zero_sub]
        have e : ((low0.lt (axT y1 y2 ly hy) = true ∧ (axF y1 y2 ly hy).lt high0 = true) ∧ (axF y1 y2 ly hy).lt (axT y1 y2 ly hy) = true ∧ (axF y1 y2 ly hy).lt ⟨1, 1⟩ = true ∧ Fr.lt ⟨0, 1⟩ (axT y1 y2 ly hy) = true) ↔ ly < max y1 y2 ∧ min y1 y2 < hy := by
          rw [← p1]
          exact ⟨fun h => ⟨h.2.2.1, h.2.2.2⟩, fun h => ⟨⟨p4 h.2, p3 h.1⟩, p2, h.1, h.2⟩⟩
        rw [e]
        rcases Int.lt_or_gt_of_ne hb with hb | hb
        · have m1 := Int.mul_neg_of_neg_of_pos hb (show 0 < hx - x2 by omega)
          have m2 := Int.mul_pos_of_neg_of_neg hb (show lx - x2 < 0 by omega)
          simp [m1, m2, Int.not_lt.2 (Int.le_of_lt m1), Int.not_lt.2 (Int.le_of_lt m2)]
          omega
        · have m1 := Int.mul_pos hb (show 0 < hx - x2 by omega)
          have m2 := Int.mul_neg_of_pos_of_neg hb (show lx - x2 < 0 by omega)
          simp [m1, m2, Int.not_lt.2 (Int.le_of_lt m1), Int.not_lt.2 (Int.le_of_lt m2)]
          omega
    · rw [crosses_two ha hb h1 h2]
      unfold passP asideB leftB rightB crossP axF axT Fr.lt
      dsimp only
      rcases Int.lt_or_gt_of_ne ha with ha | ha <;> rcases Int.lt_or_gt_of_ne hb with hb | hb
      · have hp1 := Int.mul_pos (show 0 < x1 - x2 by omega) (show 0 < hy - ly by omega)
        have hp2 := Int.mul_pos (show 0 < y1 - y2 by omega) (show 0 < hx - lx by omega)
        rw [if_pos ha, if_pos hb, if_pos ha, if_pos hb, show max x1 x2 = x1 by omega, show min x1 x2 = x2 by omega, show max y1 y2 = y1 by omega, show min y1 y2 = y2 by omega]
        simp only [Bool.if_false_left, Bool.and_eq_true, Bool.or_eq_true, decide_eq_true_eq, Bool.not_eq_true', decide_eq_false_iff_not]
        grind
      · have hp1 := Int.mul_pos (show 0 < x1 - x2 by omega) (show 0 < hy - ly by omega)
        have hp2 := Int.mul_pos (show 0 < y2 - y1 by omega) (show 0 < hx - lx by omega)
        rw [if_pos ha, if_neg (by omega), if_neg (by omega), if_pos ha, show max x1 x2 = x1 by omega, show min x1 x2 = x2 by omega, show max y1 y2 = y2 by omega, show min y1 y2 = y1 by omega]
        simp only [Bool.if_false_left, Bool.and_eq_true, Bool.or_eq_true, decide_eq_true_eq, Bool.not_eq_true', decide_eq_false_iff_not]
        grind
      · have hp1 := Int.mul_pos (show 0 < x2 - x1 by omega) (show 0 < hy - ly by omega)
        have hp2 := Int.mul_pos (show 0 < y1 - y2 by omega) (show 0 < hx - lx by omega)
        rw [if_neg (by omega), if_pos hb, if_pos hb, if_neg (by omega), show max x1 x2 = x2 by omega, show min x1 x2 = x1 by omega, show max y1 y2 = y1 by omega, show min y1 y2 = y2 by omega]
        simp only [Bool.if_false_left, Bool.and_eq_true, Bool.or_eq_true, decide_eq_true_eq, Bool.not_eq_true', decide_eq_false_iff_not]
        grind
      · have hp1 := Int.mul_pos (show 0 < x2 - x1 by omega) (show 0 < hy - ly by omega)
        have hp2 := Int.mul_pos (show 0 < y2 - y1 by omega) (show 0 < hx - lx by omega)
        rw [if_neg (by omega), if_neg (by omega), if_neg (by omega), if_neg (by omega), show max x1 x2 = x2 by omega, show min x1 x2 = x1 by omega, show max y1 y2 = y2 by omega, show min y1 y2 = y1 by omega]
        simp only [Bool.if_false_left, Bool.and_eq_true, Bool.or_eq_true, decide_eq_true_eq, Bool.not_eq_true', decide_eq_false_iff_not]
        grind
end Go.Proofs.Ytokpdmlmlkkekaa

/- Polygons, in plain Lean: inside does not change in a rectangle that no side passes through. -/
namespace Go.Proofs.Ytokpdmlmlkkekaa
set_option linter.unusedVariables false
open Go.RowKit
/-- A linear function that is nowhere below 0 at the corners is above 0 within. -/
theorem aff_pos {α β u v lx ly hx hy x y : Int} (h1 : 0 ≤ α * (ly - v) - β * (lx - u)) (h2 : 0 ≤ α * (ly - v) - β * (hx - u)) (h3 : 0 ≤ α * (hy - v) - β * (hx - u)) (h4 : 0 ≤ α * (hy - v) - β * (lx - u))
    (hx1 : lx < x) (hx2 : x < hx) (hy1 : ly < y) (hy2 : y < hy) (hne : α ≠ 0 ∨ β ≠ 0) : 0 < α * (y - v) - β * (x - u) := by
  rcases Int.lt_trichotomy α 0 with ha | ha | ha
  · have p := Int.mul_pos (show 0 < -α by omega) (show 0 < hy - y by omega)
    rcases Int.lt_trichotomy β 0 with hb | hb | hb
    · have q := Int.mul_pos (show 0 < -β by omega) (show 0 < x - lx by omega)
      grind
    · subst hb; grind
    · have q := Int.mul_pos hb (show 0 < hx - x by omega)
      grind
  · subst ha
    rcases Int.lt_trichotomy β 0 with hb | hb | hb
    · have q := Int.mul_pos (show 0 < -β by omega) (show 0 < x - lx by omega)
      grind
    · omega
    · have q := Int.mul_pos hb (show 0 < hx - x by omega)
      grind
  · have p := Int.mul_pos ha (show 0 < y - ly by omega)
    rcases Int.lt_trichotomy β 0 with hb | hb | hb
    · have q := Int.mul_pos (show 0 < -β by omega) (show 0 < x - lx by omega)
      grind
    · subst hb; grind
    · have q := Int.mul_pos hb (show 0 < hx - x by omega)
      grind
/-- A place strictly within a rectangle. -/
def In4 (lx ly hx hy x y : Int) : Prop := lx < x ∧ x < hx ∧ ly < y ∧ y < hy
/-- How a side lies that does not pass through a rectangle. -/
def Off (s : Sd) (lx ly hx hy : Int) : Prop :=
  (s.x1 ≤ lx ∧ s.x2 ≤ lx) ∨ (hx ≤ s.x1 ∧ hx ≤ s.x2) ∨ (s.y1 ≤ ly ∧ s.y2 ≤ ly) ∨ (hy ≤ s.y1 ∧ hy ≤ s.y2) ∨
  (∀ x y, In4 lx ly hx hy x y → 0 < crossP s x y) ∨ (∀ x y, In4 lx ly hx hy x y → crossP s x y < 0)
theorem off_of_pass {s : Sd} {lx ly hx hy : Int} (hne : ¬ (s.x1 = s.x2 ∧ s.y1 = s.y2)) (h : passP s lx ly hx hy = false) : Off s lx ly hx hy := by
  unfold passP asideB at h
  unfold Off
  have hd : s.x2 - s.x1 ≠ 0 ∨ s.y2 - s.y1 ≠ 0 := by omega
  split at h
  · rename_i h1
    simp only [Bool.or_eq_true, decide_eq_true_eq] at h1
    omega
  · rw [Bool.and_eq_false_iff] at h
    rcases h with h | h
    · unfold leftB crossP at h
      simp only [Bool.or_eq_false_iff, decide_eq_false_iff_not] at h
      obtain ⟨⟨⟨h1, h2⟩, h3⟩, h4⟩ := h
      right; right; right; right; right
      intro x y ⟨a1, a2, a3, a4⟩
      have := aff_pos (α := -(s.x2 - s.x1)) (β := -(s.y2 - s.y1)) (u := s.x1) (v := s.y1) (by grind) (by grind) (by grind) (by grind) a1 a2 a3 a4 (by omega)
      unfold crossP
      grind
    · unfold rightB crossP at h
      simp only [Bool.or_eq_false_iff, decide_eq_false_iff_not] at h
      obtain ⟨⟨⟨h1, h2⟩, h3⟩, h4⟩ := h
      right; right; right; right; left
      intro x y ⟨a1, a2, a3, a4⟩
      have := aff_pos (α := s.x2 - s.x1) (β := s.y2 - s.y1) (u := s.x1) (v := s.y1) (by omega) (by omega) (by omega) (by omega) a1 a2 a3 a4 hd
      exact this
/-- A place on a side lies between its ends. -/
theorem has_between {s : Sd} {x y : Int} (h : hasP s x y = true) : crossP s x y = 0 ∧ (min s.x1 s.x2 ≤ x ∧ x ≤ max s.x1 s.x2) ∧ (min s.y1 s.y2 ≤ y ∧ y ≤ max s.y1 s.y2) := by
  rw [← on_has] at h
  unfold onP at h
  simpa only [Bool.and_eq_true, decide_eq_true_eq, inR_iff] using h
theorem off_has {s : Sd} {lx ly hx hy x y : Int} (h : Off s lx ly hx hy) (hi : In4 lx ly hx hy x y) : hasP s x y = false := by
  rw [Bool.eq_false_iff]
  intro hh
  obtain ⟨h0, h1, h2⟩ := has_between hh
  obtain ⟨a1, a2, a3, a4⟩ := hi
  rcases h with h | h | h | h | h | h
  · omega
  · omega
  · omega
  · omega
  · have := h x y ⟨a1, a2, a3, a4⟩; omega
  · have := h x y ⟨a1, a2, a3, a4⟩; omega
theorem cross_left {s : Sd} {x y lx : Int} (h1 : s.x1 ≤ lx) (h2 : s.x2 ≤ lx) (hx : lx < x) : (s.y1 ≤ y → y < s.y2 → crossP s x y < 0) ∧ (s.y2 ≤ y → y < s.y1 → 0 < crossP s x y) := by
  unfold crossP
  constructor
  · intro a b
    have p := Int.mul_nonneg (show 0 ≤ y - s.y1 by omega) (show 0 ≤ x - s.x2 by omega)
    have q := Int.mul_pos (show 0 < s.y2 - y by omega) (show 0 < x - s.x1 by omega)
    grind
  · intro a b
    have p := Int.mul_nonneg (show 0 ≤ y - s.y2 by omega) (show 0 ≤ x - s.x1 by omega)
    have q := Int.mul_pos (show 0 < s.y1 - y by omega) (show 0 < x - s.x2 by omega)
    grind
theorem cross_right {s : Sd} {x y hx : Int} (h1 : hx ≤ s.x1) (h2 : hx ≤ s.x2) (hx : x < hx) : (s.y1 ≤ y → y < s.y2 → 0 < crossP s x y) ∧ (s.y2 ≤ y → y < s.y1 → crossP s x y < 0) := by
  unfold crossP
  constructor
  · intro a b
    have p := Int.mul_nonneg (show 0 ≤ y - s.y1 by omega) (show 0 ≤ s.x2 - x by omega)
    have q := Int.mul_pos (show 0 < s.y2 - y by omega) (show 0 < s.x1 - x by omega)
    grind
  · intro a b
    have p := Int.mul_nonneg (show 0 ≤ y - s.y2 by omega) (show 0 ≤ s.x1 - x by omega)
    have q := Int.mul_pos (show 0 < s.y1 - y by omega) (show 0 < s.x2 - x by omega)
    grind
/-- A flip, in words. -/
theorem flip_iff (s : Sd) (x y : Int) : flipP s x y = true ↔ (s.y1 ≤ y ∧ y < s.y2 ∧ 0 < crossP s x y) ∨ (s.y2 ≤ y ∧ y < s.y1 ∧ crossP s x y ≤ 0) := by
  unfold flipP
  by_cases h1 : y < s.y1 <;> by_cases h2 : y < s.y2 <;> by_cases h3 : 0 < crossP s x y <;> by_cases h4 : s.y1 < s.y2 <;> simp [h1, h2, h3, h4] <;> omega
theorem flip_x {s : Sd} {lx ly hx hy x y : Int} (h : Off s lx ly hx hy) (h1 : In4 lx ly hx hy x y) (h2 : In4 lx ly hx hy (x + 1) y) : flipP s x y = flipP s (x + 1) y := by
  rw [Bool.eq_iff_iff, flip_iff, flip_iff]
  have i1 := h1
  have i2 := h2
  obtain ⟨a1, a2, a3, a4⟩ := h1
  obtain ⟨b1, b2, b3, b4⟩ := h2
  rcases h with h | h | h | h | h | h
  · have k1 := cross_left (y := y) h.1 h.2 a1
    have k2 := cross_left (y := y) h.1 h.2 b1
    omega
  · have k1 := cross_right (y := y) h.1 h.2 a2
    have k2 := cross_right (y := y) h.1 h.2 b2
    omega
  · omega
  · omega
  · have k1 := h _ _ i1
    have k2 := h _ _ i2
    omega
  · have k1 := h _ _ i1
    have k2 := h _ _ i2
    omega
/-- A corner on the row above a place, to its right. -/
def gB (x y a b : Int) : Bool := decide (b = y + 1) && decide (x < a)
theorem flip_y {s : Sd} {lx ly hx hy x y : Int} (h : Off s lx ly hx hy) (h1 : In4 lx ly hx hy x y) (h2 : In4 lx ly hx hy x (y + 1)) : (flipP s x y != flipP s x (y + 1)) = (gB x y s.x1 s.y1 != gB x y s.x2 s.y2) := by
  have f1 := flip_iff s x y
  have f2 := flip_iff s x (y + 1)
  have g1 : gB x y s.x1 s.y1 = true ↔ s.y1 = y + 1 ∧ x < s.x1 := by unfold gB; simp
  have g2 : gB x y s.x2 s.y2 = true ↔ s.y2 = y + 1 ∧ x < s.x2 := by unfold gB; simp
  have i1 := h1
  have i2 := h2
  have key : ((flipP s x y = true ↔ flipP s x (y + 1) = true) ↔ (gB x y s.x1 s.y1 = true ↔ gB x y s.x2 s.y2 = true)) := by
    rw [f1, f2, g1, g2]
    obtain ⟨a1, a2, a3, a4⟩ := h1
    obtain ⟨b1, b2, b3, b4⟩ := h2
    clear f1 f2 g1 g2
    rcases h with h | h | h | h | h | h
    · have k1 := cross_left (y := y) h.1 h.2 a1
      have k2 := cross_left (y := y + 1) h.1 h.2 a1
      omega
    · have k1 := cross_right (y := y) h.1 h.2 a2
      have k2 := cross_right (y := y + 1) h.1 h.2 a2
      omega
    · omega
    · omega
    · have k1 := h _ _ i1
      have k2 := h _ _ i2
      have e1 : s.y1 = y + 1 → s.y1 < s.y2 → x < s.x1 := fun u v => by
        refine Int.not_le.1 fun w => ?_
        have := Int.mul_nonneg (show 0 ≤ s.y2 - s.y1 by omega) (show 0 ≤ x - s.x1 by omega)
        unfold crossP at k2; rw [← u] at k2; simp at k2; omega
      have e2 : s.y1 = y + 1 → s.y2 < s.y1 → s.x1 < x := fun u v => by
        refine Int.not_le.1 fun w => ?_
        have := Int.mul_nonneg (show 0 ≤ s.y1 - s.y2 by omega) (show 0 ≤ s.x1 - x by omega)
        unfold crossP at k2; rw [← u] at k2; simp at k2; grind
      have e3 : s.y2 = y + 1 → s.y1 < s.y2 → x < s.x2 := fun u v => by
        refine Int.not_le.1 fun w => ?_
        have := Int.mul_nonneg (show 0 ≤ s.y2 - s.y1 by omega) (show 0 ≤ x - s.x2 by omega)
        unfold crossP at k2; rw [← u] at k2; grind
      have e4 : s.y2 = y + 1 → s.y2 < s.y1 → s.x2 < x := fun u v => by
        refine Int.not_le.1 fun w => ?_
        have := Int.mul_nonneg (show 0 ≤ s.y1 - s.y2 by omega) (show 0 ≤ s.x2 - x by omega)
        unfold crossP at k2; rw [← u] at k2; grind
      have e5 : s.y1 = y + 1 → s.y1 = s.y2 → (x < s.x1 ↔ x < s.x2) := fun u v => by
        unfold crossP at k2; rw [← u, ← v] at k2; simp at k2
      omega
    · have k1 := h _ _ i1
      have k2 := h _ _ i2
      have e1 : s.y1 = y + 1 → s.y1 < s.y2 → s.x1 < x := fun u v => by
        refine Int.not_le.1 fun w => ?_
        have := Int.mul_nonneg (show 0 ≤ s.y2 - s.y1 by omega) (show 0 ≤ s.x1 - x by omega)
        unfold crossP at k2; rw [← u] at k2; simp at k2; grind
      have e2 : s.y1 = y + 1 → s.y2 < s.y1 → x < s.x1 := fun u v => by
        refine Int.not_le.1 fun w => ?_
        have := Int.mul_nonneg (show 0 ≤ s.y1 - s.y2 by omega) (show 0 ≤ x - s.x1 by omega)
        unfold crossP at k2; rw [← u] at k2; simp at k2; grind
      have e3 : s.y2 = y + 1 → s.y1 < s.y2 → s.x2 < x := fun u v => by
        refine Int.not_le.1 fun w => ?_
        have := Int.mul_nonneg (show 0 ≤ s.y2 - s.y1 by omega) (show 0 ≤ s.x2 - x by omega)
        unfold crossP at k2; rw [← u] at k2; grind
      have e4 : s.y2 = y + 1 → s.y2 < s.y1 → x < s.x2 := fun u v => by
        refine Int.not_le.1 fun w => ?_
        have := Int.mul_nonneg (show 0 ≤ s.y1 - s.y2 by omega) (show 0 ≤ x - s.x2 by omega)
        unfold crossP at k2; rw [← u] at k2; grind
      have e5 : s.y1 = y + 1 → s.y1 = s.y2 → (x < s.x1 ↔ x < s.x2) := fun u v => by
        unfold crossP at k2; rw [← u, ← v] at k2; simp at k2
      omega
  revert key
  cases flipP s x y <;> cases flipP s x (y + 1) <;> cases gB x y s.x1 s.y1 <;> cases gB x y s.x2 s.y2 <;> simp
theorem par_x {sd : Nat → Sd} {lx ly hx hy x y : Int} (h1 : In4 lx ly hx hy x y) (h2 : In4 lx ly hx hy (x + 1) y) : ∀ n, (∀ k, k < n → Off (sd k) lx ly hx hy) → parB sd x y n = parB sd (x + 1) y n
  | 0, _ => rfl
  | n + 1, h => by
    rw [parB, parB, flip_x (h n (by omega)) h1 h2, par_x h1 h2 n (fun k hk => h k (by omega))]
theorem par_y {sd : Nat → Sd} {lx ly hx hy x y : Int} (h1 : In4 lx ly hx hy x y) (h2 : In4 lx ly hx hy x (y + 1)) : ∀ n, (∀ k, k < n → (sd k).x2 = (sd (k + 1)).x1 ∧ (sd k).y2 = (sd (k + 1)).y1) → (∀ k, k < n + 1 → Off (sd k) lx ly hx hy) →
    (parB sd x y (n + 1) != parB sd x (y + 1) (n + 1)) = (gB x y (sd 0).x1 (sd 0).y1 != gB x y (sd n).x2 (sd n).y2)
  | 0, _, h => by
    have hf := flip_y (h 0 (by omega)) h1 h2
    rw [← hf]
    simp only [parB]
    cases flipP (sd 0) x y <;> cases flipP (sd 0) x (y + 1) <;> rfl
  | n + 1, hc, h => by
    have ih := par_y h1 h2 n (fun k hk => hc k (by omega)) (fun k hk => h k (by omega))
    have hf := flip_y (h (n + 1) (by omega)) h1 h2
    obtain ⟨c1, c2⟩ := hc n (by omega)
    rw [c1, c2] at ih
    rw [show parB sd x y (n + 1 + 1) = if flipP (sd (n + 1)) x y then !parB sd x y (n + 1) else parB sd x y (n + 1) from rfl, show parB sd x (y + 1) (n + 1 + 1) = if flipP (sd (n + 1)) x (y + 1) then !parB sd x (y + 1) (n + 1) else parB sd x (y + 1) (n + 1) from rfl]
    revert ih hf
    generalize parB sd x y (n + 1) = pa
    generalize parB sd x (y + 1) (n + 1) = pb
    cases flipP (sd (n + 1)) x y <;> cases flipP (sd (n + 1)) x (y + 1) <;> cases pa <;> cases pb <;> cases gB x y (sd 0).x1 (sd 0).y1 <;> cases gB x y (sd (n + 1)).x1 (sd (n + 1)).y1 <;> cases gB x y (sd (n + 1)).x2 (sd (n + 1)).y2 <;> simp
/-- A closed row of sides that do not pass through a rectangle: the parity is the same at all its places. -/
structure Ring (sd : Nat → Sd) (n : Nat) (lx ly hx hy : Int) : Prop where
  chain : ∀ k, k < n → (sd k).x2 = (sd (k + 1)).x1 ∧ (sd k).y2 = (sd (k + 1)).y1
  close : (sd n).x2 = (sd 0).x1 ∧ (sd n).y2 = (sd 0).y1
  off : ∀ k, k < n + 1 → Off (sd k) lx ly hx hy
theorem Ring.right {sd : Nat → Sd} {n : Nat} {lx ly hx hy : Int} (R : Ring sd n lx ly hx hy) {y : Int} : ∀ (m : Nat) {x : Int}, In4 lx ly hx hy x y → In4 lx ly hx hy (x + m) y → parB sd x y (n + 1) = parB sd (x + m) y (n + 1)
  | 0, x, _, _ => by simp
  | m + 1, x, h1, h2 => by
    have h3 : In4 lx ly hx hy (x + m) y := by unfold In4 at *; omega
    have e : x + ((m + 1 : Nat) : Int) = x + m + 1 := by omega
    rw [e] at h2 ⊢
    rw [R.right m h1 h3]
    exact par_x h3 h2 (n + 1) R.off
theorem Ring.up {sd : Nat → Sd} {n : Nat} {lx ly hx hy : Int} (R : Ring sd n lx ly hx hy) {x : Int} : ∀ (m : Nat) {y : Int}, In4 lx ly hx hy x y → In4 lx ly hx hy x (y + m) → parB sd x y (n + 1) = parB sd x (y + m) (n + 1)
  | 0, y, _, _ => by simp
  | m + 1, y, h1, h2 => by
    have h3 : In4 lx ly hx hy x (y + m) := by unfold In4 at *; omega
    have e : y + ((m + 1 : Nat) : Int) = y + m + 1 := by omega
    rw [e] at h2 ⊢
    rw [R.up m h1 h3]
    have := par_y h3 h2 n R.chain R.off
    rw [R.close.1, R.close.2] at this
    revert this
    cases parB sd x (y + m) (n + 1) <;> cases parB sd x (y + m + 1) (n + 1) <;> simp
theorem Ring.same {sd : Nat → Sd} {n : Nat} {lx ly hx hy : Int} (R : Ring sd n lx ly hx hy) {x y a b : Int} (h1 : In4 lx ly hx hy x y) (h2 : In4 lx ly hx hy a b) : parB sd x y (n + 1) = parB sd a b (n + 1) := by
  have hm : parB sd x y (n + 1) = parB sd a y (n + 1) := by
    have h3 : In4 lx ly hx hy a y := by unfold In4 at *; omega
    rcases Int.le_total x a with h | h
    · have := R.right (x := x) (a - x).toNat h1 (by rw [show x + ((a - x).toNat : Int) = a by omega]; exact h3)
      rwa [show x + ((a - x).toNat : Int) = a by omega] at this
    · have := R.right (x := a) (x - a).toNat h3 (by rw [show a + ((x - a).toNat : Int) = x by omega]; exact h1)
      rw [show a + ((x - a).toNat : Int) = x by omega] at this
      exact this.symm
  rw [hm]
  have h3 : In4 lx ly hx hy a y := by unfold In4 at *; omega
  rcases Int.le_total y b with h | h
  · have := R.up (y := y) (b - y).toNat h3 (by rw [show y + ((b - y).toNat : Int) = b by omega]; exact h2)
    rwa [show y + ((b - y).toNat : Int) = b by omega] at this
  · have := R.up (y := b) (y - b).toNat h2 (by rw [show b + ((y - b).toNat : Int) = y by omega]; exact h3)
    rw [show b + ((y - b).toNat : Int) = y by omega] at this
    exact this.symm
end Go.Proofs.Ytokpdmlmlkkekaa

/- Polygons: the program's fractions. -/
namespace Go.Proofs.Ytokpdmlmlkkekaa
set_option linter.unusedVariables false
open Go.RowKit
def Fr.Fit (p : Fr) : Prop := Wide p.n ∧ Wide p.d
set_option maxHeartbeats 400000 in
theorem below_any (p q : Fr) (w : World) (hp : p.Fit) (hq : q.Fit) {c : Bool} (hc : p.lt q = c) :
    Calls Try.prog 149 #[.agg #[.int .i64 p.n, .int .i64 p.d], .agg #[.int .i64 q.n, .int .i64 q.d]] w fun e w' => e = .returned (.bool c) ∧ Below w.heap.size w w' := by
  subst hc
  have HF := Lib.hid (show p.lt q = decide (p.n * q.d < q.n * p.d) from rfl)
  obtain ⟨⟨a1, a2⟩, ⟨b1, b2⟩⟩ := hp
  obtain ⟨⟨c1, c2⟩, ⟨d1, d2⟩⟩ := hq
  obtain ⟨p1, p2⟩ := prod_bd 800000000 800000000 a1 a2 d1 d2 (by omega) (by omega)
  obtain ⟨q1, q2⟩ := prod_bd 800000000 800000000 c1 c2 b1 b2 (by omega) (by omega)
  simp only [Int.reduceMul, Int.reduceNeg] at p1 p2 q1 q2
  go_enter Try.func149, Try.ntmps149
  go_wp2
  go_ret
  exact ⟨ret_bool HF.out.symm, (by (repeat' (first | with_reducible exact Below.refl _ _ | (with_reducible refine below_later_of ?_ ?_ _) | (with_reducible refine Below.alloc ?_ ?_ _) | (with_reducible refine Below.setCell ?_ ?_ _) | (with_reducible refine Below.drew ?_) | (simp; done) | (simp; omega) | omega)))⟩
set_option maxHeartbeats 400000 in
theorem partOf_any (n d : Int) (w : World) (hn : Wide n) (hd : Wide d) {p : Fr} (hp : frOf n d = p) :
    Calls Try.prog 148 #[.int .i64 n, .int .i64 d] w fun e w' => e = .returned (.agg #[.int .i64 p.n, .int .i64 p.d]) ∧ Below w.heap.size w w' := by
  subst hp
  obtain ⟨a1, a2⟩ := hn
  obtain ⟨b1, b2⟩ := hd
  by_cases h : d < 0
  · have HF := Lib.hid (show frOf n d = ⟨-n, -d⟩ by unfold frOf; rw [if_pos h])
    go_enter Try.func148, Try.ntmps148
    go_wp2
    rw [HF.out]
    refine bodyPost_ret ?_ rfl ⟨rfl, (by (repeat' (first | with_reducible exact Below.refl _ _ | (with_reducible refine below_later_of ?_ ?_ _) | (with_reducible refine Below.alloc ?_ ?_ _) | (with_reducible refine Below.setCell ?_ ?_ _) | (with_reducible refine Below.drew ?_) | (simp; done) | (simp; omega) | omega)))⟩
    first | (simp [results, Try.results148, go_sem]; done) | simp [results, Try.results148, go_sem, ↓IntWalk.iteOmega]
  · have HF := Lib.hid (show frOf n d = ⟨n, d⟩ by unfold frOf; rw [if_neg h])
    go_enter Try.func148, Try.ntmps148
    go_wp2
    rw [HF.out]
    refine bodyPost_ret ?_ rfl ⟨rfl, (by (repeat' (first | with_reducible exact Below.refl _ _ | (with_reducible refine below_later_of ?_ ?_ _) | (with_reducible refine Below.alloc ?_ ?_ _) | (with_reducible refine Below.setCell ?_ ?_ _) | (with_reducible refine Below.drew ?_) | (simp; done) | (simp; omega) | omega)))⟩
    first | (simp [results, Try.results148, go_sem]; done) | simp [results, Try.results148, go_sem, ↓IntWalk.iteOmega]
end Go.Proofs.Ytokpdmlmlkkekaa
