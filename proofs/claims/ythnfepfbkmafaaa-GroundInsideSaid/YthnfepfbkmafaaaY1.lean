/- Polygons, in plain Lean: the reference's words for sides are the program's. -/
import Derived.Test.YthnfepfbkmafaaaZG
namespace Go.Proofs.Ythnfepfbkmafaaa
set_option linter.unusedVariables false
open Go.RowKit
theorem mul_nonpos_iff' {a b : Int} : a * b ≤ 0 ↔ (a ≤ 0 ∧ 0 ≤ b) ∨ (b ≤ 0 ∧ 0 ≤ a) := by
  constructor
  · intro h
    rcases Int.lt_trichotomy a 0 with ha | ha | ha
    · rcases Int.lt_or_le b 0 with hb | hb
      · have := Int.mul_pos_of_neg_of_neg ha hb; omega
      · exact Or.inl ⟨by omega, hb⟩
    · subst ha
      rcases Int.lt_or_le b 0 with hb | hb
      · exact Or.inr ⟨by omega, by omega⟩
      · exact Or.inl ⟨by omega, hb⟩
    · rcases Int.lt_or_le 0 b with hb | hb
      · have := Int.mul_pos ha hb; omega
      · exact Or.inr ⟨hb, by omega⟩
  · rintro (⟨h1, h2⟩ | ⟨h1, h2⟩)
    · exact Int.mul_nonpos_of_nonpos_of_nonneg h1 h2
    · rw [Int.mul_comm]; exact Int.mul_nonpos_of_nonpos_of_nonneg h1 h2
theorem between_iff {a b p : Int} : (min a b ≤ p ∧ p ≤ max a b) ↔ (a - p) * (b - p) ≤ 0 := by
  rw [mul_nonpos_iff']
  omega
/-- Two numbers whose product is a square are both at most 0 if their sum is. -/
theorem both_nonpos {u v w : Int} (h : u * v = w * w) (hs : u + v ≤ 0) : u ≤ 0 ∧ v ≤ 0 := by
  have hw : 0 ≤ w * w := by rcases Int.le_total 0 w with h | h; exact Int.mul_nonneg h h; exact Int.mul_nonneg_of_nonpos_of_nonpos h h
  constructor
  · refine Int.not_lt.1 fun hu => ?_
    have hv : v < 0 := by omega
    have := Int.mul_pos hu (show 0 < -v by omega)
    rw [Int.mul_neg] at this
    omega
  · refine Int.not_lt.1 fun hv => ?_
    have hu : u < 0 := by omega
    have := Int.mul_pos (show 0 < -u by omega) hv
    rw [Int.neg_mul] at this
    omega
/-- The reference's 'on'. -/
def onP (s : Sd) (x y : Int) : Bool := decide (crossP s x y = 0) && (inR (min s.x1 s.x2) (max s.x1 s.x2) x && inR (min s.y1 s.y2) (max s.y1 s.y2) y)
theorem sgnP_zero {n : Int} : sgnP n = 0 ↔ n = 0 := by unfold sgnP; split <;> (try split) <;> omega
theorem on_has (s : Sd) (x y : Int) : onP s x y = hasP s x y := by
  rw [Bool.eq_iff_iff]
  unfold onP hasP turnP
  simp only [Bool.and_eq_true, decide_eq_true_eq, inR_iff, sgnP_zero, between_iff]
  refine ⟨fun ⟨h1, h2, h3⟩ => ⟨h1, ?_⟩, fun ⟨h1, h2⟩ => ⟨h1, ?_⟩⟩
  · unfold dotP; omega
  · refine both_nonpos (w := (s.x1 - x) * (s.y2 - y)) ?_ h2
    unfold crossP at h1
    grind
theorem sgnP_scale {p q u v : Int} (hp : 0 < p) (hq : 0 < q) (h : p * u = q * v) : sgnP u = sgnP v := by
  have hu : 0 < u ↔ 0 < v := by
    constructor
    · intro h1
      have := Int.mul_pos hp h1
      refine Int.not_le.1 fun h2 => ?_
      have := Int.mul_nonpos_of_nonneg_of_nonpos (show 0 ≤ q by omega) h2
      omega
    · intro h1
      have := Int.mul_pos hq h1
      refine Int.not_le.1 fun h2 => ?_
      have := Int.mul_nonpos_of_nonneg_of_nonpos (show 0 ≤ p by omega) h2
      omega
  have hn : u < 0 ↔ v < 0 := by
    constructor
    · intro h1
      have := Int.mul_neg_of_pos_of_neg hp h1
      refine Int.not_le.1 fun h2 => ?_
      have := Int.mul_nonneg (show 0 ≤ q by omega) h2
      omega
    · intro h1
      have := Int.mul_neg_of_pos_of_neg hq h1
      refine Int.not_le.1 fun h2 => ?_
      have := Int.mul_nonneg (show 0 ≤ p by omega) h2
      omega
  unfold sgnP
  by_cases h1 : 0 < u
  · rw [if_pos h1, if_pos (hu.1 h1)]
  · rw [if_neg h1, if_neg (fun h => h1 (hu.2 h))]
    by_cases h2 : u < 0
    · rw [if_pos h2, if_pos (hn.1 h2)]
    · rw [if_neg h2, if_neg (fun h => h2 (hn.2 h))]
theorem sq_nonneg' (a : Int) : 0 ≤ a * a := by rcases Int.le_total 0 a with h | h; exact Int.mul_nonneg h h; exact Int.mul_nonneg_of_nonpos_of_nonpos h h
theorem self_zero {a : Int} (h : a * a = 0) : a = 0 := by rcases Int.mul_eq_zero.1 h with h | h <;> exact h
/-- Seen from a place on the line of a side, but not on it, both its ends lie on one side of whatever line through that place. -/
theorem same_turn {a1 a2 b1 b2 e1 e2 : Int} (h0 : a1 * b2 = a2 * b1) (hd : 0 < a1 * b1 + a2 * b2) : sgnP (e1 * a2 - e2 * a1) = sgnP (e1 * b2 - e2 * b1) := by
  have ha : 0 < a1 * a1 + a2 * a2 := by
    refine Int.not_le.1 fun h => ?_
    have h1 := sq_nonneg' a1
    have h2 := sq_nonneg' a2
    have z1 : a1 = 0 := self_zero (by omega)
    have z2 : a2 = 0 := self_zero (by omega)
    subst z1 z2
    simp at hd
  refine sgnP_scale hd ha ?_
  grind
theorem turn_from {s o : Sd} (h0 : turnP s o.x1 o.y1 = 0) (hn : hasP s o.x1 o.y1 = false) : turnP o s.x1 s.y1 = turnP o s.x2 s.y2 := by
  unfold hasP at hn
  rw [h0] at hn
  simp only [decide_true, Bool.true_and, decide_eq_false_iff_not, Int.not_le] at hn
  unfold turnP at h0 ⊢
  rw [sgnP_zero] at h0
  unfold crossP at h0 ⊢
  unfold dotP at hn
  have := same_turn (a1 := s.x1 - o.x1) (a2 := s.y1 - o.y1) (b1 := s.x2 - o.x1) (b2 := s.y2 - o.y1) (e1 := o.x2 - o.x1) (e2 := o.y2 - o.y1) (by grind) hn
  exact this
theorem turn_to {s o : Sd} (h0 : turnP s o.x2 o.y2 = 0) (hn : hasP s o.x2 o.y2 = false) : turnP o s.x1 s.y1 = turnP o s.x2 s.y2 := by
  unfold hasP at hn
  rw [h0] at hn
  simp only [decide_true, Bool.true_and, decide_eq_false_iff_not, Int.not_le] at hn
  unfold turnP at h0 ⊢
  rw [sgnP_zero] at h0
  unfold crossP at h0 ⊢
  unfold dotP at hn
  have := same_turn (a1 := s.x1 - o.x2) (a2 := s.y1 - o.y2) (b1 := s.x2 - o.x2) (b2 := s.y2 - o.y2) (e1 := o.x2 - o.x1) (e2 := o.y2 - o.y1) (by grind) hn
  rw [show (o.x2 - o.x1) * (s.y1 - o.y1) - (o.y2 - o.y1) * (s.x1 - o.x1) = (o.x2 - o.x1) * (s.y1 - o.y2) - (o.y2 - o.y1) * (s.x1 - o.x2) by grind, show (o.x2 - o.x1) * (s.y2 - o.y1) - (o.y2 - o.y1) * (s.x2 - o.x1) = (o.x2 - o.x1) * (s.y2 - o.y2) - (o.y2 - o.y1) * (s.x2 - o.x2) by grind]
  exact this
theorem turn_vals (s : Sd) (x y : Int) : turnP s x y = -1 ∨ turnP s x y = 0 ∨ turnP s x y = 1 := by
  unfold turnP sgnP
  split
  · simp
  · split <;> simp
/-- The reference's 'meet'. -/
def meetR (s o : Sd) : Bool :=
  (onP s o.x1 o.y1 || (onP s o.x2 o.y2 || (onP o s.x1 s.y1 || onP o s.x2 s.y2))) ||
  (decide (turnP s o.x1 o.y1 * turnP s o.x2 o.y2 < 0) && decide (turnP o s.x1 s.y1 * turnP o s.x2 s.y2 < 0))
theorem meet_meets (s o : Sd) : meetR s o = meetsP s o := by
  unfold meetR meetsP
  rw [on_has, on_has, on_has, on_has]
  cases h1 : hasP s o.x1 o.y1
  · cases h2 : hasP s o.x2 o.y2
    · cases h3 : hasP o s.x1 s.y1
      · cases h4 : hasP o s.x2 s.y2
        · simp only [Bool.or_self, Bool.false_or]
          have k1 := fun h => turn_from (s := s) (o := o) h h1
          have k2 := fun h => turn_to (s := s) (o := o) h h2
          have k3 := fun h => turn_from (s := o) (o := s) h h3
          have k4 := fun h => turn_to (s := o) (o := s) h h4
          have v1 := turn_vals s o.x1 o.y1
          have v2 := turn_vals s o.x2 o.y2
          have v3 := turn_vals o s.x1 s.y1
          have v4 := turn_vals o s.x2 s.y2
          generalize turnP s o.x1 o.y1 = t1 at *
          generalize turnP s o.x2 o.y2 = t2 at *
          generalize turnP o s.x1 s.y1 = t3 at *
          generalize turnP o s.x2 s.y2 = t4 at *
          rcases v1 with rfl | rfl | rfl <;> rcases v2 with rfl | rfl | rfl <;> rcases v3 with rfl | rfl | rfl <;> rcases v4 with rfl | rfl | rfl <;> first | rfl | (exfalso; first | exact absurd (k1 rfl) (by decide) | exact absurd (k2 rfl) (by decide) | exact absurd (k3 rfl) (by decide) | exact absurd (k4 rfl) (by decide))
        · simp
      · simp
    · simp
  · simp
theorem meets_comm (s o : Sd) : meetsP s o = meetsP o s := by
  unfold meetsP
  rw [Bool.and_comm (x := decide (turnP s o.x1 o.y1 ≠ turnP s o.x2 o.y2))]
  congr 1
  cases hasP s o.x1 o.y1 <;> cases hasP s o.x2 o.y2 <;> cases hasP o s.x1 s.y1 <;> cases hasP o s.x2 s.y2 <;> rfl
/-- The reference's 'fold': a corner and its neighbours. -/
def foldP (x y a b c d : Int) : Bool := decide (crossP ⟨x, y, a, b⟩ c d = 0) && decide (0 < (a - x) * (c - x) + (b - y) * (d - y))
theorem fold_has {x y a b c d : Int} (h1 : ¬ (a = x ∧ b = y)) (h2 : ¬ (c = x ∧ d = y)) : foldP x y a b c d = (hasP ⟨x, y, a, b⟩ c d || hasP ⟨c, d, x, y⟩ a b) := by
  rw [Bool.eq_iff_iff]
  unfold foldP hasP turnP
  simp only [Bool.and_eq_true, Bool.or_eq_true, decide_eq_true_eq, sgnP_zero]
  unfold crossP dotP
  dsimp only
  have e1 : (x - c) * (a - c) + (y - d) * (b - d) = (c - x) * (c - x) + (d - y) * (d - y) - ((a - x) * (c - x) + (b - y) * (d - y)) := by grind
  have e2 : (c - a) * (x - a) + (d - b) * (y - b) = (a - x) * (a - x) + (b - y) * (b - y) - ((a - x) * (c - x) + (b - y) * (d - y)) := by grind
  have e3 : (x - c) * (b - d) - (y - d) * (a - c) = (a - x) * (d - y) - (b - y) * (c - x) := by grind
  rw [e1, e2, e3]
  have hu : 0 < (a - x) * (a - x) + (b - y) * (b - y) := by
    refine Int.not_le.1 fun h => ?_
    have q1 := sq_nonneg' (a - x)
    have q2 := sq_nonneg' (b - y)
    have z1 : a - x = 0 := self_zero (by omega)
    have z2 : b - y = 0 := self_zero (by omega)
    exact h1 ⟨by omega, by omega⟩
  have hv : 0 < (c - x) * (c - x) + (d - y) * (d - y) := by
    refine Int.not_le.1 fun h => ?_
    have q1 := sq_nonneg' (c - x)
    have q2 := sq_nonneg' (d - y)
    have z1 : c - x = 0 := self_zero (by omega)
    have z2 : d - y = 0 := self_zero (by omega)
    exact h2 ⟨by omega, by omega⟩
  have hl : (a - x) * (d - y) - (b - y) * (c - x) = 0 → ((a - x) * (c - x) + (b - y) * (d - y)) * ((a - x) * (c - x) + (b - y) * (d - y)) = ((a - x) * (a - x) + (b - y) * (b - y)) * ((c - x) * (c - x) + (d - y) * (d - y)) := fun h => by grind
  generalize (a - x) * (c - x) + (b - y) * (d - y) = w at *
  generalize (a - x) * (a - x) + (b - y) * (b - y) = uu at *
  generalize (c - x) * (c - x) + (d - y) * (d - y) = vv at *
  generalize (a - x) * (d - y) - (b - y) * (c - x) = z at *
  constructor
  · rintro ⟨hz, hw⟩
    by_cases hc : vv ≤ w
    · exact Or.inl ⟨hz, by omega⟩
    · refine Or.inr ⟨hz, ?_⟩
      refine Int.not_lt.1 fun hx => ?_
      have hk := hl hz
      have : (w + 1) * (w + 1) ≤ uu * vv := Int.mul_le_mul (by omega) (by omega) (by omega) (by omega)
      rw [← hk] at this
      have e : (w + 1) * (w + 1) = w * w + 2 * w + 1 := by grind
      omega
  · rintro (⟨hz, h⟩ | ⟨hz, h⟩)
    · exact ⟨hz, by omega⟩
    · exact ⟨hz, by omega⟩
end Go.Proofs.Ythnfepfbkmafaaa
