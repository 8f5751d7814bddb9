import Derived.Test.YtokpdmlmlkkekaaZG
import Derived.Test.YtokpdmlmlkkekaaZR
/- Polygons, in plain Lean: the reference's words for sides are the program's. -/
namespace Go.Proofs.Ytokpdmlmlkkekaa
set_option linter.unusedVariables false
open Go.RowKit
theorem mul_nonpos_iff' {a b : Int} : a * b ≤ 0 ↔ (a ≤ 0 ∧ 0 ≤ b) ∨ (b ≤ 0 ∧ 0 ≤ a) := by
  constructor
  · intro h
    rcases Int.lt_trichotomy a 0 with ha | ha | ha
    · rcases Int.lt_or_le b 0 with hb | hb
      · have := Int.mul_pos_of_neg_of_neg ha hb; omega
      · exact Or.inl ⟨by omega, hb⟩
    · subst ha
      rcases Int.lt_or_le b 0 with hb | hb
      · exact Or.inr ⟨by omega, by omega⟩
      · exact Or.inl ⟨by omega, hb⟩
    · rcases Int.lt_or_le 0 b with hb | hb
      · have := Int.mul_pos ha hb; omega
      · exact Or.inr ⟨hb, by omega⟩
  · rintro (⟨h1, h2⟩ | ⟨h1, h2⟩)
    · exact Int.mul_nonpos_of_nonpos_of_nonneg h1 h2
    · rw [Int.mul_comm]; exact Int.mul_nonpos_of_nonpos_of_nonneg h1 h2
theorem between_iff {a b p : Int} : (min a b ≤ p ∧ p ≤ max a b) ↔ (a - p) * (b - p) ≤ 0 := by
  rw [mul_nonpos_iff']
  omega
/-- Two numbers whose product is a square are both at most 0 if their sum is. -/
theorem both_nonpos {u v w : Int} (h : u * v = w * w) (hs : u + v ≤ 0) : u ≤ 0 ∧ v ≤ 0 := by
  have hw : 0 ≤ w * w := by rcases Int.le_total 0 w with h | h; exact Int.mul_nonneg h h; exact Int.mul_nonneg_of_nonpos_of_nonpos h h
  constructor
  · refine Int.not_lt.1 fun hu => ?_
    have hv : v < 0 := by omega
    have := Int.mul_pos hu (show 0 < -v by omega)
    rw [Int.mul_neg] at this
    omega
  · refine Int.not_lt.1 fun hv => ?_
    have hu : u < 0 := by omega
    have := Int.mul_pos (show 0 < -u by omega) hv
    rw [Int.neg_mul] at this
    omega
/-- The reference's 'on'. -/
def onP (s : Sd) (x y : Int) : Bool := decide (crossP s x y = 0) && (inR (min s.x1 s.x2) (max s.x1 s.x2) x && inR (min s.y1 s.y2) (max s.y1 s.y2) y)
theorem sgnP_zero {n : Int} : sgnP n = 0 ↔ n = 0 := by unfold sgnP; split <;> (try split) <;> omega
theorem on_has (s : Sd) (x y : Int) : onP s x y = hasP s x y := by
  rw [Bool.eq_iff_iff]
  unfold onP hasP turnP
  simp only [Bool.and_eq_true, decide_eq_true_eq, inR_iff, sgnP_zero, between_iff]
  refine ⟨fun ⟨h1, h2, h3⟩ => ⟨h1, ?_⟩, fun ⟨h1, h2⟩ => ⟨h1, ?_⟩⟩
  · unfold dotP; omega
  · refine both_nonpos (w := (s.x1 - x) * (s.y2 - y)) ?_ h2
    unfold crossP at h1
    grind
theorem sgnP_scale {p q u v : Int} (hp : 0 < p) (hq : 0 < q) (h : p * u = q * v) : sgnP u = sgnP v := by
  have hu : 0 < u ↔ 0 < v := by
    constructor
    · intro h1
      have := Int.mul_pos hp h1
      refine Int.not_le.1 fun h2 => ?_
      have := Int.mul_nonpos_of_nonneg_of_nonpos (show 0 ≤ q by omega) h2
      omega
    · intro h1
      have := Int.mul_pos hq h1
      refine Int.not_le.1 fun h2 => ?_
      have := Int.mul_nonpos_of_nonneg_of_nonpos (show 0 ≤ p by omega) h2
      omega
  have hn : u < 0 ↔ v < 0 := by
    constructor
    · intro h1
      have := Int.mul_neg_of_pos_of_neg hp h1
      refine Int.not_le.1 fun h2 => ?_
      have := Int.mul_nonneg (show 0 ≤ q by omega) h2
      omega
    · intro h1
      have := Int.mul_neg_of_pos_of_neg hq h1
      refine Int.not_le.1 fun h2 => ?_
      have := Int.mul_nonneg (show 0 ≤ p by omega) h2
      omega
  unfold sgnP
  by_cases h1 : 0 < u
  · rw [if_pos h1, if_pos (hu.1 h1)]
  · rw [if_neg h1, if_neg (fun h => h1 (hu.2 h))]
    by_cases h2 : u < 0
    · rw [if_pos h2, if_pos (hn.1 h2)]
    · rw [if_neg h2, if_neg (fun h => h2 (hn.2 h))]
theorem sq_nonneg' (a : Int) : 0 ≤ a * a := by rcases Int.le_total 0 a with h | h; exact Int.mul_nonneg h h; exact Int.mul_nonneg_of_nonpos_of_nonpos h h
theorem self_zero {a : Int} (h : a * a = 0) : a = 0 := by rcases Int.mul_eq_zero.1 h with h | h <;> exact h
/-- Seen from a place on the line of a side, but not on it, both its ends lie on one side of whatever line through that place. -/
theorem same_turn {a1 a2 b1 b2 e1 e2 : Int} (h0 : a1 * b2 = a2 * b1) (hd : 0 < a1 * b1 + a2 * b2) : sgnP (e1 * a2 - e2 * a1) = sgnP (e1 * b2 - e2 * b1) := by
  have ha : 0 < a1 * a1 + a2 * a2 := by
    refine Int.not_le.1 fun h => ?_
    have h1 := sq_nonneg' a1
    have h2 := sq_nonneg' a2
    have z1 : a1 = 0 := self_zero (by omega)
    have z2 : a2 = 0 := self_zero (by omega)
    subst z1 z2
    simp at hd
  refine sgnP_scale hd ha ?_
  grind
theorem turn_from {s o : Sd} (h0 : turnP s o.x1 o.y1 = 0) (hn : hasP s o.x1 o.y1 = false) : turnP o s.x1 s.y1 = turnP o s.x2 s.y2 := by
  unfold hasP at hn
  rw [h0] at hn
  simp only [decide_true, Bool.true_and, decide_eq_false_iff_not, Int.not_le] at hn
  unfold turnP at h0 ⊢
  rw [sgnP_zero] at h0
  unfold crossP at h0 ⊢
  unfold dotP at hn
  have := same_turn (a1 := s.x1 - o.x1) (a2 := s.y1 - o.y1) (b1 := s.x2 - o.x1) (b2 := s.y2 - o.y1) (e1 := o.x2 - o.x1) (e2 := o.y2 - o.y1) (by grind) hn
  exact this
theorem turn_to {s o : Sd} (h0 : turnP s o.x2 o.y2 = 0) (hn : hasP s o.x2 o.y2 = false) : turnP o s.x1 s.y1 = turnP o s.x2 s.y2 := by
  unfold hasP at hn
  rw [h0] at hn
  simp only [decide_true, Bool.true_and, decide_eq_false_iff_not, Int.not_le] at hn
  unfold turnP at h0 ⊢
  rw [sgnP_zero] at h0
  unfold crossP at h0 ⊢
  unfold dotP at hn
  have := same_turn (a1 := s.x1 - o.x2) (a2 := s.y1 - o.y2) (b1 := s.x2 - o.x2) (b2 := s.y2 - o.y2) (e1 := o.x2 - o.x1) (e2 := o.y2 - o.y1) (by grind) hn
  rw [show (o.x2 - o.x1) * (s.y1 - o.y1) - (o.y2 - o.y1) * (s.x1 - o.x1) = (o.x2 - o.x1) * (s.y1 - o.y2) - (o.y2 - o.y1) * (s.x1 - o.x2) by grind, show (o.x2 - o.x1) * (s.y2 - o.y1) - (o.y2 - o.y1) * (s.x2 - o.x1) = (o.x2 - o.x1) * (s.y2 - o.y2) - (o.y2 - o.y1) * (s.x2 - o.x2) by grind]
  exact this
theorem turn_vals (s : Sd) (x y : Int) : turnP s x y = -1 ∨ turnP s x y = 0 ∨ turnP s x y = 1 := by
  unfold turnP sgnP
  split
  · simp
  · split <;> simp
/-- The reference's 'meet'. -/
def meetR (s o : Sd) : Bool :=
  (onP s o.x1 o.y1 || (onP s o.x2 o.y2 || (onP o s.x1 s.y1 || onP o s.x2 s.y2))) ||
  (decide (turnP s o.x1 o.y1 * turnP s o.x2 o.y2 < 0) && decide (turnP o s.x1 s.y1 * turnP o s.x2 s.y2 < 0))
theorem meet_meets (s o : Sd) : meetR s o = meetsP s o := by
  unfold meetR meetsP
  rw [on_has, on_has, on_has, on_has]
  cases h1 : hasP s o.x1 o.y1
  · cases h2 : hasP s o.x2 o.y2
    · cases h3 : hasP o s.x1 s.y1
      · cases h4 : hasP o s.x2 s.y2
        · simp only [Bool.or_self, Bool.false_or]
          have k1 := fun h => turn_from (s := s) (o := o) h h1
          have k2 := fun h => turn_to (s := s) (o := o) h h2
          have k3 := fun h => turn_from (s := o) (o := s) h h3
          have k4 := fun h => turn_to (s := o) (o := s) h h4
          have v1 := turn_vals s o.x1 o.y1
          have v2 := turn_vals s o.x2 o.y2
          have v3 := turn_vals o s.x1 s.y1
          have v4 := turn_vals o s.x2 s.y2
          generalize turnP s o.x1 o.y1 = t1 at *
          generalize turnP s o.x2 o.y2 = t2 at *
          generalize turnP o s.x1 s.y1 = t3 at *
          generalize turnP o s.x2 s.y2 = t4 at *
          rcases v1 with rfl | rfl | rfl <;> rcases v2 with rfl | rfl | rfl <;> rcases v3 with rfl | rfl | rfl <;> rcases v4 with rfl | rfl | rfl <;> first | rfl | (exfalso; first | exact absurd (k1 rfl) (by decide) | exact absurd (k2 rfl) (by decide) | exact absurd (k3 rfl) (by decide) | exact absurd (k4 rfl) (by decide))
        · simp
      · simp
    · simp
  · simp
theorem meets_comm (s o : Sd) : meetsP s o = meetsP o s := by
  unfold meetsP
  rw [Bool.and_comm (x := decide (turnP s o.x1 o.y1 ≠ turnP s o.x2 o.y2))]
  congr 1
  cases hasP s o.x1 o.y1 <;> cases hasP s o.x2 o.y2 <;> cases hasP o s.x1 s.y1 <;> cases hasP o s.x2 s.y2 <;> rfl
/-- The reference's 'fold': a corner and its neighbours. -/
def foldP (x y a b c d : Int) : Bool := decide (crossP ⟨x, y, a, b⟩ c d = 0) && decide (0 < (a - x) * (c - x) + (b - y) * (d - y))
theorem fold_has {x y a b c d : Int} (h1 : ¬ (a = x ∧ b = y)) (h2 : ¬ (c = x ∧ d = y)) : foldP x y a b c d = (hasP ⟨x, y, a, b⟩ c d || hasP ⟨c, d, x, y⟩ a b) := by
  rw [Bool.eq_iff_iff]
  unfold foldP hasP turnP
  simp only [Bool.and_eq_true, Bool.or_eq_true, decide_eq_true_eq, sgnP_zero]
  unfold crossP dotP
  dsimp only
  have e1 : (x - c) * (a - c) + (y - d) * (b - d) = (c - x) * (c - x) + (d - y) * (d - y) - ((a - x) * (c - x) + (b - y) * (d - y)) := by grind
  have e2 : (c - a) * (x - a) + (d - b) * (y - b) = (a - x) * (a - x) + (b - y) * (b - y) - ((a - x) * (c - x) + (b - y) * (d - y)) := by grind
  have e3 : (x - c) * (b - d) - (y - d) * (a - c) = (a - x) * (d - y) - (b - y) * (c - x) := by grind
  rw [e1, e2, e3]
  have hu : 0 < (a - x) * (a - x) + (b - y) * (b - y) := by
    refine Int.not_le.1 fun h => ?_
    have q1 := sq_nonneg' (a - x)
    have q2 := sq_nonneg' (b - y)
    have z1 : a - x = 0 := self_zero (by omega)
    have z2 : b - y = 0 := self_zero (by omega)
    exact h1 ⟨by omega, by omega⟩
  have hv : 0 < (c - x) * (c - x) + (d - y) * (d - y) := by
    refine Int.not_le.1 fun h => ?_
    have q1 := sq_nonneg' (c - x)
    have q2 := sq_nonneg' (d - y)
    have z1 : c - x = 0 := self_zero (by omega)
    have z2 : d - y = 0 := self_zero (by omega)
    exact h2 ⟨by omega, by omega⟩
  have hl : (a - x) * (d - y) - (b - y) * (c - x) = 0 → ((a - x) * (c - x) + (b - y) * (d - y)) * ((a - x) * (c - x) + (b - y) * (d - y)) = ((a - x) * (a - x) + (b - y) * (b - y)) * ((c - x) * (c - x) + (d - y) * (d - y)) := fun h => by grind
  generalize (a - x) * (c - x) + (b - y) * (d - y) = w at *
  generalize (a - x) * (a - x) + (b - y) * (b - y) = uu at *
  generalize (c - x) * (c - x) + (d - y) * (d - y) = vv at *
  generalize (a - x) * (d - y) - (b - y) * (c - x) = z at *
  constructor
  · rintro ⟨hz, hw⟩
    by_cases hc : vv ≤ w
    · exact Or.inl ⟨hz, by omega⟩
    · refine Or.inr ⟨hz, ?_⟩
      refine Int.not_lt.1 fun hx => ?_
      have hk := hl hz
      have : (w + 1) * (w + 1) ≤ uu * vv := Int.mul_le_mul (by omega) (by omega) (by omega) (by omega)
      rw [← hk] at this
      have e : (w + 1) * (w + 1) = w * w + 2 * w + 1 := by grind
      omega
  · rintro (⟨hz, h⟩ | ⟨hz, h⟩)
    · exact ⟨hz, by omega⟩
    · exact ⟨hz, by omega⟩
end Go.Proofs.Ytokpdmlmlkkekaa

/- Polygons, in plain Lean: the reference's clash is the program's. -/
namespace Go.Proofs.Ytokpdmlmlkkekaa
set_option linter.unusedVariables false
open Go.RowKit
def prevN (n k : Nat) : Nat := if k = 0 then n - 1 else k - 1
def foldAt (ps : List Plc) (i : Nat) : Bool :=
  foldP (plcAt ps i).x (plcAt ps i).y (plcAt ps (nextN ps.length i)).x (plcAt ps (nextN ps.length i)).y (plcAt ps (prevN ps.length i)).x (plcAt ps (prevN ps.length i)).y
theorem side1 (ps : List Plc) (k : Nat) : sideAt ps 1 k = ⟨(plcAt ps k).x, (plcAt ps k).y, (plcAt ps (nextN ps.length k)).x, (plcAt ps (nextN ps.length k)).y⟩ := by
  unfold sideAt; simp only [Int.one_mul]
/-- What the reference calls a clash. -/
def RClash (ps : List Plc) : Prop := ∃ i, i < ps.length ∧ (foldAt ps i = true ∨ ∃ k, i + 2 ≤ k ∧ k < ps.length ∧ nextN ps.length k ≠ i ∧ meetR (sideAt ps 1 i) (sideAt ps 1 k) = true)
theorem seen_ne {ps : List Plc} {j k : Nat} (hj : j < k) (h : cornerErr ps k = 0) : ¬ ((plcAt ps j).x = (plcAt ps k).x ∧ (plcAt ps j).y = (plcAt ps k).y) := by
  rintro ⟨h1, h2⟩
  unfold cornerErr at h
  split at h
  · split at h
    · exact absurd h (by decide)
    · rename_i h3
      refine h3 ?_
      unfold seenB
      rw [List.any_eq_true]
      exact ⟨j, by simpa using hj, by simp [h1, h2]⟩
  · exact absurd h (by decide)
theorem corner_ne {ps : List Plc} (hc : ∀ k, k < ps.length → cornerErr ps k = 0) {j k : Nat} (hj : j < ps.length) (hk : k < ps.length) (hn : j ≠ k) : ¬ ((plcAt ps j).x = (plcAt ps k).x ∧ (plcAt ps j).y = (plcAt ps k).y) := by
  rcases Nat.lt_or_gt_of_ne hn with h | h
  · exact seen_ne h (hc k hk)
  · rintro ⟨h1, h2⟩
    exact seen_ne h (hc j hj) ⟨h1.symm, h2.symm⟩
theorem clash_adj {ps : List Plc} (hn : 3 ≤ ps.length) (hc : ∀ k, k < ps.length → cornerErr ps k = 0) {k : Nat} (hk : k + 1 < ps.length) : clashB ps (k + 1) k = foldAt ps (k + 1) := by
  have e1 : nextN ps.length k = k + 1 := by unfold nextN; rw [if_pos hk]
  have e2 : prevN ps.length (k + 1) = k := by unfold prevN; rw [if_neg (by omega)]; omega
  have hx : nextN ps.length (k + 1) < ps.length := by unfold nextN; split <;> omega
  have hx2 : nextN ps.length (k + 1) ≠ k + 1 := by unfold nextN; split <;> omega
  unfold clashB foldAt
  rw [if_pos rfl, side1, side1, e1, e2, fold_has (corner_ne hc hx hk hx2) (corner_ne hc (by omega) hk (by omega))]
theorem clash_wrap {ps : List Plc} (hn : 3 ≤ ps.length) (hc : ∀ k, k < ps.length → cornerErr ps k = 0) {i : Nat} (hi : i + 1 = ps.length) : clashB ps i 0 = foldAt ps 0 := by
  have e1 : nextN ps.length 0 = 1 := by unfold nextN; rw [if_pos (by omega)]
  have e2 : prevN ps.length 0 = i := by unfold prevN; rw [if_pos rfl]; omega
  have e3 : nextN ps.length i = 0 := by unfold nextN; rw [if_neg (by omega)]
  unfold clashB foldAt
  rw [if_neg (by omega), if_pos ⟨rfl, hi⟩, side1, side1, e1, e2, e3, fold_has (corner_ne hc (by omega) (by omega) (by omega)) (corner_ne hc (by omega) (by omega) (by omega)), Bool.or_comm]
theorem clash_far {ps : List Plc} {i k : Nat} (h1 : i ≠ k + 1) (h2 : ¬ (k = 0 ∧ i + 1 = ps.length)) : clashB ps i k = meetR (sideAt ps 1 k) (sideAt ps 1 i) := by
  unfold clashB
  rw [if_neg h1, if_neg h2, meet_meets, meets_comm]
theorem clash_iff {ps : List Plc} (hn : 3 ≤ ps.length) (hc : ∀ k, k < ps.length → cornerErr ps k = 0) : Clash ps ↔ RClash ps := by
  constructor
  · rintro ⟨i, k, hi, hk, h⟩
    by_cases h1 : i = k + 1
    · subst h1
      rw [clash_adj hn hc hi] at h
      exact ⟨k + 1, hi, Or.inl h⟩
    · by_cases h2 : k = 0 ∧ i + 1 = ps.length
      · obtain ⟨rfl, h2⟩ := h2
        rw [clash_wrap hn hc h2] at h
        exact ⟨0, by omega, Or.inl h⟩
      · rw [clash_far h1 h2] at h
        exact ⟨k, by omega, Or.inr ⟨i, by omega, hi, by unfold nextN; split <;> omega, h⟩⟩
  · rintro ⟨i, hi, h | ⟨k, h1, h2, h3, h⟩⟩
    · by_cases h0 : i = 0
      · subst h0
        exact ⟨ps.length - 1, 0, by omega, by omega, by rw [clash_wrap hn hc (by omega)]; exact h⟩
      · obtain ⟨j, rfl⟩ : ∃ j, i = j + 1 := ⟨i - 1, by omega⟩
        exact ⟨j + 1, j, hi, by omega, by rw [clash_adj hn hc hi]; exact h⟩
    · refine ⟨k, i, h2, by omega, ?_⟩
      rw [clash_far (by omega) ?_]
      · exact h
      · rintro ⟨rfl, h4⟩
        refine h3 ?_
        unfold nextN
        rw [if_neg (by omega)]
end Go.Proofs.Ytokpdmlmlkkekaa

/- Polygons: the reference's cross, turn, on, meet, fold. -/
namespace Go.Proofs.Ytokpdmlmlkkekaa
set_option linter.unusedVariables false
open Go.RowKit
theorem mid_prod {a b c d : Int} (ha : Mid a) (hb : Mid b) (hc : Mid c) (hd : Mid d) : -640000000000000000 ≤ (a - b) * (c - d) ∧ (a - b) * (c - d) ≤ 640000000000000000 := by
  obtain ⟨a1, a2⟩ := ha
  obtain ⟨b1, b2⟩ := hb
  obtain ⟨c1, c2⟩ := hc
  obtain ⟨d1, d2⟩ := hd
  have := prod_bd (a := a - b) (b := c - d) 800000000 800000000 (by omega) (by omega) (by omega) (by omega) (by omega) (by omega)
  omega
set_option maxHeartbeats 1000000 in
theorem rCross (s : Sd) (z1 z2 x y z : Int) (w : World) (hs : s.Fit) (hx : Mid x) (hy : Mid y) {c : Int} (hc : crossP s x y = c) :
    Calls Try.prog 127 #[.agg #[.int .i64 s.x1, .int .i64 s.y1, .int .i64 z1], .agg #[.int .i64 s.x2, .int .i64 s.y2, .int .i64 z2], .agg #[.int .i64 x, .int .i64 y, .int .i64 z]] w fun e w' => e = .returned (.int .i64 c) ∧ Below w.heap.size w w' := by
  subst hc
  obtain ⟨f1, f2, f3, f4⟩ := hs
  obtain ⟨p1, p2⟩ := mid_prod f3 f1 hy f2
  obtain ⟨q1, q2⟩ := mid_prod f4 f2 hx f1
  obtain ⟨a1, a2⟩ := f1
  obtain ⟨b1, b2⟩ := f2
  obtain ⟨c1, c2⟩ := f3
  obtain ⟨d1, d2⟩ := f4
  obtain ⟨x1, x2⟩ := hx
  obtain ⟨y1, y2⟩ := hy
  unfold crossP
  go_enter Try.func127, Try.ntmps127
  go_wp2
  go_ret
  exact ⟨rfl, (by (repeat' (first | with_reducible exact Below.refl _ _ | (with_reducible refine below_later_of ?_ ?_ _) | (with_reducible refine Below.alloc ?_ ?_ _) | (with_reducible refine Below.setCell ?_ ?_ _) | (with_reducible refine Below.drew ?_) | (simp; done) | (simp; omega) | omega)))⟩
set_option maxHeartbeats 1000000 in
theorem rTurn (s : Sd) (z1 z2 x y z : Int) (w : World) (hs : s.Fit) (hx : Mid x) (hy : Mid y) {c : Int} (hc : turnP s x y = c) :
    Calls Try.prog 146 #[.agg #[.int .i64 s.x1, .int .i64 s.y1, .int .i64 z1], .agg #[.int .i64 s.x2, .int .i64 s.y2, .int .i64 z2], .agg #[.int .i64 x, .int .i64 y, .int .i64 z]] w fun e w' => e = .returned (.int .i64 c) ∧ Below w.heap.size w w' := by
  subst hc
  have HF := Lib.hid hs
  have HX := Lib.hid hx
  have HY := Lib.hid hy
  obtain ⟨n, hn⟩ : ∃ n, crossP s x y = n := ⟨_, rfl⟩
  have HC := Lib.hid hn
  have HT := Lib.hid (show turnP s x y = sgnP n by unfold turnP; rw [hn])
  clear hs hx hy hn
  by_cases h0 : n = 0
  · subst h0
    go_enter Try.func146, Try.ntmps146
    go_wp2_with (first | (go_at_call 127; refine (rCross s _ _ _ _ _ _ HF.out HX.out HY.out HC.out).mono ?_; rintro e w' ⟨rfl, hb⟩; obtain ⟨pp, rfl⟩ := later_of_below hb; clear hb))
    go_ret
    exact ⟨ret_int HT.out.symm, (by (repeat' (first | with_reducible exact Below.refl _ _ | (with_reducible refine below_later_of ?_ ?_ _) | (with_reducible refine Below.alloc ?_ ?_ _) | (with_reducible refine Below.setCell ?_ ?_ _) | (with_reducible refine Below.drew ?_) | (simp; done) | (simp; omega) | omega)))⟩
  · have h1 : (n == 0) = false := by simpa using h0
    have HS := Lib.hid (show signP n = turnP s x y by rw [HT.out]; unfold signP sgnP; split <;> split <;> (try split) <;> omega)
    go_enter Try.func146, Try.ntmps146
    go_wp2_with (first | (go_at_call 127; refine (rCross s _ _ _ _ _ _ HF.out HX.out HY.out HC.out).mono ?_; rintro e w' ⟨rfl, hb⟩; obtain ⟨pp, rfl⟩ := later_of_below hb; clear hb) | (go_at_call 140; refine (rSign _ _).mono ?_; rintro e w' ⟨rfl, rfl⟩))
    go_ret
    exact ⟨ret_int HS.out, (by (repeat' (first | with_reducible exact Below.refl _ _ | (with_reducible refine below_later_of ?_ ?_ _) | (with_reducible refine Below.alloc ?_ ?_ _) | (with_reducible refine Below.setCell ?_ ?_ _) | (with_reducible refine Below.drew ?_) | (simp; done) | (simp; omega) | omega)))⟩
set_option maxHeartbeats 1000000 in
theorem rOn (s : Sd) (z1 z2 x y z : Int) (w : World) (hs : s.Fit) (hx : Mid x) (hy : Mid y) {c : Bool} (hc : onP s x y = c) :
    Calls Try.prog 129 #[.agg #[.int .i64 s.x1, .int .i64 s.y1, .int .i64 z1], .agg #[.int .i64 s.x2, .int .i64 s.y2, .int .i64 z2], .agg #[.int .i64 x, .int .i64 y, .int .i64 z]] w fun e w' => e = .returned (.bool c) ∧ Below w.heap.size w w' := by
  subst hc
  have HF := Lib.hid hs
  have HX := Lib.hid hx
  have HY := Lib.hid hy
  obtain ⟨n, hn⟩ : ∃ n, crossP s x y = n := ⟨_, rfl⟩
  have HC := Lib.hid hn
  clear hs hx hy
  by_cases h0 : n = 0
  · subst h0
    rcases (show inR (min s.x1 s.x2) (max s.x1 s.x2) x = false ∨ inR (min s.x1 s.x2) (max s.x1 s.x2) x = true by cases inR (min s.x1 s.x2) (max s.x1 s.x2) x <;> simp) with h1 | h1
    · have HT := Lib.hid (show onP s x y = false by unfold onP; rw [hn, h1]; rfl)
      have H1 := Lib.hid h1
      clear hn h1
      go_enter Try.func129, Try.ntmps129
      go_wp2_with (first | (go_at_call 127; refine (rCross s _ _ _ _ _ _ HF.out HX.out HY.out HC.out).mono ?_; rintro e w' ⟨rfl, hb⟩; obtain ⟨pp, rfl⟩ := later_of_below hb; clear hb) | (go_at_call 36; (with_reducible refine (bWithin x (min s.x1 s.x2) (max s.x1 s.x2) _ H1.out).mono ?_); rintro e w' ⟨rfl, rfl⟩))
      go_ret
      exact ⟨ret_bool HT.out.symm, (by (repeat' (first | with_reducible exact Below.refl _ _ | (with_reducible refine below_later_of ?_ ?_ _) | (with_reducible refine Below.alloc ?_ ?_ _) | (with_reducible refine Below.setCell ?_ ?_ _) | (with_reducible refine Below.drew ?_) | (simp; done) | (simp; omega) | omega)))⟩
    · obtain ⟨d, h2⟩ : ∃ d, inR (min s.y1 s.y2) (max s.y1 s.y2) y = d := ⟨_, rfl⟩
      have HT := Lib.hid (show onP s x y = d by unfold onP; rw [hn, h1, h2]; rfl)
      have H1 := Lib.hid h1
      have H2 := Lib.hid h2
      clear hn h1 h2
      go_enter Try.func129, Try.ntmps129
      go_wp2_with (first | (go_at_call 127; refine (rCross s _ _ _ _ _ _ HF.out HX.out HY.out HC.out).mono ?_; rintro e w' ⟨rfl, hb⟩; obtain ⟨pp, rfl⟩ := later_of_below hb; clear hb) | (go_at_call 36; (with_reducible refine (bWithin x (min s.x1 s.x2) (max s.x1 s.x2) _ H1.out).mono ?_); rintro e w' ⟨rfl, rfl⟩) | (go_at_call 36; (with_reducible refine (bWithin y (min s.y1 s.y2) (max s.y1 s.y2) _ H2.out).mono ?_); rintro e w' ⟨rfl, rfl⟩))
      go_ret
      exact ⟨ret_bool HT.out.symm, (by (repeat' (first | with_reducible exact Below.refl _ _ | (with_reducible refine below_later_of ?_ ?_ _) | (with_reducible refine Below.alloc ?_ ?_ _) | (with_reducible refine Below.setCell ?_ ?_ _) | (with_reducible refine Below.drew ?_) | (simp; done) | (simp; omega) | omega)))⟩
  · have h1 : (n == 0) = false := by simpa using h0
    have HT := Lib.hid (show onP s x y = false by unfold onP; rw [hn, decide_eq_false h0]; rfl)
    clear hn
    go_enter Try.func129, Try.ntmps129
    go_wp2_with (first | (go_at_call 127; refine (rCross s _ _ _ _ _ _ HF.out HX.out HY.out HC.out).mono ?_; rintro e w' ⟨rfl, hb⟩; obtain ⟨pp, rfl⟩ := later_of_below hb; clear hb))
    go_ret
    exact ⟨ret_bool HT.out.symm, (by (repeat' (first | with_reducible exact Below.refl _ _ | (with_reducible refine below_later_of ?_ ?_ _) | (with_reducible refine Below.alloc ?_ ?_ _) | (with_reducible refine Below.setCell ?_ ?_ _) | (with_reducible refine Below.drew ?_) | (simp; done) | (simp; omega) | omega)))⟩
end Go.Proofs.Ytokpdmlmlkkekaa

/- Polygons: the reference's meet and fold. -/
namespace Go.Proofs.Ytokpdmlmlkkekaa
set_option linter.unusedVariables false
open Go.RowKit
theorem bool_two (b : Bool) : b = false ∨ b = true := by cases b <;> simp
theorem turn_prod {a b : Int} (ha : a = -1 ∨ a = 0 ∨ a = 1) (hb : b = -1 ∨ b = 0 ∨ b = 1) : -1 ≤ a * b ∧ a * b ≤ 1 := by
  rcases ha with rfl | rfl | rfl <;> rcases hb with rfl | rfl | rfl <;> decide
set_option maxHeartbeats 4000000 in
theorem rMeet (s o : Sd) (z1 z2 z3 z4 : Int) (w : World) (hs : s.Fit) (ho : o.Fit) {c : Bool} (hc : meetR s o = c) :
    Calls Try.prog 124 #[.agg #[.int .i64 s.x1, .int .i64 s.y1, .int .i64 z1], .agg #[.int .i64 s.x2, .int .i64 s.y2, .int .i64 z2], .agg #[.int .i64 o.x1, .int .i64 o.y1, .int .i64 z3], .agg #[.int .i64 o.x2, .int .i64 o.y2, .int .i64 z4]] w fun e w' => e = .returned (.bool c) ∧ Below w.heap.size w w' := by
  subst hc
  have HS := Lib.hid hs
  have HO := Lib.hid ho
  have I1 := Lib.hid hs.1
  have I2 := Lib.hid hs.2.1
  have I3 := Lib.hid hs.2.2.1
  have I4 := Lib.hid hs.2.2.2
  have J1 := Lib.hid ho.1
  have J2 := Lib.hid ho.2.1
  have J3 := Lib.hid ho.2.2.1
  have J4 := Lib.hid ho.2.2.2
  clear hs ho
  rcases bool_two (onP s o.x1 o.y1) with h1 | h1
  · have H1 := Lib.hid h1
    rcases bool_two (onP s o.x2 o.y2) with h2 | h2
    · have H2 := Lib.hid h2
      rcases bool_two (onP o s.x1 s.y1) with h3 | h3
      · have H3 := Lib.hid h3
        rcases bool_two (onP o s.x2 s.y2) with h4 | h4
        · have H4 := Lib.hid h4
          obtain ⟨t1, e1⟩ : ∃ t, turnP s o.x1 o.y1 = t := ⟨_, rfl⟩
          obtain ⟨t2, e2⟩ : ∃ t, turnP s o.x2 o.y2 = t := ⟨_, rfl⟩
          obtain ⟨t3, e3⟩ : ∃ t, turnP o s.x1 s.y1 = t := ⟨_, rfl⟩
          obtain ⟨t4, e4⟩ : ∃ t, turnP o s.x2 s.y2 = t := ⟨_, rfl⟩
          have HT := Lib.hid (show meetR s o = (decide (t1 * t2 < 0) && decide (t3 * t4 < 0)) by unfold meetR; rw [h1, h2, h3, h4, e1, e2, e3, e4]; rfl)
          obtain ⟨m1, m2⟩ := turn_prod (turn_vals s o.x1 o.y1) (turn_vals s o.x2 o.y2)
          obtain ⟨n1, n2⟩ := turn_prod (turn_vals o s.x1 s.y1) (turn_vals o s.x2 s.y2)
          rw [e1, e2] at m1 m2
          rw [e3, e4] at n1 n2
          have T1 := Lib.hid e1
          have T2 := Lib.hid e2
          have T3 := Lib.hid e3
          have T4 := Lib.hid e4
          clear h1 h2 h3 h4 e1 e2 e3 e4
          by_cases hp : t1 * t2 < 0
          · have HQ := Lib.hid (show meetR s o = decide (t3 * t4 < 0) by rw [HT.out, decide_eq_true hp]; rfl)
            go_enter Try.func124, Try.ntmps124
            go_wp2_with (first | (go_at_call 129; (with_reducible refine (rOn s _ _ o.x1 o.y1 _ _ HS.out J1.out J2.out H1.out).mono ?_); rintro e w' ⟨rfl, hb⟩; obtain ⟨pp, rfl⟩ := later_of_below hb; clear hb) | (go_at_call 129; (with_reducible refine (rOn s _ _ o.x2 o.y2 _ _ HS.out J3.out J4.out H2.out).mono ?_); rintro e w' ⟨rfl, hb⟩; obtain ⟨pp, rfl⟩ := later_of_below hb; clear hb) | (go_at_call 129; (with_reducible refine (rOn o _ _ s.x1 s.y1 _ _ HO.out I1.out I2.out H3.out).mono ?_); rintro e w' ⟨rfl, hb⟩; obtain ⟨pp, rfl⟩ := later_of_below hb; clear hb) | (go_at_call 129; (with_reducible refine (rOn o _ _ s.x2 s.y2 _ _ HO.out I3.out I4.out H4.out).mono ?_); rintro e w' ⟨rfl, hb⟩; obtain ⟨pp, rfl⟩ := later_of_below hb; clear hb))
            refine wp_region_calm (by kernel_rfl) (by kernel_rfl) ?_
            repeat (go_big_quiet_step (first | (go_at_call 146; exact calm_of (by with_reducible exact rTurn s _ _ o.x1 o.y1 _ _ HS.out J1.out J2.out T1.out)) | (go_at_call 146; exact calm_of (by with_reducible exact rTurn s _ _ o.x2 o.y2 _ _ HS.out J3.out J4.out T2.out)) | (go_at_call 146; exact calm_of (by with_reducible exact rTurn o _ _ s.x1 s.y1 _ _ HO.out I1.out I2.out T3.out)) | (go_at_call 146; exact calm_of (by with_reducible exact rTurn o _ _ s.x2 s.y2 _ _ HO.out I3.out I4.out T4.out))))
            refine wpQuiet_nil ?_
            rintro _ ⟨p1, rfl⟩
            go_wp2
            go_ret
            exact ⟨ret_bool HQ.out.symm, (by (repeat' (first | with_reducible exact Below.refl _ _ | (with_reducible refine below_later_of ?_ ?_ _) | (with_reducible refine Below.alloc ?_ ?_ _) | (with_reducible refine Below.setCell ?_ ?_ _) | (with_reducible refine Below.drew ?_) | (simp; done) | (simp; omega) | omega)))⟩
          · have hp' : decide (t1 * t2 < 0) = false := by simpa using hp
            have HQ := Lib.hid (show meetR s o = false by rw [HT.out, hp']; rfl)
            go_enter Try.func124, Try.ntmps124
            go_wp2_with (first | (go_at_call 129; (with_reducible refine (rOn s _ _ o.x1 o.y1 _ _ HS.out J1.out J2.out H1.out).mono ?_); rintro e w' ⟨rfl, hb⟩; obtain ⟨pp, rfl⟩ := later_of_below hb; clear hb) | (go_at_call 129; (with_reducible refine (rOn s _ _ o.x2 o.y2 _ _ HS.out J3.out J4.out H2.out).mono ?_); rintro e w' ⟨rfl, hb⟩; obtain ⟨pp, rfl⟩ := later_of_below hb; clear hb) | (go_at_call 129; (with_reducible refine (rOn o _ _ s.x1 s.y1 _ _ HO.out I1.out I2.out H3.out).mono ?_); rintro e w' ⟨rfl, hb⟩; obtain ⟨pp, rfl⟩ := later_of_below hb; clear hb) | (go_at_call 129; (with_reducible refine (rOn o _ _ s.x2 s.y2 _ _ HO.out I3.out I4.out H4.out).mono ?_); rintro e w' ⟨rfl, hb⟩; obtain ⟨pp, rfl⟩ := later_of_below hb; clear hb))
            refine wp_region_calm (by kernel_rfl) (by kernel_rfl) ?_
            repeat (go_big_quiet_step (first | (go_at_call 146; exact calm_of (by with_reducible exact rTurn s _ _ o.x1 o.y1 _ _ HS.out J1.out J2.out T1.out)) | (go_at_call 146; exact calm_of (by with_reducible exact rTurn s _ _ o.x2 o.y2 _ _ HS.out J3.out J4.out T2.out)) | (go_at_call 146; exact calm_of (by with_reducible exact rTurn o _ _ s.x1 s.y1 _ _ HO.out I1.out I2.out T3.out)) | (go_at_call 146; exact calm_of (by with_reducible exact rTurn o _ _ s.x2 s.y2 _ _ HO.out I3.out I4.out T4.out))))
            refine wpQuiet_nil ?_
            rintro _ ⟨p1, rfl⟩
            go_wp2
            go_ret
            exact ⟨ret_bool HQ.out.symm, (by (repeat' (first | with_reducible exact Below.refl _ _ | (with_reducible refine below_later_of ?_ ?_ _) | (with_reducible refine Below.alloc ?_ ?_ _) | (with_reducible refine Below.setCell ?_ ?_ _) | (with_reducible refine Below.drew ?_) | (simp; done) | (simp; omega) | omega)))⟩
        · have H4 := Lib.hid h4
          have HQ := Lib.hid (show meetR s o = true by unfold meetR; rw [h1, h2, h3, h4]; rfl)
          clear h1 h2 h3 h4
          go_enter Try.func124, Try.ntmps124
          go_wp2_with (first | (go_at_call 129; (with_reducible refine (rOn s _ _ o.x1 o.y1 _ _ HS.out J1.out J2.out H1.out).mono ?_); rintro e w' ⟨rfl, hb⟩; obtain ⟨pp, rfl⟩ := later_of_below hb; clear hb) | (go_at_call 129; (with_reducible refine (rOn s _ _ o.x2 o.y2 _ _ HS.out J3.out J4.out H2.out).mono ?_); rintro e w' ⟨rfl, hb⟩; obtain ⟨pp, rfl⟩ := later_of_below hb; clear hb) | (go_at_call 129; (with_reducible refine (rOn o _ _ s.x1 s.y1 _ _ HO.out I1.out I2.out H3.out).mono ?_); rintro e w' ⟨rfl, hb⟩; obtain ⟨pp, rfl⟩ := later_of_below hb; clear hb) | (go_at_call 129; (with_reducible refine (rOn o _ _ s.x2 s.y2 _ _ HO.out I3.out I4.out H4.out).mono ?_); rintro e w' ⟨rfl, hb⟩; obtain ⟨pp, rfl⟩ := later_of_below hb; clear hb))
          go_ret
          exact ⟨ret_bool HQ.out.symm, (by (repeat' (first | with_reducible exact Below.refl _ _ | (with_reducible refine below_later_of ?_ ?_ _) | (with_reducible refine Below.alloc ?_ ?_ _) | (with_reducible refine Below.setCell ?_ ?_ _) | (with_reducible refine Below.drew ?_) | (simp; done) | (simp; omega) | omega)))⟩
      · have H3 := Lib.hid h3
        have HQ := Lib.hid (show meetR s o = true by unfold meetR; rw [h1, h2, h3]; rfl)
        clear h1 h2 h3
        go_enter Try.func124, Try.ntmps124
        go_wp2_with (first | (go_at_call 129; (with_reducible refine (rOn s _ _ o.x1 o.y1 _ _ HS.out J1.out J2.out H1.out).mono ?_); rintro e w' ⟨rfl, hb⟩; obtain ⟨pp, rfl⟩ := later_of_below hb; clear hb) | (go_at_call 129; (with_reducible refine (rOn s _ _ o.x2 o.y2 _ _ HS.out J3.out J4.out H2.out).mono ?_); rintro e w' ⟨rfl, hb⟩; obtain ⟨pp, rfl⟩ := later_of_below hb; clear hb) | (go_at_call 129; (with_reducible refine (rOn o _ _ s.x1 s.y1 _ _ HO.out I1.out I2.out H3.out).mono ?_); rintro e w' ⟨rfl, hb⟩; obtain ⟨pp, rfl⟩ := later_of_below hb; clear hb))
        go_ret
        exact ⟨ret_bool HQ.out.symm, (by (repeat' (first | with_reducible exact Below.refl _ _ | (with_reducible refine below_later_of ?_ ?_ _) | (with_reducible refine Below.alloc ?_ ?_ _) | (with_reducible refine Below.setCell ?_ ?_ _) | (with_reducible refine Below.drew ?_) | (simp; done) | (simp; omega) | omega)))⟩
    · have H2 := Lib.hid h2
      have HQ := Lib.hid (show meetR s o = true by unfold meetR; rw [h1, h2]; rfl)
      clear h1 h2
      go_enter Try.func124, Try.ntmps124
      go_wp2_with (first | (go_at_call 129; (with_reducible refine (rOn s _ _ o.x1 o.y1 _ _ HS.out J1.out J2.out H1.out).mono ?_); rintro e w' ⟨rfl, hb⟩; obtain ⟨pp, rfl⟩ := later_of_below hb; clear hb) | (go_at_call 129; (with_reducible refine (rOn s _ _ o.x2 o.y2 _ _ HS.out J3.out J4.out H2.out).mono ?_); rintro e w' ⟨rfl, hb⟩; obtain ⟨pp, rfl⟩ := later_of_below hb; clear hb))
      go_ret
      exact ⟨ret_bool HQ.out.symm, (by (repeat' (first | with_reducible exact Below.refl _ _ | (with_reducible refine below_later_of ?_ ?_ _) | (with_reducible refine Below.alloc ?_ ?_ _) | (with_reducible refine Below.setCell ?_ ?_ _) | (with_reducible refine Below.drew ?_) | (simp; done) | (simp; omega) | omega)))⟩
  · have H1 := Lib.hid h1
    have HQ := Lib.hid (show meetR s o = true by unfold meetR; rw [h1]; rfl)
    clear h1
    go_enter Try.func124, Try.ntmps124
    go_wp2_with (first | (go_at_call 129; (with_reducible refine (rOn s _ _ o.x1 o.y1 _ _ HS.out J1.out J2.out H1.out).mono ?_); rintro e w' ⟨rfl, hb⟩; obtain ⟨pp, rfl⟩ := later_of_below hb; clear hb))
    go_ret
    exact ⟨ret_bool HQ.out.symm, (by (repeat' (first | with_reducible exact Below.refl _ _ | (with_reducible refine below_later_of ?_ ?_ _) | (with_reducible refine Below.alloc ?_ ?_ _) | (with_reducible refine Below.setCell ?_ ?_ _) | (with_reducible refine Below.drew ?_) | (simp; done) | (simp; omega) | omega)))⟩
set_option maxHeartbeats 1000000 in
theorem rFold (x y a b c d z1 z2 z3 : Int) (w : World) (hx : Mid x) (hy : Mid y) (ha : Mid a) (hb : Mid b) (hc1 : Mid c) (hd : Mid d) {f : Bool} (hf : foldP x y a b c d = f) :
    Calls Try.prog 123 #[.agg #[.int .i64 x, .int .i64 y, .int .i64 z1], .agg #[.int .i64 a, .int .i64 b, .int .i64 z2], .agg #[.int .i64 c, .int .i64 d, .int .i64 z3]] w fun e w' => e = .returned (.bool f) ∧ Below w.heap.size w w' := by
  subst hf
  have HF := Lib.hid (show (Sd.mk x y a b).Fit from ⟨hx, hy, ha, hb⟩)
  have HC1 := Lib.hid hc1
  have HC2 := Lib.hid hd
  obtain ⟨n, hn⟩ : ∃ n, crossP ⟨x, y, a, b⟩ c d = n := ⟨_, rfl⟩
  have HC := Lib.hid hn
  obtain ⟨p1, p2⟩ := mid_prod ha hx hc1 hx
  obtain ⟨q1, q2⟩ := mid_prod hb hy hd hy
  obtain ⟨x1, x2⟩ := hx
  obtain ⟨y1, y2⟩ := hy
  obtain ⟨a1, a2⟩ := ha
  obtain ⟨b1, b2⟩ := hb
  obtain ⟨c1, c2⟩ := hc1
  obtain ⟨d1, d2⟩ := hd
  by_cases h0 : n = 0
  · subst h0
    have HT := Lib.hid (show foldP x y a b c d = decide (0 < (a - x) * (c - x) + (b - y) * (d - y)) by unfold foldP; rw [hn]; rfl)
    clear hn
    go_enter Try.func123, Try.ntmps123
    go_wp2_with (first | (go_at_call 127; refine (rCross ⟨x, y, a, b⟩ _ _ c d _ _ HF.out HC1.out HC2.out HC.out).mono ?_; rintro e w' ⟨rfl, hb⟩; obtain ⟨pp, rfl⟩ := later_of_below hb; clear hb))
    go_ret
    exact ⟨ret_bool HT.out.symm, (by (repeat' (first | with_reducible exact Below.refl _ _ | (with_reducible refine below_later_of ?_ ?_ _) | (with_reducible refine Below.alloc ?_ ?_ _) | (with_reducible refine Below.setCell ?_ ?_ _) | (with_reducible refine Below.drew ?_) | (simp; done) | (simp; omega) | omega)))⟩
  · have h1 : (n == 0) = false := by simpa using h0
    have HT := Lib.hid (show foldP x y a b c d = false by unfold foldP; rw [hn, decide_eq_false h0]; rfl)
    clear hn
    go_enter Try.func123, Try.ntmps123
    go_wp2_with (first | (go_at_call 127; refine (rCross ⟨x, y, a, b⟩ _ _ c d _ _ HF.out HC1.out HC2.out HC.out).mono ?_; rintro e w' ⟨rfl, hb⟩; obtain ⟨pp, rfl⟩ := later_of_below hb; clear hb))
    go_ret
    exact ⟨ret_bool HT.out.symm, (by (repeat' (first | with_reducible exact Below.refl _ _ | (with_reducible refine below_later_of ?_ ?_ _) | (with_reducible refine Below.alloc ?_ ?_ _) | (with_reducible refine Below.setCell ?_ ?_ _) | (with_reducible refine Below.drew ?_) | (simp; done) | (simp; omega) | omega)))⟩
end Go.Proofs.Ytokpdmlmlkkekaa
