/- Polygons, in plain Lean: inside does not change in a rectangle that no side passes through. -/
import Derived.Test.YthnfepfbkmafaaaY7
import Derived.Test.YthnfepfbkmafaaaX2
namespace Go.Proofs.Ythnfepfbkmafaaa
set_option linter.unusedVariables false
open Go.RowKit
/-- A linear function that is nowhere below 0 at the corners is above 0 within. -/
theorem aff_pos {α β u v lx ly hx hy x y : Int} (h1 : 0 ≤ α * (ly - v) - β * (lx - u)) (h2 : 0 ≤ α * (ly - v) - β * (hx - u)) (h3 : 0 ≤ α * (hy - v) - β * (hx - u)) (h4 : 0 ≤ α * (hy - v) - β * (lx - u))
    (hx1 : lx < x) (hx2 : x < hx) (hy1 : ly < y) (hy2 : y < hy) (hne : α ≠ 0 ∨ β ≠ 0) : 0 < α * (y - v) - β * (x - u) := by
  rcases Int.lt_trichotomy α 0 with ha | ha | ha
  · have p := Int.mul_pos (show 0 < -α by omega) (show 0 < hy - y by omega)
    rcases Int.lt_trichotomy β 0 with hb | hb | hb
    · have q := Int.mul_pos (show 0 < -β by omega) (show 0 < x - lx by omega)
      grind
    · subst hb; grind
    · have q := Int.mul_pos hb (show 0 < hx - x by omega)
      grind
  · subst ha
    rcases Int.lt_trichotomy β 0 with hb | hb | hb
    · have q := Int.mul_pos (show 0 < -β by omega) (show 0 < x - lx by omega)
      grind
    · omega
    · have q := Int.mul_pos hb (show 0 < hx - x by omega)
      grind
  · have p := Int.mul_pos ha (show 0 < y - ly by omega)
    rcases Int.lt_trichotomy β 0 with hb | hb | hb
    · have q := Int.mul_pos (show 0 < -β by omega) (show 0 < x - lx by omega)
      grind
    · subst hb; grind
    · have q := Int.mul_pos hb (show 0 < hx - x by omega)
      grind
/-- A place strictly within a rectangle. -/
def In4 (lx ly hx hy x y : Int) : Prop := lx < x ∧ x < hx ∧ ly < y ∧ y < hy
/-- How a side lies that does not pass through a rectangle. -/
def Off (s : Sd) (lx ly hx hy : Int) : Prop :=
  (s.x1 ≤ lx ∧ s.x2 ≤ lx) ∨ (hx ≤ s.x1 ∧ hx ≤ s.x2) ∨ (s.y1 ≤ ly ∧ s.y2 ≤ ly) ∨ (hy ≤ s.y1 ∧ hy ≤ s.y2) ∨
  (∀ x y, In4 lx ly hx hy x y → 0 < crossP s x y) ∨ (∀ x y, In4 lx ly hx hy x y → crossP s x y < 0)
theorem off_of_pass {s : Sd} {lx ly hx hy : Int} (hne : ¬ (s.x1 = s.x2 ∧ s.y1 = s.y2)) (h : passP s lx ly hx hy = false) : Off s lx ly hx hy := by
  unfold passP asideB at h
  unfold Off
  have hd : s.x2 - s.x1 ≠ 0 ∨ s.y2 - s.y1 ≠ 0 := by omega
  split at h
  · rename_i h1
    simp only [Bool.or_eq_true, decide_eq_true_eq] at h1
    omega
  · rw [Bool.and_eq_false_iff] at h
    rcases h with h | h
    · unfold leftB crossP at h
      simp only [Bool.or_eq_false_iff, decide_eq_false_iff_not] at h
      obtain ⟨⟨⟨h1, h2⟩, h3⟩, h4⟩ := h
      right; right; right; right; right
      intro x y ⟨a1, a2, a3, a4⟩
      have := aff_pos (α := -(s.x2 - s.x1)) (β := -(s.y2 - s.y1)) (u := s.x1) (v := s.y1) (by grind) (by grind) (by grind) (by grind) a1 a2 a3 a4 (by omega)
      unfold crossP
      grind
    · unfold rightB crossP at h
      simp only [Bool.or_eq_false_iff, decide_eq_false_iff_not] at h
      obtain ⟨⟨⟨h1, h2⟩, h3⟩, h4⟩ := h
      right; right; right; right; left
      intro x y ⟨a1, a2, a3, a4⟩
      have := aff_pos (α := s.x2 - s.x1) (β := s.y2 - s.y1) (u := s.x1) (v := s.y1) (by omega) (by omega) (by omega) (by omega) a1 a2 a3 a4 hd
      exact this
/-- A place on a side lies between its ends. -/
theorem has_between {s : Sd} {x y : Int} (h : hasP s x y = true) : crossP s x y = 0 ∧ (min s.x1 s.x2 ≤ x ∧ x ≤ max s.x1 s.x2) ∧ (min s.y1 s.y2 ≤ y ∧ y ≤ max s.y1 s.y2) := by
  rw [← on_has] at h
  unfold onP at h
  simpa only [Bool.and_eq_true, decide_eq_true_eq, inR_iff] using h
theorem off_has {s : Sd} {lx ly hx hy x y : Int} (h : Off s lx ly hx hy) (hi : In4 lx ly hx hy x y) : hasP s x y = false := by
  rw [Bool.eq_false_iff]
  intro hh
  obtain ⟨h0, h1, h2⟩ := has_between hh
  obtain ⟨a1, a2, a3, a4⟩ := hi
  rcases h with h | h | h | h | h | h
  · omega
  · omega
  · omega
  · omega
  · have := h x y ⟨a1, a2, a3, a4⟩; omega
  · have := h x y ⟨a1, a2, a3, a4⟩; omega
theorem cross_left {s : Sd} {x y lx : Int} (h1 : s.x1 ≤ lx) (h2 : s.x2 ≤ lx) (hx : lx < x) : (s.y1 ≤ y → y < s.y2 → crossP s x y < 0) ∧ (s.y2 ≤ y → y < s.y1 → 0 < crossP s x y) := by
  unfold crossP
  constructor
  · intro a b
    have p := Int.mul_nonneg (show 0 ≤ y - s.y1 by omega) (show 0 ≤ x - s.x2 by omega)
    have q := Int.mul_pos (show 0 < s.y2 - y by omega) (show 0 < x - s.x1 by omega)
    grind
  · intro a b
    have p := Int.mul_nonneg (show 0 ≤ y - s.y2 by omega) (show 0 ≤ x - s.x1 by omega)
    have q := Int.mul_pos (show 0 < s.y1 - y by omega) (show 0 < x - s.x2 by omega)
    grind
theorem cross_right {s : Sd} {x y hx : Int} (h1 : hx ≤ s.x1) (h2 : hx ≤ s.x2) (hx : x < hx) : (s.y1 ≤ y → y < s.y2 → 0 < crossP s x y) ∧ (s.y2 ≤ y → y < s.y1 → crossP s x y < 0) := by
  unfold crossP
  constructor
  · intro a b
    have p := Int.mul_nonneg (show 0 ≤ y - s.y1 by omega) (show 0 ≤ s.x2 - x by omega)
    have q := Int.mul_pos (show 0 < s.y2 - y by omega) (show 0 < s.x1 - x by omega)
    grind
  · intro a b
    have p := Int.mul_nonneg (show 0 ≤ y - s.y2 by omega) (show 0 ≤ s.x1 - x by omega)
    have q := Int.mul_pos (show 0 < s.y1 - y by omega) (show 0 < s.x2 - x by omega)
    grind
/-- A flip, in words. -/
theorem flip_iff (s : Sd) (x y : Int) : flipP s x y = true ↔ (s.y1 ≤ y ∧ y < s.y2 ∧ 0 < crossP s x y) ∨ (s.y2 ≤ y ∧ y < s.y1 ∧ crossP s x y ≤ 0) := by
  unfold flipP
  by_cases h1 : y < s.y1 <;> by_cases h2 : y < s.y2 <;> by_cases h3 : 0 < crossP s x y <;> by_cases h4 : s.y1 < s.y2 <;> simp [h1, h2, h3, h4] <;> omega
theorem flip_x {s : Sd} {lx ly hx hy x y : Int} (h : Off s lx ly hx hy) (h1 : In4 lx ly hx hy x y) (h2 : In4 lx ly hx hy (x + 1) y) : flipP s x y = flipP s (x + 1) y := by
  rw [Bool.eq_iff_iff, flip_iff, flip_iff]
  have i1 := h1
  have i2 := h2
  obtain ⟨a1, a2, a3, a4⟩ := h1
  obtain ⟨b1, b2, b3, b4⟩ := h2
  rcases h with h | h | h | h | h | h
  · have k1 := cross_left (y := y) h.1 h.2 a1
    have k2 := cross_left (y := y) h.1 h.2 b1
    omega
  · have k1 := cross_right (y := y) h.1 h.2 a2
    have k2 := cross_right (y := y) h.1 h.2 b2
    omega
  · omega
  · omega
  · have k1 := h _ _ i1
    have k2 := h _ _ i2
    omega
  · have k1 := h _ _ i1
    have k2 := h _ _ i2
    omega
/-- A corner on the row above a place, to its right. -/
def gB (x y a b : Int) : Bool := decide (b = y + 1) && decide (x < a)
theorem flip_y {s : Sd} {lx ly hx hy x y : Int} (h : Off s lx ly hx hy) (h1 : In4 lx ly hx hy x y) (h2 : In4 lx ly hx hy x (y + 1)) : (flipP s x y != flipP s x (y + 1)) = (gB x y s.x1 s.y1 != gB x y s.x2 s.y2) := by
  have f1 := flip_iff s x y
  have f2 := flip_iff s x (y + 1)
  have g1 : gB x y s.x1 s.y1 = true ↔ s.y1 = y + 1 ∧ x < s.x1 := by unfold gB; simp
  have g2 : gB x y s.x2 s.y2 = true ↔ s.y2 = y + 1 ∧ x < s.x2 := by unfold gB; simp
  have i1 := h1
  have i2 := h2
  have key : ((flipP s x y = true ↔ flipP s x (y + 1) = true) ↔ (gB x y s.x1 s.y1 = true ↔ gB x y s.x2 s.y2 = true)) := by
    rw [f1, f2, g1, g2]
    obtain ⟨a1, a2, a3, a4⟩ := h1
    obtain ⟨b1, b2, b3, b4⟩ := h2
    clear f1 f2 g1 g2
    rcases h with h | h | h | h | h | h
    · have k1 := cross_left (y := y) h.1 h.2 a1
      have k2 := cross_left (y := y + 1) h.1 h.2 a1
      omega
    · have k1 := cross_right (y := y) h.1 h.2 a2
      have k2 := cross_right (y := y + 1) h.1 h.2 a2
      omega
    · omega
    · omega
    · have k1 := h _ _ i1
      have k2 := h _ _ i2
      have e1 : s.y1 = y + 1 → s.y1 < s.y2 → x < s.x1 := fun u v => by
        refine Int.not_le.1 fun w => ?_
        have := Int.mul_nonneg (show 0 ≤ s.y2 - s.y1 by omega) (show 0 ≤ x - s.x1 by omega)
        unfold crossP at k2; rw [← u] at k2; simp at k2; omega
      have e2 : s.y1 = y + 1 → s.y2 < s.y1 → s.x1 < x := fun u v => by
        refine Int.not_le.1 fun w => ?_
        have := Int.mul_nonneg (show 0 ≤ s.y1 - s.y2 by omega) (show 0 ≤ s.x1 - x by omega)
        unfold crossP at k2; rw [← u] at k2; simp at k2; grind
      have e3 : s.y2 = y + 1 → s.y1 < s.y2 → x < s.x2 := fun u v => by
        refine Int.not_le.1 fun w => ?_
        have := Int.mul_nonneg (show 0 ≤ s.y2 - s.y1 by omega) (show 0 ≤ x - s.x2 by omega)
        unfold crossP at k2; rw [← u] at k2; grind
      have e4 : s.y2 = y + 1 → s.y2 < s.y1 → s.x2 < x := fun u v => by
        refine Int.not_le.1 fun w => ?_
        have := Int.mul_nonneg (show 0 ≤ s.y1 - s.y2 by omega) (show 0 ≤ s.x2 - x by omega)
        unfold crossP at k2; rw [← u] at k2; grind
      have e5 : s.y1 = y + 1 → s.y1 = s.y2 → (x < s.x1 ↔ x < s.x2) := fun u v => by
        unfold crossP at k2; rw [← u, ← v] at k2; simp at k2
      omega
    · have k1 := h _ _ i1
      have k2 := h _ _ i2
      have e1 : s.y1 = y + 1 → s.y1 < s.y2 → s.x1 < x := fun u v => by
        refine Int.not_le.1 fun w => ?_
        have := Int.mul_nonneg (show 0 ≤ s.y2 - s.y1 by omega) (show 0 ≤ s.x1 - x by omega)
        unfold crossP at k2; rw [← u] at k2; simp at k2; grind
      have e2 : s.y1 = y + 1 → s.y2 < s.y1 → x < s.x1 := fun u v => by
        refine Int.not_le.1 fun w => ?_
        have := Int.mul_nonneg (show 0 ≤ s.y1 - s.y2 by omega) (show 0 ≤ x - s.x1 by omega)
        unfold crossP at k2; rw [← u] at k2; simp at k2; grind
      have e3 : s.y2 = y + 1 → s.y1 < s.y2 → s.x2 < x := fun u v => by
        refine Int.not_le.1 fun w => ?_
        have := Int.mul_nonneg (show 0 ≤ s.y2 - s.y1 by omega) (show 0 ≤ s.x2 - x by omega)
        unfold crossP at k2; rw [← u] at k2; grind
      have e4 : s.y2 = y + 1 → s.y2 < s.y1 → x < s.x2 := fun u v => by
        refine Int.not_le.1 fun w => ?_
        have := Int.mul_nonneg (show 0 ≤ s.y1 - s.y2 by omega) (show 0 ≤ x - s.x2 by omega)
        unfold crossP at k2; rw [← u] at k2; grind
      have e5 : s.y1 = y + 1 → s.y1 = s.y2 → (x < s.x1 ↔ x < s.x2) := fun u v => by
        unfold crossP at k2; rw [← u, ← v] at k2; simp at k2
      omega
  revert key
  cases flipP s x y <;> cases flipP s x (y + 1) <;> cases gB x y s.x1 s.y1 <;> cases gB x y s.x2 s.y2 <;> simp
theorem par_x {sd : Nat → Sd} {lx ly hx hy x y : Int} (h1 : In4 lx ly hx hy x y) (h2 : In4 lx ly hx hy (x + 1) y) : ∀ n, (∀ k, k < n → Off (sd k) lx ly hx hy) → parB sd x y n = parB sd (x + 1) y n
  | 0, _ => rfl
  | n + 1, h => by
    rw [parB, parB, flip_x (h n (by omega)) h1 h2, par_x h1 h2 n (fun k hk => h k (by omega))]
theorem par_y {sd : Nat → Sd} {lx ly hx hy x y : Int} (h1 : In4 lx ly hx hy x y) (h2 : In4 lx ly hx hy x (y + 1)) : ∀ n, (∀ k, k < n → (sd k).x2 = (sd (k + 1)).x1 ∧ (sd k).y2 = (sd (k + 1)).y1) → (∀ k, k < n + 1 → Off (sd k) lx ly hx hy) →
    (parB sd x y (n + 1) != parB sd x (y + 1) (n + 1)) = (gB x y (sd 0).x1 (sd 0).y1 != gB x y (sd n).x2 (sd n).y2)
  | 0, _, h => by
    have hf := flip_y (h 0 (by omega)) h1 h2
    rw [← hf]
    simp only [parB]
    cases flipP (sd 0) x y <;> cases flipP (sd 0) x (y + 1) <;> rfl
  | n + 1, hc, h => by
    have ih := par_y h1 h2 n (fun k hk => hc k (by omega)) (fun k hk => h k (by omega))
    have hf := flip_y (h (n + 1) (by omega)) h1 h2
    obtain ⟨c1, c2⟩ := hc n (by omega)
    rw [c1, c2] at ih
    rw [show parB sd x y (n + 1 + 1) = if flipP (sd (n + 1)) x y then !parB sd x y (n + 1) else parB sd x y (n + 1) from rfl, show parB sd x (y + 1) (n + 1 + 1) = if flipP (sd (n + 1)) x (y + 1) then !parB sd x (y + 1) (n + 1) else parB sd x (y + 1) (n + 1) from rfl]
    revert ih hf
    generalize parB sd x y (n + 1) = pa
    generalize parB sd x (y + 1) (n + 1) = pb
    cases flipP (sd (n + 1)) x y <;> cases flipP (sd (n + 1)) x (y + 1) <;> cases pa <;> cases pb <;> cases gB x y (sd 0).x1 (sd 0).y1 <;> cases gB x y (sd (n + 1)).x1 (sd (n + 1)).y1 <;> cases gB x y (sd (n + 1)).x2 (sd (n + 1)).y2 <;> simp
/-- A closed row of sides that do not pass through a rectangle: the parity is the same at all its places. -/
structure Ring (sd : Nat → Sd) (n : Nat) (lx ly hx hy : Int) : Prop where
  chain : ∀ k, k < n → (sd k).x2 = (sd (k + 1)).x1 ∧ (sd k).y2 = (sd (k + 1)).y1
  close : (sd n).x2 = (sd 0).x1 ∧ (sd n).y2 = (sd 0).y1
  off : ∀ k, k < n + 1 → Off (sd k) lx ly hx hy
theorem Ring.right {sd : Nat → Sd} {n : Nat} {lx ly hx hy : Int} (R : Ring sd n lx ly hx hy) {y : Int} : ∀ (m : Nat) {x : Int}, In4 lx ly hx hy x y → In4 lx ly hx hy (x + m) y → parB sd x y (n + 1) = parB sd (x + m) y (n + 1)
  | 0, x, _, _ => by simp
  | m + 1, x, h1, h2 => by
    have h3 : In4 lx ly hx hy (x + m) y := by unfold In4 at *; omega
    have e : x + ((m + 1 : Nat) : Int) = x + m + 1 := by omega
    rw [e] at h2 ⊢
    rw [R.right m h1 h3]
    exact par_x h3 h2 (n + 1) R.off
theorem Ring.up {sd : Nat → Sd} {n : Nat} {lx ly hx hy : Int} (R : Ring sd n lx ly hx hy) {x : Int} : ∀ (m : Nat) {y : Int}, In4 lx ly hx hy x y → In4 lx ly hx hy x (y + m) → parB sd x y (n + 1) = parB sd x (y + m) (n + 1)
  | 0, y, _, _ => by simp
  | m + 1, y, h1, h2 => by
    have h3 : In4 lx ly hx hy x (y + m) := by unfold In4 at *; omega
    have e : y + ((m + 1 : Nat) : Int) = y + m + 1 := by omega
    rw [e] at h2 ⊢
    rw [R.up m h1 h3]
    have := par_y h3 h2 n R.chain R.off
    rw [R.close.1, R.close.2] at this
    revert this
    cases parB sd x (y + m) (n + 1) <;> cases parB sd x (y + m + 1) (n + 1) <;> simp
theorem Ring.same {sd : Nat → Sd} {n : Nat} {lx ly hx hy : Int} (R : Ring sd n lx ly hx hy) {x y a b : Int} (h1 : In4 lx ly hx hy x y) (h2 : In4 lx ly hx hy a b) : parB sd x y (n + 1) = parB sd a b (n + 1) := by
  have hm : parB sd x y (n + 1) = parB sd a y (n + 1) := by
    have h3 : In4 lx ly hx hy a y := by unfold In4 at *; omega
    rcases Int.le_total x a with h | h
    · have := R.right (x := x) (a - x).toNat h1 (by rw [show x + ((a - x).toNat : Int) = a by omega]; exact h3)
      rwa [show x + ((a - x).toNat : Int) = a by omega] at this
    · have := R.right (x := a) (x - a).toNat h3 (by rw [show a + ((x - a).toNat : Int) = x by omega]; exact h1)
      rw [show a + ((x - a).toNat : Int) = x by omega] at this
      exact this.symm
  rw [hm]
  have h3 : In4 lx ly hx hy a y := by unfold In4 at *; omega
  rcases Int.le_total y b with h | h
  · have := R.up (y := y) (b - y).toNat h3 (by rw [show y + ((b - y).toNat : Int) = b by omega]; exact h2)
    rwa [show y + ((b - y).toNat : Int) = b by omega] at this
  · have := R.up (y := b) (y - b).toNat h2 (by rw [show b + ((y - b).toNat : Int) = y by omega]; exact h3)
    rw [show b + ((y - b).toNat : Int) = y by omega] at this
    exact this.symm
end Go.Proofs.Ythnfepfbkmafaaa
