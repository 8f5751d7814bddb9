/- The whole root, plain. -/
import Derived.Test.YthnfepfbkmafaaaP1
namespace Go.Proofs.Ythnfepfbkmafaaa
set_option linter.unusedVariables false

theorem sq_lt_of_lt {a b : Int} (ha : 0 ≤ a) (h : a < b) : a * a < b * b :=
  Int.lt_of_le_of_lt (Int.mul_le_mul_of_nonneg_left (Int.le_of_lt h) ha) (Int.mul_lt_mul_of_pos_right h (by omega))
theorem lt_of_sq_lt {a b : Int} (hb : 0 ≤ b) (h : a * a < b * b) : a < b := by
  rcases Int.lt_or_le a b with h1 | h1
  · exact h1
  · have := Int.mul_le_mul h1 h1 hb (Int.le_trans hb h1); omega
theorem le_of_sq_le {a b : Int} (hb : 0 ≤ b) (h : a * a ≤ b * b) : a ≤ b := by
  rcases Int.lt_or_le b a with h1 | h1
  · have := sq_lt_of_lt hb h1; omega
  · exact h1

/-- The root digit by digit, as the reference finds it: bit is 2 ^ k. -/
def rootGo (n : Int) : Nat → Int → Int
  | 0, r => r
  | k + 1, r => rootGo n k (if (r + 2 ^ k) * (r + 2 ^ k) ≤ n then r + 2 ^ k else r)
def rootP (n : Int) : Int := rootGo n 31 0
def rootUpP (n : Int) : Int := if rootP n * rootP n < n then rootP n + 1 else rootP n

theorem rootGo_spec (n : Int) : ∀ (k : Nat) (r : Int), 0 ≤ r → r * r ≤ n → n < (r + 2 ^ k) * (r + 2 ^ k) →
    0 ≤ rootGo n k r ∧ rootGo n k r * rootGo n k r ≤ n ∧ n < (rootGo n k r + 1) * (rootGo n k r + 1)
  | 0, r, h0, h1, h2 => by simp only [rootGo]; exact ⟨h0, h1, by simpa using h2⟩
  | k + 1, r, h0, h1, h2 => by
    simp only [rootGo]
    have hp : (0 : Int) < 2 ^ k := Int.pow_pos (by omega)
    have he : (2 : Int) ^ (k + 1) = 2 ^ k + 2 ^ k := by rw [Int.pow_succ]; omega
    by_cases h : (r + 2 ^ k) * (r + 2 ^ k) ≤ n
    · rw [if_pos h]
      refine rootGo_spec n k _ (by omega) h ?_
      rw [he] at h2
      rw [Int.add_assoc]
      exact h2
    · rw [if_neg h]
      exact rootGo_spec n k r h0 h1 (by omega)

theorem rootP_spec (n : Int) (h0 : 0 ≤ n) (h1 : n < 4611686018427387904) : 0 ≤ rootP n ∧ rootP n * rootP n ≤ n ∧ n < (rootP n + 1) * (rootP n + 1) := by
  unfold rootP
  exact rootGo_spec n 31 0 (by omega) (by simpa using h0) (by simpa using h1)

theorem rootP_unique (n r : Int) (h0 : 0 ≤ r) (h1 : r * r ≤ n) (h2 : n < (r + 1) * (r + 1)) (h3 : n < 4611686018427387904) : rootP n = r := by
  have hn : 0 ≤ n := Int.le_trans (Int.mul_nonneg h0 h0) h1
  obtain ⟨s0, s1, s2⟩ := rootP_spec n hn h3
  have a : rootP n < r + 1 := lt_of_sq_lt (by omega) (by omega)
  have b : r < rootP n + 1 := lt_of_sq_lt (by omega) (by omega)
  omega

theorem rootP_le (n : Int) (h0 : 0 ≤ n) (h1 : n < 4611686018427387904) : rootP n ≤ 2147483647 := by
  obtain ⟨s0, s1, s2⟩ := rootP_spec n h0 h1
  have : rootP n < 2147483648 := lt_of_sq_lt (by omega) (by omega)
  omega

theorem sq_bd (a b : Int) (h1 : -b ≤ a) (h2 : a ≤ b) : 0 ≤ a * a ∧ a * a ≤ b * b := by
  rcases Int.le_total 0 a with h | h
  · exact ⟨Int.mul_nonneg h h, Int.mul_le_mul h2 h2 h (by omega)⟩
  · have : a * a = (-a) * (-a) := by rw [Int.neg_mul_neg]
    rw [this]
    exact ⟨Int.mul_nonneg (by omega) (by omega), Int.mul_le_mul (by omega) (by omega) (by omega) (by omega)⟩

/-- The line of a Y, the square of a slant, the bin of a slant that was rounded down. -/
def lineP (t : Trk) (y : Int) : Int := floorP (y - t.sy) t.step
def squareP (t : Trk) (x z : Int) : Int := offP t x * offP t x + depthP t z * depthP t z
def binP (t : Trk) (slant : Int) : Int := floorP (slant - t.near) t.bin

theorem offP_bd (t : Trk) (x : Int) (h1 : -100000000 ≤ t.sx) (h2 : t.sx ≤ 100000000) (x1 : -100000000 ≤ x) (x2 : x ≤ 100000000) : -200000000 ≤ offP t x ∧ offP t x ≤ 200000000 := by
  unfold offP; split <;> omega
theorem depthP_bd (t : Trk) (z : Int) (h1 : -100000000 ≤ t.sz) (h2 : t.sz ≤ 100000000) (x1 : -100000000 ≤ z) (x2 : z ≤ 100000000) : -200000000 ≤ depthP t z ∧ depthP t z ≤ 200000000 := by
  unfold depthP; omega
theorem squareP_bd (t : Trk) (x z : Int) (h1 : -100000000 ≤ t.sx) (h2 : t.sx ≤ 100000000) (k1 : -100000000 ≤ t.sz) (k2 : t.sz ≤ 100000000) (x1 : -100000000 ≤ x) (x2 : x ≤ 100000000)
    (z1 : -100000000 ≤ z) (z2 : z ≤ 100000000) : 0 ≤ squareP t x z ∧ squareP t x z ≤ 80000000000000000 := by
  obtain ⟨a1, a2⟩ := offP_bd t x h1 h2 x1 x2
  obtain ⟨b1, b2⟩ := depthP_bd t z k1 k2 z1 z2
  have a := sq_bd (offP t x) 200000000 a1 a2
  have b := sq_bd (depthP t z) 200000000 b1 b2
  unfold squareP
  omega
end Go.Proofs.Ythnfepfbkmafaaa
