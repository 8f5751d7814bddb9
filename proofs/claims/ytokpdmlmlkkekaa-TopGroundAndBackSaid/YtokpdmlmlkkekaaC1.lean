/- Counts, in plain Lean: how many cells of each kind. -/
import Derived.Test.YtokpdmlmlkkekaaN1
namespace Go.Proofs.Ytokpdmlmlkkekaa
set_option linter.unusedVariables false
open Go.RowKit
def cntRow (t : Trk) (r : Rel) (fi : Nat → Int) (row : Int) (c : Int) : Nat → Int
  | 0 => 0
  | k + 1 => cntRow t r fi row c k + if kindP t r fi row k = c then 1 else 0
def cntGrid (t : Trk) (r : Rel) (fi : Nat → Int) (c : Int) : Nat → Int
  | 0 => 0
  | n + 1 => cntGrid t r fi c n + cntRow t r fi n c r.cols.toNat
def countP (t : Trk) (r : Rel) (fi : Nat → Int) (c : Int) : Int := cntGrid t r fi c r.rows.toNat
theorem cntRow_bd (t : Trk) (r : Rel) (fi : Nat → Int) (row c : Int) : ∀ k, 0 ≤ cntRow t r fi row c k ∧ cntRow t r fi row c k ≤ (k : Int)
  | 0 => by unfold cntRow; omega
  | k + 1 => by
    have := cntRow_bd t r fi row c k
    unfold cntRow
    split <;> omega
theorem cntGrid_bd (t : Trk) (r : Rel) (fi : Nat → Int) (c : Int) (h : r.cols.toNat ≤ 64) : ∀ n, 0 ≤ cntGrid t r fi c n ∧ cntGrid t r fi c n ≤ (n * 64 : Nat)
  | 0 => by unfold cntGrid; omega
  | n + 1 => by
    have := cntGrid_bd t r fi c h n
    have := cntRow_bd t r fi n c r.cols.toNat
    unfold cntGrid
    omega
theorem kindP_cases (t : Trk) (r : Rel) (fi : Nat → Int) (row : Int) (k : Nat) : kindP t r fi row k = 0 ∨ kindP t r fi row k = 1 ∨ kindP t r fi row k = 2 ∨ kindP t r fi row k = 3 := by
  unfold kindP kindB
  split
  · simp
  · split
    · simp
    · split <;> simp
theorem cntRow_sum (t : Trk) (r : Rel) (fi : Nat → Int) (row : Int) : ∀ k, cntRow t r fi row 0 k + cntRow t r fi row 1 k + cntRow t r fi row 2 k + cntRow t r fi row 3 k = (k : Int)
  | 0 => by simp [cntRow]
  | k + 1 => by
    have h1 := cntRow_sum t r fi row k
    have h2 := kindP_cases t r fi row k
    simp only [cntRow]
    generalize kindP t r fi row k = kd at *
    rcases h2 with rfl | rfl | rfl | rfl <;> simp <;> omega
theorem cntGrid_sum (t : Trk) (r : Rel) (fi : Nat → Int) : ∀ n, cntGrid t r fi 0 n + cntGrid t r fi 1 n + cntGrid t r fi 2 n + cntGrid t r fi 3 n = ((n * r.cols.toNat : Nat) : Int)
  | 0 => by simp [cntGrid]
  | n + 1 => by
    have h1 := cntGrid_sum t r fi n
    have h2 := cntRow_sum t r fi n r.cols.toNat
    simp only [cntGrid]
    rw [Nat.add_mul, Nat.one_mul]
    omega
theorem count_sum {t : Trk} {r : Rel} {fi : Nat → Int} (o : r.Ok) : countP t r fi 0 + countP t r fi 1 + countP t r fi 2 + countP t r fi 3 = (r.ds.length : Int) := by
  unfold countP
  rw [cntGrid_sum, o.len]
  have h1 := o.r1
  have h2 := o.l1
  rw [Int.natCast_mul, Int.toNat_of_nonneg (by omega), Int.toNat_of_nonneg (by omega)]
/-- In a flat relief that lies below the satellite nothing is hidden, nothing is over. -/
theorem flat_hides {a c d : Int} (hd : 1 ≤ d) : hidesP a d c d = false := by
  unfold hidesP
  by_cases h : a < c
  · have : a * d < c * d := Int.mul_lt_mul_of_pos_right h (by omega)
    simp only [Bool.and_eq_false_iff, decide_eq_false_iff_not]
    exact Or.inr (by omega)
  · simp [h]
theorem sq_lt {a c : Int} (h1 : 0 ≤ a) (h : a < c) : a * a < c * c := by
  have := Int.mul_lt_mul_of_pos_right h (show 0 < c by omega)
  have := Int.mul_le_mul_of_nonneg_left (Int.le_of_lt h) h1
  omega
theorem flat_lies {a c d : Int} (ha : 1 ≤ a) (hc : 1 ≤ c) : liesP a d c d = false := by
  unfold liesP sqP
  rcases Int.lt_trichotomy a c with h | h | h
  · have := sq_lt (show 0 ≤ a by omega) h
    simp [h, Int.not_lt.2 (Int.le_of_lt h)]
    omega
  · subst h; simp
  · have := sq_lt (show 0 ≤ c by omega) h
    simp [h, Int.not_lt.2 (Int.le_of_lt h)]
    omega
end Go.Proofs.Ytokpdmlmlkkekaa
