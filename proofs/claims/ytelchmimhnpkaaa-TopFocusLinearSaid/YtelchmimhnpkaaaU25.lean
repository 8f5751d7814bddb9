/- Chapter 1: the errors of samples. -/
import Derived.Test.YtelchmimhnpkaaaU24
namespace Go.Proofs.Ytelchmimhnpkaaa
set_option linter.unusedVariables false
open Go.RowKit
def partE (a b : Nat) (m : Int) : Int := if wholeB a && wholeB b then (if inE (-m) m (intB a) && inE (-m) m (intB b) then 0 else 2) else 29
/-- The first wrong sample, and its error. -/
def firstE (n : Nat) (g : Nat → Int) : Nat × Int := match (List.range n).find? (fun k => g k != 0) with
  | some k => (k, g k)
  | none => (0, 0)
theorem firstE_hit {n k : Nat} {g : Nat → Int} (hk : k < n) (h0 : ∀ j, j < k → g j = 0) (h1 : g k ≠ 0) : firstE n g = (k, g k) := by
  have : (List.range n).find? (fun k => g k != 0) = some k := by
    rw [List.find?_range_eq_some]
    exact ⟨by simpa using h1, by simpa using hk, fun j hj => by simp [h0 j hj]⟩
  unfold firstE
  rw [this]
theorem firstE_ok {n : Nat} {g : Nat → Int} (h0 : ∀ j, j < n → g j = 0) : firstE n g = (0, 0) := by
  have : (List.range n).find? (fun k => g k != 0) = none := by
    rw [List.find?_range_eq_none]
    intro j hj
    simp [h0 j hj]
  unfold firstE
  rw [this]
theorem firstE_zero {n : Nat} {g : Nat → Int} (h : (firstE n g).2 = 0) : ∀ j, j < n → g j = 0 := by
  intro j hj
  unfold firstE at h
  cases hf : (List.range n).find? (fun k => g k != 0) with
  | some k =>
    rw [hf] at h
    have := (List.find?_range_eq_some.1 hf).1
    simp at this
    exact absurd h this
  | none =>
    have := List.find?_range_eq_none.1 hf j hj
    simpa using this
theorem partE_ok {a b : Nat} {m : Int} (h : partE a b m = 0) : (FNum Ieee.single a (intB a) ∧ -m ≤ intB a ∧ intB a ≤ m) ∧ FNum Ieee.single b (intB b) ∧ -m ≤ intB b ∧ intB b ≤ m := by
  unfold partE inE at h
  by_cases h1 : (wholeB a && wholeB b) = true
  · rw [if_pos h1] at h
    simp only [Bool.and_eq_true] at h1
    split at h
    · rename_i h2
      simp only [Bool.and_eq_true, decide_eq_true_eq] at h2
      exact ⟨⟨whole_fnum h1.1, h2.1⟩, whole_fnum h1.2, h2.2⟩
    · exact absurd h (by decide)
  · rw [if_neg h1] at h
    exact absurd h (by decide)
end Go.Proofs.Ytelchmimhnpkaaa
