/- Polygons, in plain Lean: the reference's clash is the program's. -/
import Derived.Test.YthnfepfbkmafaaaY1
namespace Go.Proofs.Ythnfepfbkmafaaa
set_option linter.unusedVariables false
open Go.RowKit
def prevN (n k : Nat) : Nat := if k = 0 then n - 1 else k - 1
def foldAt (ps : List Plc) (i : Nat) : Bool :=
  foldP (plcAt ps i).x (plcAt ps i).y (plcAt ps (nextN ps.length i)).x (plcAt ps (nextN ps.length i)).y (plcAt ps (prevN ps.length i)).x (plcAt ps (prevN ps.length i)).y
theorem side1 (ps : List Plc) (k : Nat) : sideAt ps 1 k = ⟨(plcAt ps k).x, (plcAt ps k).y, (plcAt ps (nextN ps.length k)).x, (plcAt ps (nextN ps.length k)).y⟩ := by
  unfold sideAt; simp only [Int.one_mul]
/-- What the reference calls a clash. -/
def RClash (ps : List Plc) : Prop := ∃ i, i < ps.length ∧ (foldAt ps i = true ∨ ∃ k, i + 2 ≤ k ∧ k < ps.length ∧ nextN ps.length k ≠ i ∧ meetR (sideAt ps 1 i) (sideAt ps 1 k) = true)
theorem seen_ne {ps : List Plc} {j k : Nat} (hj : j < k) (h : cornerErr ps k = 0) : ¬ ((plcAt ps j).x = (plcAt ps k).x ∧ (plcAt ps j).y = (plcAt ps k).y) := by
  rintro ⟨h1, h2⟩
  unfold cornerErr at h
  split at h
  · split at h
    · exact absurd h (by decide)
    · rename_i h3
      refine h3 ?_
      unfold seenB
      rw [List.any_eq_true]
      exact ⟨j, by simpa using hj, by simp [h1, h2]⟩
  · exact absurd h (by decide)
theorem corner_ne {ps : List Plc} (hc : ∀ k, k < ps.length → cornerErr ps k = 0) {j k : Nat} (hj : j < ps.length) (hk : k < ps.length) (hn : j ≠ k) : ¬ ((plcAt ps j).x = (plcAt ps k).x ∧ (plcAt ps j).y = (plcAt ps k).y) := by
  rcases Nat.lt_or_gt_of_ne hn with h | h
  · exact seen_ne h (hc k hk)
  · rintro ⟨h1, h2⟩
    exact seen_ne h (hc j hj) ⟨h1.symm, h2.symm⟩
theorem clash_adj {ps : List Plc} (hn : 3 ≤ ps.length) (hc : ∀ k, k < ps.length → cornerErr ps k = 0) {k : Nat} (hk : k + 1 < ps.length) : clashB ps (k + 1) k = foldAt ps (k + 1) := by
  have e1 : nextN ps.length k = k + 1 := by unfold nextN; rw [if_pos hk]
  have e2 : prevN ps.length (k + 1) = k := by unfold prevN; rw [if_neg (by omega)]; omega
  have hx : nextN ps.length (k + 1) < ps.length := by unfold nextN; split <;> omega
  have hx2 : nextN ps.length (k + 1) ≠ k + 1 := by unfold nextN; split <;> omega
  unfold clashB foldAt
  rw [if_pos rfl, side1, side1, e1, e2, fold_has (corner_ne hc hx hk hx2) (corner_ne hc (by omega) hk (by omega))]
theorem clash_wrap {ps : List Plc} (hn : 3 ≤ ps.length) (hc : ∀ k, k < ps.length → cornerErr ps k = 0) {i : Nat} (hi : i + 1 = ps.length) : clashB ps i 0 = foldAt ps 0 := by
  have e1 : nextN ps.length 0 = 1 := by unfold nextN; rw [if_pos (by omega)]
  have e2 : prevN ps.length 0 = i := by unfold prevN; rw [if_pos rfl]; omega
  have e3 : nextN ps.length i = 0 := by unfold nextN; rw [if_neg (by omega)]
  unfold clashB foldAt
  rw [if_neg (by omega), if_pos ⟨rfl, hi⟩, side1, side1, e1, e2, e3, fold_has (corner_ne hc (by omega) (by omega) (by omega)) (corner_ne hc (by omega) (by omega) (by omega)), Bool.or_comm]
theorem clash_far {ps : List Plc} {i k : Nat} (h1 : i ≠ k + 1) (h2 : ¬ (k = 0 ∧ i + 1 = ps.length)) : clashB ps i k = meetR (sideAt ps 1 k) (sideAt ps 1 i) := by
  unfold clashB
  rw [if_neg h1, if_neg h2, meet_meets, meets_comm]
theorem clash_iff {ps : List Plc} (hn : 3 ≤ ps.length) (hc : ∀ k, k < ps.length → cornerErr ps k = 0) : Clash ps ↔ RClash ps := by
  constructor
  · rintro ⟨i, k, hi, hk, h⟩
    by_cases h1 : i = k + 1
    · subst h1
      rw [clash_adj hn hc hi] at h
      exact ⟨k + 1, hi, Or.inl h⟩
    · by_cases h2 : k = 0 ∧ i + 1 = ps.length
      · obtain ⟨rfl, h2⟩ := h2
        rw [clash_wrap hn hc h2] at h
        exact ⟨0, by omega, Or.inl h⟩
      · rw [clash_far h1 h2] at h
        exact ⟨k, by omega, Or.inr ⟨i, by omega, hi, by unfold nextN; split <;> omega, h⟩⟩
  · rintro ⟨i, hi, h | ⟨k, h1, h2, h3, h⟩⟩
    · by_cases h0 : i = 0
      · subst h0
        exact ⟨ps.length - 1, 0, by omega, by omega, by rw [clash_wrap hn hc (by omega)]; exact h⟩
      · obtain ⟨j, rfl⟩ : ∃ j, i = j + 1 := ⟨i - 1, by omega⟩
        exact ⟨j + 1, j, hi, by omega, by rw [clash_adj hn hc hi]; exact h⟩
    · refine ⟨k, i, h2, by omega, ?_⟩
      rw [clash_far (by omega) ?_]
      · exact h
      · rintro ⟨rfl, h4⟩
        refine h3 ?_
        unfold nextN
        rw [if_neg (by omega)]
end Go.Proofs.Ythnfepfbkmafaaa
