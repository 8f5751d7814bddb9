/- A place of a box is inside or not as BoxInside answers: plain. -/
import Derived.Test.YtokpdmlmlkkekaaX8
import Derived.Test.YtokpdmlmlkkekaaZT
namespace Go.Proofs.Ytokpdmlmlkkekaa
set_option linter.unusedVariables false
open Go.RowKit
theorem has_scale (a b c d x y : Int) : hasP ⟨2 * a, 2 * b, 2 * c, 2 * d⟩ (2 * x) (2 * y) = hasP ⟨a, b, c, d⟩ x y := by
  have e1 : crossP ⟨2 * a, 2 * b, 2 * c, 2 * d⟩ (2 * x) (2 * y) = 4 * crossP ⟨a, b, c, d⟩ x y := by unfold crossP; dsimp only; grind
  have e2 : dotP ⟨2 * a, 2 * b, 2 * c, 2 * d⟩ (2 * x) (2 * y) = 4 * dotP ⟨a, b, c, d⟩ x y := by unfold dotP; dsimp only; grind
  unfold hasP turnP
  rw [e1, e2]
  congr 1
  · rw [decide_eq_decide, sgnP_zero, sgnP_zero]; omega
  · rw [decide_eq_decide]; omega
theorem flip_scale (a b c d x y : Int) : flipP ⟨2 * a, 2 * b, 2 * c, 2 * d⟩ (2 * x) (2 * y) = flipP ⟨a, b, c, d⟩ x y := by
  have e1 : crossP ⟨2 * a, 2 * b, 2 * c, 2 * d⟩ (2 * x) (2 * y) = 4 * crossP ⟨a, b, c, d⟩ x y := by unfold crossP; dsimp only; grind
  unfold flipP
  rw [e1]
  dsimp only
  rw [show decide (2 * y < 2 * b) = decide (y < b) by rw [decide_eq_decide]; omega, show decide (2 * y < 2 * d) = decide (y < d) by rw [decide_eq_decide]; omega, show decide (2 * b < 2 * d) = decide (b < d) by rw [decide_eq_decide]; omega, show decide (0 < 4 * crossP ⟨a, b, c, d⟩ x y) = decide (0 < crossP ⟨a, b, c, d⟩ x y) by rw [decide_eq_decide]; omega]
theorem par_scale (ps : List Plc) (x y : Int) : ∀ n, parB (sideAt ps 2) (2 * x) (2 * y) n = parB (sideAt ps 1) x y n
  | 0 => rfl
  | n + 1 => by
    rw [parB, parB, par_scale ps x y n]
    have : flipP (sideAt ps 2 n) (2 * x) (2 * y) = flipP (sideAt ps 1 n) x y := by rw [side1]; exact flip_scale _ _ _ _ _ _
    rw [this]
theorem ins_scale (ps : List Plc) (n : Nat) (x y : Int) : insB (sideAt ps 2) n (2 * x) (2 * y) = insB (sideAt ps 1) n x y := by
  have h : ∀ k, hasP (sideAt ps 2 k) (2 * x) (2 * y) = hasP (sideAt ps 1 k) x y := fun k => by rw [side1]; exact has_scale _ _ _ _ _ _
  unfold insB
  rw [par_scale]
  simp only [h]
/-- A place of the box is inside with AnswerYes, and not with AnswerNo. -/
theorem boxIn_place {ps : List Plc} {q : Bx} (hp : checkPolygonP ps = 0) (hq : boxErrP q = 0) {x y : Int} (x1 : q.x1 ≤ x) (x2 : x ≤ q.x2) (y1 : q.y1 ≤ y) (y2 : y ≤ q.y2) {r : Int} {iv : Bool} (hr : boxInVal ps q = r) (hi : insideValP ps x y 0 = iv) :
    boxInP ps q (q.x1 + q.x2) (q.y1 + q.y2) = r ∧ insideErrP ps x y 0 = 0 ∧ ((r = 2 ∧ iv = true) ∨ r = 1 ∨ (r = 0 ∧ iv = false)) := by
  obtain ⟨x1a, x1b, x2a, x2b, y1a, y1b, y2a, y2b, xo, yo⟩ := boxErrP_ok hq
  have hpl : placeB x y 0 = true := placeB_iff.2 ⟨⟨by omega, by omega⟩, ⟨by omega, by omega⟩, by omega, by omega⟩
  have hcp : checkPlaceP x y 0 = 0 := by unfold checkPlaceP; rw [hpl]; rfl
  have he : insideErrP ps x y 0 = 0 := by unfold insideErrP; rw [hp, hcp]; rfl
  have hbe : boxInErr ps q = 0 := by unfold boxInErr; rw [hp, hq]; rfl
  unfold boxInVal at hr
  rw [if_pos hbe] at hr
  unfold insideValP at hi
  rw [if_pos he] at hi
  have i1 : In4 (2 * q.x1 - 1) (2 * q.y1 - 1) (2 * q.x2 + 1) (2 * q.y2 + 1) (q.x1 + q.x2) (q.y1 + q.y2) := by unfold In4; omega
  have i2 : In4 (2 * q.x1 - 1) (2 * q.y1 - 1) (2 * q.x2 + 1) (2 * q.y2 + 1) (2 * q.x1) (2 * q.y1) := by unfold In4; omega
  have i3 : In4 (2 * q.x1 - 1) (2 * q.y1 - 1) (2 * q.x2 + 1) (2 * q.y2 + 1) (2 * x) (2 * y) := by unfold In4; omega
  refine ⟨by rw [(boxIn_same hp i1 i2).1]; exact hr, he, ?_⟩
  by_cases h : ∃ k, k < ps.length ∧ passAt ps q k = true
  · obtain ⟨k, hk, hh⟩ := h
    rw [boxIn_may hk hh] at hr
    exact Or.inr (Or.inl hr.symm)
  · have h' : ∀ k, k < ps.length → passAt ps q k = false := fun k hk => by
      rw [Bool.eq_false_iff]
      exact fun hh => h ⟨k, hk, hh⟩
    rw [boxIn_not h', (boxIn_same hp i2 i3).2 h', ins_scale, hi] at hr
    cases iv
    · exact Or.inr (Or.inr ⟨hr.symm, rfl⟩)
    · exact Or.inl ⟨hr.symm, rfl⟩
end Go.Proofs.Ytokpdmlmlkkekaa
