/- Chapter 1: a number lies between the directions beside its phase. Plain. -/
import Derived.Test.YtfiioadmpjmmgaaGreatDoorU68
namespace Go.Proofs.YtfiioadmpjmmgaaGreatDoor
set_option linter.unusedVariables false
set_option linter.unusedSimpArgs false
/-- What the search meets are directions. -/
def Path (f : Nat) (lo : Int) (a : Int × Int) (hi : Int) (b : Int × Int) : Prop := ∀ m, lo < m → m < hi → rseek m f lo a hi b = dirP m
theorem path_mid {f : Nat} {lo hi : Int} {a b : Int × Int} (h : Path (f + 1) lo a hi b) (hh : hi = lo + 2 ^ (f + 1)) : midP a b = dirP ((lo + hi) / 2) := by
  have hp : (0 : Int) < 2 ^ f := Int.pow_pos (by omega)
  rw [Int.pow_succ] at hh
  have := h ((lo + hi) / 2) (by omega) (by omega)
  simp only [rseek] at this
  rwa [if_pos trivial] at this
theorem path_up {f : Nat} {lo hi : Int} {a b : Int × Int} (h : Path (f + 1) lo a hi b) (hh : hi = lo + 2 ^ (f + 1)) : Path f ((lo + hi) / 2) (midP a b) hi b := fun m h1 h2 => by
  have hp : (0 : Int) < 2 ^ f := Int.pow_pos (by omega)
  rw [Int.pow_succ] at hh
  have := h m (by omega) h2
  simp only [rseek] at this
  rwa [if_neg (by omega), if_pos h1] at this
theorem path_down {f : Nat} {lo hi : Int} {a b : Int × Int} (h : Path (f + 1) lo a hi b) (hh : hi = lo + 2 ^ (f + 1)) : Path f lo a ((lo + hi) / 2) (midP a b) := fun m h1 h2 => by
  have hp : (0 : Int) < 2 ^ f := Int.pow_pos (by omega)
  rw [Int.pow_succ] at hh
  have := h m h1 (by omega)
  simp only [rseek] at this
  rwa [if_neg (by omega), if_neg (by omega)] at this
theorem path_root : Path 10 0 oneW 1024 halfW := fun m h1 h2 => by
  rw [dir_same m (by omega) (by omega)]
  unfold rdirP
  rw [if_neg (by omega)]
def hitP (x y : Int) (w : Int × Int) : Bool := decide (w.2 * x ≤ w.1 * y)
/-- The search ends between two directions of which the first one is met and the second one not. -/
theorem seek_ends (x y : Int) : ∀ (f : Nat) (lo hi : Int) (a b : Int × Int), hi = lo + 2 ^ f → Path f lo a hi b → a = dirP lo → b = dirP hi → hitP x y a = true → hitP x y b = false →
    hitP x y (dirP (seekP (behindP x y) f lo a hi b).1) = true ∧ hitP x y (dirP ((seekP (behindP x y) f lo a hi b).1 + 1)) = false
  | 0, lo, hi, a, b, hh, hp, ha, hb, h1, h2 => by
    simp at hh
    simp only [seekP]
    rw [← ha, ← hh, ← hb]
    exact ⟨h1, h2⟩
  | f + 1, lo, hi, a, b, hh, hp, ha, hb, h1, h2 => by
    have hm := path_mid hp hh
    have hu := path_up hp hh
    have hd := path_down hp hh
    have hpw : (0 : Int) < 2 ^ f := Int.pow_pos (by omega)
    rw [Int.pow_succ] at hh
    have e1 : (behindP x y ((lo + hi) / 2) (midP a b)).1 = hitP x y (midP a b) := rfl
    have e2 : (behindP x y ((lo + hi) / 2) (midP a b)).2 = false := rfl
    simp only [seekP]
    rw [e2, e1]
    simp only [Bool.false_eq_true, if_false]
    cases hc : hitP x y (midP a b)
    · simp only [Bool.false_eq_true, if_false]
      exact seek_ends x y f _ _ _ _ (by omega) hd ha hm h1 hc
    · simp only [if_true]
      exact seek_ends x y f _ _ _ _ (by omega) hu hm hb hc h2
theorem hit_iff {x y : Int} {w : Int × Int} : hitP x y w = true ↔ w.2 * x ≤ w.1 * y := by unfold hitP; simp
/-- Steeper directions are met by fewer numbers. -/
theorem hit_step {x y : Int} {d e : Int × Int} (hd : 1 ≤ d.1) (he : 1 ≤ e.1) (hc : d.2 * e.1 ≤ d.1 * e.2) (hx : 0 ≤ x) (h : e.2 * x ≤ e.1 * y) : d.2 * x ≤ d.1 * y := by
  -- e1 * (d2 x) ≤ d1 * e2 * x ≤ d1 * e1 * y
  have h1 : e.1 * (d.2 * x) ≤ e.1 * (d.1 * y) := by
    have a1 : e.1 * (d.2 * x) = (d.2 * e.1) * x := by grind
    have a2 : e.1 * (d.1 * y) = d.1 * (e.1 * y) := by grind
    have a3 : (d.2 * e.1) * x ≤ (d.1 * e.2) * x := Int.mul_le_mul_of_nonneg_right hc hx
    have a4 : d.1 * (e.2 * x) ≤ d.1 * (e.1 * y) := Int.mul_le_mul_of_nonneg_left h (by omega)
    have a5 : (d.1 * e.2) * x = d.1 * (e.2 * x) := by grind
    omega
  exact Int.le_of_mul_le_mul_left h1 (by omega)
theorem dir_end : dirP 1024 = halfW := by unfold dirP; rw [if_neg (by decide), if_pos rfl]
theorem dir_start : dirP 0 = oneW := rfl
theorem between {x y : Int} (h0 : 0 ≤ y) (h1 : y ≤ x) (h2 : 1 ≤ x) :
    (1 ≤ lowP x y → (dirP (2 * lowP x y - 1)).2 * x ≤ (dirP (2 * lowP x y - 1)).1 * y) ∧ (lowP x y < 512 → (dirP (2 * lowP x y + 1)).1 * y < (dirP (2 * lowP x y + 1)).2 * x) := by
  by_cases e : x = y
  · subst e
    have hl : lowP x x = 512 := by unfold lowP; rw [if_pos rfl]
    rw [hl]
    refine ⟨fun _ => ?_, fun h => absurd h (by decide)⟩
    have : (dirP 1023).2 ≤ (dirP 1023).1 := by rw [dir_same 1023 (by decide) (by decide)]; decide +kernel
    exact Int.mul_le_mul_of_nonneg_right this h0
  · obtain ⟨s1, s2⟩ := seekP_bd (behindP x y) 10 0 1024 oneW halfW (by decide)
    have hs := seek_ends x y 10 0 1024 oneW halfW (by decide) path_root dir_start.symm dir_end.symm (by rw [hit_iff]; unfold oneW; dsimp only; rw [Int.zero_mul]; exact Int.mul_nonneg (by decide) h0)
      (by rw [Bool.eq_false_iff]; intro h; rw [hit_iff] at h; unfold halfW at h; dsimp only at h; omega)
    have hl : lowP x y = ((seekP (behindP x y) 10 0 oneW 1024 halfW).1 + 1) / 2 := by unfold lowP searchP; rw [if_neg e]
    rw [hl]
    generalize (seekP (behindP x y) 10 0 oneW 1024 halfW).1 = k at *
    obtain ⟨g1, g2⟩ := hs
    rw [hit_iff] at g1
    have g2' : ¬ (dirP (k + 1)).2 * x ≤ (dirP (k + 1)).1 * y := by rw [← hit_iff]; simp [g2]
    have hk : k ≤ 1023 := by
      rcases (show k ≤ 1023 ∨ k = 1024 by omega) with c | c
      · exact c
      · exfalso
        subst c
        rw [dir_end] at g1
        unfold halfW at g1
        dsimp only at g1
        omega
    have step : ∀ m, 0 ≤ m → m ≤ 1023 → (dirP (m + 1)).2 * x ≤ (dirP (m + 1)).1 * y → (dirP m).2 * x ≤ (dirP m).1 * y := fun m m0 m1 h => by
      obtain ⟨⟨f1, -⟩, -, -, f4⟩ := dir_facts m m0 (by omega)
      obtain ⟨⟨f5, -⟩, -, -, -⟩ := dir_facts (m + 1) (by omega) (by omega)
      exact hit_step f1 f5 (by have := f4 (by omega); omega) (by omega) h
    rcases Int.emod_two_eq k with c | c
    · -- even
      refine ⟨fun h => ?_, fun h => ?_⟩
      · rw [show 2 * ((k + 1) / 2) - 1 = k - 1 by omega]
        refine step (k - 1) (by omega) (by omega) ?_
        rw [show k - 1 + 1 = k by omega]
        exact g1
      · rw [show 2 * ((k + 1) / 2) + 1 = k + 1 by omega]
        omega
    · refine ⟨fun h => ?_, fun h => ?_⟩
      · rw [show 2 * ((k + 1) / 2) - 1 = k by omega]
        exact g1
      · rw [show 2 * ((k + 1) / 2) + 1 = k + 2 by omega]
        rcases Int.lt_or_le ((dirP (k + 2)).1 * y) ((dirP (k + 2)).2 * x) with d | d
        · exact d
        · exact absurd (step (k + 1) (by omega) (by omega) (by rw [show k + 1 + 1 = k + 2 by omega]; exact d)) g2'
end Go.Proofs.YtfiioadmpjmmgaaGreatDoor
