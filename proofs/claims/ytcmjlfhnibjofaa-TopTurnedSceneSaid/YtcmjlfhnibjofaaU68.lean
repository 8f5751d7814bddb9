/- Chapter 1: phases turn with the number; between two directions it lies. Plain. -/
import Derived.Test.YtcmjlfhnibjofaaZV
namespace Go.Proofs.Ytcmjlfhnibjofaa
set_option linter.unusedVariables false
set_option linter.unusedSimpArgs false
theorem quad_sym (x y : Int) : quadP x y + quadP y x = 1024 := by
  unfold quadP
  by_cases h : x < y
  · rw [if_pos h, if_neg (by omega)]; omega
  · by_cases g : y < x
    · rw [if_neg h, if_pos g]; omega
    · obtain rfl : x = y := by omega
      rw [if_neg h]
      unfold lowP
      rw [if_pos rfl]
      rfl
theorem seek_congr (st st' : Int → Int × Int → Bool × Bool) (h : ∀ m w, WayOk w → st m w = st' m w) : ∀ (f : Nat) (lo hi : Int) (a b : Int × Int), WayOk a → WayOk b → seekP st f lo a hi b = seekP st' f lo a hi b
  | 0, lo, hi, a, b, ha, hb => rfl
  | f + 1, lo, hi, a, b, ha, hb => by
    have hm := mid_ok ha hb
    simp only [seekP]
    rw [h _ _ hm, seek_congr st st' h f _ _ _ _ hm hb, seek_congr st st' h f _ _ _ _ ha hm]
theorem low_zero {x : Int} (hx : 1 ≤ x) : lowP x 0 = 0 := by
  unfold lowP
  rw [if_neg (by omega)]
  have e : searchP (behindP x 0) = searchP (fun _ w => (decide (w.2 ≤ 0), false)) := by
    unfold searchP
    refine seek_congr _ _ (fun m w hw => ?_) _ _ _ _ _ one_ok half_ok
    unfold behindP
    rw [Int.mul_zero]
    have : (w.2 * x ≤ 0) ↔ (w.2 ≤ 0) := by
      obtain ⟨-, -, h3, -⟩ := hw
      constructor
      · intro h
        rcases Int.lt_or_le 0 w.2 with c | c
        · have := Int.mul_pos c (show 0 < x by omega); omega
        · exact c
      · intro h
        have : w.2 = 0 := by omega
        rw [this, Int.zero_mul]; decide
    simp only [this]
  rw [e, show (searchP (fun _ w => (decide (w.2 ≤ 0), false))).1 = 0 by decide +kernel]
  rfl
theorem phase_conj (x y : Int) (h : ¬ (x = 0 ∧ y = 0)) : phaseP x (-y) = wrapP (-phaseP x y) := by
  obtain ⟨a1, a2⟩ := upP_bd x y
  obtain ⟨b1, b2⟩ := upP_bd x (-y)
  unfold phaseP phP wrapP
  by_cases c : y < 0
  · rw [if_neg (show ¬ -y < 0 by omega), if_pos c]
    generalize upP x (-y) = q at *
    split <;> split <;> omega
  · by_cases d : 0 < y
    · rw [if_pos (show -y < 0 by omega), if_neg c, Int.neg_neg]
      generalize upP x y = q at *
      split <;> split <;> omega
    · obtain rfl : y = 0 := by omega
      have hx : x ≠ 0 := fun e => h ⟨e, rfl⟩
      have hu : upP x 0 = 0 ∨ upP x 0 = 2048 := by
        unfold upP quadP
        by_cases e : x < 0
        · rw [if_pos e, if_neg (by omega), low_zero (by omega)]; right; rfl
        · rw [if_neg e, if_neg (by omega), low_zero (by omega)]; left; rfl
      rw [Int.neg_zero, if_neg c]
      rcases hu with hu | hu <;> rw [hu] <;> decide
theorem phase_turn (x y : Int) (h : ¬ (x = 0 ∧ y = 0)) : phaseP (-y) x = wrapP (phaseP x y + 1024) := by
  unfold phaseP phP wrapP
  by_cases hy : y < 0
  · rw [if_pos hy]
    by_cases hx : x < 0
    · rw [if_pos hx]
      unfold upP
      rw [if_neg (show ¬ -y < 0 by omega), if_pos hx]
      have s := quad_sym (-y) (-x)
      obtain ⟨a1, a2⟩ := quadP_bd (-y) (-x)
      generalize quadP (-y) (-x) = p at *
      generalize quadP (-x) (-y) = q at *
      split <;> split <;> omega
    · rw [if_neg hx]
      unfold upP
      rw [if_neg (show ¬ -y < 0 by omega), if_neg hx]
      have s := quad_sym (-y) x
      obtain ⟨a1, a2⟩ := quadP_bd (-y) x
      generalize quadP (-y) x = p at *
      generalize quadP x (-y) = q at *
      split <;> split <;> omega
  · rw [if_neg hy]
    by_cases hx : x < 0
    · rw [if_pos hx]
      unfold upP
      rw [if_pos hx]
      by_cases c : -y < 0
      · rw [if_pos c, Int.neg_neg]
        have s := quad_sym y (-x)
        obtain ⟨a1, a2⟩ := quadP_bd y (-x)
        generalize quadP y (-x) = p at *
        generalize quadP (-x) y = q at *
        split <;> split <;> omega
      · obtain rfl : y = 0 := by omega
        rw [if_neg c, Int.neg_zero]
        have s := quad_sym 0 (-x)
        have z : quadP (-x) 0 = 0 := by unfold quadP; rw [if_neg (by omega), low_zero (by omega)]
        rw [z] at s ⊢
        generalize quadP 0 (-x) = p at *
        split <;> split <;> omega
    · rw [if_neg hx]
      unfold upP
      rw [if_neg hx]
      by_cases c : -y < 0
      · rw [if_pos c, Int.neg_neg]
        have s := quad_sym y x
        obtain ⟨a1, a2⟩ := quadP_bd y x
        generalize quadP y x = p at *
        generalize quadP x y = q at *
        split <;> split <;> omega
      · obtain rfl : y = 0 := by omega
        rw [if_neg c, Int.neg_zero]
        have s := quad_sym 0 x
        have hx1 : 1 ≤ x := by
          rcases (show x = 0 ∨ 1 ≤ x by omega) with e | e
          · exact absurd ⟨e, rfl⟩ h
          · exact e
        have z : quadP x 0 = 0 := by unfold quadP; rw [if_neg (by omega), low_zero hx1]
        rw [z] at s ⊢
        generalize quadP 0 x = p at *
        split <;> split <;> omega
theorem behind_twice (x y : Int) : behindP (2 * x) (2 * y) = behindP x y := by
  funext m w
  unfold behindP
  have : (w.2 * (2 * x) ≤ w.1 * (2 * y)) ↔ (w.2 * x ≤ w.1 * y) := by
    rw [Int.mul_left_comm w.2, Int.mul_left_comm w.1]; omega
  simp only [this]
theorem low_twice (x y : Int) : lowP (2 * x) (2 * y) = lowP x y := by
  unfold lowP
  rw [behind_twice]
  by_cases h : x = y
  · rw [if_pos h, if_pos (by omega)]
  · rw [if_neg h, if_neg (by omega)]
theorem quad_twice (x y : Int) : quadP (2 * x) (2 * y) = quadP x y := by
  unfold quadP
  rw [low_twice, low_twice]
  by_cases h : x < y
  · rw [if_pos h, if_pos (by omega)]
  · rw [if_neg h, if_neg (by omega)]
theorem up_twice (x y : Int) : upP (2 * x) (2 * y) = upP x y := by
  unfold upP
  rw [show -(2 * x) = 2 * -x by omega, quad_twice, quad_twice]
  by_cases h : x < 0
  · rw [if_pos h, if_pos (by omega)]
  · rw [if_neg h, if_neg (by omega)]
theorem phase_twice (x y : Int) : phaseP (2 * x) (2 * y) = phaseP x y := by
  have e : phP (2 * x) (2 * y) = phP x y := by
    unfold phP
    rw [show -(2 * y) = 2 * -y by omega, up_twice, up_twice]
    by_cases h : y < 0
    · rw [if_pos h, if_pos (by omega)]
    · rw [if_neg h, if_neg (by omega)]
  unfold phaseP
  rw [e]
end Go.Proofs.Ytcmjlfhnibjofaa
