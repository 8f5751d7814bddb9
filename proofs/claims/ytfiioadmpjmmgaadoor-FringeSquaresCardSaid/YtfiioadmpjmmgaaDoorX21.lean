/- Chapter 4: the law FringeSquares returns true. -/
import Derived.Test.YtfiioadmpjmmgaaDoorX20
namespace Go.Proofs.YtfiioadmpjmmgaaDoor
set_option linter.unusedVariables false
set_option linter.unusedSimpArgs false
open Go.RowKit Ntt
set_option maxHeartbeats 4000000 in
theorem squares_any (c L : Int) (w : World) (ht : Tab w) : Calls Tryd.prog 4 #[.int .i64 c, .int .i64 L] w fun e w' => e = .returned (.bool true) ∧ Below w.heap.size w w' := by
  have HT := Lib.hid ht
  clear ht
  obtain ⟨E, hE⟩ : ∃ E, sqE c L = E := ⟨_, rfl⟩
  have H1 := Lib.hid (fun W => squareOf_any c L W)
  have H2 := Lib.hid (fun W => rSquareOf_any c L W)
  have hR : sqR c L = if E = 0 then sqV c L else 0 := by unfold sqR; rw [hE]
  rw [hR, hE] at H1 H2
  by_cases h0 : E = 0
  · subst h0
    rw [if_pos rfl] at H1 H2
    obtain ⟨⟨a1, a2⟩, a3, a4⟩ := sq_facts hE
    by_cases hc : c = 1000
    · subst hc
      rw [sq_one a3] at H1 H2
      clear hE hR
      go_enter Tryd.func4, Tryd.ntmps4
      go_wp2_with (first | (go_at_call 9; (with_reducible refine (awake4 _ (HT.out.below (by (repeat' (first | with_reducible exact Below.refl _ _ | (with_reducible refine below_later_of ?_ ?_ _) | (with_reducible refine Below.alloc ?_ ?_ _) | (with_reducible refine Below.setCell ?_ ?_ _) | (with_reducible refine Below.drew ?_) | (simp; done) | (simp; omega) | omega))))).mono ?_); rintro e w' ⟨rfl, hb⟩; obtain ⟨pp, rfl⟩ := later_of_below hb; clear hb) | (go_at_call 17; (with_reducible refine (H1.out _).mono ?_); rintro e w' ⟨rfl, rfl⟩) | (go_at_call 18; (with_reducible refine (H2.out _).mono ?_); rintro e w' ⟨rfl, rfl⟩))
      go_ret
      exact ⟨rfl, (by (repeat' (first | with_reducible exact Below.refl _ _ | (with_reducible refine below_later_of ?_ ?_ _) | (with_reducible refine Below.alloc ?_ ?_ _) | (with_reducible refine Below.setCell ?_ ?_ _) | (with_reducible refine Below.drew ?_) | (simp; done) | (simp; omega) | omega)))⟩
    · have dc : (c == 1000) = false := by simpa using hc
      have hE3 : sqE (c + 1) L = 0 := by unfold sqE inE; simp; omega
      have H3 := Lib.hid (show ∀ W, Calls Tryd.prog 17 #[.int .i64 (c + 1), .int .i64 L] W fun e w' => e = .returned (.tuple #[.int .i64 (sqV (c + 1) L), .int .i64 0]) ∧ W = w' from fun W => by
        have := squareOf_any (c + 1) L W
        unfold sqR at this
        rw [hE3, if_pos rfl] at this
        exact this)
      have hle := sqv_le a1 a2 a3
      have hmo := sq_mono (c := c) a1 a3
      have hcc : 0 ≤ c * c ∧ c * c ≤ 1000000 := ⟨Int.mul_nonneg a1 a1, Int.mul_le_mul a2 a2 a1 (by decide)⟩
      obtain ⟨cc1, cc2⟩ := hcc
      generalize sqV (c + 1) L = v3 at *
      generalize sqV c L = v at *
      have d1 : decide (v ≤ c * c) = true := by simpa using hle
      have d2 : decide (v ≤ v3) = true := by simpa using hmo
      clear hE hE3 hR hc hle hmo
      go_enter Tryd.func4, Tryd.ntmps4
      go_wp2_with (first | (go_at_call 9; (with_reducible refine (awake4 _ (HT.out.below (by (repeat' (first | with_reducible exact Below.refl _ _ | (with_reducible refine below_later_of ?_ ?_ _) | (with_reducible refine Below.alloc ?_ ?_ _) | (with_reducible refine Below.setCell ?_ ?_ _) | (with_reducible refine Below.drew ?_) | (simp; done) | (simp; omega) | omega))))).mono ?_); rintro e w' ⟨rfl, hb⟩; obtain ⟨pp, rfl⟩ := later_of_below hb; clear hb) | (go_at_call 17; (with_reducible refine (H1.out _).mono ?_); rintro e w' ⟨rfl, rfl⟩) | (go_at_call 18; (with_reducible refine (H2.out _).mono ?_); rintro e w' ⟨rfl, rfl⟩) | (go_at_call 17; (with_reducible refine (H3.out _).mono ?_); rintro e w' ⟨rfl, rfl⟩))
      go_ret
      exact ⟨rfl, (by (repeat' (first | with_reducible exact Below.refl _ _ | (with_reducible refine below_later_of ?_ ?_ _) | (with_reducible refine Below.alloc ?_ ?_ _) | (with_reducible refine Below.setCell ?_ ?_ _) | (with_reducible refine Below.drew ?_) | (simp; done) | (simp; omega) | omega)))⟩
  · rw [if_neg h0] at H1 H2
    have hne : (E != 0) = true := by simpa using h0
    have hee : (E != E) = false := bne_self_eq_false _
    clear hE hR h0
    go_enter Tryd.func4, Tryd.ntmps4
    go_wp2_with (first | (go_at_call 9; (with_reducible refine (awake4 _ (HT.out.below (by (repeat' (first | with_reducible exact Below.refl _ _ | (with_reducible refine below_later_of ?_ ?_ _) | (with_reducible refine Below.alloc ?_ ?_ _) | (with_reducible refine Below.setCell ?_ ?_ _) | (with_reducible refine Below.drew ?_) | (simp; done) | (simp; omega) | omega))))).mono ?_); rintro e w' ⟨rfl, hb⟩; obtain ⟨pp, rfl⟩ := later_of_below hb; clear hb) | (go_at_call 17; (with_reducible refine (H1.out _).mono ?_); rintro e w' ⟨rfl, rfl⟩) | (go_at_call 18; (with_reducible refine (H2.out _).mono ?_); rintro e w' ⟨rfl, rfl⟩))
    go_ret
    exact ⟨rfl, (by (repeat' (first | with_reducible exact Below.refl _ _ | (with_reducible refine below_later_of ?_ ?_ _) | (with_reducible refine Below.alloc ?_ ?_ _) | (with_reducible refine Below.setCell ?_ ?_ _) | (with_reducible refine Below.drew ?_) | (simp; done) | (simp; omega) | omega)))⟩
end Go.Proofs.YtfiioadmpjmmgaaDoor
