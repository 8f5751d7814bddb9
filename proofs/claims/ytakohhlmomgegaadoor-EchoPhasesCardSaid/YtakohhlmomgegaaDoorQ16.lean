/- Chapter 1's door seat: the law EchoPhases returns true. -/
import Derived.Test.YtakohhlmomgegaaDoorQ10
import Derived.Test.YtakohhlmomgegaaDoorU67
namespace Go.Proofs.YtakohhlmomgegaaDoor
set_option linter.unusedVariables false
open Go.RowKit
set_option maxHeartbeats 1000000 in
theorem phases_any (a b : Nat) (w : World) (la : a < 2 ^ 64) (lb : b < 2 ^ 64) (ht : Tab w) : Calls Tryd.prog 4 #[.float .f64 a, .float .f64 b] w fun e w' => e = .returned (.bool true) ∧ Below w.heap.size w w' := by
  have HT := Lib.hid ht
  have HPO := Lib.hid (fun w => PhaseOf_any a b w la lb rfl rfl)
  have HRO := Lib.hid (fun w => rPhaseOf a b w rfl rfl)
  have bd : -2048 ≤ phV a b ∧ phV a b ≤ 2047 := by
    unfold phV
    split
    · exact phaseP_bd _ _
    · omega
  generalize phV a b = v at HPO HRO bd
  generalize phE a b = e0 at HPO HRO
  have HW := Lib.hid (fun w => bWithin v (-2048) 2047 w (c := true) (by unfold inE; simp; omega))
  have d1 : (e0 == e0) = true := by simp
  have d2 : (v == v) = true := by simp
  clear ht bd
  go_enter Tryd.func4, Tryd.ntmps4
  go_wp2_with (first | (go_at_call 17; (with_reducible refine (awake_any _ (HT.out.below (by (repeat' (first | with_reducible exact Below.refl _ _ | (with_reducible refine below_later_of ?_ ?_ _) | (with_reducible refine Below.alloc ?_ ?_ _) | (with_reducible refine Below.setCell ?_ ?_ _) | (with_reducible refine Below.drew ?_) | (simp; done) | (simp; omega) | omega))))).mono ?_); rintro e w' ⟨rfl, hb⟩; obtain ⟨pp, rfl⟩ := later_of_below hb; clear hb) | (go_at_call 28; (with_reducible refine (HPO.out _).mono ?_); rintro e w' ⟨rfl, hb⟩; obtain ⟨p1, rfl⟩ := later_of_below hb; clear hb) | (go_at_call 29; (with_reducible refine (HRO.out _).mono ?_); rintro e w' ⟨rfl, hb⟩; obtain ⟨p2, rfl⟩ := later_of_below hb; clear hb) | (go_at_call 30; (with_reducible refine (HW.out _).mono ?_); rintro e w' ⟨rfl, rfl⟩))
  go_ret
  exact ⟨rfl, (by (repeat' (first | with_reducible exact Below.refl _ _ | (with_reducible refine below_later_of ?_ ?_ _) | (with_reducible refine Below.alloc ?_ ?_ _) | (with_reducible refine Below.setCell ?_ ?_ _) | (with_reducible refine Below.drew ?_) | (simp; done) | (simp; omega) | omega)))⟩
end Go.Proofs.YtakohhlmomgegaaDoor
