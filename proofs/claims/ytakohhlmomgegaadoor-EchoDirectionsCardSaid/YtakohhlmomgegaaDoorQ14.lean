/- Chapter 1's door seat: the law EchoDirections returns true. -/
import Derived.Test.YtakohhlmomgegaaDoorQ10
import Derived.Test.YtakohhlmomgegaaDoorU62
import Derived.Test.YtakohhlmomgegaaDoorU63
namespace Go.Proofs.YtakohhlmomgegaaDoor
set_option linter.unusedVariables false
open Go.RowKit
theorem mul_bd3 {a b : Int} (h0 : 0 ≤ a) (h1 : a ≤ 16777216) (h2 : 0 ≤ b) (h3 : b ≤ 16777216) : 0 ≤ a * b ∧ a * b ≤ 281474976710656 := by
  refine ⟨Int.mul_nonneg h0 h2, ?_⟩
  have := Int.mul_le_mul h1 h3 h2 (by omega)
  omega
set_option maxRecDepth 20000 in
set_option maxHeartbeats 4000000 in
theorem directions_any (m : Int) (w : World) (ht : Tab w) : Calls Tryd.prog 8 #[.int .i64 m] w fun e w' => e = .returned (.bool true) ∧ Below w.heap.size w w' := by
  have HT := Lib.hid ht
  clear ht
  by_cases hr : 0 ≤ m ∧ m ≤ 1024
  · obtain ⟨h0, h1⟩ := hr
    have HDI := Lib.hid (fun w => direction_ok m w h0 h1)
    have HRD := Lib.hid (show ∀ w, Calls Tryd.prog 44 #[.int .i64 m] w fun e w' => e = .returned (.agg #[.int .i64 (dirP m).1, .int .i64 (dirP m).2]) ∧ Below w.heap.size w w' from fun w => by rw [dir_same m h0 h1]; exact rDirection m w h0 h1)
    have HW1 := Lib.hid (fun w => bWithin m 0 1024 w (c := true) (by unfold inE; simp; omega))
    obtain ⟨⟨a1, a2⟩, ⟨a3, a4⟩, ⟨a5, a6⟩, a7⟩ := dir_facts m h0 h1
    have HDJ := Lib.hid (fun (h : m ≠ 1024) w => direction_ok (m + 1) w (by omega) (by omega))
    have hfj := fun (h : m ≠ 1024) => dir_facts (m + 1) (by omega) (by omega)
    generalize (dirP m).1 = x at HDI HRD a1 a2 a5 a6 a7
    generalize (dirP m).2 = y at HDI HRD a3 a4 a5 a6 a7
    obtain ⟨p1, p2⟩ := mul_bd3 (a := x) (b := x) (by omega) a2 (by omega) a2
    obtain ⟨p3, p4⟩ := mul_bd3 (a := y) (b := y) a3 a4 a3 a4
    have HW2 := Lib.hid (fun w => bWithin (x * x + y * y) 281474842492944 281475010265089 w (c := true) (by unfold inE; simp; omega))
    have dx : (x != x) = false := by simp
    have dy : (y != y) = false := by simp
    have ex : (x == x) = true := by simp
    have ey : (y == y) = true := by simp
    by_cases hl : m = 1024
    · have dl : (m == 1024) = true := by simpa using hl
      clear hl hfj HDJ a7
      go_enter Tryd.func8, Tryd.ntmps8
      go_wp2_with (first | (go_at_call 17; (with_reducible refine (awake_any _ (HT.out.below (by (repeat' (first | with_reducible exact Below.refl _ _ | (with_reducible refine below_later_of ?_ ?_ _) | (with_reducible refine Below.alloc ?_ ?_ _) | (with_reducible refine Below.setCell ?_ ?_ _) | (with_reducible refine Below.drew ?_) | (simp; done) | (simp; omega) | omega))))).mono ?_); rintro e w' ⟨rfl, hb⟩; obtain ⟨pp, rfl⟩ := later_of_below hb; clear hb) | (go_at_call 43; (with_reducible refine (HDI.out _).mono ?_); rintro e w' ⟨rfl, hb⟩; obtain ⟨pd, rfl⟩ := later_of_below hb; clear hb) | (go_at_call 30; (with_reducible refine (HW1.out _).mono ?_); rintro e w' ⟨rfl, rfl⟩))
      refine wp_region_calm (by kernel_rfl) (by kernel_rfl) ?_
      repeat (go_big_quiet_step (first | (go_at_call 44; exact calm_of (HRD.out _))))
      refine wpQuiet_nil ?_
      rintro _ ⟨pz, rfl⟩
      go_wp2_with (first | (go_at_call 30; (with_reducible refine (HW2.out _).mono ?_); rintro e w' ⟨rfl, rfl⟩))
      go_ret
      exact ⟨rfl, (by (repeat' (first | with_reducible exact Below.refl _ _ | (with_reducible refine below_later_of ?_ ?_ _) | (with_reducible refine Below.alloc ?_ ?_ _) | (with_reducible refine Below.setCell ?_ ?_ _) | (with_reducible refine Below.drew ?_) | (simp; done) | (simp; omega) | omega)))⟩
    · have dl : (m == 1024) = false := by simpa using hl
      have HDJ2 := Lib.hid (HDJ.out hl)
      obtain ⟨⟨b1, b2⟩, ⟨b3, b4⟩, -, -⟩ := hfj hl
      have hcr := a7 hl
      clear HDJ hfj a7 hl
      have HDJ := Lib.hid HDJ2.out
      clear HDJ2
      generalize (dirP (m + 1)).1 = u at HDJ b1 b2 hcr
      generalize (dirP (m + 1)).2 = v at HDJ b3 b4 hcr
      obtain ⟨q1, q2⟩ := mul_bd3 (a := x) (b := v) (by omega) a2 b3 b4
      obtain ⟨q3, q4⟩ := mul_bd3 (a := y) (b := u) a3 a4 (by omega) b2
      have HW3 := Lib.hid (fun w => bWithin u 0 16777216 w (c := true) (by unfold inE; simp; omega))
      have HW4 := Lib.hid (fun w => bWithin v 0 16777216 w (c := true) (by unfold inE; simp; omega))
      have dc : decide (y * u < x * v) = true := by simpa using hcr
      go_enter Tryd.func8, Tryd.ntmps8
      go_wp2_with (first | (go_at_call 17; (with_reducible refine (awake_any _ (HT.out.below (by (repeat' (first | with_reducible exact Below.refl _ _ | (with_reducible refine below_later_of ?_ ?_ _) | (with_reducible refine Below.alloc ?_ ?_ _) | (with_reducible refine Below.setCell ?_ ?_ _) | (with_reducible refine Below.drew ?_) | (simp; done) | (simp; omega) | omega))))).mono ?_); rintro e w' ⟨rfl, hb⟩; obtain ⟨pp, rfl⟩ := later_of_below hb; clear hb) | (go_at_call 43; (with_reducible refine (HDI.out _).mono ?_); rintro e w' ⟨rfl, hb⟩; obtain ⟨pd, rfl⟩ := later_of_below hb; clear hb) | (go_at_call 30; (with_reducible refine (HW1.out _).mono ?_); rintro e w' ⟨rfl, rfl⟩))
      refine wp_region_calm (by kernel_rfl) (by kernel_rfl) ?_
      repeat (go_big_quiet_step (first | (go_at_call 44; exact calm_of (HRD.out _))))
      refine wpQuiet_nil ?_
      rintro _ ⟨pz, rfl⟩
      go_wp2_with (first | (go_at_call 30; (with_reducible refine (HW2.out _).mono ?_); rintro e w' ⟨rfl, rfl⟩) | (go_at_call 43; (with_reducible refine (HDJ.out _).mono ?_); rintro e w' ⟨rfl, hb⟩; obtain ⟨pj, rfl⟩ := later_of_below hb; clear hb) | (go_at_call 30; (with_reducible refine (HW3.out _).mono ?_); rintro e w' ⟨rfl, rfl⟩) | (go_at_call 30; (with_reducible refine (HW4.out _).mono ?_); rintro e w' ⟨rfl, rfl⟩))
      go_ret
      exact ⟨rfl, (by (repeat' (first | with_reducible exact Below.refl _ _ | (with_reducible refine below_later_of ?_ ?_ _) | (with_reducible refine Below.alloc ?_ ?_ _) | (with_reducible refine Below.setCell ?_ ?_ _) | (with_reducible refine Below.drew ?_) | (simp; done) | (simp; omega) | omega)))⟩
  · have HDI := Lib.hid (fun w => direction_bad m w hr)
    have HW1 := Lib.hid (fun w => bWithin m 0 1024 w (c := false) (by unfold inE; simp; omega))
    clear hr
    go_enter Tryd.func8, Tryd.ntmps8
    go_wp2_with (first | (go_at_call 17; (with_reducible refine (awake_any _ (HT.out.below (by (repeat' (first | with_reducible exact Below.refl _ _ | (with_reducible refine below_later_of ?_ ?_ _) | (with_reducible refine Below.alloc ?_ ?_ _) | (with_reducible refine Below.setCell ?_ ?_ _) | (with_reducible refine Below.drew ?_) | (simp; done) | (simp; omega) | omega))))).mono ?_); rintro e w' ⟨rfl, hb⟩; obtain ⟨pp, rfl⟩ := later_of_below hb; clear hb) | (go_at_call 43; (with_reducible refine (HDI.out _).mono ?_); rintro e w' ⟨rfl, hb⟩; obtain ⟨pd, rfl⟩ := later_of_below hb; clear hb) | (go_at_call 30; (with_reducible refine (HW1.out _).mono ?_); rintro e w' ⟨rfl, rfl⟩))
    go_ret
    exact ⟨rfl, (by (repeat' (first | with_reducible exact Below.refl _ _ | (with_reducible refine below_later_of ?_ ?_ _) | (with_reducible refine Below.alloc ?_ ?_ _) | (with_reducible refine Below.setCell ?_ ?_ _) | (with_reducible refine Below.drew ?_) | (simp; done) | (simp; omega) | omega)))⟩
end Go.Proofs.YtakohhlmomgegaaDoor
