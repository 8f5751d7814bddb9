/- Chapter 4: the law FringeReads returns true. -/
import Derived.Test.YtkoiknmijjiicaaGreatDoorX134
import Derived.Test.YtkoiknmijjiicaaGreatDoorX20
namespace Go.Proofs.YtkoiknmijjiicaaGreatDoor
set_option linter.unusedVariables false
set_option linter.unusedSimpArgs false
open Go.RowKit Go
theorem rp_both (s : ByteArray) (W : World) (ht : TabR W) (h : s.size ≤ 60000 ∨ 60000 < s.size) : Calls Tryz.prog 15 #[.string s] W (RpPost s W) := h.elim (fun h => fParse s W h ht) (fun h => fParse_big s W h)
theorem rp_ref (s : ByteArray) (W : World) : Calls Tryz.prog 16 #[.string s] W (RpPost s W) := by
  by_cases h : s.size ≤ 60000
  · exact rParse s W h
  · exact rParse_big s W (by omega)
set_option maxHeartbeats 4000000 in
theorem reads_any (s : ByteArray) (w : World) (ht : TabR w) : Calls Tryz.prog 4 #[.string s] w fun e w' => e = .returned (.bool true) ∧ Below w.heap.size w w' := by
  have HT := Lib.hid ht
  have HP1 := Lib.hid (fun W (h : TabR W) => rp_both s W h (by omega))
  have HP2 := Lib.hid (fun W => rp_ref s W)
  unfold RpPost at HP1 HP2
  clear ht
  generalize ansP s = A at HP1 HP2
  obtain ⟨R, C, zs, ln, er⟩ := A
  dsimp only at HP1 HP2
  have hl1 : ((ln : Int) == (ln : Int)) = true := by simp
  have he1 : (er == er) = true := by simp
  by_cases h1 : s.size ≤ 600
  · have d1 : decide ((600 : Int) < (s.size : Int)) = false := by simp; omega
    have d3 : decide ((60005 : Int) < (s.size : Int)) = false := by simp; omega
    go_enter Tryz.func4, Tryz.ntmps4
    go_wp2_with (first | (go_at_call 6; (with_reducible refine (awake4 _ (HT.out.tab.below (by (repeat' (first | with_reducible exact Below.refl _ _ | (with_reducible refine below_later_of ?_ ?_ _) | (with_reducible refine Below.alloc ?_ ?_ _) | (with_reducible refine Below.setCell ?_ ?_ _) | (with_reducible refine Below.drew ?_) | (simp; done) | (simp; omega) | omega))))).mono ?_); rintro e w' ⟨rfl, hb⟩; obtain ⟨pp, rfl⟩ := later_of_below hb; clear hb) | (go_at_call 15; (with_reducible refine (HP1.out _ (HT.out.below (by (repeat' (first | with_reducible exact Below.refl _ _ | (with_reducible refine below_later_of ?_ ?_ _) | (with_reducible refine Below.alloc ?_ ?_ _) | (with_reducible refine Below.setCell ?_ ?_ _) | (with_reducible refine Below.drew ?_) | (simp; done) | (simp; omega) | omega))))).mono ?_); rintro e w' ⟨v1, rfl, hi1, hb⟩; obtain ⟨-, a1, c1, rfl, -⟩ := id hi1; obtain ⟨p1, rfl⟩ := later_of_below hb; have HI1 := Lib.hid hi1; clear hb hi1) | (go_at_call 16; (with_reducible refine (HP2.out _).mono ?_); rintro e w' ⟨v2, rfl, hi2, hb⟩; obtain ⟨-, a2, c2, rfl, -⟩ := id hi2; obtain ⟨p2, rfl⟩ := later_of_below hb; have HI2 := Lib.hid hi2; clear hb hi2) | (go_at_call 17; (with_reducible refine (bSamePhases R C R C zs zs _ _ _ (HI1.out.below (by (repeat' (first | with_reducible exact Below.refl _ _ | (with_reducible refine below_later_of ?_ ?_ _) | (with_reducible refine Below.alloc ?_ ?_ _) | (with_reducible refine Below.setCell ?_ ?_ _) | (with_reducible refine Below.drew ?_) | (simp; done) | (simp; omega) | omega)))) (HI2.out.below (by (repeat' (first | with_reducible exact Below.refl _ _ | (with_reducible refine below_later_of ?_ ?_ _) | (with_reducible refine Below.alloc ?_ ?_ _) | (with_reducible refine Below.setCell ?_ ?_ _) | (with_reducible refine Below.drew ?_) | (simp; done) | (simp; omega) | omega)))) (c := true) (by simp)).mono ?_); rintro e w' ⟨rfl, hb⟩; obtain ⟨p3, rfl⟩ := later_of_below hb; clear hb))
    go_ret
    exact ⟨rfl, (by (repeat' (first | with_reducible exact Below.refl _ _ | (with_reducible refine below_later_of ?_ ?_ _) | (with_reducible refine Below.alloc ?_ ?_ _) | (with_reducible refine Below.setCell ?_ ?_ _) | (with_reducible refine Below.drew ?_) | (simp; done) | (simp; omega) | omega)))⟩
  · have d1 : decide ((600 : Int) < (s.size : Int)) = true := by simp; omega
    by_cases h2 : s.size ≤ 60000
    · have d2 : decide ((s.size : Int) ≤ 60000) = true := by simp; omega
      go_enter Tryz.func4, Tryz.ntmps4
      go_wp2_with (first | (go_at_call 6; (with_reducible refine (awake4 _ (HT.out.tab.below (by (repeat' (first | with_reducible exact Below.refl _ _ | (with_reducible refine below_later_of ?_ ?_ _) | (with_reducible refine Below.alloc ?_ ?_ _) | (with_reducible refine Below.setCell ?_ ?_ _) | (with_reducible refine Below.drew ?_) | (simp; done) | (simp; omega) | omega))))).mono ?_); rintro e w' ⟨rfl, hb⟩; obtain ⟨pp, rfl⟩ := later_of_below hb; clear hb))
      go_ret
      exact ⟨rfl, (by (repeat' (first | with_reducible exact Below.refl _ _ | (with_reducible refine below_later_of ?_ ?_ _) | (with_reducible refine Below.alloc ?_ ?_ _) | (with_reducible refine Below.setCell ?_ ?_ _) | (with_reducible refine Below.drew ?_) | (simp; done) | (simp; omega) | omega)))⟩
    · have d2 : decide ((s.size : Int) ≤ 60000) = false := by simp; omega
      by_cases h3 : s.size ≤ 60005
      · have d3 : decide ((60005 : Int) < (s.size : Int)) = false := by simp; omega
        go_enter Tryz.func4, Tryz.ntmps4
        go_wp2_with (first | (go_at_call 6; (with_reducible refine (awake4 _ (HT.out.tab.below (by (repeat' (first | with_reducible exact Below.refl _ _ | (with_reducible refine below_later_of ?_ ?_ _) | (with_reducible refine Below.alloc ?_ ?_ _) | (with_reducible refine Below.setCell ?_ ?_ _) | (with_reducible refine Below.drew ?_) | (simp; done) | (simp; omega) | omega))))).mono ?_); rintro e w' ⟨rfl, hb⟩; obtain ⟨pp, rfl⟩ := later_of_below hb; clear hb) | (go_at_call 15; (with_reducible refine (HP1.out _ (HT.out.below (by (repeat' (first | with_reducible exact Below.refl _ _ | (with_reducible refine below_later_of ?_ ?_ _) | (with_reducible refine Below.alloc ?_ ?_ _) | (with_reducible refine Below.setCell ?_ ?_ _) | (with_reducible refine Below.drew ?_) | (simp; done) | (simp; omega) | omega))))).mono ?_); rintro e w' ⟨v1, rfl, hi1, hb⟩; obtain ⟨-, a1, c1, rfl, -⟩ := id hi1; obtain ⟨p1, rfl⟩ := later_of_below hb; have HI1 := Lib.hid hi1; clear hb hi1) | (go_at_call 16; (with_reducible refine (HP2.out _).mono ?_); rintro e w' ⟨v2, rfl, hi2, hb⟩; obtain ⟨-, a2, c2, rfl, -⟩ := id hi2; obtain ⟨p2, rfl⟩ := later_of_below hb; have HI2 := Lib.hid hi2; clear hb hi2) | (go_at_call 17; (with_reducible refine (bSamePhases R C R C zs zs _ _ _ (HI1.out.below (by (repeat' (first | with_reducible exact Below.refl _ _ | (with_reducible refine below_later_of ?_ ?_ _) | (with_reducible refine Below.alloc ?_ ?_ _) | (with_reducible refine Below.setCell ?_ ?_ _) | (with_reducible refine Below.drew ?_) | (simp; done) | (simp; omega) | omega)))) (HI2.out.below (by (repeat' (first | with_reducible exact Below.refl _ _ | (with_reducible refine below_later_of ?_ ?_ _) | (with_reducible refine Below.alloc ?_ ?_ _) | (with_reducible refine Below.setCell ?_ ?_ _) | (with_reducible refine Below.drew ?_) | (simp; done) | (simp; omega) | omega)))) (c := true) (by simp)).mono ?_); rintro e w' ⟨rfl, hb⟩; obtain ⟨p3, rfl⟩ := later_of_below hb; clear hb))
        go_ret
        exact ⟨rfl, (by (repeat' (first | with_reducible exact Below.refl _ _ | (with_reducible refine below_later_of ?_ ?_ _) | (with_reducible refine Below.alloc ?_ ?_ _) | (with_reducible refine Below.setCell ?_ ?_ _) | (with_reducible refine Below.drew ?_) | (simp; done) | (simp; omega) | omega)))⟩
      · have d3 : decide ((60005 : Int) < (s.size : Int)) = true := by simp; omega
        go_enter Tryz.func4, Tryz.ntmps4
        go_wp2_with (first | (go_at_call 6; (with_reducible refine (awake4 _ (HT.out.tab.below (by (repeat' (first | with_reducible exact Below.refl _ _ | (with_reducible refine below_later_of ?_ ?_ _) | (with_reducible refine Below.alloc ?_ ?_ _) | (with_reducible refine Below.setCell ?_ ?_ _) | (with_reducible refine Below.drew ?_) | (simp; done) | (simp; omega) | omega))))).mono ?_); rintro e w' ⟨rfl, hb⟩; obtain ⟨pp, rfl⟩ := later_of_below hb; clear hb))
        go_ret
        exact ⟨rfl, (by (repeat' (first | with_reducible exact Below.refl _ _ | (with_reducible refine below_later_of ?_ ?_ _) | (with_reducible refine Below.alloc ?_ ?_ _) | (with_reducible refine Below.setCell ?_ ?_ _) | (with_reducible refine Below.drew ?_) | (simp; done) | (simp; omega) | omega)))⟩
end Go.Proofs.YtkoiknmijjiicaaGreatDoor
