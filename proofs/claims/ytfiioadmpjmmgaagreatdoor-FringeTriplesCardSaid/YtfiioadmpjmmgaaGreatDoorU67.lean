/- Chapter 1: the reference's Phase, PhaseOf. -/
import Derived.Test.YtfiioadmpjmmgaaGreatDoorU66
namespace Go.Proofs.YtfiioadmpjmmgaaGreatDoor
set_option linter.unusedVariables false
set_option linter.unusedSimpArgs false
open Go.RowKit
def wrapP (n : Int) : Int := (n % 4096 + 2048) % 4096 - 2048
set_option maxHeartbeats 400000 in
theorem bWrap (n : Int) (w : World) (h1 : -9223372036854775808 ≤ n) (h2 : n ≤ 9223372036854775807) {v : Int} (hv : wrapP n = v) : Calls Tryz.prog 27 #[.int .i64 n] w fun e w' => e = .returned (.int .i64 v) ∧ w = w' := by
  have HM1 := Lib.hid (fun w => bMod n 4096 w (by decide) (by decide) h1 h2)
  have a1 := Int.emod_nonneg n (show (4096 : Int) ≠ 0 by decide)
  have a2 := Int.emod_lt_of_pos n (show (0 : Int) < 4096 by decide)
  have HM2 := Lib.hid (fun w => bMod (n % 4096 + 2048) 4096 w (by decide) (by decide) (by omega) (by omega))
  have HF := Lib.hid (show (n % 4096 + 2048) % 4096 - 2048 = v from hv)
  have b1 := Int.emod_nonneg (n % 4096 + 2048) (show (4096 : Int) ≠ 0 by decide)
  have b2 := Int.emod_lt_of_pos (n % 4096 + 2048) (show (0 : Int) < 4096 by decide)
  generalize n % 4096 = q at *
  generalize (q + 2048) % 4096 = p at *
  clear hv
  go_enter Tryz.func27, Tryz.ntmps27
  go_wp2_with (first | (go_at_call 86; (with_reducible refine (HM1.out _).mono ?_); rintro e w' ⟨rfl, rfl⟩) | (go_at_call 86; (with_reducible refine (HM2.out _).mono ?_); rintro e w' ⟨rfl, rfl⟩))
  go_ret
  exact ⟨ret_intE HF.out, rfl⟩
set_option maxHeartbeats 400000 in
theorem bParts (a b : Nat) (x y : Int) (w : World) (hx : FlI .f64 139 a x) (hy : FlI .f64 139 b y) :
    Calls Tryz.prog 116 #[.complex .f64 a b] w fun e w' => e = .returned (.tuple #[.int .i64 x, .int .i64 y]) ∧ w = w' := by
  unfold FlI at hx hy
  go_enter Tryz.func116, Tryz.ntmps116
  go_wp2
  go_ret2
  exact ⟨rfl, rfl⟩
set_option maxHeartbeats 1000000 in
theorem rPhase_low (x y : Int) (w : World) (h0 : 0 ≤ x) (hx : x ≤ 100000000000) (h1 : 0 ≤ y) (h2 : y ≤ x) :
    Calls Tryz.prog 117 #[.int .i64 x, .int .i64 y] w fun e w' => e = .returned (.int .i64 (lowP x y)) ∧ Below w.heap.size w w' := by
  have d1 : decide (y < 0) = false := by simp; omega
  have d2 : decide (x < 0) = false := by simp; omega
  have d3 : decide (x < y) = false := by simp; omega
  have HFI := Lib.hid (fun w => rFirst x y w h0 hx h1 (by omega))
  obtain ⟨b1, b2⟩ := lowP_bd x y
  generalize lowP x y = q at HFI b1 b2 ⊢
  have HWR := Lib.hid (fun w => bWrap q w (by omega) (by omega) (v := q) (by unfold wrapP; omega))
  go_enter Tryz.func117, Tryz.ntmps117
  go_wp2_with (first | (go_at_call 162; (with_reducible refine (HFI.out _).mono ?_); rintro e w' ⟨rfl, hb⟩; obtain ⟨p1, rfl⟩ := later_of_below hb; clear hb) | (go_at_call 27; (with_reducible refine (HWR.out _).mono ?_); rintro e w' ⟨rfl, rfl⟩))
  go_ret
  exact ⟨rfl, (by (repeat' (first | with_reducible exact Below.refl _ _ | (with_reducible refine below_later_of ?_ ?_ _) | (with_reducible refine Below.alloc ?_ ?_ _) | (with_reducible refine Below.setCell ?_ ?_ _) | (with_reducible refine Below.drew ?_) | (simp; done) | (simp; omega) | omega)))⟩
set_option maxHeartbeats 1000000 in
theorem rPhase_quad (x y : Int) (w : World) (h0 : 0 ≤ x) (hx : x ≤ 100000000000) (h1 : 0 ≤ y) (hy : y ≤ 100000000000) :
    Calls Tryz.prog 117 #[.int .i64 x, .int .i64 y] w fun e w' => e = .returned (.int .i64 (quadP x y)) ∧ Below w.heap.size w w' := by
  by_cases hc : x < y
  · have d1 : decide (y < 0) = false := by simp; omega
    have d2 : decide (x < 0) = false := by simp; omega
    have d3 : decide (x < y) = true := by simp; omega
    have HPH := Lib.hid (fun w => rPhase_low y x w h1 hy h0 (by omega))
    obtain ⟨b1, b2⟩ := lowP_bd y x
    unfold quadP
    rw [if_pos hc]
    generalize lowP y x = q at HPH b1 b2 ⊢
    have HWR := Lib.hid (fun w => bWrap (1024 - q) w (by omega) (by omega) (v := 1024 - q) (by unfold wrapP; omega))
    clear hc
    go_enter Tryz.func117, Tryz.ntmps117
    go_wp2_with (first | (go_at_call 117; (with_reducible refine (HPH.out _).mono ?_); rintro e w' ⟨rfl, hb⟩; obtain ⟨p1, rfl⟩ := later_of_below hb; clear hb) | (go_at_call 27; (with_reducible refine (HWR.out _).mono ?_); rintro e w' ⟨rfl, rfl⟩))
    go_ret
    exact ⟨rfl, (by (repeat' (first | with_reducible exact Below.refl _ _ | (with_reducible refine below_later_of ?_ ?_ _) | (with_reducible refine Below.alloc ?_ ?_ _) | (with_reducible refine Below.setCell ?_ ?_ _) | (with_reducible refine Below.drew ?_) | (simp; done) | (simp; omega) | omega)))⟩
  · have := rPhase_low x y w h0 hx h1 (by omega)
    unfold quadP
    rwa [if_neg hc]
def upW (x y : Int) : Int := if upP x y < 2048 then upP x y else -2048
set_option maxHeartbeats 1000000 in
theorem rPhase_up (x y : Int) (w : World) (h0 : -100000000000 ≤ x) (hx : x ≤ 100000000000) (h1 : 0 ≤ y) (hy : y ≤ 100000000000) :
    Calls Tryz.prog 117 #[.int .i64 x, .int .i64 y] w fun e w' => e = .returned (.int .i64 (upW x y)) ∧ Below w.heap.size w w' := by
  by_cases hc : x < 0
  · have d1 : decide (y < 0) = false := by simp; omega
    have d2 : decide (x < 0) = true := by simp; omega
    have HPH := Lib.hid (fun w => rPhase_quad (-x) y w (by omega) (by omega) h1 hy)
    obtain ⟨b1, b2⟩ := quadP_bd (-x) y
    have HU := Lib.hid (show upW x y = if 2048 - quadP (-x) y < 2048 then 2048 - quadP (-x) y else -2048 by unfold upW upP; rw [if_pos hc])
    rw [HU.out]
    generalize quadP (-x) y = q at HPH b1 b2 ⊢
    have HWR := Lib.hid (fun w => bWrap (2048 - q) w (by omega) (by omega) (v := if 2048 - q < 2048 then 2048 - q else -2048) (by unfold wrapP; split <;> omega))
    generalize (if 2048 - q < 2048 then 2048 - q else -2048) = v at HWR ⊢
    clear hc HU
    go_enter Tryz.func117, Tryz.ntmps117
    go_wp2_with (first | (go_at_call 117; (with_reducible refine (HPH.out _).mono ?_); rintro e w' ⟨rfl, hb⟩; obtain ⟨p1, rfl⟩ := later_of_below hb; clear hb) | (go_at_call 27; (with_reducible refine (HWR.out _).mono ?_); rintro e w' ⟨rfl, rfl⟩))
    go_ret
    exact ⟨rfl, (by (repeat' (first | with_reducible exact Below.refl _ _ | (with_reducible refine below_later_of ?_ ?_ _) | (with_reducible refine Below.alloc ?_ ?_ _) | (with_reducible refine Below.setCell ?_ ?_ _) | (with_reducible refine Below.drew ?_) | (simp; done) | (simp; omega) | omega)))⟩
  · have := rPhase_quad x y w (by omega) hx h1 hy
    have e : upW x y = quadP x y := by
      have := (quadP_bd x y).2
      unfold upW upP
      rw [if_neg hc, if_pos (by omega)]
    rwa [e]
set_option maxHeartbeats 1000000 in
theorem rPhase_any (x y : Int) (w : World) (h0 : -100000000000 ≤ x) (hx : x ≤ 100000000000) (h1 : -100000000000 ≤ y) (hy : y ≤ 100000000000) :
    Calls Tryz.prog 117 #[.int .i64 x, .int .i64 y] w fun e w' => e = .returned (.int .i64 (phaseP x y)) ∧ Below w.heap.size w w' := by
  by_cases hc : y < 0
  · have d1 : decide (y < 0) = true := by simp; omega
    have HPH := Lib.hid (fun w => rPhase_up x (-y) w h0 hx (by omega) (by omega))
    obtain ⟨b1, b2⟩ := upP_bd x (-y)
    have hu : upW x (-y) = if upP x (-y) < 2048 then upP x (-y) else -2048 := rfl
    have he : phaseP x y = wrapP (-upW x (-y)) := by
      unfold phaseP phP wrapP
      rw [if_pos hc, hu]
      split <;> split <;> omega
    have bd : -2048 ≤ upW x (-y) ∧ upW x (-y) ≤ 2047 := by rw [hu]; split <;> omega
    obtain ⟨b3, b4⟩ := bd
    rw [he]
    clear he hu b1 b2
    generalize upW x (-y) = q at HPH b3 b4 ⊢
    have HWR := Lib.hid (fun w => bWrap (-q) w (by omega) (by omega) (v := wrapP (-q)) rfl)
    generalize wrapP (-q) = v at HWR ⊢
    clear hc
    go_enter Tryz.func117, Tryz.ntmps117
    go_wp2_with (first | (go_at_call 117; (with_reducible refine (HPH.out _).mono ?_); rintro e w' ⟨rfl, hb⟩; obtain ⟨p1, rfl⟩ := later_of_below hb; clear hb) | (go_at_call 27; (with_reducible refine (HWR.out _).mono ?_); rintro e w' ⟨rfl, rfl⟩))
    go_ret
    exact ⟨rfl, (by (repeat' (first | with_reducible exact Below.refl _ _ | (with_reducible refine below_later_of ?_ ?_ _) | (with_reducible refine Below.alloc ?_ ?_ _) | (with_reducible refine Below.setCell ?_ ?_ _) | (with_reducible refine Below.drew ?_) | (simp; done) | (simp; omega) | omega)))⟩
  · have := rPhase_up x y w h0 hx (by omega) hy
    have e : phaseP x y = upW x y := by unfold phaseP phP upW; rw [if_neg hc]
    rwa [e]
end Go.Proofs.YtfiioadmpjmmgaaGreatDoor
