/- Boxes: their errors. -/
import Derived.Test.YthnfepfbkmafaaaA2
import Derived.Test.YthnfepfbkmafaaaR2
import Derived.Deep.RegionHeld3
namespace Go.Proofs.Ythnfepfbkmafaaa
set_option linter.unusedVariables false
open Go.RowKit
/-- A box: ranges of X and Y. -/
structure Bx where
  x1 : Int
  x2 : Int
  y1 : Int
  y2 : Int
def bxB (b : Bx) : Bool := inR (-100000000) 100000000 b.x1 && (inR (-100000000) 100000000 b.x2 && (inR (-100000000) 100000000 b.y1 && inR (-100000000) 100000000 b.y2))
def boxErrP (b : Bx) : Int := if bxB b then (if b.x2 < b.x1 then 9 else if b.y2 < b.y1 then 9 else 0) else 2
set_option maxHeartbeats 1000000 in
theorem check_any (b : Bx) (w : World) {e0 : Int} (he : boxErrP b = e0) :
    Calls Try.prog 128 #[.agg #[.int .i64 b.x1, .int .i64 b.x2, .int .i64 b.y1, .int .i64 b.y2]] w fun e w' => e = .returned (.int .i64 e0) ∧ Below w.heap.size w w' := by
  subst he
  rcases (show bxB b = false ∨ bxB b = true by cases bxB b <;> simp) with h | h
  · have HF := Lib.hid (show boxErrP b = 2 by unfold boxErrP; rw [h]; rfl)
    unfold bxB at h
    have HA := Lib.hid h
    clear h
    go_enter Try.func128, Try.ntmps128
    go_wp2
    go_region
    all_goals (go_wp2_with (first | (go_at_call 90; refine (all4 _ _ b.x1 b.x2 b.y1 b.y2 _ _ _ HA.out (by (first | (simp [go_sem]; done) | simp [go_sem, ↓IntWalk.iteOmega])) (by (first | (simp [go_sem]; done) | simp [go_sem, ↓IntWalk.iteOmega])) (by (first | (simp [go_sem]; done) | simp [go_sem, ↓IntWalk.iteOmega])) (by (first | (simp [go_sem]; done) | simp [go_sem, ↓IntWalk.iteOmega]))).mono ?_; rintro e w' ⟨rfl, rfl⟩)))
    all_goals (go_ret; exact ⟨ret_int HF.out.symm, (by (repeat' (first | with_reducible exact Below.refl _ _ | (with_reducible refine below_later_of ?_ ?_ _) | (with_reducible refine Below.alloc ?_ ?_ _) | (with_reducible refine Below.setCell ?_ ?_ _) | (with_reducible refine Below.drew ?_) | (simp; done) | (simp; omega) | omega)))⟩)
  · have HF := Lib.hid (show boxErrP b = (if b.x2 < b.x1 then 9 else if b.y2 < b.y1 then 9 else 0) by unfold boxErrP; rw [h]; rfl)
    unfold bxB at h
    have HA := Lib.hid h
    clear h
    by_cases h1 : b.x2 < b.x1
    · have HG := Lib.hid (show boxErrP b = 9 by rw [HF.out, if_pos h1])
      clear HF
      go_enter Try.func128, Try.ntmps128
      go_wp2
      go_region
      all_goals (go_wp2_with (first | (go_at_call 90; refine (all4 _ _ b.x1 b.x2 b.y1 b.y2 _ _ _ HA.out (by (first | (simp [go_sem]; done) | simp [go_sem, ↓IntWalk.iteOmega])) (by (first | (simp [go_sem]; done) | simp [go_sem, ↓IntWalk.iteOmega])) (by (first | (simp [go_sem]; done) | simp [go_sem, ↓IntWalk.iteOmega])) (by (first | (simp [go_sem]; done) | simp [go_sem, ↓IntWalk.iteOmega]))).mono ?_; rintro e w' ⟨rfl, rfl⟩)))
      all_goals (go_ret; exact ⟨ret_int HG.out.symm, (by (repeat' (first | with_reducible exact Below.refl _ _ | (with_reducible refine below_later_of ?_ ?_ _) | (with_reducible refine Below.alloc ?_ ?_ _) | (with_reducible refine Below.setCell ?_ ?_ _) | (with_reducible refine Below.drew ?_) | (simp; done) | (simp; omega) | omega)))⟩)
    · by_cases h2 : b.y2 < b.y1
      · have HG := Lib.hid (show boxErrP b = 9 by rw [HF.out, if_neg h1, if_pos h2])
        clear HF
        go_enter Try.func128, Try.ntmps128
        go_wp2
        go_region
        all_goals (go_wp2_with (first | (go_at_call 90; refine (all4 _ _ b.x1 b.x2 b.y1 b.y2 _ _ _ HA.out (by (first | (simp [go_sem]; done) | simp [go_sem, ↓IntWalk.iteOmega])) (by (first | (simp [go_sem]; done) | simp [go_sem, ↓IntWalk.iteOmega])) (by (first | (simp [go_sem]; done) | simp [go_sem, ↓IntWalk.iteOmega])) (by (first | (simp [go_sem]; done) | simp [go_sem, ↓IntWalk.iteOmega]))).mono ?_; rintro e w' ⟨rfl, rfl⟩)))
        all_goals (go_ret; exact ⟨ret_int HG.out.symm, (by (repeat' (first | with_reducible exact Below.refl _ _ | (with_reducible refine below_later_of ?_ ?_ _) | (with_reducible refine Below.alloc ?_ ?_ _) | (with_reducible refine Below.setCell ?_ ?_ _) | (with_reducible refine Below.drew ?_) | (simp; done) | (simp; omega) | omega)))⟩)
      · have HG := Lib.hid (show boxErrP b = 0 by rw [HF.out, if_neg h1, if_neg h2])
        clear HF
        go_enter Try.func128, Try.ntmps128
        go_wp2
        go_region
        all_goals (go_wp2_with (first | (go_at_call 90; refine (all4 _ _ b.x1 b.x2 b.y1 b.y2 _ _ _ HA.out (by (first | (simp [go_sem]; done) | simp [go_sem, ↓IntWalk.iteOmega])) (by (first | (simp [go_sem]; done) | simp [go_sem, ↓IntWalk.iteOmega])) (by (first | (simp [go_sem]; done) | simp [go_sem, ↓IntWalk.iteOmega])) (by (first | (simp [go_sem]; done) | simp [go_sem, ↓IntWalk.iteOmega]))).mono ?_; rintro e w' ⟨rfl, rfl⟩)))
        all_goals (go_ret; exact ⟨ret_int HG.out.symm, (by (repeat' (first | with_reducible exact Below.refl _ _ | (with_reducible refine below_later_of ?_ ?_ _) | (with_reducible refine Below.alloc ?_ ?_ _) | (with_reducible refine Below.setCell ?_ ?_ _) | (with_reducible refine Below.drew ?_) | (simp; done) | (simp; omega) | omega)))⟩)
end Go.Proofs.Ythnfepfbkmafaaa
