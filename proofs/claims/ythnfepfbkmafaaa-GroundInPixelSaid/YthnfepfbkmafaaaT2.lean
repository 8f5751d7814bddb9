/- Boxes: the reference's error, and a number of a range. -/
import Derived.Test.YthnfepfbkmafaaaT1
namespace Go.Proofs.Ythnfepfbkmafaaa
set_option linter.unusedVariables false
open Go.RowKit
set_option maxHeartbeats 1000000 in
theorem rBoxErr (b : Bx) (w : World) {e0 : Int} (he : boxErrP b = e0) :
    Calls Try.prog 61 #[.agg #[.int .i64 b.x1, .int .i64 b.x2, .int .i64 b.y1, .int .i64 b.y2]] w fun e w' => e = .returned (.int .i64 e0) ∧ Below w.heap.size w w' := by
  subst he
  rcases (show inR (-100000000) 100000000 b.x1 = false ∨ inR (-100000000) 100000000 b.x1 = true by cases inR (-100000000) 100000000 b.x1 <;> simp) with h1 | h1
  · have HF := Lib.hid (show boxErrP b = 2 by unfold boxErrP bxB; rw [h1]; rfl)
    have H1 := Lib.hid h1
    clear h1
    go_enter Try.func61, Try.ntmps61
    go_wp2
    refine wp_loop_rounds 3 ?_
    rw [rounds_succ]
    go_wp2_with (first | (go_at_call 108; (with_reducible refine (rIsPlace1 b.x1 _ H1.out).mono ?_); rintro e w' ⟨rfl, rfl⟩))
    (go_ret; exact ⟨ret_int HF.out.symm, (by (repeat' (first | with_reducible exact Below.refl _ _ | (with_reducible refine below_later_of ?_ ?_ _) | (with_reducible refine Below.alloc ?_ ?_ _) | (with_reducible refine Below.setCell ?_ ?_ _) | (with_reducible refine Below.drew ?_) | (simp; done) | (simp; omega) | omega)))⟩)
  rcases (show inR (-100000000) 100000000 b.x2 = false ∨ inR (-100000000) 100000000 b.x2 = true by cases inR (-100000000) 100000000 b.x2 <;> simp) with h2 | h2
  · have HF := Lib.hid (show boxErrP b = 2 by unfold boxErrP bxB; rw [h1, h2]; rfl)
    have H1 := Lib.hid h1
    have H2 := Lib.hid h2
    clear h1 h2
    go_enter Try.func61, Try.ntmps61
    go_wp2
    refine wp_loop_rounds 3 ?_
    rw [rounds_succ]
    go_wp2_with (first | (go_at_call 108; (with_reducible refine (rIsPlace1 b.x1 _ H1.out).mono ?_); rintro e w' ⟨rfl, rfl⟩) | (go_at_call 108; (with_reducible refine (rIsPlace1 b.x2 _ H2.out).mono ?_); rintro e w' ⟨rfl, rfl⟩))
    (go_ret; exact ⟨ret_int HF.out.symm, (by (repeat' (first | with_reducible exact Below.refl _ _ | (with_reducible refine below_later_of ?_ ?_ _) | (with_reducible refine Below.alloc ?_ ?_ _) | (with_reducible refine Below.setCell ?_ ?_ _) | (with_reducible refine Below.drew ?_) | (simp; done) | (simp; omega) | omega)))⟩)
  rcases (show inR (-100000000) 100000000 b.y1 = false ∨ inR (-100000000) 100000000 b.y1 = true by cases inR (-100000000) 100000000 b.y1 <;> simp) with h3 | h3
  · have HF := Lib.hid (show boxErrP b = 2 by unfold boxErrP bxB; rw [h1, h2, h3]; rfl)
    have H1 := Lib.hid h1
    have H2 := Lib.hid h2
    have H3 := Lib.hid h3
    clear h1 h2 h3
    go_enter Try.func61, Try.ntmps61
    go_wp2
    refine wp_loop_rounds 3 ?_
    rw [rounds_succ]
    go_wp2_with (first | (go_at_call 108; (with_reducible refine (rIsPlace1 b.x1 _ H1.out).mono ?_); rintro e w' ⟨rfl, rfl⟩) | (go_at_call 108; (with_reducible refine (rIsPlace1 b.x2 _ H2.out).mono ?_); rintro e w' ⟨rfl, rfl⟩))
    rw [rounds_succ]
    go_wp2_with (first | (go_at_call 108; (with_reducible refine (rIsPlace1 b.y1 _ H3.out).mono ?_); rintro e w' ⟨rfl, rfl⟩))
    (go_ret; exact ⟨ret_int HF.out.symm, (by (repeat' (first | with_reducible exact Below.refl _ _ | (with_reducible refine below_later_of ?_ ?_ _) | (with_reducible refine Below.alloc ?_ ?_ _) | (with_reducible refine Below.setCell ?_ ?_ _) | (with_reducible refine Below.drew ?_) | (simp; done) | (simp; omega) | omega)))⟩)
  rcases (show inR (-100000000) 100000000 b.y2 = false ∨ inR (-100000000) 100000000 b.y2 = true by cases inR (-100000000) 100000000 b.y2 <;> simp) with h4 | h4
  · have HF := Lib.hid (show boxErrP b = 2 by unfold boxErrP bxB; rw [h1, h2, h3, h4]; rfl)
    have H1 := Lib.hid h1
    have H2 := Lib.hid h2
    have H3 := Lib.hid h3
    have H4 := Lib.hid h4
    clear h1 h2 h3 h4
    go_enter Try.func61, Try.ntmps61
    go_wp2
    refine wp_loop_rounds 3 ?_
    rw [rounds_succ]
    go_wp2_with (first | (go_at_call 108; (with_reducible refine (rIsPlace1 b.x1 _ H1.out).mono ?_); rintro e w' ⟨rfl, rfl⟩) | (go_at_call 108; (with_reducible refine (rIsPlace1 b.x2 _ H2.out).mono ?_); rintro e w' ⟨rfl, rfl⟩))
    rw [rounds_succ]
    go_wp2_with (first | (go_at_call 108; (with_reducible refine (rIsPlace1 b.y1 _ H3.out).mono ?_); rintro e w' ⟨rfl, rfl⟩) | (go_at_call 108; (with_reducible refine (rIsPlace1 b.y2 _ H4.out).mono ?_); rintro e w' ⟨rfl, rfl⟩))
    (go_ret; exact ⟨ret_int HF.out.symm, (by (repeat' (first | with_reducible exact Below.refl _ _ | (with_reducible refine below_later_of ?_ ?_ _) | (with_reducible refine Below.alloc ?_ ?_ _) | (with_reducible refine Below.setCell ?_ ?_ _) | (with_reducible refine Below.drew ?_) | (simp; done) | (simp; omega) | omega)))⟩)
  have HQ := Lib.hid (show boxErrP b = (if b.x2 < b.x1 then 9 else if b.y2 < b.y1 then 9 else 0) by unfold boxErrP bxB; rw [h1, h2, h3, h4]; rfl)
  have H1 := Lib.hid h1
  have H2 := Lib.hid h2
  have H3 := Lib.hid h3
  have H4 := Lib.hid h4
  clear h1 h2 h3 h4
  by_cases k1 : b.x2 < b.x1
  · have HF := Lib.hid (show boxErrP b = 9 by rw [HQ.out, if_pos k1])
    clear HQ
    go_enter Try.func61, Try.ntmps61
    go_wp2
    refine wp_loop_rounds 3 ?_
    rw [rounds_succ]
    go_wp2_with (first | (go_at_call 108; (with_reducible refine (rIsPlace1 b.x1 _ H1.out).mono ?_); rintro e w' ⟨rfl, rfl⟩) | (go_at_call 108; (with_reducible refine (rIsPlace1 b.x2 _ H2.out).mono ?_); rintro e w' ⟨rfl, rfl⟩))
    rw [rounds_succ]
    go_wp2_with (first | (go_at_call 108; (with_reducible refine (rIsPlace1 b.y1 _ H3.out).mono ?_); rintro e w' ⟨rfl, rfl⟩) | (go_at_call 108; (with_reducible refine (rIsPlace1 b.y2 _ H4.out).mono ?_); rintro e w' ⟨rfl, rfl⟩))
    rw [rounds_succ]
    go_wp2
    (go_ret; exact ⟨ret_int HF.out.symm, (by (repeat' (first | with_reducible exact Below.refl _ _ | (with_reducible refine below_later_of ?_ ?_ _) | (with_reducible refine Below.alloc ?_ ?_ _) | (with_reducible refine Below.setCell ?_ ?_ _) | (with_reducible refine Below.drew ?_) | (simp; done) | (simp; omega) | omega)))⟩)
  · by_cases k2 : b.y2 < b.y1
    · have HF := Lib.hid (show boxErrP b = 9 by rw [HQ.out, if_neg k1, if_pos k2])
      clear HQ
      go_enter Try.func61, Try.ntmps61
      go_wp2
      refine wp_loop_rounds 3 ?_
      rw [rounds_succ]
      go_wp2_with (first | (go_at_call 108; (with_reducible refine (rIsPlace1 b.x1 _ H1.out).mono ?_); rintro e w' ⟨rfl, rfl⟩) | (go_at_call 108; (with_reducible refine (rIsPlace1 b.x2 _ H2.out).mono ?_); rintro e w' ⟨rfl, rfl⟩))
      rw [rounds_succ]
      go_wp2_with (first | (go_at_call 108; (with_reducible refine (rIsPlace1 b.y1 _ H3.out).mono ?_); rintro e w' ⟨rfl, rfl⟩) | (go_at_call 108; (with_reducible refine (rIsPlace1 b.y2 _ H4.out).mono ?_); rintro e w' ⟨rfl, rfl⟩))
      rw [rounds_succ]
      go_wp2
      (go_ret; exact ⟨ret_int HF.out.symm, (by (repeat' (first | with_reducible exact Below.refl _ _ | (with_reducible refine below_later_of ?_ ?_ _) | (with_reducible refine Below.alloc ?_ ?_ _) | (with_reducible refine Below.setCell ?_ ?_ _) | (with_reducible refine Below.drew ?_) | (simp; done) | (simp; omega) | omega)))⟩)
    · have HF := Lib.hid (show boxErrP b = 0 by rw [HQ.out, if_neg k1, if_neg k2])
      clear HQ
      go_enter Try.func61, Try.ntmps61
      go_wp2
      refine wp_loop_rounds 3 ?_
      rw [rounds_succ]
      go_wp2_with (first | (go_at_call 108; (with_reducible refine (rIsPlace1 b.x1 _ H1.out).mono ?_); rintro e w' ⟨rfl, rfl⟩) | (go_at_call 108; (with_reducible refine (rIsPlace1 b.x2 _ H2.out).mono ?_); rintro e w' ⟨rfl, rfl⟩))
      rw [rounds_succ]
      go_wp2_with (first | (go_at_call 108; (with_reducible refine (rIsPlace1 b.y1 _ H3.out).mono ?_); rintro e w' ⟨rfl, rfl⟩) | (go_at_call 108; (with_reducible refine (rIsPlace1 b.y2 _ H4.out).mono ?_); rintro e w' ⟨rfl, rfl⟩))
      rw [rounds_succ]
      go_wp2
      (go_ret; exact ⟨ret_int HF.out.symm, (by (repeat' (first | with_reducible exact Below.refl _ _ | (with_reducible refine below_later_of ?_ ?_ _) | (with_reducible refine Below.alloc ?_ ?_ _) | (with_reducible refine Below.setCell ?_ ?_ _) | (with_reducible refine Below.drew ?_) | (simp; done) | (simp; omega) | omega)))⟩)
/-- A number of a right range. -/
def insideP (lo hi n : Int) : Int := lo + n % (hi - lo + 1)
set_option maxHeartbeats 1000000 in
theorem lInside (lo hi n : Int) (w : World) (h1 : -200000000 ≤ lo) (h2 : lo ≤ hi) (h3 : hi ≤ 200000000) (n1 : -9223372036854775808 ≤ n) (n2 : n ≤ 9223372036854775807) :
    Calls Try.prog 63 #[.agg #[.int .i64 lo, .int .i64 hi], .int .i64 n] w fun e w' => e = .returned (.int .i64 (insideP lo hi n)) ∧ Below w.heap.size w w' := by
  have hm1 := Int.emod_nonneg n (show hi - lo + 1 ≠ 0 by omega)
  have hm2 := Int.emod_lt_of_pos n (show 0 < hi - lo + 1 by omega)
  unfold insideP
  go_enter Try.func63, Try.ntmps63
  go_wp2
  refine wp_region_calm (by kernel_rfl) (by kernel_rfl) ?_
  repeat (go_big_quiet_step (first | (go_at_call 54; exact calm_same (bMod _ _ _ (by omega) (by omega) (by omega) (by omega)))))
  refine wpQuiet_nil ?_
  rintro _ ⟨p1, rfl⟩
  go_wp2
  go_ret
  exact ⟨rfl, (by (repeat' (first | with_reducible exact Below.refl _ _ | (with_reducible refine below_later_of ?_ ?_ _) | (with_reducible refine Below.alloc ?_ ?_ _) | (with_reducible refine Below.setCell ?_ ?_ _) | (with_reducible refine Below.drew ?_) | (simp; done) | (simp; omega) | omega)))⟩
end Go.Proofs.Ythnfepfbkmafaaa
