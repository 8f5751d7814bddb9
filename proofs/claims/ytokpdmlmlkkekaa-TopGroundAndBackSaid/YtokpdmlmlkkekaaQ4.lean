/- InPixel: the reference's walk. -/
import Derived.Test.YtokpdmlmlkkekaaQ3
namespace Go.Proofs.Ytokpdmlmlkkekaa
set_option linter.unusedVariables false
open Go.RowKit
set_option maxRecDepth 20000 in
set_option maxHeartbeats 1000000 in
theorem rInPixel (t : Trk) (q : Pix) (b : Bx) (w : World) (ot : t.Ok) (op : q.Ok t) (ob : b.Ok) :
    Calls Try.prog 67 #[.agg #[.int .i64 t.sx, .int .i64 t.sy, .int .i64 t.sz, .int .i64 t.step, .int .i64 t.lines, .int .i64 t.near, .int .i64 t.bin, .int .i64 t.bins, .bool t.east], .agg #[.int .i64 q.line, .int .i64 q.bin, .int .i64 q.lo, .int .i64 q.hi], .agg #[.int .i64 b.x1, .int .i64 b.x2, .int .i64 b.y1, .int .i64 b.y2]] w fun e w' => e = .returned (.int .i64 (inPixelP t q b)) ∧ Below w.heap.size w w' := by
  have hsl := @slants_le t q b ot op ob
  have halt := @inPixel_alt t q b ot.bi1
  obtain ⟨o1, o2, o3, o4, o5⟩ := offs_bd ot ob
  obtain ⟨m1, m2, -, -, -, -, d1, d2, d3, d4⟩ := box_bd ot op
  have OT := Lib.hid ot
  obtain ⟨u1, u2⟩ := lineP_bd ot ob.y1a ob.y1b
  obtain ⟨u3, u4⟩ := lineP_bd ot ob.y2a ob.y2b
  obtain ⟨sx1, sx2, sy1, sy2, sz1, sz2, -, -, -, l1, l2, ne1, ne2, bi1, bi2, n1, n2⟩ := ot
  obtain ⟨-, -, b1, b2, lo1, lo2, hi1, hi2, hord, htop⟩ := op
  obtain ⟨x1a, x1b, x2a, x2b, y1a, y1b, y2a, y2b, xo, yo⟩ := ob
  have hmin := @offLo_min t b.x1 b.x2 xo
  have hmax := @offHi_max t b.x1 b.x2 xo
  have q1 := sq_bd (max 1 (offLoP t b.x1 b.x2)) 200000000 (by omega) (by omega)
  have q2 := sq_bd (offHiP t b.x1 b.x2) 200000000 (by omega) (by omega)
  obtain ⟨q11, q12⟩ := q1
  obtain ⟨q21, q22⟩ := q2
  have HL1 := Lib.hid (show l1P t b = min (lineP t b.y1) (lineP t b.y2) from rfl)
  have HL2 := Lib.hid (show l2P t b = max (lineP t b.y1) (lineP t b.y2) from rfl)
  by_cases h0 : offHiP t b.x1 b.x2 < 1
  · have HZ := Lib.hid (show inPixelP t q b = 0 by unfold inPixelP; rw [if_pos h0])
    clear halt hsl
    go_enter Try.func67, Try.ntmps67
    go_wp2
    refine wp_region_calm (by kernel_rfl) (by kernel_rfl) ?_
    repeat (go_big_quiet_step (first | (go_at_call 97; exact calm_of (rLineOf1 t _ _ OT.out (by omega) (by omega)))))
    refine wpQuiet_nil ?_
    rintro _ ⟨p1, rfl⟩
    go_wp2
    refine wp_region_calm (by kernel_rfl) (by kernel_rfl) ?_
    repeat (go_big_quiet_step (first | (go_at_call 98; exact calm_of (rOff t _ _ (by omega) (by omega) (by omega) (by omega)))))
    refine wpQuiet_nil ?_
    rintro _ ⟨p2, rfl⟩
    go_wp2
    go_ret
    exact ⟨ret_int HZ.out.symm, (by (repeat' (first | with_reducible exact Below.refl _ _ | (with_reducible refine below_later_of ?_ ?_ _) | (with_reducible refine Below.alloc ?_ ?_ _) | (with_reducible refine Below.setCell ?_ ?_ _) | (with_reducible refine Below.drew ?_) | (simp; done) | (simp; omega) | omega)))⟩
  · have hz := halt (hsl (by omega))
    rw [if_neg h0, HL1.out, HL2.out] at hz
    have r1 := rootP_le (max 1 (offLoP t b.x1 b.x2) * max 1 (offLoP t b.x1 b.x2) + depthP t q.hi * depthP t q.hi) (by omega) (by omega)
    have r2 := rootP_le (offHiP t b.x1 b.x2 * offHiP t b.x1 b.x2 + depthP t q.lo * depthP t q.lo) (by omega) (by omega)
    have r3 := (rootP_spec (max 1 (offLoP t b.x1 b.x2) * max 1 (offLoP t b.x1 b.x2) + depthP t q.hi * depthP t q.hi) (by omega) (by omega)).1
    have r4 := (rootP_spec (offHiP t b.x1 b.x2 * offHiP t b.x1 b.x2 + depthP t q.lo * depthP t q.lo) (by omega) (by omega)).1
    have HR := Lib.hid (show ∀ (a c : Int) (w : World), 0 ≤ a * a → a * a ≤ 200000000 * 200000000 → 0 ≤ c * c → c * c ≤ 10020010000000000 → Calls Try.prog 88 #[.int .i64 (IntKind.i64.wrap (IntKind.i64.wrap (a * a) + IntKind.i64.wrap (c * c)))] w fun e w' => e = .returned (.int .i64 (rootP (a * a + c * c))) ∧ w = w' from fun a c w g1 g2 g3 g4 => by
      rw [IntWalk.i64_in (a * a) (by omega), IntWalk.i64_in (c * c) (by omega), IntWalk.i64_in _ (by omega)]
      exact bRoot _ _ (by omega) (by omega))
    unfold s1P s2P at hz
    have hmx : max (offLoP t b.x1 b.x2) 1 = max 1 (offLoP t b.x1 b.x2) := by omega
    generalize hm : max 1 (offLoP t b.x1 b.x2) = m at *
    clear hm halt hsl HL1 HL2
    have HZ3 := Lib.hid hz
    clear hz
    go_enter Try.func67, Try.ntmps67
    go_wp2
    refine wp_region_calm (by kernel_rfl) (by kernel_rfl) ?_
    repeat (go_big_quiet_step (first | (go_at_call 97; exact calm_of (rLineOf1 t _ _ OT.out (by omega) (by omega)))))
    refine wpQuiet_nil ?_
    rintro _ ⟨p1, rfl⟩
    generalize lineP t b.y1 = one at *
    generalize lineP t b.y2 = two at *
    go_wp2
    refine wp_region_calm (by kernel_rfl) (by kernel_rfl) ?_
    repeat (go_big_quiet_step (first | (go_at_call 98; exact calm_of (rOff t _ _ (by omega) (by omega) (by omega) (by omega)))))
    refine wpQuiet_nil ?_
    rintro _ ⟨p2, rfl⟩
    clear OT
    go_wp2
    refine wp_region_calm (by kernel_rfl) (by kernel_rfl) ?_
    repeat (go_big_quiet_step (first | (go_at_call 86; exact calm_of (rDepth t _ _ (by omega) (by omega) (by omega) (by omega)))))
    refine wpQuiet_nil ?_
    rintro _ ⟨p3, rfl⟩
    go_wp2
    refine wp_region_calm (by kernel_rfl) (by kernel_rfl) ?_
    repeat (go_big_quiet_step (first | (go_at_call 88; exact calm_same (bRoot _ _ (by omega) (by omega))) | (go_at_call 99; exact calm_of (rBin t _ _ (by omega) (by omega) (by omega) (by omega) (by omega) (by omega)))))
    refine wpQuiet_nil ?_
    rintro _ ⟨p4, rfl⟩
    generalize rootP (m * m + depthP t q.hi * depthP t q.hi) = sl at *
    generalize rootP (offHiP t b.x1 b.x2 * offHiP t b.x1 b.x2 + depthP t q.lo * depthP t q.lo) = sh at *
    generalize binP t sl = u at *
    generalize binP t sh = v at *
    cases c1 : inR (min one two) (max one two) q.line
    · have H1 := Lib.hid c1
      have HZ := Lib.hid (show inPixelP t q b = 0 by rw [HZ3.out, c1]; rfl)
      clear c1 HZ3
      (go_wp2_with (first | (go_at_call 36; (with_reducible refine (bWithin _ _ _ _ H1.out).mono ?_); rintro e w' ⟨rfl, rfl⟩) | (go_at_call 36; (with_reducible refine (bWithin _ _ _ _ H2.out).mono ?_); rintro e w' ⟨rfl, rfl⟩)); go_ret; exact ⟨ret_int HZ.out.symm, (by (repeat' (first | with_reducible exact Below.refl _ _ | (with_reducible refine below_later_of ?_ ?_ _) | (with_reducible refine Below.alloc ?_ ?_ _) | (with_reducible refine Below.setCell ?_ ?_ _) | (with_reducible refine Below.drew ?_) | (simp; done) | (simp; omega) | omega)))⟩)
    have H1 := Lib.hid c1
    cases c2 : inR u v q.bin
    · have H2 := Lib.hid c2
      have HZ := Lib.hid (show inPixelP t q b = 0 by rw [HZ3.out, c1, c2]; rfl)
      clear c1 c2 HZ3
      (go_wp2_with (first | (go_at_call 36; (with_reducible refine (bWithin _ _ _ _ H1.out).mono ?_); rintro e w' ⟨rfl, rfl⟩) | (go_at_call 36; (with_reducible refine (bWithin _ _ _ _ H2.out).mono ?_); rintro e w' ⟨rfl, rfl⟩)); go_ret; exact ⟨ret_int HZ.out.symm, (by (repeat' (first | with_reducible exact Below.refl _ _ | (with_reducible refine below_later_of ?_ ?_ _) | (with_reducible refine Below.alloc ?_ ?_ _) | (with_reducible refine Below.setCell ?_ ?_ _) | (with_reducible refine Below.drew ?_) | (simp; done) | (simp; omega) | omega)))⟩)
    have H2 := Lib.hid c2
    cases c4 : decide (1 ≤ offLoP t b.x1 b.x2)
    · have HZ := Lib.hid (show inPixelP t q b = 1 by rw [HZ3.out, c1, c2, c4]; rfl)
      clear c1 c2 HZ3
      (go_wp2_with (first | (go_at_call 36; (with_reducible refine (bWithin _ _ _ _ H1.out).mono ?_); rintro e w' ⟨rfl, rfl⟩) | (go_at_call 36; (with_reducible refine (bWithin _ _ _ _ H2.out).mono ?_); rintro e w' ⟨rfl, rfl⟩)); go_ret; exact ⟨ret_int HZ.out.symm, (by (repeat' (first | with_reducible exact Below.refl _ _ | (with_reducible refine below_later_of ?_ ?_ _) | (with_reducible refine Below.alloc ?_ ?_ _) | (with_reducible refine Below.setCell ?_ ?_ _) | (with_reducible refine Below.drew ?_) | (simp; done) | (simp; omega) | omega)))⟩)
    cases c5 : decide (min one two = max one two)
    · have HZ := Lib.hid (show inPixelP t q b = 1 by rw [HZ3.out, c1, c2, c4, c5]; rfl)
      have c5' : (min one two == max one two) = false := by simpa using c5
      clear c1 c2 HZ3 c5
      (go_wp2_with (first | (go_at_call 36; (with_reducible refine (bWithin _ _ _ _ H1.out).mono ?_); rintro e w' ⟨rfl, rfl⟩) | (go_at_call 36; (with_reducible refine (bWithin _ _ _ _ H2.out).mono ?_); rintro e w' ⟨rfl, rfl⟩)); go_ret; exact ⟨ret_int HZ.out.symm, (by (repeat' (first | with_reducible exact Below.refl _ _ | (with_reducible refine below_later_of ?_ ?_ _) | (with_reducible refine Below.alloc ?_ ?_ _) | (with_reducible refine Below.setCell ?_ ?_ _) | (with_reducible refine Below.drew ?_) | (simp; done) | (simp; omega) | omega)))⟩)
    have c5' : (min one two == max one two) = true := by simpa using c5
    cases c6 : decide (u = v)
    · have HZ := Lib.hid (show inPixelP t q b = 1 by rw [HZ3.out, c1, c2, c4, c5, c6]; rfl)
      have c6' : (u == v) = false := by simpa using c6
      clear c1 c2 HZ3 c5 c6
      (go_wp2_with (first | (go_at_call 36; (with_reducible refine (bWithin _ _ _ _ H1.out).mono ?_); rintro e w' ⟨rfl, rfl⟩) | (go_at_call 36; (with_reducible refine (bWithin _ _ _ _ H2.out).mono ?_); rintro e w' ⟨rfl, rfl⟩)); go_ret; exact ⟨ret_int HZ.out.symm, (by (repeat' (first | with_reducible exact Below.refl _ _ | (with_reducible refine below_later_of ?_ ?_ _) | (with_reducible refine Below.alloc ?_ ?_ _) | (with_reducible refine Below.setCell ?_ ?_ _) | (with_reducible refine Below.drew ?_) | (simp; done) | (simp; omega) | omega)))⟩)
    · have HZ := Lib.hid (show inPixelP t q b = 2 by rw [HZ3.out, c1, c2, c4, c5, c6]; rfl)
      have c6' : (u == v) = true := by simpa using c6
      clear c1 c2 HZ3 c5 c6
      (go_wp2_with (first | (go_at_call 36; (with_reducible refine (bWithin _ _ _ _ H1.out).mono ?_); rintro e w' ⟨rfl, rfl⟩) | (go_at_call 36; (with_reducible refine (bWithin _ _ _ _ H2.out).mono ?_); rintro e w' ⟨rfl, rfl⟩)); go_ret; exact ⟨ret_int HZ.out.symm, (by (repeat' (first | with_reducible exact Below.refl _ _ | (with_reducible refine below_later_of ?_ ?_ _) | (with_reducible refine Below.alloc ?_ ?_ _) | (with_reducible refine Below.setCell ?_ ?_ _) | (with_reducible refine Below.drew ?_) | (simp; done) | (simp; omega) | omega)))⟩)
end Go.Proofs.Ytokpdmlmlkkekaa
