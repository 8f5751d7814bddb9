import Derived.Test.YthnfepfbkmafaaaR1
namespace Go.Proofs.Ythnfepfbkmafaaa
set_option linter.unusedVariables false
open Go.RowKit
set_option maxHeartbeats 400000 in
theorem rOff (t : Trk) (x : Int) (w : World) (h1 : -100000000 ≤ t.sx) (h2 : t.sx ≤ 100000000) (h3 : -1000000000 ≤ x) (h4 : x ≤ 1000000000) :
    Calls Try.prog 92 #[.agg #[.int .i64 t.sx, .int .i64 t.sy, .int .i64 t.sz, .int .i64 t.step, .int .i64 t.lines, .int .i64 t.near, .int .i64 t.bin, .int .i64 t.bins, .bool t.east], .int .i64 x] w fun e w' => e = .returned (.int .i64 (offP t x)) ∧ Below w.heap.size w w' := by
  unfold offP
  cases he : t.east
  · go_enter Try.func92, Try.ntmps92
    go_wp2
    go_ret
    exact ⟨by simp, (by (repeat' (first | with_reducible exact Below.refl _ _ | (with_reducible refine below_later_of ?_ ?_ _) | (with_reducible refine Below.alloc ?_ ?_ _) | (with_reducible refine Below.setCell ?_ ?_ _) | (with_reducible refine Below.drew ?_) | (simp; done) | (simp; omega) | omega)))⟩
  · go_enter Try.func92, Try.ntmps92
    go_wp2
    go_ret
    exact ⟨by simp, (by (repeat' (first | with_reducible exact Below.refl _ _ | (with_reducible refine below_later_of ?_ ?_ _) | (with_reducible refine Below.alloc ?_ ?_ _) | (with_reducible refine Below.setCell ?_ ?_ _) | (with_reducible refine Below.drew ?_) | (simp; done) | (simp; omega) | omega)))⟩
set_option maxHeartbeats 400000 in
theorem rDepth (t : Trk) (x : Int) (w : World) (h1 : -100000000 ≤ t.sz) (h2 : t.sz ≤ 100000000) (h3 : -1000000000 ≤ x) (h4 : x ≤ 1000000000) :
    Calls Try.prog 80 #[.agg #[.int .i64 t.sx, .int .i64 t.sy, .int .i64 t.sz, .int .i64 t.step, .int .i64 t.lines, .int .i64 t.near, .int .i64 t.bin, .int .i64 t.bins, .bool t.east], .int .i64 x] w fun e w' => e = .returned (.int .i64 (depthP t x)) ∧ Below w.heap.size w w' := by
  unfold depthP
  go_enter Try.func80, Try.ntmps80
  go_wp2
  go_ret
  exact ⟨rfl, (by (repeat' (first | with_reducible exact Below.refl _ _ | (with_reducible refine below_later_of ?_ ?_ _) | (with_reducible refine Below.alloc ?_ ?_ _) | (with_reducible refine Below.setCell ?_ ?_ _) | (with_reducible refine Below.drew ?_) | (simp; done) | (simp; omega) | omega)))⟩
def signP (n : Int) : Int := if n < 0 then -1 else 1
theorem rSign (n : Int) (w : World) : Calls Try.prog 136 #[.int .i64 n] w fun e w' => e = .returned (.int .i64 (signP n)) ∧ w = w' := by
  by_cases h : n < 0
  · have HF := Lib.hid (show signP n = -1 by unfold signP; rw [if_pos h])
    go_enter Try.func136, Try.ntmps136
    go_wp2
    go_ret
    exact ⟨ret_int HF.out.symm, rfl⟩
  · have HF := Lib.hid (show signP n = 1 by unfold signP; rw [if_neg h])
    go_enter Try.func136, Try.ntmps136
    go_wp2
    go_ret
    exact ⟨ret_int HF.out.symm, rfl⟩
set_option maxHeartbeats 400000 in
theorem rRootUp (n : Int) (w : World) (h0 : 0 ≤ n) (h1 : n ≤ 500000000000000000) :
    Calls Try.prog 81 #[.int .i64 n] w fun e w' => e = .returned (.int .i64 (rootUpP n)) ∧ w = w' := by
  obtain ⟨r0, r1, r2⟩ := rootP_spec n h0 (by omega)
  have r3 := rootP_le n h0 (by omega)
  obtain ⟨b1, b2⟩ := sq_bd (rootP n) 2147483648 (by omega) (by omega)
  simp only [Int.reduceMul] at b2
  by_cases hlt : rootP n * rootP n < n
  · go_enter Try.func81, Try.ntmps81
    go_wp2_with (go_at_call 82; refine (bRoot _ _ (by omega) (by omega)).mono ?_; rintro e w' ⟨rfl, rfl⟩)
    go_ret
    exact ⟨ret_int (by unfold rootUpP; rw [if_pos hlt]), rfl⟩
  · go_enter Try.func81, Try.ntmps81
    go_wp2_with (go_at_call 82; refine (bRoot _ _ (by omega) (by omega)).mono ?_; rintro e w' ⟨rfl, rfl⟩)
    go_ret
    exact ⟨ret_int (by unfold rootUpP; rw [if_neg (by omega)]), rfl⟩
set_option maxHeartbeats 1000000 in
theorem rSquare (t : Trk) (x y z : Int) (w : World) (h1 : -100000000 ≤ t.sx) (h2 : t.sx ≤ 100000000) (h3 : -100000000 ≤ x) (h4 : x ≤ 100000000)
     (k1 : -100000000 ≤ t.sz) (k2 : t.sz ≤ 100000000) (k3 : -100000000 ≤ z) (k4 : z ≤ 100000000) :
    Calls Try.prog 94 #[.agg #[.int .i64 t.sx, .int .i64 t.sy, .int .i64 t.sz, .int .i64 t.step, .int .i64 t.lines, .int .i64 t.near, .int .i64 t.bin, .int .i64 t.bins, .bool t.east], .agg #[.int .i64 x, .int .i64 y, .int .i64 z]] w fun e w' => e = .returned (.int .i64 (squareP t x z)) ∧ Below w.heap.size w w' := by
  have b1 := sq_bd (offP t x) 200000000 (by unfold offP; split <;> omega) (by unfold offP; split <;> omega)
  have b2 := sq_bd (depthP t z) 200000000 (by unfold depthP; omega) (by unfold depthP; omega)
  obtain ⟨b11, b12⟩ := b1
  obtain ⟨b21, b22⟩ := b2
  unfold squareP
  go_enter Try.func94, Try.ntmps94
  go_wp2
  refine wp_region_calm (by kernel_rfl) (by kernel_rfl) ?_
  repeat (go_big_quiet_step (first | (go_at_call 92; exact calm_of (rOff t _ _ (by omega) (by omega) (by omega) (by omega))) | (go_at_call 80; exact calm_of (rDepth t _ _ (by omega) (by omega) (by omega) (by omega)))))
  refine wpQuiet_nil ?_
  rintro _ ⟨p1, rfl⟩
  go_wp2
  go_ret
  exact ⟨rfl, (by (repeat' (first | with_reducible exact Below.refl _ _ | (with_reducible refine below_later_of ?_ ?_ _) | (with_reducible refine Below.alloc ?_ ?_ _) | (with_reducible refine Below.setCell ?_ ?_ _) | (with_reducible refine Below.drew ?_) | (simp; done) | (simp; omega) | omega)))⟩
theorem floorP_pos {n b : Int} (h : 1 ≤ b) : floorP n b = n / b := by unfold floorP; rw [if_neg (by omega)]
set_option maxHeartbeats 400000 in
theorem rBin (t : Trk) (n : Int) (w : World) (h1 : 0 ≤ t.near) (h2 : t.near ≤ 100000000) (h3 : 1 ≤ t.bin) (h4 : t.bin ≤ 1000) (h5 : -5000000000 ≤ n) (h6 : n ≤ 5000000000) :
    Calls Try.prog 93 #[.agg #[.int .i64 t.sx, .int .i64 t.sy, .int .i64 t.sz, .int .i64 t.step, .int .i64 t.lines, .int .i64 t.near, .int .i64 t.bin, .int .i64 t.bins, .bool t.east], .int .i64 n] w fun e w' => e = .returned (.int .i64 (binP t n)) ∧ Below w.heap.size w w' := by
  have HF := Lib.hid (show binP t n = (n - t.near) / t.bin by unfold binP; rw [floorP_pos h3])
  go_enter Try.func93, Try.ntmps93
  go_wp2_with (go_at_call 55; refine (bFloor _ _ _ (by omega) (by omega) (by omega) (by omega)).mono ?_; rintro e w' ⟨rfl, rfl⟩)
  go_ret
  exact ⟨ret_int HF.out.symm, (by (repeat' (first | with_reducible exact Below.refl _ _ | (with_reducible refine below_later_of ?_ ?_ _) | (with_reducible refine Below.alloc ?_ ?_ _) | (with_reducible refine Below.setCell ?_ ?_ _) | (with_reducible refine Below.drew ?_) | (simp; done) | (simp; omega) | omega)))⟩
theorem line_alt {t : Trk} {y : Int} (h : t.step ≠ 0) : lineP t y = ((y - t.sy) * signP t.step) / (max t.step (-t.step)) := by
  unfold lineP floorP signP
  by_cases hs : t.step < 0
  · rw [if_pos hs, if_pos hs, show max t.step (-t.step) = - t.step by omega, show (y - t.sy) * -1 = -(y - t.sy) by omega]
  · rw [if_neg hs, if_neg hs, show max t.step (-t.step) = t.step by omega, Int.mul_one]
set_option maxHeartbeats 1000000 in
theorem rLineOf1 (t : Trk) (y : Int) (w : World) (o : t.Ok) (h3 : -1000000000 ≤ y) (h4 : y ≤ 1000000000) :
    Calls Try.prog 91 #[.agg #[.int .i64 t.sx, .int .i64 t.sy, .int .i64 t.sz, .int .i64 t.step, .int .i64 t.lines, .int .i64 t.near, .int .i64 t.bin, .int .i64 t.bins, .bool t.east], .int .i64 y] w fun e w' => e = .returned (.int .i64 (lineP t y)) ∧ Below w.heap.size w w' := by
  have HF := Lib.hid (line_alt (y := y) o.st0)
  obtain ⟨h_sx1, h_sx2, h_sy1, h_sy2, h_sz1, h_sz2, h_st0, h_st1, h_st2, -, -, -, -, -, -, -, -⟩ := o
  have hb : -1100000000 ≤ (y - t.sy) * signP t.step ∧ (y - t.sy) * signP t.step ≤ 1100000000 := by
    unfold signP; split <;> omega
  obtain ⟨b1, b2⟩ := hb
  go_enter Try.func91, Try.ntmps91
  go_wp2
  refine wp_region_calm (by kernel_rfl) (by kernel_rfl) ?_
  repeat (go_big_quiet_step (first | (go_at_call 136; exact calm_same (rSign _ _)) | (go_at_call 124; exact calm_same (bSize _ _ (by omega) (by omega))) | (go_at_call 55; exact calm_same (bFloor _ _ _ (by omega) (by omega) (by omega) (by omega)))))
  refine wpQuiet_nil ?_
  rintro _ ⟨p1, rfl⟩
  go_wp2
  go_ret
  exact ⟨ret_int HF.out.symm, (by (repeat' (first | with_reducible exact Below.refl _ _ | (with_reducible refine below_later_of ?_ ?_ _) | (with_reducible refine Below.alloc ?_ ?_ _) | (with_reducible refine Below.setCell ?_ ?_ _) | (with_reducible refine Below.drew ?_) | (simp; done) | (simp; omega) | omega)))⟩
end Go.Proofs.Ythnfepfbkmafaaa
