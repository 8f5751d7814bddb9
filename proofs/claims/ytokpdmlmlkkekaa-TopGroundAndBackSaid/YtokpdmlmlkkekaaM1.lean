/- Masks: the reference's points, what shades, what covers. -/
import Derived.Test.YtokpdmlmlkkekaaS4
import Derived.Test.YtokpdmlmlkkekaaZR
import Derived.Test.YtokpdmlmlkkekaaZK
namespace Go.Proofs.Ytokpdmlmlkkekaa
set_option linter.unusedVariables false
open Go.RowKit
set_option maxHeartbeats 2000000 in
theorem rPoint (r : Rel) (b off cap : Nat) (row col : Int) (h : Int) (w : World) (o : r.Ok) (a1 : 0 ≤ row) (a2 : row < r.rows) (b1 : 0 ≤ col) (b2 : col < r.cols)
    (hbw : b < w.heap.size) (hc : FloatsAt w b off r.ds) (hi : FlInt (bitAt r.ds (idxP r row col)) h) :
    Calls Try.prog 75 #[.agg #[.int .i64 r.x, .int .i64 r.y, .int .i64 r.cell, .int .i64 r.rows, .int .i64 r.cols, .slice (some ⟨b, off, none⟩) r.ds.length cap], .int .i64 row, .int .i64 col] w fun e w' => e = .returned (.agg #[.int .i64 (pxP r col), .int .i64 (pyP r row), .int .i64 h]) ∧ Below w.heap.size w w' := by
  obtain ⟨hk, p1, p2, hlt⟩ := idx_lt o a1 a2 b1 b2
  have HC := Lib.hid (hc _ hlt)
  have HK := Lib.hid hk
  have HI := Lib.hid hi
  obtain ⟨u1, u2⟩ := cell_bd o b1 (show col ≤ 64 by have := o.l2; omega)
  obtain ⟨v1, v2⟩ := cell_bd o a1 (show row ≤ 64 by have := o.r2; omega)
  obtain ⟨x1, x2, y1, y2, c1, c2, r1, r2, l1, l2, -⟩ := o
  unfold pxP pyP
  clear hc hk hi
  go_enter Try.func75, Try.ntmps75
  go_wp2
  refine wp_region_calm_tail 27 (by kernel_rfl) (by kernel_rfl) ?_
  simp only [List.take_succ_cons, List.take_zero, List.drop_succ_cons, List.drop_zero]
  repeat (go_big_quiet_step (first | (go_at_call 117; exact calm_of (rHeightOf r b off cap _ _ _ h _ HK.out (by omega) (by omega) (by omega) (by omega) (by omega) (by simp; omega) (by (first | (simp [go_sem]; done) | simp [go_sem, ↓IntWalk.iteOmega]); exact HC.out) HI.out))))
  refine wpQuiet_nil ?_
  rintro _ ⟨p1, rfl⟩
  go_wp2
  refine bodyPost_ret ?_ rfl ⟨rfl, (by (repeat' (first | with_reducible exact Below.refl _ _ | (with_reducible refine below_later_of ?_ ?_ _) | (with_reducible refine Below.alloc ?_ ?_ _) | (with_reducible refine Below.setCell ?_ ?_ _) | (with_reducible refine Below.drew ?_) | (simp; done) | (simp; omega) | omega)))⟩
  first | (simp [results, Try.results75, go_sem]; done) | simp [results, Try.results75, go_sem, ↓IntWalk.iteOmega]
set_option maxHeartbeats 1000000 in
theorem rSquareW (t : Trk) (x y z : Int) (w : World) (h1 : -100000000 ≤ t.sx) (h2 : t.sx ≤ 100000000) (h3 : -200000000 ≤ x) (h4 : x ≤ 200000000)
     (k1 : -100000000 ≤ t.sz) (k2 : t.sz ≤ 100000000) (k3 : -200000000 ≤ z) (k4 : z ≤ 200000000) :
    Calls Try.prog 100 #[.agg #[.int .i64 t.sx, .int .i64 t.sy, .int .i64 t.sz, .int .i64 t.step, .int .i64 t.lines, .int .i64 t.near, .int .i64 t.bin, .int .i64 t.bins, .bool t.east], .agg #[.int .i64 x, .int .i64 y, .int .i64 z]] w fun e w' => e = .returned (.int .i64 (sqP (offP t x) (depthP t z))) ∧ Below w.heap.size w w' := by
  have b1 := sq_bd (offP t x) 300000000 (by unfold offP; split <;> omega) (by unfold offP; split <;> omega)
  have b2 := sq_bd (depthP t z) 300000000 (by unfold depthP; omega) (by unfold depthP; omega)
  obtain ⟨b11, b12⟩ := b1
  obtain ⟨b21, b22⟩ := b2
  unfold sqP
  go_enter Try.func100, Try.ntmps100
  go_wp2
  refine wp_region_calm (by kernel_rfl) (by kernel_rfl) ?_
  repeat (go_big_quiet_step (first | (go_at_call 98; exact calm_of (rOff t _ _ (by omega) (by omega) (by omega) (by omega))) | (go_at_call 86; exact calm_of (rDepth t _ _ (by omega) (by omega) (by omega) (by omega)))))
  refine wpQuiet_nil ?_
  rintro _ ⟨p1, rfl⟩
  go_wp2
  go_ret
  exact ⟨rfl, (by (repeat' (first | with_reducible exact Below.refl _ _ | (with_reducible refine below_later_of ?_ ?_ _) | (with_reducible refine Below.alloc ?_ ?_ _) | (with_reducible refine Below.setCell ?_ ?_ _) | (with_reducible refine Below.drew ?_) | (simp; done) | (simp; omega) | omega)))⟩
/-- A coordinate of a point. -/
def Coo (n : Int) : Prop := -200000000 ≤ n ∧ n ≤ 200000000
theorem off_big {t : Trk} {x : Int} (ot : t.Ok) (h : Coo x) : Big4 (offP t x) := by
  have := ot.sx1; have := ot.sx2; obtain ⟨h1, h2⟩ := h
  unfold Big4 offP; split <;> omega
theorem depth_big {t : Trk} {z : Int} (ot : t.Ok) (h : Coo z) : Big4 (depthP t z) := by
  have := ot.sz1; have := ot.sz2; obtain ⟨h1, h2⟩ := h
  unfold Big4 depthP; omega
set_option maxHeartbeats 2000000 in
theorem rShades (t : Trk) (x y z x' y' z' : Int) (w : World) (ot : t.Ok) (hx : Coo x) (hz : Coo z) (hx' : Coo x') (hz' : Coo z') {c : Bool} (hc : hidesP (offP t x) (depthP t z) (offP t x') (depthP t z') = c) :
    Calls Try.prog 108 #[.agg #[.int .i64 t.sx, .int .i64 t.sy, .int .i64 t.sz, .int .i64 t.step, .int .i64 t.lines, .int .i64 t.near, .int .i64 t.bin, .int .i64 t.bins, .bool t.east], .agg #[.int .i64 x, .int .i64 y, .int .i64 z], .agg #[.int .i64 x', .int .i64 y', .int .i64 z']] w fun e w' => e = .returned (.bool c) ∧ Below w.heap.size w w' := by
  subst hc
  obtain ⟨p1, p2⟩ := prod4 (off_big ot hx) (depth_big ot hz')
  obtain ⟨q1, q2⟩ := prod4 (off_big ot hx') (depth_big ot hz)
  obtain ⟨x1, x2⟩ := hx
  obtain ⟨z1, z2⟩ := hz
  obtain ⟨x1', x2'⟩ := hx'
  obtain ⟨z1', z2'⟩ := hz'
  obtain ⟨sx1, sx2, -, -, sz1, sz2, -, -, -, -, -, -, -, -, -, -, -⟩ := ot
  by_cases h : offP t x < offP t x'
  · have HF := Lib.hid (show hidesP (offP t x) (depthP t z) (offP t x') (depthP t z') = decide (offP t x' * depthP t z ≤ offP t x * depthP t z') by unfold hidesP; simp [h])
    go_enter Try.func108, Try.ntmps108
    go_wp2
    refine wp_region_calm (by kernel_rfl) (by kernel_rfl) ?_
    repeat (go_big_quiet_step (first | (go_at_call 98; exact calm_of (rOff t _ _ (by omega) (by omega) (by omega) (by omega))) | (go_at_call 86; exact calm_of (rDepth t _ _ (by omega) (by omega) (by omega) (by omega)))))
    refine wpQuiet_nil ?_
    rintro _ ⟨p3, rfl⟩
    go_wp2
    go_ret
    exact ⟨ret_bool HF.out.symm, (by (repeat' (first | with_reducible exact Below.refl _ _ | (with_reducible refine below_later_of ?_ ?_ _) | (with_reducible refine Below.alloc ?_ ?_ _) | (with_reducible refine Below.setCell ?_ ?_ _) | (with_reducible refine Below.drew ?_) | (simp; done) | (simp; omega) | omega)))⟩
  · have HF := Lib.hid (show hidesP (offP t x) (depthP t z) (offP t x') (depthP t z') = false by unfold hidesP; simp [h])
    have h' : decide (offP t x < offP t x') = false := by simpa using h
    go_enter Try.func108, Try.ntmps108
    go_wp2
    refine wp_region_calm (by kernel_rfl) (by kernel_rfl) ?_
    repeat (go_big_quiet_step (first | (go_at_call 98; exact calm_of (rOff t _ _ (by omega) (by omega) (by omega) (by omega))) | (go_at_call 86; exact calm_of (rDepth t _ _ (by omega) (by omega) (by omega) (by omega)))))
    refine wpQuiet_nil ?_
    rintro _ ⟨p3, rfl⟩
    go_wp2
    go_ret
    exact ⟨ret_bool HF.out.symm, (by (repeat' (first | with_reducible exact Below.refl _ _ | (with_reducible refine below_later_of ?_ ?_ _) | (with_reducible refine Below.alloc ?_ ?_ _) | (with_reducible refine Below.setCell ?_ ?_ _) | (with_reducible refine Below.drew ?_) | (simp; done) | (simp; omega) | omega)))⟩
set_option maxHeartbeats 2000000 in
theorem rCovers (t : Trk) (x y z x' y' z' : Int) (w : World) (ot : t.Ok) (hx : Coo x) (hz : Coo z) (hx' : Coo x') (hz' : Coo z') {c : Bool} (hc : liesP (offP t x) (depthP t z) (offP t x') (depthP t z') = c) :
    Calls Try.prog 107 #[.agg #[.int .i64 t.sx, .int .i64 t.sy, .int .i64 t.sz, .int .i64 t.step, .int .i64 t.lines, .int .i64 t.near, .int .i64 t.bin, .int .i64 t.bins, .bool t.east], .agg #[.int .i64 x, .int .i64 y, .int .i64 z], .agg #[.int .i64 x', .int .i64 y', .int .i64 z']] w fun e w' => e = .returned (.bool c) ∧ Below w.heap.size w w' := by
  subst hc
  obtain ⟨x1, x2⟩ := hx
  obtain ⟨z1, z2⟩ := hz
  obtain ⟨x1', x2'⟩ := hx'
  obtain ⟨z1', z2'⟩ := hz'
  obtain ⟨sx1, sx2, -, -, sz1, sz2, -, -, -, -, -, -, -, -, -, -, -⟩ := ot
  by_cases h : offP t x < offP t x'
  · have hn : ¬ offP t x' < offP t x := by omega
    have hn' : decide (offP t x' < offP t x) = false := by simpa using hn
    have HF := Lib.hid (show liesP (offP t x) (depthP t z) (offP t x') (depthP t z') = decide (sqP (offP t x') (depthP t z') ≤ sqP (offP t x) (depthP t z)) by unfold liesP; simp [h, hn])
    generalize sqP (offP t x) (depthP t z) = u at HF
    by_cases g : sqP (offP t x') (depthP t z') ≤ sqP (offP t x) (depthP t z)
    · have hg : decide (sqP (offP t x') (depthP t z') ≤ sqP (offP t x) (depthP t z)) = true := by simpa using g
      have HG := Lib.hid (show liesP (offP t x) (depthP t z) (offP t x') (depthP t z') = true by unfold liesP; simp [h, hn, g])
      clear HF hn'
      go_enter Try.func107, Try.ntmps107
      go_wp2
      refine wp_region_calm (by kernel_rfl) (by kernel_rfl) ?_
      repeat (go_big_quiet_step (first | (go_at_call 100; exact calm_of (rSquareW t _ _ _ _ (by omega) (by omega) (by omega) (by omega) (by omega) (by omega) (by omega) (by omega)))))
      refine wpQuiet_nil ?_
      rintro _ ⟨p1, rfl⟩
      go_wp2
      refine wp_region_calm (by kernel_rfl) (by kernel_rfl) ?_
      repeat (go_big_quiet_step (first | (go_at_call 98; exact calm_of (rOff t _ _ (by omega) (by omega) (by omega) (by omega)))))
      refine wpQuiet_nil ?_
      rintro _ ⟨p2, rfl⟩
      go_wp2
      go_ret
      exact ⟨ret_bool HG.out.symm, (by (repeat' (first | with_reducible exact Below.refl _ _ | (with_reducible refine below_later_of ?_ ?_ _) | (with_reducible refine Below.alloc ?_ ?_ _) | (with_reducible refine Below.setCell ?_ ?_ _) | (with_reducible refine Below.drew ?_) | (simp; done) | (simp; omega) | omega)))⟩
    · have hg : decide (sqP (offP t x') (depthP t z') ≤ sqP (offP t x) (depthP t z)) = false := by simpa using g
      have HG := Lib.hid (show liesP (offP t x) (depthP t z) (offP t x') (depthP t z') = false by unfold liesP; simp [h, hn, g])
      clear HF
      go_enter Try.func107, Try.ntmps107
      go_wp2
      refine wp_region_calm (by kernel_rfl) (by kernel_rfl) ?_
      repeat (go_big_quiet_step (first | (go_at_call 100; exact calm_of (rSquareW t _ _ _ _ (by omega) (by omega) (by omega) (by omega) (by omega) (by omega) (by omega) (by omega)))))
      refine wpQuiet_nil ?_
      rintro _ ⟨p1, rfl⟩
      go_wp2
      refine wp_region_calm (by kernel_rfl) (by kernel_rfl) ?_
      repeat (go_big_quiet_step (first | (go_at_call 98; exact calm_of (rOff t _ _ (by omega) (by omega) (by omega) (by omega)))))
      refine wpQuiet_nil ?_
      rintro _ ⟨p2, rfl⟩
      go_wp2
      go_ret
      exact ⟨ret_bool HG.out.symm, (by (repeat' (first | with_reducible exact Below.refl _ _ | (with_reducible refine below_later_of ?_ ?_ _) | (with_reducible refine Below.alloc ?_ ?_ _) | (with_reducible refine Below.setCell ?_ ?_ _) | (with_reducible refine Below.drew ?_) | (simp; done) | (simp; omega) | omega)))⟩
  · have h' : decide (offP t x < offP t x') = false := by simpa using h
    by_cases k : offP t x' < offP t x
    · have HF := Lib.hid (show liesP (offP t x) (depthP t z) (offP t x') (depthP t z') = decide (sqP (offP t x) (depthP t z) ≤ sqP (offP t x') (depthP t z')) by unfold liesP; simp [h, k])
      go_enter Try.func107, Try.ntmps107
      go_wp2
      refine wp_region_calm (by kernel_rfl) (by kernel_rfl) ?_
      repeat (go_big_quiet_step (first | (go_at_call 100; exact calm_of (rSquareW t _ _ _ _ (by omega) (by omega) (by omega) (by omega) (by omega) (by omega) (by omega) (by omega)))))
      refine wpQuiet_nil ?_
      rintro _ ⟨p1, rfl⟩
      go_wp2
      refine wp_region_calm (by kernel_rfl) (by kernel_rfl) ?_
      repeat (go_big_quiet_step (first | (go_at_call 98; exact calm_of (rOff t _ _ (by omega) (by omega) (by omega) (by omega)))))
      refine wpQuiet_nil ?_
      rintro _ ⟨p2, rfl⟩
      go_wp2
      go_ret
      exact ⟨ret_bool HF.out.symm, (by (repeat' (first | with_reducible exact Below.refl _ _ | (with_reducible refine below_later_of ?_ ?_ _) | (with_reducible refine Below.alloc ?_ ?_ _) | (with_reducible refine Below.setCell ?_ ?_ _) | (with_reducible refine Below.drew ?_) | (simp; done) | (simp; omega) | omega)))⟩
    · have k' : decide (offP t x' < offP t x) = false := by simpa using k
      have HF := Lib.hid (show liesP (offP t x) (depthP t z) (offP t x') (depthP t z') = false by unfold liesP; simp [h, k])
      go_enter Try.func107, Try.ntmps107
      go_wp2
      refine wp_region_calm (by kernel_rfl) (by kernel_rfl) ?_
      repeat (go_big_quiet_step (first | (go_at_call 100; exact calm_of (rSquareW t _ _ _ _ (by omega) (by omega) (by omega) (by omega) (by omega) (by omega) (by omega) (by omega)))))
      refine wpQuiet_nil ?_
      rintro _ ⟨p1, rfl⟩
      go_wp2
      refine wp_region_calm (by kernel_rfl) (by kernel_rfl) ?_
      repeat (go_big_quiet_step (first | (go_at_call 98; exact calm_of (rOff t _ _ (by omega) (by omega) (by omega) (by omega)))))
      refine wpQuiet_nil ?_
      rintro _ ⟨p2, rfl⟩
      go_wp2
      go_ret
      exact ⟨ret_bool HF.out.symm, (by (repeat' (first | with_reducible exact Below.refl _ _ | (with_reducible refine below_later_of ?_ ?_ _) | (with_reducible refine Below.alloc ?_ ?_ _) | (with_reducible refine Below.setCell ?_ ?_ _) | (with_reducible refine Below.drew ?_) | (simp; done) | (simp; omega) | omega)))⟩
end Go.Proofs.Ytokpdmlmlkkekaa
