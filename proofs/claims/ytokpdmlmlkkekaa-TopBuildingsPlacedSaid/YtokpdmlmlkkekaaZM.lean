import Derived.Test.YtokpdmlmlkkekaaZS
import Derived.Test.YtokpdmlmlkkekaaZR
import Derived.Test.YtokpdmlmlkkekaaZK
import Derived.Deep.CutRange
import Derived.Deep.RegionHeld3
/- Masks: the reference's points, what shades, what covers. -/
namespace Go.Proofs.Ytokpdmlmlkkekaa
set_option linter.unusedVariables false
open Go.RowKit
set_option maxHeartbeats 2000000 in
theorem rPoint (r : Rel) (b off cap : Nat) (row col : Int) (h : Int) (w : World) (o : r.Ok) (a1 : 0 ≤ row) (a2 : row < r.rows) (b1 : 0 ≤ col) (b2 : col < r.cols)
    (hbw : b < w.heap.size) (hc : FloatsAt w b off r.ds) (hi : FlInt (bitAt r.ds (idxP r row col)) h) :
    Calls Try.prog 75 #[.agg #[.int .i64 r.x, .int .i64 r.y, .int .i64 r.cell, .int .i64 r.rows, .int .i64 r.cols, .slice (some ⟨b, off, none⟩) r.ds.length cap], .int .i64 row, .int .i64 col] w fun e w' => e = .returned (.agg #[.int .i64 (pxP r col), .int .i64 (pyP r row), .int .i64 h]) ∧ Below w.heap.size w w' := by
  obtain ⟨hk, p1, p2, hlt⟩ := idx_lt o a1 a2 b1 b2
  have HC := Lib.hid (hc _ hlt)
  have HK := Lib.hid hk
  have HI := Lib.hid hi
  obtain ⟨u1, u2⟩ := cell_bd o b1 (show col ≤ 64 by have := o.l2; omega)
  obtain ⟨v1, v2⟩ := cell_bd o a1 (show row ≤ 64 by have := o.r2; omega)
  obtain ⟨x1, x2, y1, y2, c1, c2, r1, r2, l1, l2, -⟩ := o
  unfold pxP pyP
  clear hc hk hi
  go_enter Try.func75, Try.ntmps75
  go_wp2
  refine wp_region_calm_tail 27 (by kernel_rfl) (by kernel_rfl) ?_
  simp only [List.take_succ_cons, List.take_zero, List.drop_succ_cons, List.drop_zero]
  repeat (go_big_quiet_step (first | (go_at_call 117; exact calm_of (rHeightOf r b off cap _ _ _ h _ HK.out (by omega) (by omega) (by omega) (by omega) (by omega) (by simp; omega) (by (first | (simp [go_sem]; done) | simp [go_sem, ↓IntWalk.iteOmega]); exact HC.out) HI.out))))
  refine wpQuiet_nil ?_
  rintro _ ⟨p1, rfl⟩
  go_wp2
  refine bodyPost_ret ?_ rfl ⟨rfl, (by (repeat' (first | with_reducible exact Below.refl _ _ | (with_reducible refine below_later_of ?_ ?_ _) | (with_reducible refine Below.alloc ?_ ?_ _) | (with_reducible refine Below.setCell ?_ ?_ _) | (with_reducible refine Below.drew ?_) | (simp; done) | (simp; omega) | omega)))⟩
  first | (simp [results, Try.results75, go_sem]; done) | simp [results, Try.results75, go_sem, ↓IntWalk.iteOmega]
set_option maxHeartbeats 1000000 in
theorem rSquareW (t : Trk) (x y z : Int) (w : World) (h1 : -100000000 ≤ t.sx) (h2 : t.sx ≤ 100000000) (h3 : -200000000 ≤ x) (h4 : x ≤ 200000000)
     (k1 : -100000000 ≤ t.sz) (k2 : t.sz ≤ 100000000) (k3 : -200000000 ≤ z) (k4 : z ≤ 200000000) :
    Calls Try.prog 100 #[.agg #[.int .i64 t.sx, .int .i64 t.sy, .int .i64 t.sz, .int .i64 t.step, .int .i64 t.lines, .int .i64 t.near, .int .i64 t.bin, .int .i64 t.bins, .bool t.east], .agg #[.int .i64 x, .int .i64 y, .int .i64 z]] w fun e w' => e = .returned (.int .i64 (sqP (offP t x) (depthP t z))) ∧ Below w.heap.size w w' := by
  have b1 := sq_bd (offP t x) 300000000 (by unfold offP; split <;> omega) (by unfold offP; split <;> omega)
  have b2 := sq_bd (depthP t z) 300000000 (by unfold depthP; omega) (by unfold depthP; omega)
  obtain ⟨b11, b12⟩ := b1
  obtain ⟨b21, b22⟩ := b2
  unfold sqP
  go_enter Try.func100, Try.ntmps100
  go_wp2
  refine wp_region_calm (by kernel_rfl) (by kernel_rfl) ?_
  repeat (go_big_quiet_step (first | (go_at_call 98; exact calm_of (rOff t _ _ (by omega) (by omega) (by omega) (by omega))) | (go_at_call 86; exact calm_of (rDepth t _ _ (by omega) (by omega) (by omega) (by omega)))))
  refine wpQuiet_nil ?_
  rintro _ ⟨p1, rfl⟩
  go_wp2
  go_ret
  exact ⟨rfl, (by (repeat' (first | with_reducible exact Below.refl _ _ | (with_reducible refine below_later_of ?_ ?_ _) | (with_reducible refine Below.alloc ?_ ?_ _) | (with_reducible refine Below.setCell ?_ ?_ _) | (with_reducible refine Below.drew ?_) | (simp; done) | (simp; omega) | omega)))⟩
/-- A coordinate of a point. -/
def Coo (n : Int) : Prop := -200000000 ≤ n ∧ n ≤ 200000000
theorem off_big {t : Trk} {x : Int} (ot : t.Ok) (h : Coo x) : Big4 (offP t x) := by
  have := ot.sx1; have := ot.sx2; obtain ⟨h1, h2⟩ := h
  unfold Big4 offP; split <;> omega
theorem depth_big {t : Trk} {z : Int} (ot : t.Ok) (h : Coo z) : Big4 (depthP t z) := by
  have := ot.sz1; have := ot.sz2; obtain ⟨h1, h2⟩ := h
  unfold Big4 depthP; omega
set_option maxHeartbeats 2000000 in
theorem rShades (t : Trk) (x y z x' y' z' : Int) (w : World) (ot : t.Ok) (hx : Coo x) (hz : Coo z) (hx' : Coo x') (hz' : Coo z') {c : Bool} (hc : hidesP (offP t x) (depthP t z) (offP t x') (depthP t z') = c) :
    Calls Try.prog 108 #[.agg #[.int .i64 t.sx, .int .i64 t.sy, .int .i64 t.sz, .int .i64 t.step, .int .i64 t.lines, .int .i64 t.near, .int .i64 t.bin, .int .i64 t.bins, .bool t.east], .agg #[.int .i64 x, .int .i64 y, .int .i64 z], .agg #[.int .i64 x', .int .i64 y', .int .i64 z']] w fun e w' => e = .returned (.bool c) ∧ Below w.heap.size w w' := by
  subst hc
  obtain ⟨p1, p2⟩ := prod4 (off_big ot hx) (depth_big ot hz')
  obtain ⟨q1, q2⟩ := prod4 (off_big ot hx') (depth_big ot hz)
  obtain ⟨x1, x2⟩ := hx
  obtain ⟨z1, z2⟩ := hz
  obtain ⟨x1', x2'⟩ := hx'
  obtain ⟨z1', z2'⟩ := hz'
  obtain ⟨sx1, sx2, -, -, sz1, sz2, -, -, -, -, -, -, -, -, -, -, -⟩ := ot
  by_cases h : offP t x < offP t x'
  · have HF := Lib.hid (show hidesP (offP t x) (depthP t z) (offP t x') (depthP t z') = decide (offP t x' * depthP t z ≤ offP t x * depthP t z') by unfold hidesP; simp [h])
    go_enter Try.func108, Try.ntmps108
    go_wp2
    refine wp_region_calm (by kernel_rfl) (by kernel_rfl) ?_
    repeat (go_big_quiet_step (first | (go_at_call 98; exact calm_of (rOff t _ _ (by omega) (by omega) (by omega) (by omega))) | (go_at_call 86; exact calm_of (rDepth t _ _ (by omega) (by omega) (by omega) (by omega)))))
    refine wpQuiet_nil ?_
    rintro _ ⟨p3, rfl⟩
    go_wp2
    go_ret
    exact ⟨ret_bool HF.out.symm, (by (repeat' (first | with_reducible exact Below.refl _ _ | (with_reducible refine below_later_of ?_ ?_ _) | (with_reducible refine Below.alloc ?_ ?_ _) | (with_reducible refine Below.setCell ?_ ?_ _) | (with_reducible refine Below.drew ?_) | (simp; done) | (simp; omega) | omega)))⟩
  · have HF := Lib.hid (show hidesP (offP t x) (depthP t z) (offP t x') (depthP t z') = false by unfold hidesP; simp [h])
    have h' : decide (offP t x < offP t x') = false := by simpa using h
    go_enter Try.func108, Try.ntmps108
    go_wp2
    refine wp_region_calm (by kernel_rfl) (by kernel_rfl) ?_
    repeat (go_big_quiet_step (first | (go_at_call 98; exact calm_of (rOff t _ _ (by omega) (by omega) (by omega) (by omega))) | (go_at_call 86; exact calm_of (rDepth t _ _ (by omega) (by omega) (by omega) (by omega)))))
    refine wpQuiet_nil ?_
    rintro _ ⟨p3, rfl⟩
    go_wp2
    go_ret
    exact ⟨ret_bool HF.out.symm, (by (repeat' (first | with_reducible exact Below.refl _ _ | (with_reducible refine below_later_of ?_ ?_ _) | (with_reducible refine Below.alloc ?_ ?_ _) | (with_reducible refine Below.setCell ?_ ?_ _) | (with_reducible refine Below.drew ?_) | (simp; done) | (simp; omega) | omega)))⟩
set_option maxHeartbeats 2000000 in
theorem rCovers (t : Trk) (x y z x' y' z' : Int) (w : World) (ot : t.Ok) (hx : Coo x) (hz : Coo z) (hx' : Coo x') (hz' : Coo z') {c : Bool} (hc : liesP (offP t x) (depthP t z) (offP t x') (depthP t z') = c) :
    Calls Try.prog 107 #[.agg #[.int .i64 t.sx, .int .i64 t.sy, .int .i64 t.sz, .int .i64 t.step, .int .i64 t.lines, .int .i64 t.near, .int .i64 t.bin, .int .i64 t.bins, .bool t.east], .agg #[.int .i64 x, .int .i64 y, .int .i64 z], .agg #[.int .i64 x', .int .i64 y', .int .i64 z']] w fun e w' => e = .returned (.bool c) ∧ Below w.heap.size w w' := by
  subst hc
  obtain ⟨x1, x2⟩ := hx
  obtain ⟨z1, z2⟩ := hz
  obtain ⟨x1', x2'⟩ := hx'
  obtain ⟨z1', z2'⟩ := hz'
  obtain ⟨sx1, sx2, -, -, sz1, sz2, -, -, -, -, -, -, -, -, -, -, -⟩ := ot
  by_cases h : offP t x < offP t x'
  · have hn : ¬ offP t x' < offP t x := by omega
    have hn' : decide (offP t x' < offP t x) = false := by simpa using hn
    have HF := Lib.hid (show liesP (offP t x) (depthP t z) (offP t x') (depthP t z') = decide (sqP (offP t x') (depthP t z') ≤ sqP (offP t x) (depthP t z)) by unfold liesP; simp [h, hn])
    generalize sqP (offP t x) (depthP t z) = u at HF
    by_cases g : sqP (offP t x') (depthP t z') ≤ sqP (offP t x) (depthP t z)
    · have hg : decide (sqP (offP t x') (depthP t z') ≤ sqP (offP t x) (depthP t z)) = true := by simpa using g
      have HG := Lib.hid (show liesP (offP t x) (depthP t z) (offP t x') (depthP t z') = true by unfold liesP; simp [h, hn, g])
      clear HF hn'
      go_enter Try.func107, Try.ntmps107
      go_wp2
      refine wp_region_calm (by kernel_rfl) (by kernel_rfl) ?_
      repeat (go_big_quiet_step (first | (go_at_call 100; exact calm_of (rSquareW t _ _ _ _ (by omega) (by omega) (by omega) (by omega) (by omega) (by omega) (by omega) (by omega)))))
      refine wpQuiet_nil ?_
      rintro _ ⟨p1, rfl⟩
      go_wp2
      refine wp_region_calm (by kernel_rfl) (by kernel_rfl) ?_
      repeat (go_big_quiet_step (first | (go_at_call 98; exact calm_of (rOff t _ _ (by omega) (by omega) (by omega) (by omega)))))
      refine wpQuiet_nil ?_
      rintro _ ⟨p2, rfl⟩
      go_wp2
      go_ret
      exact ⟨ret_bool HG.out.symm, (by (repeat' (first | with_reducible exact Below.refl _ _ | (with_reducible refine below_later_of ?_ ?_ _) | (with_reducible refine Below.alloc ?_ ?_ _) | (with_reducible refine Below.setCell ?_ ?_ _) | (with_reducible refine Below.drew ?_) | (simp; done) | (simp; omega) | omega)))⟩
    · have hg : decide (sqP (offP t x') (depthP t z') ≤ sqP (offP t x) (depthP t z)) = false := by simpa using g
      have HG := Lib.hid (show liesP (offP t x) (depthP t z) (offP t x') (depthP t z') = false by unfold liesP; simp [h, hn, g])
      clear HF
      go_enter Try.func107, Try.ntmps107
      go_wp2
      refine wp_region_calm (by kernel_rfl) (by kernel_rfl) ?_
      repeat (go_big_quiet_step (first | (go_at_call 100; exact calm_of (rSquareW t _ _ _ _ (by omega) (by omega) (by omega) (by omega) (by omega) (by omega) (by omega) (by omega)))))
      refine wpQuiet_nil ?_
      rintro _ ⟨p1, rfl⟩
      go_wp2
      refine wp_region_calm (by kernel_rfl) (by kernel_rfl) ?_
      repeat (go_big_quiet_step (first | (go_at_call 98; exact calm_of (rOff t _ _ (by omega) (by omega) (by omega) (by omega)))))
      refine wpQuiet_nil ?_
      rintro _ ⟨p2, rfl⟩
      go_wp2
      go_ret
      exact ⟨ret_bool HG.out.symm, (by (repeat' (first | with_reducible exact Below.refl _ _ | (with_reducible refine below_later_of ?_ ?_ _) | (with_reducible refine Below.alloc ?_ ?_ _) | (with_reducible refine Below.setCell ?_ ?_ _) | (with_reducible refine Below.drew ?_) | (simp; done) | (simp; omega) | omega)))⟩
  · have h' : decide (offP t x < offP t x') = false := by simpa using h
    by_cases k : offP t x' < offP t x
    · have HF := Lib.hid (show liesP (offP t x) (depthP t z) (offP t x') (depthP t z') = decide (sqP (offP t x) (depthP t z) ≤ sqP (offP t x') (depthP t z')) by unfold liesP; simp [h, k])
      go_enter Try.func107, Try.ntmps107
      go_wp2
      refine wp_region_calm (by kernel_rfl) (by kernel_rfl) ?_
      repeat (go_big_quiet_step (first | (go_at_call 100; exact calm_of (rSquareW t _ _ _ _ (by omega) (by omega) (by omega) (by omega) (by omega) (by omega) (by omega) (by omega)))))
      refine wpQuiet_nil ?_
      rintro _ ⟨p1, rfl⟩
      go_wp2
      refine wp_region_calm (by kernel_rfl) (by kernel_rfl) ?_
      repeat (go_big_quiet_step (first | (go_at_call 98; exact calm_of (rOff t _ _ (by omega) (by omega) (by omega) (by omega)))))
      refine wpQuiet_nil ?_
      rintro _ ⟨p2, rfl⟩
      go_wp2
      go_ret
      exact ⟨ret_bool HF.out.symm, (by (repeat' (first | with_reducible exact Below.refl _ _ | (with_reducible refine below_later_of ?_ ?_ _) | (with_reducible refine Below.alloc ?_ ?_ _) | (with_reducible refine Below.setCell ?_ ?_ _) | (with_reducible refine Below.drew ?_) | (simp; done) | (simp; omega) | omega)))⟩
    · have k' : decide (offP t x' < offP t x) = false := by simpa using k
      have HF := Lib.hid (show liesP (offP t x) (depthP t z) (offP t x') (depthP t z') = false by unfold liesP; simp [h, k])
      go_enter Try.func107, Try.ntmps107
      go_wp2
      refine wp_region_calm (by kernel_rfl) (by kernel_rfl) ?_
      repeat (go_big_quiet_step (first | (go_at_call 100; exact calm_of (rSquareW t _ _ _ _ (by omega) (by omega) (by omega) (by omega) (by omega) (by omega) (by omega) (by omega)))))
      refine wpQuiet_nil ?_
      rintro _ ⟨p1, rfl⟩
      go_wp2
      refine wp_region_calm (by kernel_rfl) (by kernel_rfl) ?_
      repeat (go_big_quiet_step (first | (go_at_call 98; exact calm_of (rOff t _ _ (by omega) (by omega) (by omega) (by omega)))))
      refine wpQuiet_nil ?_
      rintro _ ⟨p2, rfl⟩
      go_wp2
      go_ret
      exact ⟨ret_bool HF.out.symm, (by (repeat' (first | with_reducible exact Below.refl _ _ | (with_reducible refine below_later_of ?_ ?_ _) | (with_reducible refine Below.alloc ?_ ?_ _) | (with_reducible refine Below.setCell ?_ ?_ _) | (with_reducible refine Below.drew ?_) | (simp; done) | (simp; omega) | omega)))⟩
end Go.Proofs.Ytokpdmlmlkkekaa

/- Masks: the reference's view error. -/
namespace Go.Proofs.Ytokpdmlmlkkekaa
set_option linter.unusedVariables false
open Go.RowKit
/-- Blocks that hold a track; a relief. -/
def TrkBlk (w : World) (B : Nat) (t : Trk) : Prop := w.cell? ⟨B, 0, none⟩ = some (.int .i64 t.sx) ∧ w.cell? ⟨B, 1, none⟩ = some (.int .i64 t.sy) ∧ w.cell? ⟨B, 2, none⟩ = some (.int .i64 t.sz) ∧ w.cell? ⟨B, 3, none⟩ = some (.int .i64 t.step) ∧ w.cell? ⟨B, 4, none⟩ = some (.int .i64 t.lines) ∧ w.cell? ⟨B, 5, none⟩ = some (.int .i64 t.near) ∧ w.cell? ⟨B, 6, none⟩ = some (.int .i64 t.bin) ∧ w.cell? ⟨B, 7, none⟩ = some (.int .i64 t.bins) ∧ w.cell? ⟨B, 8, none⟩ = some (.bool t.east)
theorem TrkBlk.below {w w' : World} {B C : Nat} {t : Trk} (h : TrkBlk w B t) (hB : B < C) (hw : Below C w w') : TrkBlk w' B t := by
  obtain ⟨h0, h1, h2, h3, h4, h5, h6, h7, h8⟩ := h
  exact ⟨(hw.cell hB).trans h0, (hw.cell hB).trans h1, (hw.cell hB).trans h2, (hw.cell hB).trans h3, (hw.cell hB).trans h4, (hw.cell hB).trans h5, (hw.cell hB).trans h6, (hw.cell hB).trans h7, (hw.cell hB).trans h8⟩
def ReliefBlk (w : World) (B : Nat) (r : Rel) (a : Option Addr) (cap : Nat) : Prop := w.cell? ⟨B, 0, none⟩ = some (.int .i64 r.x) ∧ w.cell? ⟨B, 1, none⟩ = some (.int .i64 r.y) ∧ w.cell? ⟨B, 2, none⟩ = some (.int .i64 r.cell) ∧ w.cell? ⟨B, 3, none⟩ = some (.int .i64 r.rows) ∧ w.cell? ⟨B, 4, none⟩ = some (.int .i64 r.cols) ∧ w.cell? ⟨B, 5, none⟩ = some (.slice a r.ds.length cap)
theorem ReliefBlk.below {w w' : World} {B C : Nat} {r : Rel} {a : Option Addr} {cap : Nat} (h : ReliefBlk w B r a cap) (hB : B < C) (hw : Below C w w') : ReliefBlk w' B r a cap := by
  obtain ⟨h0, h1, h2, h3, h4, h5⟩ := h
  exact ⟨(hw.cell hB).trans h0, (hw.cell hB).trans h1, (hw.cell hB).trans h2, (hw.cell hB).trans h3, (hw.cell hB).trans h4, (hw.cell hB).trans h5⟩
theorem trkBlk_alloc (w : World) (t : Trk) (T : TypeId) : TrkBlk (w.alloc (.cells #[.int .i64 t.sx, .int .i64 t.sy, .int .i64 t.sz, .int .i64 t.step, .int .i64 t.lines, .int .i64 t.near, .int .i64 t.bin, .int .i64 t.bins, .bool t.east] T)) w.heap.size t :=
  ⟨World.cell?_alloc_new _ _ _ _, World.cell?_alloc_new _ _ _ _, World.cell?_alloc_new _ _ _ _, World.cell?_alloc_new _ _ _ _, World.cell?_alloc_new _ _ _ _, World.cell?_alloc_new _ _ _ _, World.cell?_alloc_new _ _ _ _, World.cell?_alloc_new _ _ _ _, World.cell?_alloc_new _ _ _ _⟩
theorem reliefBlk_alloc (w : World) (r : Rel) (a : Option Addr) (cap : Nat) (T : TypeId) : ReliefBlk (w.alloc (.cells #[.int .i64 r.x, .int .i64 r.y, .int .i64 r.cell, .int .i64 r.rows, .int .i64 r.cols, .slice a r.ds.length cap] T)) w.heap.size r a cap :=
  ⟨World.cell?_alloc_new _ _ _ _, World.cell?_alloc_new _ _ _ _, World.cell?_alloc_new _ _ _ _, World.cell?_alloc_new _ _ _ _, World.cell?_alloc_new _ _ _ _, World.cell?_alloc_new _ _ _ _⟩
def deepE (t : Trk) (r : Rel) (fi : Nat → Int) (k : Nat) : Int := if deepUpto t r fi k then 0 else 26
theorem deepE_succ (t : Trk) (r : Rel) (fi : Nat → Int) (k : Nat) : deepE t r fi (k + 1) = if 1 ≤ depK t r fi k then deepE t r fi k else 26 := by
  unfold deepE
  rw [deepUpto_succ]
  by_cases h : 1 ≤ depK t r fi k <;> simp [h]
theorem grid_len {r : Rel} (o : r.Ok) {nr nc : Nat} (hnr : r.rows = nr) (hnc : r.cols = nc) : nr * nc = r.ds.length := by
  have := o.len
  rw [hnr, hnc, ← Int.natCast_mul] at this
  exact (Int.ofNat_inj.1 this).symm
theorem offK_at (t : Trk) (r : Rel) {nc i j : Nat} (hnc : r.cols = nc) (hj : j < nc) : offK t r (i * nc + j) = offP t (pxP r j) := by
  unfold offK soP
  rw [show r.cols.toNat = nc by omega, Nat.mul_comm i nc, Nat.mul_add_mod, Nat.mod_eq_of_lt hj]
theorem depK_at (t : Trk) (r : Rel) (fi : Nat → Int) {nc i j : Nat} (hnc : r.cols = nc) (hj : j < nc) : depK t r fi (i * nc + j) = depthP t (fi (bitAt r.ds (idxP r i j))) := by
  unfold depK sdP
  rw [show r.cols.toNat = nc by omega, Nat.mul_comm i nc, Nat.mul_add_mod, Nat.mod_eq_of_lt hj, Nat.mul_add_div (by omega), Nat.div_eq_of_lt hj, Nat.add_zero]
set_option maxRecDepth 20000 in
set_option maxHeartbeats 4000000 in
theorem rViewErr (fe : Nat → Int) (t : Trk) (r : Rel) (fi : Nat → Int) (b off cap : Nat) (w : World) (ht : checkTrackP t = 0) (hr : relErrP fe r = 0) (hf : FlInts fi r.ds) (hbw : b < w.heap.size) (hc : FloatsAt w b off r.ds) {e0 : Int} (he : viewErrP fe fi t r = e0) :
    Calls Try.prog 73 #[.agg #[.int .i64 t.sx, .int .i64 t.sy, .int .i64 t.sz, .int .i64 t.step, .int .i64 t.lines, .int .i64 t.near, .int .i64 t.bin, .int .i64 t.bins, .bool t.east], .agg #[.int .i64 r.x, .int .i64 r.y, .int .i64 r.cell, .int .i64 r.rows, .int .i64 r.cols, .slice (some ⟨b, off, none⟩) r.ds.length cap]] w fun e w' => e = .returned (.int .i64 e0) ∧ Below w.heap.size w w' := by
  subst he
  have ot := checkTrackP_ok ht
  have o := (relErrP_ok hr).1
  have h00 : first2 (checkTrackP t) (relErrP fe r) = 0 := by unfold first2; rw [ht, hr]; rfl
  have HQ1 := Lib.hid (show BadOff t r → viewErrP fe fi t r = 15 from fun hb => by unfold viewErrP; rw [if_pos h00, if_pos hb])
  have HQ2 := Lib.hid (show ¬ BadOff t r → viewErrP fe fi t r = deepE t r fi r.ds.length from fun hb => by unfold viewErrP; rw [if_pos h00, if_neg hb]; rfl)
  have HFI := Lib.hid hf
  have HFC := Lib.hid hc
  have O := Lib.hid o
  obtain ⟨nr, hnr⟩ : ∃ nr : Nat, r.rows = nr := ⟨r.rows.toNat, by have := o.r1; omega⟩
  obtain ⟨nc, hnc⟩ : ∃ nc : Nat, r.cols = nc := ⟨r.cols.toNat, by have := o.l1; omega⟩
  have hlen := grid_len o hnr hnc
  have HLEN := Lib.hid hlen
  have HOK := Lib.hid (fun i j (hj : j < nc) => offK_at t r (i := i) hnc hj)
  have HDK := Lib.hid (fun i j (hj : j < nc) => depK_at t r fi (i := i) hnc hj)
  have HDS := Lib.hid (fun k => deepE_succ t r fi k)
  have HD0 := Lib.hid (show deepE t r fi 0 = 0 from rfl)
  obtain ⟨sx1, sx2, -, -, sz1, sz2, -, -, -, -, -, -, -, -, -, -, -⟩ := ot
  obtain ⟨rx1, rx2, -, -, c1, c2, r1, r2, l1, l2, -⟩ := o
  have hnr1 : (nr : Int) = r.rows := hnr.symm
  have hnc1 : (nc : Int) = r.cols := hnc.symm
  have HNR := Lib.hid hnr1
  have HNC := Lib.hid hnc1
  clear ht hr hf hc h00 hlen hnr hnc
  have a1 : (nr : Int) ≤ r.rows := by omega
  have a2 : r.rows ≤ (nr : Int) := by omega
  have a3 : (nc : Int) ≤ r.cols := by omega
  have a4 : r.cols ≤ (nc : Int) := by omega
  clear hnr1 hnc1
  go_enter Try.func73, Try.ntmps73
  go_wp2
  obtain ⟨W2, hW2, hT2, hR2, hB2, hs2⟩ : ∃ W2, (w.alloc (.cells #[.int .i64 t.sx, .int .i64 t.sy, .int .i64 t.sz, .int .i64 t.step, .int .i64 t.lines, .int .i64 t.near, .int .i64 t.bin, .int .i64 t.bins, .bool t.east] 25)).alloc (.cells #[.int .i64 r.x, .int .i64 r.y, .int .i64 r.cell, .int .i64 r.rows, .int .i64 r.cols, .slice (some ⟨b, off, none⟩) r.ds.length cap] 59) = W2 ∧ TrkBlk W2 w.heap.size t ∧ ReliefBlk W2 (w.heap.size + 1) r (some ⟨b, off, none⟩) cap ∧ Below w.heap.size w W2 ∧ w.heap.size + 1 < W2.heap.size :=
    ⟨_, rfl, (trkBlk_alloc w t _).below (C := w.heap.size + 1) (by omega) ((Below.refl _ _).alloc (by simp) _), by have := reliefBlk_alloc (w.alloc (.cells #[.int .i64 t.sx, .int .i64 t.sy, .int .i64 t.sz, .int .i64 t.step, .int .i64 t.lines, .int .i64 t.near, .int .i64 t.bin, .int .i64 t.bins, .bool t.east] 25)) r (some ⟨b, off, none⟩) cap 59; simpa using this, (by (repeat' (first | with_reducible exact Below.refl _ _ | (with_reducible refine below_later_of ?_ ?_ _) | (with_reducible refine Below.alloc ?_ ?_ _) | (with_reducible refine Below.setCell ?_ ?_ _) | (with_reducible refine Below.drew ?_) | (simp; done) | (simp; omega) | omega))), by simp⟩
  rw [hW2]
  have HT2 := Lib.hid hT2
  have HR2 := Lib.hid hR2
  have HB2 := Lib.hid hB2
  clear hW2 hT2 hR2 hB2
  go_loopw [5, 6] (fun e i wr => ∃ n : Nat, n ≤ nr ∧ i = .int .i64 n ∧ e = .int .i64 (deepE t r fi (n * nc)) ∧ Below W2.heap.size W2 wr ∧ ∀ j, j < n * nc → 0 < offK t r j) (fun _ i _ => nr - (intOf i).toNat)
  case atStart => exact ⟨0, Nat.zero_le _, rfl, by rw [Nat.zero_mul, HD0.out], Below.refl _ _, fun j hj => by rw [Nat.zero_mul] at hj; omega⟩
  case round =>
    obtain ⟨n, hn, rfl, rfl, hnx, hoff⟩ := hrel
    obtain ⟨wo, hwo⟩ : ∃ wo : World, wo = wr := ⟨_, rfl⟩
    subst hwo
    have HX := Lib.hid hnx
    have HOF := Lib.hid hoff
    obtain ⟨q0, q1, q2, q3, q4, q5⟩ := HR2.out.below hs2 hnx
    have hszo := hnx.size
    clear hnx hoff
    by_cases hlt : n < nr
    · have hdl : decide ((n : Int) < r.rows) = true := by simp; omega
      go_wp2
      clear q0 q1 q2 q3 q4 q5
      go_loopw [5, 7] (fun e k wr => ∃ m : Nat, m ≤ nc ∧ k = .int .i64 m ∧ e = .int .i64 (deepE t r fi (n * nc + m)) ∧ Below W2.heap.size W2 wr ∧ ∀ j, j < n * nc + m → 0 < offK t r j) (fun _ k _ => nc - (intOf k).toNat)
      case atStart => exact ⟨0, Nat.zero_le _, rfl, rfl, HX.out, HOF.out⟩
      case round =>
        obtain ⟨m, hm, rfl, rfl, hnx, hoff⟩ := hrel
        have HXI := Lib.hid hnx
        have HOI := Lib.hid hoff
        obtain ⟨q0, q1, q2, q3, q4, q5⟩ := HR2.out.below hs2 hnx
        obtain ⟨t0, t1, t2, t3, t4, t5, t6, t7, t8⟩ := HT2.out.below (show w.heap.size < W2.heap.size by omega) hnx
        have hszi := hnx.size
        have HFW := Lib.hid (HFC.out.below hbw (HB2.out.trans (hnx.mono (by omega))))
        have hbr : b < wr.heap.size := by omega
        clear hnx hoff
        by_cases hlm : m < nc
        · have hdm : decide ((m : Int) < r.cols) = true := by simp; omega
          obtain ⟨_, _, _, hil⟩ := idx_lt O.out (Int.natCast_nonneg n) (show (n : Int) < r.rows by omega) (Int.natCast_nonneg m) (show (m : Int) < r.cols by omega)
          obtain ⟨hi1, hi2, hi3⟩ := HFI.out _ hil
          have HOK2 := Lib.hid (HOK.out n m hlm)
          have HDK2 := Lib.hid (HDK.out n m hlm)
          have HDS2 := Lib.hid (HDS.out (n * nc + m))
          obtain ⟨u1, u2⟩ := cell_bd O.out (Int.natCast_nonneg m) (show (m : Int) ≤ 64 by omega)
          have hp : -100000000 ≤ pxP r m ∧ pxP r m ≤ 100065000 := by unfold pxP; omega
          obtain ⟨hp1, hp2⟩ := hp
          have hbad : offP t (pxP r m) < 1 → BadOff t r := fun h => ⟨n * nc + m, by
            rw [← HLEN.out]
            have : (n + 1) * nc ≤ nr * nc := Nat.mul_le_mul_right _ hlt
            rw [Nat.add_mul, Nat.one_mul] at this; omega, by rw [HOK2.out]; omega⟩
          have HBAD := Lib.hid hbad
          clear hbad
          generalize deepE t r fi (n * nc + m) = de at HDS2
          generalize fi (bitAt r.ds (idxP r n m)) = h at hi1 hi2 hi3 HDK2
          have HI := Lib.hid hi1
          clear hi1 hil
          by_cases ho : offP t (pxP r m) < 1
          · have HF := Lib.hid (show viewErrP fe fi t r = 15 from HQ1.out (HBAD.out ho))
            go_wp2_with (first | (go_at_call 75; refine (rPoint r b off cap _ _ h _ O.out (by omega) (by omega) (by omega) (by omega) (by first | omega | (simp; omega)) (HFW.out.below hbr (by (repeat' (first | with_reducible exact Below.refl _ _ | (with_reducible refine below_later_of ?_ ?_ _) | (with_reducible refine Below.alloc ?_ ?_ _) | (with_reducible refine Below.setCell ?_ ?_ _) | (with_reducible refine Below.drew ?_) | (simp; done) | (simp; omega) | omega)))) HI.out).mono ?_; rintro e w' ⟨rfl, hb⟩; obtain ⟨pp, rfl⟩ := later_of_below hb; clear hb) | (go_at_call 98; refine (rOff t _ _ (by omega) (by omega) (by omega) (by omega)).mono ?_; rintro e w' ⟨rfl, hb⟩; obtain ⟨pp, rfl⟩ := later_of_below hb; clear hb) | (go_at_call 86; refine (rDepth t _ _ (by omega) (by omega) (by omega) (by omega)).mono ?_; rintro e w' ⟨rfl, hb⟩; obtain ⟨pp, rfl⟩ := later_of_below hb; clear hb))
            go_ret
            exact ⟨ret_int HF.out.symm, HB2.out.trans ((HXI.out.trans (below_mono_of hszi (by (repeat' (first | with_reducible exact Below.refl _ _ | (with_reducible refine below_later_of ?_ ?_ _) | (with_reducible refine Below.alloc ?_ ?_ _) | (with_reducible refine Below.setCell ?_ ?_ _) | (with_reducible refine Below.drew ?_) | (simp; done) | (simp; omega) | omega))))).mono (by omega))⟩
          · have HO1 := Lib.hid (show 0 < offP t (pxP r m) by omega)
            by_cases hd : depthP t h < 1
            · have HDE := Lib.hid (show deepE t r fi (n * nc + (m + 1)) = 26 by rw [← Nat.add_assoc, HDS2.out, HDK2.out, if_neg (by omega)])
              go_wp2_with (first | (go_at_call 75; refine (rPoint r b off cap _ _ h _ O.out (by omega) (by omega) (by omega) (by omega) (by first | omega | (simp; omega)) (HFW.out.below hbr (by (repeat' (first | with_reducible exact Below.refl _ _ | (with_reducible refine below_later_of ?_ ?_ _) | (with_reducible refine Below.alloc ?_ ?_ _) | (with_reducible refine Below.setCell ?_ ?_ _) | (with_reducible refine Below.drew ?_) | (simp; done) | (simp; omega) | omega)))) HI.out).mono ?_; rintro e w' ⟨rfl, hb⟩; obtain ⟨pp, rfl⟩ := later_of_below hb; clear hb) | (go_at_call 98; refine (rOff t _ _ (by omega) (by omega) (by omega) (by omega)).mono ?_; rintro e w' ⟨rfl, hb⟩; obtain ⟨pp, rfl⟩ := later_of_below hb; clear hb) | (go_at_call 86; refine (rDepth t _ _ (by omega) (by omega) (by omega) (by omega)).mono ?_; rintro e w' ⟨rfl, hb⟩; obtain ⟨pp, rfl⟩ := later_of_below hb; clear hb))
              go_roundw
              case rel => exact ⟨m + 1, by omega, by go_num, by rw [HDE.out], HXI.out.trans (below_mono_of hszi (by (repeat' (first | with_reducible exact Below.refl _ _ | (with_reducible refine below_later_of ?_ ?_ _) | (with_reducible refine Below.alloc ?_ ?_ _) | (with_reducible refine Below.setCell ?_ ?_ _) | (with_reducible refine Below.drew ?_) | (simp; done) | (simp; omega) | omega)))), fun j hj => if e : j = n * nc + m then (by rw [e, HOK2.out]; exact HO1.out) else HOI.out j (by omega)⟩
              case measure => simp [intOf]; omega
            · have HDE := Lib.hid (show deepE t r fi (n * nc + (m + 1)) = de by rw [← Nat.add_assoc, HDS2.out, HDK2.out, if_pos (by omega)])
              go_wp2_with (first | (go_at_call 75; refine (rPoint r b off cap _ _ h _ O.out (by omega) (by omega) (by omega) (by omega) (by first | omega | (simp; omega)) (HFW.out.below hbr (by (repeat' (first | with_reducible exact Below.refl _ _ | (with_reducible refine below_later_of ?_ ?_ _) | (with_reducible refine Below.alloc ?_ ?_ _) | (with_reducible refine Below.setCell ?_ ?_ _) | (with_reducible refine Below.drew ?_) | (simp; done) | (simp; omega) | omega)))) HI.out).mono ?_; rintro e w' ⟨rfl, hb⟩; obtain ⟨pp, rfl⟩ := later_of_below hb; clear hb) | (go_at_call 98; refine (rOff t _ _ (by omega) (by omega) (by omega) (by omega)).mono ?_; rintro e w' ⟨rfl, hb⟩; obtain ⟨pp, rfl⟩ := later_of_below hb; clear hb) | (go_at_call 86; refine (rDepth t _ _ (by omega) (by omega) (by omega) (by omega)).mono ?_; rintro e w' ⟨rfl, hb⟩; obtain ⟨pp, rfl⟩ := later_of_below hb; clear hb))
              go_roundw
              case rel => exact ⟨m + 1, by omega, by go_num, by rw [HDE.out], HXI.out.trans (below_mono_of hszi (by (repeat' (first | with_reducible exact Below.refl _ _ | (with_reducible refine below_later_of ?_ ?_ _) | (with_reducible refine Below.alloc ?_ ?_ _) | (with_reducible refine Below.setCell ?_ ?_ _) | (with_reducible refine Below.drew ?_) | (simp; done) | (simp; omega) | omega)))), fun j hj => if e : j = n * nc + m then (by rw [e, HOK2.out]; exact HO1.out) else HOI.out j (by omega)⟩
              case measure => simp [intOf]; omega
        · obtain rfl : m = nc := by omega
          go_wp2
          go_roundw
          case rel => exact ⟨n + 1, by omega, by go_num, by rw [Nat.add_mul, Nat.one_mul], HXI.out, fun j hj => HOI.out j (by rw [Nat.add_mul, Nat.one_mul] at hj; exact hj)⟩
          case measure => simp [intOf]; omega
    · obtain rfl : n = nr := by omega
      have HF := Lib.hid (show viewErrP fe fi t r = deepE t r fi (n * nc) by
        rw [HLEN.out]
        refine HQ2.out ?_
        rintro ⟨k, h1, h2⟩
        have := HOF.out k (by rw [HLEN.out]; exact h1)
        omega)
      go_wp2
      go_ret
      exact ⟨ret_int HF.out.symm, HB2.out.trans (HX.out.mono (by omega))⟩
end Go.Proofs.Ytokpdmlmlkkekaa

/- Masks: the law's view error. -/
namespace Go.Proofs.Ytokpdmlmlkkekaa
set_option linter.unusedVariables false
open Go.RowKit
theorem rCheckRel_e (r : Rel) (a : Option Addr) (cap : Nat) (w : World) {e0 : Int} (he : relErrP feB r = e0) (hlen : r.ds.length ≤ 1000000000) (ha : SrcAt w a r.ds) :
    Calls Try.prog 43 #[.agg #[.int .i64 r.x, .int .i64 r.y, .int .i64 r.cell, .int .i64 r.rows, .int .i64 r.cols, .slice a r.ds.length cap]] w fun e w' => e = .returned (.int .i64 e0) ∧ Below w.heap.size w w' := by subst he; exact rCheckRelief r a cap w hlen ha
theorem rel_pos {r : Rel} (h : relErrP feB r = 0) : 0 < r.ds.length := by
  have o := (relErrP_ok h).1
  have h1 := o.len
  have : 1 * 1 ≤ r.rows * r.cols := Int.mul_le_mul o.r1 o.l1 (by omega) (by have := o.r1; omega)
  omega
set_option maxRecDepth 20000 in
set_option maxHeartbeats 1000000 in
theorem lViewErr (t : Trk) (r : Rel) (a : Option Addr) (cap : Nat) (w : World) (hl : r.ds.length ≤ 1000000000) (hs : SrcAt w a r.ds) {e0 : Int} (he : viewErrP feB intB t r = e0) :
    Calls Try.prog 35 #[.agg #[.int .i64 t.sx, .int .i64 t.sy, .int .i64 t.sz, .int .i64 t.step, .int .i64 t.lines, .int .i64 t.near, .int .i64 t.bin, .int .i64 t.bins, .bool t.east], .agg #[.int .i64 r.x, .int .i64 r.y, .int .i64 r.cell, .int .i64 r.rows, .int .i64 r.cols, .slice a r.ds.length cap]] w fun e w' => e = .returned (.int .i64 e0) ∧ Below w.heap.size w w' := by
  have HS := Lib.hid hs
  by_cases ht : checkTrackP t = 0
  · have HT := Lib.hid ht
    by_cases hr : relErrP feB r = 0
    · have HR := Lib.hid hr
      have HE := Lib.hid he
      have HFI := Lib.hid (flInts_any hr)
      obtain ⟨b, off, rfl, hbw, hfc⟩ := hs (rel_pos hr)
      have HFC := Lib.hid hfc
      clear ht hr he hfc hs
      go_enter Try.func35, Try.ntmps35
      go_wp2_with (first | (go_at_call 20; refine (rCheckTrack t _ HT.out).mono ?_; rintro e w' ⟨rfl, hb⟩; obtain ⟨pp, rfl⟩ := later_of_below hb; clear hb) | (go_at_call 43; refine (rCheckRel_e r _ cap _ HR.out (by omega) (HS.out.below (by (repeat' (first | with_reducible exact Below.refl _ _ | (with_reducible refine below_later_of ?_ ?_ _) | (with_reducible refine Below.alloc ?_ ?_ _) | (with_reducible refine Below.setCell ?_ ?_ _) | (with_reducible refine Below.drew ?_) | (simp; done) | (simp; omega) | omega))))).mono ?_; rintro e w' ⟨rfl, hb⟩; obtain ⟨pp, rfl⟩ := later_of_below hb; clear hb) | (go_at_call 73; refine (rViewErr feB t r intB b off cap _ HT.out HR.out HFI.out (by simp; omega) (HFC.out.below hbw (by (repeat' (first | with_reducible exact Below.refl _ _ | (with_reducible refine below_later_of ?_ ?_ _) | (with_reducible refine Below.alloc ?_ ?_ _) | (with_reducible refine Below.setCell ?_ ?_ _) | (with_reducible refine Below.drew ?_) | (simp; done) | (simp; omega) | omega)))) HE.out).mono ?_; rintro e w' ⟨rfl, hb⟩; obtain ⟨pp, rfl⟩ := later_of_below hb; clear hb))
      go_ret
      exact ⟨rfl, (by (repeat' (first | with_reducible exact Below.refl _ _ | (with_reducible refine below_later_of ?_ ?_ _) | (with_reducible refine Below.alloc ?_ ?_ _) | (with_reducible refine Below.setCell ?_ ?_ _) | (with_reducible refine Below.drew ?_) | (simp; done) | (simp; omega) | omega)))⟩
    · obtain ⟨e1, he1⟩ : ∃ e1, relErrP feB r = e1 := ⟨_, rfl⟩
      have hv : viewErrP feB intB t r = e1 := by unfold viewErrP first2; rw [if_pos ht, if_neg hr, he1]
      rw [hv] at he
      subst he
      rw [he1] at hr
      have HR := Lib.hid he1
      clear ht he1 hv hs
      go_enter Try.func35, Try.ntmps35
      go_wp2_with (first | (go_at_call 20; refine (rCheckTrack t _ HT.out).mono ?_; rintro e w' ⟨rfl, hb⟩; obtain ⟨pp, rfl⟩ := later_of_below hb; clear hb) | (go_at_call 43; refine (rCheckRel_e r _ cap _ HR.out (by omega) (HS.out.below (by (repeat' (first | with_reducible exact Below.refl _ _ | (with_reducible refine below_later_of ?_ ?_ _) | (with_reducible refine Below.alloc ?_ ?_ _) | (with_reducible refine Below.setCell ?_ ?_ _) | (with_reducible refine Below.drew ?_) | (simp; done) | (simp; omega) | omega))))).mono ?_; rintro e w' ⟨rfl, hb⟩; obtain ⟨pp, rfl⟩ := later_of_below hb; clear hb))
      go_ret
      exact ⟨rfl, (by (repeat' (first | with_reducible exact Below.refl _ _ | (with_reducible refine below_later_of ?_ ?_ _) | (with_reducible refine Below.alloc ?_ ?_ _) | (with_reducible refine Below.setCell ?_ ?_ _) | (with_reducible refine Below.drew ?_) | (simp; done) | (simp; omega) | omega)))⟩
  · obtain ⟨e1, he1⟩ : ∃ e1, checkTrackP t = e1 := ⟨_, rfl⟩
    have hv : viewErrP feB intB t r = e1 := by
      have h0 : first2 (checkTrackP t) (relErrP feB r) = e1 := by unfold first2; rw [if_neg ht, he1]
      unfold viewErrP; rw [h0, if_neg (by rw [← he1]; exact ht)]
    rw [hv] at he
    subst he
    rw [he1] at ht
    have HT := Lib.hid he1
    clear he1 hv hs
    go_enter Try.func35, Try.ntmps35
    go_wp2_with (first | (go_at_call 20; refine (rCheckTrack t _ HT.out).mono ?_; rintro e w' ⟨rfl, hb⟩; obtain ⟨pp, rfl⟩ := later_of_below hb; clear hb))
    go_ret
    exact ⟨rfl, (by (repeat' (first | with_reducible exact Below.refl _ _ | (with_reducible refine below_later_of ?_ ?_ _) | (with_reducible refine Below.alloc ?_ ?_ _) | (with_reducible refine Below.setCell ?_ ?_ _) | (with_reducible refine Below.drew ?_) | (simp; done) | (simp; omega) | omega)))⟩
end Go.Proofs.Ytokpdmlmlkkekaa
