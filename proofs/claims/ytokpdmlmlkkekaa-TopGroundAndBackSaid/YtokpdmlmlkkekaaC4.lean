/- Placed: pixels of points; which cells have a pixel. -/
import Derived.Test.YtokpdmlmlkkekaaC1
import Derived.Test.YtokpdmlmlkkekaaM1
namespace Go.Proofs.Ytokpdmlmlkkekaa
set_option linter.unusedVariables false
open Go.RowKit
set_option maxHeartbeats 1000000 in
theorem square_w (t : Trk) (x y z : Int) (w : World) (h1 : -100000000 ≤ t.sx) (h2 : t.sx ≤ 100000000) (h3 : -200000000 ≤ x) (h4 : x ≤ 200000000)
     (k1 : -100000000 ≤ t.sz) (k2 : t.sz ≤ 100000000) (k3 : -200000000 ≤ z) (k4 : z ≤ 200000000) :
    Calls Try.prog 92 #[.agg #[.int .i64 t.sx, .int .i64 t.sy, .int .i64 t.sz, .int .i64 t.step, .int .i64 t.lines, .int .i64 t.near, .int .i64 t.bin, .int .i64 t.bins, .bool t.east], .agg #[.int .i64 x, .int .i64 y, .int .i64 z]] w fun e w' => e = .returned (.int .i64 (offP t x * offP t x + depthP t z * depthP t z)) ∧ Below w.heap.size w w' := by
  have b1 := sq_bd (offP t x) 300000000 (by unfold offP; split <;> omega) (by unfold offP; split <;> omega)
  have b2 := sq_bd (depthP t z) 300000000 (by unfold depthP; omega) (by unfold depthP; omega)
  obtain ⟨b11, b12⟩ := b1
  obtain ⟨b21, b22⟩ := b2
  go_enter Try.func92, Try.ntmps92
  go_wp2
  refine wp_region_calm (by kernel_rfl) (by kernel_rfl) ?_
  repeat (go_big_quiet_step (first | (go_at_call 94; exact calm_of (off_any t _ _ (by omega) (by omega) (by omega) (by omega))) | (go_at_call 80; exact calm_of (depth_any t _ _ (by omega) (by omega) (by omega) (by omega)))))
  refine wpQuiet_nil ?_
  rintro _ ⟨p1, rfl⟩
  go_wp2
  go_ret
  exact ⟨rfl, (by (repeat' (first | with_reducible exact Below.refl _ _ | (with_reducible refine below_later_of ?_ ?_ _) | (with_reducible refine Below.alloc ?_ ?_ _) | (with_reducible refine Below.setCell ?_ ?_ _) | (with_reducible refine Below.drew ?_) | (simp; done) | (simp; omega) | omega)))⟩
theorem sq_w {t : Trk} {x z : Int} (ot : t.Ok) (hx : Coo x) (hz : Coo z) : 0 ≤ squareP t x z ∧ squareP t x z ≤ 180000000000000000 := by
  obtain ⟨h3, h4⟩ := hx
  obtain ⟨k3, k4⟩ := hz
  have := ot.sx1; have := ot.sx2; have := ot.sz1; have := ot.sz2
  have b1 := sq_bd (offP t x) 300000000 (by unfold offP; split <;> omega) (by unfold offP; split <;> omega)
  have b2 := sq_bd (depthP t z) 300000000 (by unfold depthP; omega) (by unfold depthP; omega)
  unfold squareP
  omega
set_option maxHeartbeats 1000000 in
theorem pixel_w (t : Trk) (x y z : Int) (w : World) (o : t.Ok) (hx : Coo x) (hy : Coo y) (hz : Coo z) :
    Calls Try.prog 93 #[.agg #[.int .i64 t.sx, .int .i64 t.sy, .int .i64 t.sz, .int .i64 t.step, .int .i64 t.lines, .int .i64 t.near, .int .i64 t.bin, .int .i64 t.bins, .bool t.east], .agg #[.int .i64 x, .int .i64 y, .int .i64 z]] w
      fun e w' => e = .returned (.agg #[.int .i64 (lineP t y), .int .i64 (binP t (rootP (squareP t x z)))]) ∧ Below w.heap.size w w' := by
  have O := Lib.hid o
  obtain ⟨s1, s2⟩ := sq_w o hx hz
  obtain ⟨h_sx1, h_sx2, h_sy1, h_sy2, h_sz1, h_sz2, -, -, -, -, -, h_ne1, h_ne2, h_bi1, h_bi2, -, -⟩ := o
  obtain ⟨x1, x2⟩ := hx
  obtain ⟨y1, y2⟩ := hy
  obtain ⟨z1, z2⟩ := hz
  unfold squareP at s1 s2 ⊢
  have r1 := rootP_spec _ s1 (by omega)
  have r2 := rootP_le _ s1 (by omega)
  obtain ⟨r0, -, -⟩ := r1
  go_enter Try.func93, Try.ntmps93
  go_wp2
  refine wp_region_calm_tail 17 (by kernel_rfl) (by kernel_rfl) ?_
  simp only [List.take_succ_cons, List.take_zero, List.drop_succ_cons, List.drop_zero]
  repeat (go_big_quiet_step (first | (go_at_call 90; exact calm_of (line_any t _ _ O.out (by omega) (by omega))) | (go_at_call 92; exact calm_of (square_w t _ _ _ _ (by omega) (by omega) (by omega) (by omega) (by omega) (by omega) (by omega) (by omega))) | (go_at_call 82; exact calm_same (root_any _ _ (by omega) (by omega))) | (go_at_call 133; exact calm_same (floor_any _ _ _ (by omega) (by omega) (by omega) (by omega) (by omega)))))
  refine wpQuiet_nil ?_
  rintro _ ⟨p1, rfl⟩
  go_wp2
  refine bodyPost_ret ?_ rfl ⟨rfl, (by (repeat' (first | with_reducible exact Below.refl _ _ | (with_reducible refine below_later_of ?_ ?_ _) | (with_reducible refine Below.alloc ?_ ?_ _) | (with_reducible refine Below.setCell ?_ ?_ _) | (with_reducible refine Below.drew ?_) | (simp; done) | (simp; omega) | omega)))⟩
  first | (simp [results, Try.results93, go_sem, binP]; done) | simp [results, Try.results93, go_sem, binP, ↓IntWalk.iteOmega]
/-- The pixel of the point of a cell. -/
def pixLP (t : Trk) (r : Rel) (row : Int) : Int := lineP t (pyP r row)
def pixBP (t : Trk) (r : Rel) (fi : Nat → Int) (row col : Int) : Int := binP t (rootP (squareP t (pxP r col) (fi (bitAt r.ds (idxP r row col)))))
def hitB (t : Trk) (r : Rel) (fi : Nat → Int) (u v : Int) (row col : Int) : Bool := (pixLP t r row == u) && (pixBP t r fi row col == v)
/-- The first k cells, row by row, that have the pixel (u, v): their numbers. -/
def plRow (t : Trk) (r : Rel) (fi : Nat → Int) (u v : Int) (row : Nat) : Nat → List Value
  | 0 => []
  | k + 1 => plRow t r fi u v row k ++ if hitB t r fi u v row k then [.int .i64 row, .int .i64 k] else []
def plGrid (t : Trk) (r : Rel) (fi : Nat → Int) (u v : Int) : Nat → List Value
  | 0 => []
  | n + 1 => plGrid t r fi u v n ++ plRow t r fi u v n r.cols.toNat
def cnRow (t : Trk) (r : Rel) (fi : Nat → Int) (u v : Int) (row : Nat) : Nat → Nat
  | 0 => 0
  | k + 1 => cnRow t r fi u v row k + if hitB t r fi u v row k then 1 else 0
def cnGrid (t : Trk) (r : Rel) (fi : Nat → Int) (u v : Int) : Nat → Nat
  | 0 => 0
  | n + 1 => cnGrid t r fi u v n + cnRow t r fi u v n r.cols.toNat
theorem cnRow_le (t : Trk) (r : Rel) (fi : Nat → Int) (u v : Int) (row : Nat) : ∀ k, cnRow t r fi u v row k ≤ k
  | 0 => Nat.le_refl _
  | k + 1 => by
    have := cnRow_le t r fi u v row k
    unfold cnRow
    split <;> omega
theorem cnGrid_le (t : Trk) (r : Rel) (fi : Nat → Int) (u v : Int) (h : r.cols.toNat ≤ 64) : ∀ n, cnGrid t r fi u v n ≤ n * 64
  | 0 => Nat.le_refl _
  | n + 1 => by
    have := cnGrid_le t r fi u v h n
    have := cnRow_le t r fi u v n r.cols.toNat
    unfold cnGrid
    omega
end Go.Proofs.Ytokpdmlmlkkekaa
