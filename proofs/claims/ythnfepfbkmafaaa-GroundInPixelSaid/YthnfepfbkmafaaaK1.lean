/- Reliefs: heights, points, sights. -/
import Derived.Test.YthnfepfbkmafaaaA5
import Derived.Test.YthnfepfbkmafaaaL2
import Derived.Test.YthnfepfbkmafaaaP3
namespace Go.Proofs.Ythnfepfbkmafaaa
set_option linter.unusedVariables false
open Go.RowKit
/-- A relief; its heights as bits. -/
structure Rel where
  x : Int
  y : Int
  cell : Int
  rows : Int
  cols : Int
  ds : List Nat
def bitAt (ds : List Nat) (k : Nat) : Nat := ds[k]?.getD 0
/-- The cells from (b, off) on hold these floats. -/
def FloatsAt (w : World) (b off : Nat) (ds : List Nat) : Prop := ∀ k, k < ds.length → w.cell? ⟨b, off + k, none⟩ = some (.float .f32 (bitAt ds k))
theorem FloatsAt.below {w w' : World} {b off B : Nat} {ds : List Nat} (h : FloatsAt w b off ds) (hb : b < B) (hw : Below B w w') : FloatsAt w' b off ds := fun k hk =>
  (hw.cell (p := ⟨b, off + k, none⟩) hb).trans (h k hk)
/-- A float is cut to this integer. -/
def FlInt (b : Nat) (h : Int) : Prop := ∀ w, (convert 75 3 (.float .f32 b)).run Try.prog w = .ok (.int .i64 h) w
set_option maxHeartbeats 400000 in
theorem height_any (r : Rel) (b off cap : Nat) (row col : Int) (k : Nat) (h : Int) (w : World) (hk : row * r.cols + col = (k : Int)) (p1 : 0 ≤ row * r.cols) (p2 : row * r.cols ≤ 1000000) (q1 : 0 ≤ col) (q2 : col ≤ 1000000)
    (hlt : k < r.ds.length) (hbw : b < w.heap.size) (hc : w.cell? ⟨b, off + k, none⟩ = some (.float .f32 (bitAt r.ds k))) (hi : FlInt (bitAt r.ds k) h) :
    Calls Try.prog 107 #[.agg #[.int .i64 r.x, .int .i64 r.y, .int .i64 r.cell, .int .i64 r.rows, .int .i64 r.cols, .slice (some ⟨b, off, none⟩) r.ds.length cap], .int .i64 row, .int .i64 col] w fun e w' => e = .returned (.int .i64 h) ∧ Below w.heap.size w w' := by
  unfold FlInt at hi
  go_enter Try.func107, Try.ntmps107
  go_wp2
  go_ret
  exact ⟨rfl, (by (repeat' (first | with_reducible exact Below.refl _ _ | (with_reducible refine below_later_of ?_ ?_ _) | (with_reducible refine Below.alloc ?_ ?_ _) | (with_reducible refine Below.setCell ?_ ?_ _) | (with_reducible refine Below.drew ?_) | (simp; done) | (simp; omega) | omega)))⟩
def pxP (r : Rel) (col : Int) : Int := r.x + col * r.cell + r.cell / 2
def pyP (r : Rel) (row : Int) : Int := r.y + row * r.cell + r.cell / 2
/-- What is right of a relief's sizes. -/
structure Rel.Ok (r : Rel) : Prop where
  x1 : -100000000 ≤ r.x
  x2 : r.x ≤ 100000000
  y1 : -100000000 ≤ r.y
  y2 : r.y ≤ 100000000
  c1 : 1 ≤ r.cell
  c2 : r.cell ≤ 1000
  r1 : 1 ≤ r.rows
  r2 : r.rows ≤ 64
  l1 : 1 ≤ r.cols
  l2 : r.cols ≤ 64
  len : (r.ds.length : Int) = r.rows * r.cols
def idxP (r : Rel) (row col : Int) : Nat := (row * r.cols + col).toNat
theorem idx_lt {r : Rel} (o : r.Ok) {row col : Int} (a1 : 0 ≤ row) (a2 : row < r.rows) (b1 : 0 ≤ col) (b2 : col < r.cols) :
    row * r.cols + col = (idxP r row col : Int) ∧ 0 ≤ row * r.cols ∧ row * r.cols ≤ 4096 ∧ idxP r row col < r.ds.length := by
  have h1 := mul_bd a1 (show row ≤ 64 by have := o.r2; omega) (show 0 ≤ r.cols by omega) o.l2
  have h2 : (row + 1) * r.cols ≤ r.rows * r.cols := Int.mul_le_mul_of_nonneg_right (by omega) (by omega)
  rw [Int.add_mul, Int.one_mul] at h2
  have h3 := o.len
  unfold idxP
  generalize row * r.cols = m at h1 h2 ⊢
  generalize r.rows * r.cols = n at h2 h3
  omega
theorem cell_bd {r : Rel} (o : r.Ok) {k : Int} (a1 : 0 ≤ k) (a2 : k ≤ 64) : 0 ≤ k * r.cell ∧ k * r.cell ≤ 64000 :=
  mul_bd a1 a2 (by have := o.c1; omega) o.c2
set_option maxHeartbeats 2000000 in
theorem point_any (r : Rel) (b off cap : Nat) (row col : Int) (h : Int) (w : World) (o : r.Ok) (a1 : 0 ≤ row) (a2 : row < r.rows) (b1 : 0 ≤ col) (b2 : col < r.cols)
    (hbw : b < w.heap.size) (hc : FloatsAt w b off r.ds) (hi : FlInt (bitAt r.ds (idxP r row col)) h) :
    Calls Try.prog 127 #[.agg #[.int .i64 r.x, .int .i64 r.y, .int .i64 r.cell, .int .i64 r.rows, .int .i64 r.cols, .slice (some ⟨b, off, none⟩) r.ds.length cap], .int .i64 row, .int .i64 col] w fun e w' => e = .returned (.agg #[.int .i64 (pxP r col), .int .i64 (pyP r row), .int .i64 h]) ∧ Below w.heap.size w w' := by
  obtain ⟨hk, p1, p2, hlt⟩ := idx_lt o a1 a2 b1 b2
  have HC := Lib.hid (hc _ hlt)
  have HK := Lib.hid hk
  have HI := Lib.hid hi
  obtain ⟨u1, u2⟩ := cell_bd o b1 (show col ≤ 64 by have := o.l2; omega)
  obtain ⟨v1, v2⟩ := cell_bd o a1 (show row ≤ 64 by have := o.r2; omega)
  obtain ⟨x1, x2, y1, y2, c1, c2, r1, r2, l1, l2, -⟩ := o
  unfold pxP pyP
  clear hc hk hi
  go_enter Try.func127, Try.ntmps127
  go_wp2
  refine wp_region_calm_tail 33 (by kernel_rfl) (by kernel_rfl) ?_
  simp only [List.take_succ_cons, List.take_zero, List.drop_succ_cons, List.drop_zero]
  repeat (go_big_quiet_step (first | (go_at_call 107; exact calm_of (height_any r b off cap _ _ _ h _ HK.out (by omega) (by omega) (by omega) (by omega) (by omega) (by simp; omega) (by (first | (simp [go_sem]; done) | simp [go_sem, ↓IntWalk.iteOmega]); exact HC.out) HI.out))))
  refine wpQuiet_nil ?_
  rintro _ ⟨p1, rfl⟩
  go_wp2
  refine bodyPost_ret ?_ rfl ⟨rfl, (by (repeat' (first | with_reducible exact Below.refl _ _ | (with_reducible refine below_later_of ?_ ?_ _) | (with_reducible refine Below.alloc ?_ ?_ _) | (with_reducible refine Below.setCell ?_ ?_ _) | (with_reducible refine Below.drew ?_) | (simp; done) | (simp; omega) | omega)))⟩
  first | (simp [results, Try.results127, go_sem]; done) | simp [results, Try.results127, go_sem, ↓IntWalk.iteOmega]
set_option maxHeartbeats 2000000 in
theorem sight_any (t : Trk) (r : Rel) (b off cap : Nat) (row col : Int) (h : Int) (w : World) (ot : t.Ok) (o : r.Ok) (a1 : 0 ≤ row) (a2 : row < r.rows) (b1 : 0 ≤ col) (b2 : col < r.cols)
    (hbw : b < w.heap.size) (hc : FloatsAt w b off r.ds) (hi : FlInt (bitAt r.ds (idxP r row col)) h) (h1 : -1000000 ≤ h) (h2 : h ≤ 1000000) :
    Calls Try.prog 137 #[.agg #[.int .i64 t.sx, .int .i64 t.sy, .int .i64 t.sz, .int .i64 t.step, .int .i64 t.lines, .int .i64 t.near, .int .i64 t.bin, .int .i64 t.bins, .bool t.east, .int .i64 r.x, .int .i64 r.y, .int .i64 r.cell, .int .i64 r.rows, .int .i64 r.cols, .slice (some ⟨b, off, none⟩) r.ds.length cap], .int .i64 row, .int .i64 col] w fun e w' => e = .returned (.agg #[.int .i64 (offP t (pxP r col)), .int .i64 (depthP t h)]) ∧ Below w.heap.size w w' := by
  have HF := Lib.hid hc
  have HI := Lib.hid hi
  have O := Lib.hid o
  obtain ⟨u1, u2⟩ := cell_bd o b1 (show col ≤ 64 by have := o.l2; omega)
  have hp : -100000000 ≤ pxP r col ∧ pxP r col ≤ 100065000 := by
    have := o.x1; have := o.x2; have := o.c1; have := o.c2; unfold pxP; omega
  obtain ⟨hp1, hp2⟩ := hp
  obtain ⟨sx1, sx2, -, -, sz1, sz2, -, -, -, -, -, -, -, -, -, -, -⟩ := ot
  obtain ⟨x1, x2, y1, y2, c1, c2, r1, r2, l1, l2, -⟩ := o
  clear hc hi
  go_enter Try.func137, Try.ntmps137
  go_wp2_with (first | (go_at_call 127; refine (point_any r b off cap _ _ h _ O.out (by omega) (by omega) (by omega) (by omega) (by simp; omega) (HF.out.below hbw (by (repeat' (first | with_reducible exact Below.refl _ _ | (with_reducible refine below_later_of ?_ ?_ _) | (with_reducible refine Below.alloc ?_ ?_ _) | (with_reducible refine Below.setCell ?_ ?_ _) | (with_reducible refine Below.drew ?_) | (simp; done) | (simp; omega) | omega)))) HI.out).mono ?_; rintro e w' ⟨rfl, hb⟩; obtain ⟨pp, rfl⟩ := later_of_below hb; clear hb))
  refine wp_region_calm_tail 11 (by kernel_rfl) (by kernel_rfl) ?_
  simp only [List.take_succ_cons, List.take_zero, List.drop_succ_cons, List.drop_zero]
  repeat (go_big_quiet_step (first | (go_at_call 88; exact calm_of (off_any t _ _ (by omega) (by omega) (by omega) (by omega))) | (go_at_call 74; exact calm_of (depth_any t _ _ (by omega) (by omega) (by omega) (by omega)))))
  refine wpQuiet_nil ?_
  rintro _ ⟨p1, rfl⟩
  go_wp2
  refine bodyPost_ret ?_ rfl ⟨rfl, (by (repeat' (first | with_reducible exact Below.refl _ _ | (with_reducible refine below_later_of ?_ ?_ _) | (with_reducible refine Below.alloc ?_ ?_ _) | (with_reducible refine Below.setCell ?_ ?_ _) | (with_reducible refine Below.drew ?_) | (simp; done) | (simp; omega) | omega)))⟩
  first | (simp [results, Try.results137, go_sem]; done) | simp [results, Try.results137, go_sem, ↓IntWalk.iteOmega]
end Go.Proofs.Ythnfepfbkmafaaa
