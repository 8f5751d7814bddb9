import Derived.Test.YtokpdmlmlkkekaaZA
import Derived.Test.YtokpdmlmlkkekaaZL
import Derived.Test.YtokpdmlmlkkekaaZG
import Derived.TacticsIn
import Derived.BigFrameIn
import Derived.OwnWalkIn
import Derived.TacticsInMore
import Derived.LoopNIn
import Derived.LoopIn
import Derived.Shelf.Abstract
/- Reliefs: heights, points, sights. -/
namespace Go.Proofs.Ytokpdmlmlkkekaa
set_option linter.unusedVariables false
open Go.RowKit
/-- A relief; its heights as bits. -/
structure Rel where
  x : Int
  y : Int
  cell : Int
  rows : Int
  cols : Int
  ds : List Nat
def bitAt (ds : List Nat) (k : Nat) : Nat := ds[k]?.getD 0
/-- The cells from (b, off) on hold these floats. -/
def FloatsAt (w : World) (b off : Nat) (ds : List Nat) : Prop := ∀ k, k < ds.length → w.cell? ⟨b, off + k, none⟩ = some (.float .f32 (bitAt ds k))
theorem FloatsAt.below {w w' : World} {b off B : Nat} {ds : List Nat} (h : FloatsAt w b off ds) (hb : b < B) (hw : Below B w w') : FloatsAt w' b off ds := fun k hk =>
  (hw.cell (p := ⟨b, off + k, none⟩) hb).trans (h k hk)
/-- A float is cut to this integer. -/
def FlInt (b : Nat) (h : Int) : Prop := ∀ w, (convert 75 3 (.float .f32 b)).run Try.prog w = .ok (.int .i64 h) w
set_option maxHeartbeats 400000 in
theorem height_any (r : Rel) (b off cap : Nat) (row col : Int) (k : Nat) (h : Int) (w : World) (hk : row * r.cols + col = (k : Int)) (p1 : 0 ≤ row * r.cols) (p2 : row * r.cols ≤ 1000000) (q1 : 0 ≤ col) (q2 : col ≤ 1000000)
    (hlt : k < r.ds.length) (hbw : b < w.heap.size) (hc : w.cell? ⟨b, off + k, none⟩ = some (.float .f32 (bitAt r.ds k))) (hi : FlInt (bitAt r.ds k) h) :
    Calls Try.prog 111 #[.agg #[.int .i64 r.x, .int .i64 r.y, .int .i64 r.cell, .int .i64 r.rows, .int .i64 r.cols, .slice (some ⟨b, off, none⟩) r.ds.length cap], .int .i64 row, .int .i64 col] w fun e w' => e = .returned (.int .i64 h) ∧ Below w.heap.size w w' := by
  unfold FlInt at hi
  go_enter Try.func111, Try.ntmps111
  go_wp2
  go_ret
  exact ⟨rfl, (by (repeat' (first | with_reducible exact Below.refl _ _ | (with_reducible refine below_later_of ?_ ?_ _) | (with_reducible refine Below.alloc ?_ ?_ _) | (with_reducible refine Below.setCell ?_ ?_ _) | (with_reducible refine Below.drew ?_) | (simp; done) | (simp; omega) | omega)))⟩
def pxP (r : Rel) (col : Int) : Int := r.x + col * r.cell + r.cell / 2
def pyP (r : Rel) (row : Int) : Int := r.y + row * r.cell + r.cell / 2
/-- What is right of a relief's sizes. -/
structure Rel.Ok (r : Rel) : Prop where
  x1 : -100000000 ≤ r.x
  x2 : r.x ≤ 100000000
  y1 : -100000000 ≤ r.y
  y2 : r.y ≤ 100000000
  c1 : 1 ≤ r.cell
  c2 : r.cell ≤ 1000
  r1 : 1 ≤ r.rows
  r2 : r.rows ≤ 64
  l1 : 1 ≤ r.cols
  l2 : r.cols ≤ 64
  len : (r.ds.length : Int) = r.rows * r.cols
def idxP (r : Rel) (row col : Int) : Nat := (row * r.cols + col).toNat
theorem idx_lt {r : Rel} (o : r.Ok) {row col : Int} (a1 : 0 ≤ row) (a2 : row < r.rows) (b1 : 0 ≤ col) (b2 : col < r.cols) :
    row * r.cols + col = (idxP r row col : Int) ∧ 0 ≤ row * r.cols ∧ row * r.cols ≤ 4096 ∧ idxP r row col < r.ds.length := by
  have h1 := mul_bd a1 (show row ≤ 64 by have := o.r2; omega) (show 0 ≤ r.cols by omega) o.l2
  have h2 : (row + 1) * r.cols ≤ r.rows * r.cols := Int.mul_le_mul_of_nonneg_right (by omega) (by omega)
  rw [Int.add_mul, Int.one_mul] at h2
  have h3 := o.len
  unfold idxP
  generalize row * r.cols = m at h1 h2 ⊢
  generalize r.rows * r.cols = n at h2 h3
  omega
theorem cell_bd {r : Rel} (o : r.Ok) {k : Int} (a1 : 0 ≤ k) (a2 : k ≤ 64) : 0 ≤ k * r.cell ∧ k * r.cell ≤ 64000 :=
  mul_bd a1 a2 (by have := o.c1; omega) o.c2
set_option maxHeartbeats 2000000 in
theorem point_any (r : Rel) (b off cap : Nat) (row col : Int) (h : Int) (w : World) (o : r.Ok) (a1 : 0 ≤ row) (a2 : row < r.rows) (b1 : 0 ≤ col) (b2 : col < r.cols)
    (hbw : b < w.heap.size) (hc : FloatsAt w b off r.ds) (hi : FlInt (bitAt r.ds (idxP r row col)) h) :
    Calls Try.prog 131 #[.agg #[.int .i64 r.x, .int .i64 r.y, .int .i64 r.cell, .int .i64 r.rows, .int .i64 r.cols, .slice (some ⟨b, off, none⟩) r.ds.length cap], .int .i64 row, .int .i64 col] w fun e w' => e = .returned (.agg #[.int .i64 (pxP r col), .int .i64 (pyP r row), .int .i64 h]) ∧ Below w.heap.size w w' := by
  obtain ⟨hk, p1, p2, hlt⟩ := idx_lt o a1 a2 b1 b2
  have HC := Lib.hid (hc _ hlt)
  have HK := Lib.hid hk
  have HI := Lib.hid hi
  obtain ⟨u1, u2⟩ := cell_bd o b1 (show col ≤ 64 by have := o.l2; omega)
  obtain ⟨v1, v2⟩ := cell_bd o a1 (show row ≤ 64 by have := o.r2; omega)
  obtain ⟨x1, x2, y1, y2, c1, c2, r1, r2, l1, l2, -⟩ := o
  unfold pxP pyP
  clear hc hk hi
  go_enter Try.func131, Try.ntmps131
  go_wp2
  refine wp_region_calm_tail 33 (by kernel_rfl) (by kernel_rfl) ?_
  simp only [List.take_succ_cons, List.take_zero, List.drop_succ_cons, List.drop_zero]
  repeat (go_big_quiet_step (first | (go_at_call 111; exact calm_of (height_any r b off cap _ _ _ h _ HK.out (by omega) (by omega) (by omega) (by omega) (by omega) (by simp; omega) (by (first | (simp [go_sem]; done) | simp [go_sem, ↓IntWalk.iteOmega]); exact HC.out) HI.out))))
  refine wpQuiet_nil ?_
  rintro _ ⟨p1, rfl⟩
  go_wp2
  refine bodyPost_ret ?_ rfl ⟨rfl, (by (repeat' (first | with_reducible exact Below.refl _ _ | (with_reducible refine below_later_of ?_ ?_ _) | (with_reducible refine Below.alloc ?_ ?_ _) | (with_reducible refine Below.setCell ?_ ?_ _) | (with_reducible refine Below.drew ?_) | (simp; done) | (simp; omega) | omega)))⟩
  first | (simp [results, Try.results131, go_sem]; done) | simp [results, Try.results131, go_sem, ↓IntWalk.iteOmega]
set_option maxHeartbeats 2000000 in
theorem sight_any (t : Trk) (r : Rel) (b off cap : Nat) (row col : Int) (h : Int) (w : World) (ot : t.Ok) (o : r.Ok) (a1 : 0 ≤ row) (a2 : row < r.rows) (b1 : 0 ≤ col) (b2 : col < r.cols)
    (hbw : b < w.heap.size) (hc : FloatsAt w b off r.ds) (hi : FlInt (bitAt r.ds (idxP r row col)) h) (h1 : -1000000 ≤ h) (h2 : h ≤ 1000000) :
    Calls Try.prog 141 #[.agg #[.int .i64 t.sx, .int .i64 t.sy, .int .i64 t.sz, .int .i64 t.step, .int .i64 t.lines, .int .i64 t.near, .int .i64 t.bin, .int .i64 t.bins, .bool t.east, .int .i64 r.x, .int .i64 r.y, .int .i64 r.cell, .int .i64 r.rows, .int .i64 r.cols, .slice (some ⟨b, off, none⟩) r.ds.length cap], .int .i64 row, .int .i64 col] w fun e w' => e = .returned (.agg #[.int .i64 (offP t (pxP r col)), .int .i64 (depthP t h)]) ∧ Below w.heap.size w w' := by
  have HF := Lib.hid hc
  have HI := Lib.hid hi
  have O := Lib.hid o
  obtain ⟨u1, u2⟩ := cell_bd o b1 (show col ≤ 64 by have := o.l2; omega)
  have hp : -100000000 ≤ pxP r col ∧ pxP r col ≤ 100065000 := by
    have := o.x1; have := o.x2; have := o.c1; have := o.c2; unfold pxP; omega
  obtain ⟨hp1, hp2⟩ := hp
  obtain ⟨sx1, sx2, -, -, sz1, sz2, -, -, -, -, -, -, -, -, -, -, -⟩ := ot
  obtain ⟨x1, x2, y1, y2, c1, c2, r1, r2, l1, l2, -⟩ := o
  clear hc hi
  go_enter Try.func141, Try.ntmps141
  go_wp2_with (first | (go_at_call 131; refine (point_any r b off cap _ _ h _ O.out (by omega) (by omega) (by omega) (by omega) (by simp; omega) (HF.out.below hbw (by (repeat' (first | with_reducible exact Below.refl _ _ | (with_reducible refine below_later_of ?_ ?_ _) | (with_reducible refine Below.alloc ?_ ?_ _) | (with_reducible refine Below.setCell ?_ ?_ _) | (with_reducible refine Below.drew ?_) | (simp; done) | (simp; omega) | omega)))) HI.out).mono ?_; rintro e w' ⟨rfl, hb⟩; obtain ⟨pp, rfl⟩ := later_of_below hb; clear hb))
  refine wp_region_calm_tail 11 (by kernel_rfl) (by kernel_rfl) ?_
  simp only [List.take_succ_cons, List.take_zero, List.drop_succ_cons, List.drop_zero]
  repeat (go_big_quiet_step (first | (go_at_call 94; exact calm_of (off_any t _ _ (by omega) (by omega) (by omega) (by omega))) | (go_at_call 80; exact calm_of (depth_any t _ _ (by omega) (by omega) (by omega) (by omega)))))
  refine wpQuiet_nil ?_
  rintro _ ⟨p1, rfl⟩
  go_wp2
  refine bodyPost_ret ?_ rfl ⟨rfl, (by (repeat' (first | with_reducible exact Below.refl _ _ | (with_reducible refine below_later_of ?_ ?_ _) | (with_reducible refine Below.alloc ?_ ?_ _) | (with_reducible refine Below.setCell ?_ ?_ _) | (with_reducible refine Below.drew ?_) | (simp; done) | (simp; omega) | omega)))⟩
  first | (simp [results, Try.results141, go_sem]; done) | simp [results, Try.results141, go_sem, ↓IntWalk.iteOmega]
end Go.Proofs.Ytokpdmlmlkkekaa

/- Sights: what hides, what lies over. -/
namespace Go.Proofs.Ytokpdmlmlkkekaa
set_option linter.unusedVariables false
open Go.RowKit
def sqP (a b : Int) : Int := a * a + b * b
def hidesP (a b c d : Int) : Bool := decide (a < c) && decide (c * b ≤ a * d)
def liesP (a b c d : Int) : Bool := (decide (a < c) && decide (sqP c d ≤ sqP a b)) || (decide (c < a) && decide (sqP a b ≤ sqP c d))
/-- A number from -400000000 to 400000000. -/
def Big4 (n : Int) : Prop := -400000000 ≤ n ∧ n ≤ 400000000
theorem prod4 {a b : Int} (h : Big4 a) (k : Big4 b) : -160000000000000000 ≤ a * b ∧ a * b ≤ 160000000000000000 := by
  have h1 : a.natAbs * b.natAbs ≤ 400000000 * 400000000 := Nat.mul_le_mul (by unfold Big4 at h; omega) (by unfold Big4 at k; omega)
  rw [← Int.natAbs_mul] at h1
  omega
theorem sqP_bd {a b : Int} (h : Big4 a) (k : Big4 b) : -320000000000000000 ≤ sqP a b ∧ sqP a b ≤ 320000000000000000 := by
  have := prod4 h h
  have := prod4 k k
  unfold sqP; omega
set_option maxHeartbeats 400000 in
theorem ssquare_any (a b : Int) (w : World) (ha : Big4 a) (hb : Big4 b) :
    Calls Try.prog 151 #[.agg #[.int .i64 a, .int .i64 b]] w fun e w' => e = .returned (.int .i64 (sqP a b)) ∧ Below w.heap.size w w' := by
  obtain ⟨p1, p2⟩ := prod4 ha ha
  obtain ⟨q1, q2⟩ := prod4 hb hb
  unfold sqP
  go_enter Try.func151, Try.ntmps151
  go_wp2
  go_ret
  exact ⟨rfl, (by (repeat' (first | with_reducible exact Below.refl _ _ | (with_reducible refine below_later_of ?_ ?_ _) | (with_reducible refine Below.alloc ?_ ?_ _) | (with_reducible refine Below.setCell ?_ ?_ _) | (with_reducible refine Below.drew ?_) | (simp; done) | (simp; omega) | omega)))⟩
set_option maxHeartbeats 1000000 in
theorem hides_any (a b c d : Int) (w : World) (ha : Big4 a) (hb : Big4 b) (hc : Big4 c) (hd : Big4 d) {x : Bool} (hx : hidesP a b c d = x) :
    Calls Try.prog 106 #[.agg #[.int .i64 a, .int .i64 b], .agg #[.int .i64 c, .int .i64 d]] w fun e w' => e = .returned (.bool x) ∧ Below w.heap.size w w' := by
  subst hx
  obtain ⟨p1, p2⟩ := prod4 ha hd
  obtain ⟨q1, q2⟩ := prod4 hc hb
  unfold hidesP
  by_cases h : a < c
  · go_enter Try.func106, Try.ntmps106
    go_wp2
    go_ret
    exact ⟨ret_bool (by simp [h]), (by (repeat' (first | with_reducible exact Below.refl _ _ | (with_reducible refine below_later_of ?_ ?_ _) | (with_reducible refine Below.alloc ?_ ?_ _) | (with_reducible refine Below.setCell ?_ ?_ _) | (with_reducible refine Below.drew ?_) | (simp; done) | (simp; omega) | omega)))⟩
  · have h' : decide (a < c) = false := by simpa using h
    go_enter Try.func106, Try.ntmps106
    go_wp2
    go_ret
    exact ⟨ret_bool (by simp), (by (repeat' (first | with_reducible exact Below.refl _ _ | (with_reducible refine below_later_of ?_ ?_ _) | (with_reducible refine Below.alloc ?_ ?_ _) | (with_reducible refine Below.setCell ?_ ?_ _) | (with_reducible refine Below.drew ?_) | (simp; done) | (simp; omega) | omega)))⟩
set_option maxHeartbeats 1000000 in
theorem lies_any (a b c d : Int) (w : World) (ha : Big4 a) (hb : Big4 b) (hc : Big4 c) (hd : Big4 d) {x : Bool} (hx : liesP a b c d = x) :
    Calls Try.prog 142 #[.agg #[.int .i64 a, .int .i64 b], .agg #[.int .i64 c, .int .i64 d]] w fun e w' => e = .returned (.bool x) ∧ Below w.heap.size w w' := by
  subst hx
  by_cases h : a < c
  · have hn : ¬ c < a := by omega
    have hn' : decide (c < a) = false := by simpa using hn
    have HF := Lib.hid (show liesP a b c d = decide (sqP c d ≤ sqP a b) by unfold liesP; simp [h, hn])
    by_cases g : sqP c d ≤ sqP a b
    · have HG := Lib.hid (show liesP a b c d = true by rw [HF.out]; simpa using g)
      have hg : decide (sqP c d ≤ sqP a b) = true := by simpa using g
      clear HF hn'
      go_enter Try.func142, Try.ntmps142
      go_wp2
      refine wp_region_calm (by kernel_rfl) (by kernel_rfl) ?_
      repeat (go_big_quiet_step (first | (go_at_call 151; exact calm_of (ssquare_any _ _ _ (by assumption) (by assumption)))))
      refine wpQuiet_nil ?_
      rintro _ ⟨p1, rfl⟩
      go_wp2
      go_ret
      exact ⟨ret_bool HG.out.symm, (by (repeat' (first | with_reducible exact Below.refl _ _ | (with_reducible refine below_later_of ?_ ?_ _) | (with_reducible refine Below.alloc ?_ ?_ _) | (with_reducible refine Below.setCell ?_ ?_ _) | (with_reducible refine Below.drew ?_) | (simp; done) | (simp; omega) | omega)))⟩
    · have HG := Lib.hid (show liesP a b c d = false by rw [HF.out]; simpa using g)
      have hg : decide (sqP c d ≤ sqP a b) = false := by simpa using g
      clear HF
      go_enter Try.func142, Try.ntmps142
      go_wp2
      refine wp_region_calm (by kernel_rfl) (by kernel_rfl) ?_
      repeat (go_big_quiet_step (first | (go_at_call 151; exact calm_of (ssquare_any _ _ _ (by assumption) (by assumption)))))
      refine wpQuiet_nil ?_
      rintro _ ⟨p1, rfl⟩
      go_wp2
      go_ret
      exact ⟨ret_bool HG.out.symm, (by (repeat' (first | with_reducible exact Below.refl _ _ | (with_reducible refine below_later_of ?_ ?_ _) | (with_reducible refine Below.alloc ?_ ?_ _) | (with_reducible refine Below.setCell ?_ ?_ _) | (with_reducible refine Below.drew ?_) | (simp; done) | (simp; omega) | omega)))⟩
  · have h' : decide (a < c) = false := by simpa using h
    by_cases k : c < a
    · have HF := Lib.hid (show liesP a b c d = decide (sqP a b ≤ sqP c d) by unfold liesP; simp [h, k])
      go_enter Try.func142, Try.ntmps142
      go_wp2
      refine wp_region_calm (by kernel_rfl) (by kernel_rfl) ?_
      repeat (go_big_quiet_step (first | (go_at_call 151; exact calm_of (ssquare_any _ _ _ (by assumption) (by assumption)))))
      refine wpQuiet_nil ?_
      rintro _ ⟨p1, rfl⟩
      go_wp2
      go_ret
      exact ⟨ret_bool HF.out.symm, (by (repeat' (first | with_reducible exact Below.refl _ _ | (with_reducible refine below_later_of ?_ ?_ _) | (with_reducible refine Below.alloc ?_ ?_ _) | (with_reducible refine Below.setCell ?_ ?_ _) | (with_reducible refine Below.drew ?_) | (simp; done) | (simp; omega) | omega)))⟩
    · have k' : decide (c < a) = false := by simpa using k
      have HF := Lib.hid (show liesP a b c d = false by unfold liesP; simp [h, k])
      go_enter Try.func142, Try.ntmps142
      go_wp2
      refine wp_region_calm (by kernel_rfl) (by kernel_rfl) ?_
      repeat (go_big_quiet_step (first | (go_at_call 151; exact calm_of (ssquare_any _ _ _ (by assumption) (by assumption)))))
      refine wpQuiet_nil ?_
      rintro _ ⟨p1, rfl⟩
      go_wp2
      go_ret
      exact ⟨ret_bool HF.out.symm, (by (repeat' (first | with_reducible exact Below.refl _ _ | (with_reducible refine below_later_of ?_ ?_ _) | (with_reducible refine Below.alloc ?_ ?_ _) | (with_reducible refine Below.setCell ?_ ?_ _) | (with_reducible refine Below.drew ?_) | (simp; done) | (simp; omega) | omega)))⟩
end Go.Proofs.Ytokpdmlmlkkekaa

/- CheckRelief. -/
namespace Go.Proofs.Ytokpdmlmlkkekaa
set_option linter.unusedVariables false
open Go.RowKit
def loB (b : Nat) : Bool := FloatKind.f32.format.order b 3351465984 == some .lt
def hiB (b : Nat) : Bool := FloatKind.f32.format.order b 1203982336 == some .gt
/-- The error of a float as a height. -/
def FlErr (b : Nat) (e : Int) : Prop := ∃ wh : Bool, (∀ w, Calls Try.prog 114 #[.float .f32 b] w fun e w' => e = .returned (.bool wh) ∧ Below w.heap.size w w') ∧ e = if wh then (if loB b || hiB b then 2 else 0) else 29
def relSizeB (r : Rel) : Bool := inR 1 64 r.rows && (inR 1 64 r.cols && decide ((r.ds.length : Int) = r.rows * r.cols))
def relPlaceB (r : Rel) : Bool := (inR (-100000000) 100000000 r.x && inR (-100000000) 100000000 r.y) && inR 1 1000 r.cell
def relErrP (fe : Nat → Int) (r : Rel) : Int := if relPlaceB r then (if relSizeB r then scan (fun k => fe (bitAt r.ds k)) 0 r.ds.length else 10) else 2
theorem relErrP_ok {fe : Nat → Int} {r : Rel} (h : relErrP fe r = 0) : r.Ok ∧ ∀ k, k < r.ds.length → fe (bitAt r.ds k) = 0 := by
  unfold relErrP at h
  split at h
  · rename_i h1
    split at h
    · rename_i h2
      simp only [relPlaceB, relSizeB, Bool.and_eq_true, inR_iff, decide_eq_true_eq] at h1 h2
      obtain ⟨⟨⟨a1, a2⟩, a3, a4⟩, a5, a6⟩ := h1
      obtain ⟨⟨b1, b2⟩, ⟨b3, b4⟩, b5⟩ := h2
      exact ⟨⟨a1, a2, a3, a4, a5, a6, b1, b2, b3, b4, b5⟩, fun k hk => scan_inv _ 0 h k (Nat.zero_le _) (by omega)⟩
    · exact absurd h (by decide)
  · exact absurd h (by decide)
set_option maxRecDepth 20000 in
set_option maxHeartbeats 4000000 in
theorem checkRelief_any (fe : Nat → Int) (r : Rel) (a : Option Addr) (cap : Nat) (w : World) (hlen : r.ds.length ≤ 1000000000) (hfe : ∀ k, k < r.ds.length → FlErr (bitAt r.ds k) (fe (bitAt r.ds k)))
    (ha : 0 < r.ds.length → ∃ b off, a = some ⟨b, off, none⟩ ∧ b < w.heap.size ∧ FloatsAt w b off r.ds) :
    Calls Try.prog 44 #[.agg #[.int .i64 r.x, .int .i64 r.y, .int .i64 r.cell, .int .i64 r.rows, .int .i64 r.cols, .slice a r.ds.length cap]] w fun e w' => e = .returned (.int .i64 (relErrP fe r)) ∧ Below w.heap.size w w' := by
  have HFE := Lib.hid hfe
  have HA := Lib.hid ha
  clear hfe ha
  rcases (show (inR (-100000000) 100000000 r.x && inR (-100000000) 100000000 r.y) = false ∨ (inR (-100000000) 100000000 r.x && inR (-100000000) 100000000 r.y) = true by cases (inR (-100000000) 100000000 r.x && inR (-100000000) 100000000 r.y) <;> simp) with h1 | h1
  · have HF := Lib.hid (show relErrP fe r = 2 by unfold relErrP relPlaceB; rw [h1]; rfl)
    have H1 := Lib.hid h1
    clear h1
    go_enter Try.func44, Try.ntmps44
    go_wp2_with (first | (go_at_call 96; (with_reducible refine (all2 (-100000000) 100000000 r.x r.y _ _ _ H1.out (by (first | (simp [go_sem]; done) | simp [go_sem, ↓IntWalk.iteOmega])) (by (first | (simp [go_sem]; done) | simp [go_sem, ↓IntWalk.iteOmega]))).mono ?_); rintro e w' ⟨rfl, rfl⟩))
    (go_ret; exact ⟨ret_int HF.out.symm, (by (repeat' (first | with_reducible exact Below.refl _ _ | (with_reducible refine below_later_of ?_ ?_ _) | (with_reducible refine Below.alloc ?_ ?_ _) | (with_reducible refine Below.setCell ?_ ?_ _) | (with_reducible refine Below.drew ?_) | (simp; done) | (simp; omega) | omega)))⟩)
  rcases (show inR 1 1000 r.cell = false ∨ inR 1 1000 r.cell = true by cases inR 1 1000 r.cell <;> simp) with h2 | h2
  · have HF := Lib.hid (show relErrP fe r = 2 by unfold relErrP relPlaceB; rw [h1, h2]; rfl)
    have H1 := Lib.hid h1
    have H2 := Lib.hid h2
    clear h1 h2
    go_enter Try.func44, Try.ntmps44
    go_wp2_with (first | (go_at_call 96; (with_reducible refine (all2 (-100000000) 100000000 r.x r.y _ _ _ H1.out (by (first | (simp [go_sem]; done) | simp [go_sem, ↓IntWalk.iteOmega])) (by (first | (simp [go_sem]; done) | simp [go_sem, ↓IntWalk.iteOmega]))).mono ?_); rintro e w' ⟨rfl, rfl⟩) | (go_at_call 96; (with_reducible refine (all1 1 1000 r.cell _ _ _ H2.out (by (first | (simp [go_sem]; done) | simp [go_sem, ↓IntWalk.iteOmega]))).mono ?_); rintro e w' ⟨rfl, rfl⟩))
    (go_ret; exact ⟨ret_int HF.out.symm, (by (repeat' (first | with_reducible exact Below.refl _ _ | (with_reducible refine below_later_of ?_ ?_ _) | (with_reducible refine Below.alloc ?_ ?_ _) | (with_reducible refine Below.setCell ?_ ?_ _) | (with_reducible refine Below.drew ?_) | (simp; done) | (simp; omega) | omega)))⟩)
  have HQ := Lib.hid (show relErrP fe r = (if relSizeB r then scan (fun k => fe (bitAt r.ds k)) 0 r.ds.length else 10) by unfold relErrP relPlaceB; rw [h1, h2]; rfl)
  have H1 := Lib.hid h1
  have H2 := Lib.hid h2
  clear h1 h2
  rcases (show inR 1 64 r.rows = false ∨ inR 1 64 r.rows = true by cases inR 1 64 r.rows <;> simp) with h3 | h3
  · have HF := Lib.hid (show relErrP fe r = 10 by rw [HQ.out]; unfold relSizeB; rw [h3]; rfl)
    have H3 := Lib.hid h3
    clear h3 HQ
    go_enter Try.func44, Try.ntmps44
    go_wp2_with (first | (go_at_call 96; (with_reducible refine (all2 (-100000000) 100000000 r.x r.y _ _ _ H1.out (by (first | (simp [go_sem]; done) | simp [go_sem, ↓IntWalk.iteOmega])) (by (first | (simp [go_sem]; done) | simp [go_sem, ↓IntWalk.iteOmega]))).mono ?_); rintro e w' ⟨rfl, rfl⟩) | (go_at_call 96; (with_reducible refine (all1 1 1000 r.cell _ _ _ H2.out (by (first | (simp [go_sem]; done) | simp [go_sem, ↓IntWalk.iteOmega]))).mono ?_); rintro e w' ⟨rfl, rfl⟩) | (go_at_call 91; (with_reducible refine (within_c r.rows _ _ _ H3.out).mono ?_); rintro e w' ⟨rfl, rfl⟩))
    (go_ret; exact ⟨ret_int HF.out.symm, (by (repeat' (first | with_reducible exact Below.refl _ _ | (with_reducible refine below_later_of ?_ ?_ _) | (with_reducible refine Below.alloc ?_ ?_ _) | (with_reducible refine Below.setCell ?_ ?_ _) | (with_reducible refine Below.drew ?_) | (simp; done) | (simp; omega) | omega)))⟩)
  rcases (show inR 1 64 r.cols = false ∨ inR 1 64 r.cols = true by cases inR 1 64 r.cols <;> simp) with h4 | h4
  · have HF := Lib.hid (show relErrP fe r = 10 by rw [HQ.out]; unfold relSizeB; rw [h3, h4]; rfl)
    have H3 := Lib.hid h3
    have H4 := Lib.hid h4
    clear h3 h4 HQ
    go_enter Try.func44, Try.ntmps44
    go_wp2_with (first | (go_at_call 96; (with_reducible refine (all2 (-100000000) 100000000 r.x r.y _ _ _ H1.out (by (first | (simp [go_sem]; done) | simp [go_sem, ↓IntWalk.iteOmega])) (by (first | (simp [go_sem]; done) | simp [go_sem, ↓IntWalk.iteOmega]))).mono ?_); rintro e w' ⟨rfl, rfl⟩) | (go_at_call 96; (with_reducible refine (all1 1 1000 r.cell _ _ _ H2.out (by (first | (simp [go_sem]; done) | simp [go_sem, ↓IntWalk.iteOmega]))).mono ?_); rintro e w' ⟨rfl, rfl⟩) | (go_at_call 91; (with_reducible refine (within_c r.rows _ _ _ H3.out).mono ?_); rintro e w' ⟨rfl, rfl⟩) | (go_at_call 91; (with_reducible refine (within_c r.cols _ _ _ H4.out).mono ?_); rintro e w' ⟨rfl, rfl⟩))
    (go_ret; exact ⟨ret_int HF.out.symm, (by (repeat' (first | with_reducible exact Below.refl _ _ | (with_reducible refine below_later_of ?_ ?_ _) | (with_reducible refine Below.alloc ?_ ?_ _) | (with_reducible refine Below.setCell ?_ ?_ _) | (with_reducible refine Below.drew ?_) | (simp; done) | (simp; omega) | omega)))⟩)
  obtain ⟨r1, r2⟩ := inR_iff.1 h3
  obtain ⟨l1, l2⟩ := inR_iff.1 h4
  obtain ⟨m1, m2⟩ := mul_bd (show 0 ≤ r.rows by omega) r2 (show 0 ≤ r.cols by omega) l2
  by_cases h5 : (r.ds.length : Int) = r.rows * r.cols
  · have HQ2 := Lib.hid (show relErrP fe r = scan (fun k => fe (bitAt r.ds k)) 0 r.ds.length by rw [HQ.out]; unfold relSizeB; rw [h3, h4, decide_eq_true h5]; rfl)
    have H3 := Lib.hid h3
    have H4 := Lib.hid h4
    have h5' : ((r.ds.length : Int) != r.rows * r.cols) = false := by simpa using h5
    have hpos : 0 < r.ds.length := by
      have : 1 * 1 ≤ r.rows * r.cols := Int.mul_le_mul r1 l1 (by omega) (by omega)
      omega
    obtain ⟨b, off, rfl, hbw, hfl⟩ := HA.out hpos
    have HFL := Lib.hid hfl
    clear h3 h4 HQ h5 HA hfl
    go_enter Try.func44, Try.ntmps44
    go_wp2_with (first | (go_at_call 96; (with_reducible refine (all2 (-100000000) 100000000 r.x r.y _ _ _ H1.out (by (first | (simp [go_sem]; done) | simp [go_sem, ↓IntWalk.iteOmega])) (by (first | (simp [go_sem]; done) | simp [go_sem, ↓IntWalk.iteOmega]))).mono ?_); rintro e w' ⟨rfl, rfl⟩) | (go_at_call 96; (with_reducible refine (all1 1 1000 r.cell _ _ _ H2.out (by (first | (simp [go_sem]; done) | simp [go_sem, ↓IntWalk.iteOmega]))).mono ?_); rintro e w' ⟨rfl, rfl⟩) | (go_at_call 91; (with_reducible refine (within_c r.rows _ _ _ H3.out).mono ?_); rintro e w' ⟨rfl, rfl⟩) | (go_at_call 91; (with_reducible refine (within_c r.cols _ _ _ H4.out).mono ?_); rintro e w' ⟨rfl, rfl⟩))
    go_loopw [48] (fun i wr => ∃ k : Nat, k ≤ r.ds.length ∧ i = .int .i64 k ∧ Below w.heap.size w wr ∧ ∀ j, j < k → fe (bitAt r.ds j) = 0) (fun i _ => r.ds.length - (intOf i).toNat)
    case atStart => exact ⟨0, Nat.zero_le _, rfl, (by (repeat' (first | with_reducible exact Below.refl _ _ | (with_reducible refine below_later_of ?_ ?_ _) | (with_reducible refine Below.alloc ?_ ?_ _) | (with_reducible refine Below.setCell ?_ ?_ _) | (with_reducible refine Below.drew ?_) | (simp; done) | (simp; omega) | omega))), fun j hj => by omega⟩
    case round =>
      obtain ⟨k, hk, rfl, hnx, hz⟩ := hrel
      have HX := Lib.hid hnx
      have hsz := hnx.size
      have HZ := Lib.hid hz
      clear hz
      by_cases hlt : k < r.ds.length
      · have hc := (HFL.out.below hbw hnx) k hlt
        have hbr : b < wr.heap.size := by omega
        clear hnx
        obtain ⟨wh, hw, he⟩ := HFE.out k hlt
        have HQ3 := Lib.hid (show fe (bitAt r.ds k) ≠ 0 → scan (fun k => fe (bitAt r.ds k)) 0 r.ds.length = fe (bitAt r.ds k) from
          fun h => scan_hit (f := fun k => fe (bitAt r.ds k)) r.ds.length 0 k (fun j _ hj => HZ.out j hj) (Nat.zero_le _) (by omega) h)
        have HW := Lib.hid hw
        have HE := Lib.hid he
        have HG := Lib.hid (show ∀ j, j < k + 1 → fe (bitAt r.ds k) = 0 → fe (bitAt r.ds j) = 0 from fun j hj h => by
          by_cases e : j = k
          · rw [e]; exact h
          · exact HZ.out j (by omega))
        clear hw he
        generalize bitAt r.ds k = bk at hc HQ3 HW HE HG
        cases wh
        · have HF := Lib.hid (show relErrP fe r = 29 by rw [HQ2.out, HQ3.out (by rw [HE.out]; simp), HE.out]; rfl)
          go_wp2_with (first | (go_at_call 114; refine (HW.out _).mono ?_; rintro e w' ⟨rfl, hb⟩; obtain ⟨pp, rfl⟩ := later_of_below hb; clear hb))
          (go_ret; exact ⟨ret_int HF.out.symm, HX.out.trans (below_mono_of hsz (by (repeat' (first | with_reducible exact Below.refl _ _ | (with_reducible refine below_later_of ?_ ?_ _) | (with_reducible refine Below.alloc ?_ ?_ _) | (with_reducible refine Below.setCell ?_ ?_ _) | (with_reducible refine Below.drew ?_) | (simp; done) | (simp; omega) | omega))))⟩)
        · rcases (show loB bk = false ∨ loB bk = true by cases loB bk <;> simp) with h6 | h6
          · rcases (show hiB bk = false ∨ hiB bk = true by cases hiB bk <;> simp) with h7 | h7
            · have HV := Lib.hid (show fe bk = 0 by rw [HE.out, h6, h7]; rfl)
              unfold loB at h6
              unfold hiB at h7
              go_wp2_with (first | (go_at_call 114; refine (HW.out _).mono ?_; rintro e w' ⟨rfl, hb⟩; obtain ⟨pp, rfl⟩ := later_of_below hb; clear hb))
              go_roundw
              case rel => exact ⟨k + 1, by omega, by go_num, HX.out.trans (below_mono_of hsz (by (repeat' (first | with_reducible exact Below.refl _ _ | (with_reducible refine below_later_of ?_ ?_ _) | (with_reducible refine Below.alloc ?_ ?_ _) | (with_reducible refine Below.setCell ?_ ?_ _) | (with_reducible refine Below.drew ?_) | (simp; done) | (simp; omega) | omega)))), fun j hj => HG.out j hj HV.out⟩
              case measure => simp [intOf]; omega
            · have HF := Lib.hid (show relErrP fe r = 2 by rw [HQ2.out, HQ3.out (by rw [HE.out, h7]; simp), HE.out, h7]; simp)
              unfold loB at h6
              unfold hiB at h7
              go_wp2_with (first | (go_at_call 114; refine (HW.out _).mono ?_; rintro e w' ⟨rfl, hb⟩; obtain ⟨pp, rfl⟩ := later_of_below hb; clear hb))
              (go_ret; exact ⟨ret_int HF.out.symm, HX.out.trans (below_mono_of hsz (by (repeat' (first | with_reducible exact Below.refl _ _ | (with_reducible refine below_later_of ?_ ?_ _) | (with_reducible refine Below.alloc ?_ ?_ _) | (with_reducible refine Below.setCell ?_ ?_ _) | (with_reducible refine Below.drew ?_) | (simp; done) | (simp; omega) | omega))))⟩)
          · have HF := Lib.hid (show relErrP fe r = 2 by rw [HQ2.out, HQ3.out (by rw [HE.out, h6]; simp), HE.out, h6]; simp)
            unfold loB at h6
            go_wp2_with (first | (go_at_call 114; refine (HW.out _).mono ?_; rintro e w' ⟨rfl, hb⟩; obtain ⟨pp, rfl⟩ := later_of_below hb; clear hb))
            (go_ret; exact ⟨ret_int HF.out.symm, HX.out.trans (below_mono_of hsz (by (repeat' (first | with_reducible exact Below.refl _ _ | (with_reducible refine below_later_of ?_ ?_ _) | (with_reducible refine Below.alloc ?_ ?_ _) | (with_reducible refine Below.setCell ?_ ?_ _) | (with_reducible refine Below.drew ?_) | (simp; done) | (simp; omega) | omega))))⟩)
      · have HF := Lib.hid (show relErrP fe r = 0 by rw [HQ2.out]; exact scan_zero r.ds.length 0 (fun j _ hj => HZ.out j (by omega)))
        clear hnx
        go_wp2
        (go_ret; exact ⟨ret_int HF.out.symm, HX.out.trans (below_mono_of hsz (by (repeat' (first | with_reducible exact Below.refl _ _ | (with_reducible refine below_later_of ?_ ?_ _) | (with_reducible refine Below.alloc ?_ ?_ _) | (with_reducible refine Below.setCell ?_ ?_ _) | (with_reducible refine Below.drew ?_) | (simp; done) | (simp; omega) | omega))))⟩)
  · have HF := Lib.hid (show relErrP fe r = 10 by rw [HQ.out]; unfold relSizeB; rw [h3, h4, decide_eq_false h5]; rfl)
    have H3 := Lib.hid h3
    have H4 := Lib.hid h4
    have h5' : ((r.ds.length : Int) != r.rows * r.cols) = true := by simpa using h5
    clear h3 h4 HQ h5
    go_enter Try.func44, Try.ntmps44
    go_wp2_with (first | (go_at_call 96; (with_reducible refine (all2 (-100000000) 100000000 r.x r.y _ _ _ H1.out (by (first | (simp [go_sem]; done) | simp [go_sem, ↓IntWalk.iteOmega])) (by (first | (simp [go_sem]; done) | simp [go_sem, ↓IntWalk.iteOmega]))).mono ?_); rintro e w' ⟨rfl, rfl⟩) | (go_at_call 96; (with_reducible refine (all1 1 1000 r.cell _ _ _ H2.out (by (first | (simp [go_sem]; done) | simp [go_sem, ↓IntWalk.iteOmega]))).mono ?_); rintro e w' ⟨rfl, rfl⟩) | (go_at_call 91; (with_reducible refine (within_c r.rows _ _ _ H3.out).mono ?_); rintro e w' ⟨rfl, rfl⟩) | (go_at_call 91; (with_reducible refine (within_c r.cols _ _ _ H4.out).mono ?_); rintro e w' ⟨rfl, rfl⟩))
    (go_ret; exact ⟨ret_int HF.out.symm, (by (repeat' (first | with_reducible exact Below.refl _ _ | (with_reducible refine below_later_of ?_ ?_ _) | (with_reducible refine Below.alloc ?_ ?_ _) | (with_reducible refine Below.setCell ?_ ?_ _) | (with_reducible refine Below.drew ?_) | (simp; done) | (simp; omega) | omega)))⟩)
end Go.Proofs.Ytokpdmlmlkkekaa

/- The sights of a row, and the kinds of its cells. -/
namespace Go.Proofs.Ytokpdmlmlkkekaa
set_option linter.unusedVariables false
open Go.RowKit
def soP (t : Trk) (r : Rel) (col : Int) : Int := offP t (pxP r col)
def sdP (t : Trk) (r : Rel) (fi : Nat → Int) (row col : Int) : Int := depthP t (fi (bitAt r.ds (idxP r row col)))
/-- All floats of a relief are cut to integers that are no greater than a million. -/
def FlInts (fi : Nat → Int) (ds : List Nat) : Prop := ∀ k, k < ds.length → FlInt (bitAt ds k) (fi (bitAt ds k)) ∧ -1000000 ≤ fi (bitAt ds k) ∧ fi (bitAt ds k) ≤ 1000000
theorem so_bd {t : Trk} {r : Rel} (ot : t.Ok) (o : r.Ok) {col : Int} (b1 : 0 ≤ col) (b2 : col < r.cols) : Big4 (soP t r col) := by
  obtain ⟨u1, u2⟩ := cell_bd o b1 (show col ≤ 64 by have := o.l2; omega)
  have := o.x1; have := o.x2; have := o.c1; have := o.c2; have := ot.sx1; have := ot.sx2
  unfold soP offP pxP Big4
  split <;> omega
theorem sd_bd {t : Trk} {r : Rel} {fi : Nat → Int} (ot : t.Ok) (o : r.Ok) (hf : FlInts fi r.ds) {row col : Int} (a1 : 0 ≤ row) (a2 : row < r.rows) (b1 : 0 ≤ col) (b2 : col < r.cols) : Big4 (sdP t r fi row col) := by
  obtain ⟨_, _, _, hlt⟩ := idx_lt o a1 a2 b1 b2
  obtain ⟨_, h1, h2⟩ := hf _ hlt
  have := ot.sz1; have := ot.sz2
  unfold sdP depthP Big4
  omega
def sightsUpto (t : Trk) (r : Rel) (fi : Nat → Int) (row : Int) : Nat → List Value
  | 0 => []
  | k + 1 => sightsUpto t r fi row k ++ [.int .i64 (soP t r k), .int .i64 (sdP t r fi row k)]
theorem sightsUpto_len (t : Trk) (r : Rel) (fi : Nat → Int) (row : Int) : ∀ n, (sightsUpto t r fi row n).length = n * 2
  | 0 => rfl
  | n + 1 => by unfold sightsUpto; rw [List.length_append, sightsUpto_len t r fi row n]; simp; omega
theorem sightsUpto_at (t : Trk) (r : Rel) (fi : Nat → Int) (row : Int) (k : Nat) (j : Nat) (hj : j < 2) : ∀ n, k < n → (sightsUpto t r fi row n)[k * 2 + j]? = [Value.int .i64 (soP t r k), .int .i64 (sdP t r fi row k)][j]?
  | 0, h => by omega
  | n + 1, h => by
    unfold sightsUpto
    have hl := sightsUpto_len t r fi row n
    by_cases e : k = n
    · subst e
      rw [List.getElem?_append_right (by omega), hl, show k * 2 + j - k * 2 = j by omega]
    · rw [List.getElem?_append_left (by omega)]
      exact sightsUpto_at t r fi row k j hj n (by omega)
theorem info159 : (Try.prog.info? 159).map (fun i => (i.zero, i.size, i.bytes)) = some (some (.agg #[.int .i64 0, .int .i64 0]), 2, 16) := by kernel_rfl
/-- Block B holds a view. -/
def ViewAt (w : World) (B : Nat) (t : Trk) (r : Rel) (b off cap : Nat) : Prop := w.cell? ⟨B, 0, none⟩ = some (.int .i64 t.sx) ∧ w.cell? ⟨B, 1, none⟩ = some (.int .i64 t.sy) ∧ w.cell? ⟨B, 2, none⟩ = some (.int .i64 t.sz) ∧ w.cell? ⟨B, 3, none⟩ = some (.int .i64 t.step) ∧ w.cell? ⟨B, 4, none⟩ = some (.int .i64 t.lines) ∧ w.cell? ⟨B, 5, none⟩ = some (.int .i64 t.near) ∧ w.cell? ⟨B, 6, none⟩ = some (.int .i64 t.bin) ∧ w.cell? ⟨B, 7, none⟩ = some (.int .i64 t.bins) ∧ w.cell? ⟨B, 8, none⟩ = some (.bool t.east) ∧ w.cell? ⟨B, 9, none⟩ = some (.int .i64 r.x) ∧ w.cell? ⟨B, 10, none⟩ = some (.int .i64 r.y) ∧ w.cell? ⟨B, 11, none⟩ = some (.int .i64 r.cell) ∧ w.cell? ⟨B, 12, none⟩ = some (.int .i64 r.rows) ∧ w.cell? ⟨B, 13, none⟩ = some (.int .i64 r.cols) ∧ w.cell? ⟨B, 14, none⟩ = some (.slice (some ⟨b, off, none⟩) r.ds.length cap)
theorem viewAt_alloc (w : World) (t : Trk) (r : Rel) (b off cap : Nat) (T : TypeId) : ViewAt (w.alloc (.cells #[.int .i64 t.sx, .int .i64 t.sy, .int .i64 t.sz, .int .i64 t.step, .int .i64 t.lines, .int .i64 t.near, .int .i64 t.bin, .int .i64 t.bins, .bool t.east, .int .i64 r.x, .int .i64 r.y, .int .i64 r.cell, .int .i64 r.rows, .int .i64 r.cols, .slice (some ⟨b, off, none⟩) r.ds.length cap] T)) w.heap.size t r b off cap :=
  ⟨World.cell?_alloc_new _ _ _ _, World.cell?_alloc_new _ _ _ _, World.cell?_alloc_new _ _ _ _, World.cell?_alloc_new _ _ _ _, World.cell?_alloc_new _ _ _ _, World.cell?_alloc_new _ _ _ _, World.cell?_alloc_new _ _ _ _, World.cell?_alloc_new _ _ _ _, World.cell?_alloc_new _ _ _ _, World.cell?_alloc_new _ _ _ _, World.cell?_alloc_new _ _ _ _, World.cell?_alloc_new _ _ _ _, World.cell?_alloc_new _ _ _ _, World.cell?_alloc_new _ _ _ _, World.cell?_alloc_new _ _ _ _⟩
theorem ViewAt.below {w w' : World} {B C : Nat} {t : Trk} {r : Rel} {b off cap : Nat} (h : ViewAt w B t r b off cap) (hB : B < C) (hw : Below C w w') : ViewAt w' B t r b off cap := by
  obtain ⟨h0, h1, h2, h3, h4, h5, h6, h7, h8, h9, h10, h11, h12, h13, h14⟩ := h
  exact ⟨(hw.cell hB).trans h0, (hw.cell hB).trans h1, (hw.cell hB).trans h2, (hw.cell hB).trans h3, (hw.cell hB).trans h4, (hw.cell hB).trans h5, (hw.cell hB).trans h6, (hw.cell hB).trans h7, (hw.cell hB).trans h8, (hw.cell hB).trans h9, (hw.cell hB).trans h10, (hw.cell hB).trans h11, (hw.cell hB).trans h12, (hw.cell hB).trans h13, (hw.cell hB).trans h14⟩
theorem cells_new (w : World) (l : List Value) (T : TypeId) (j : Nat) (u : Value) (h : l[j]? = some u) : (w.alloc (.cells l.toArray T)).cell? ((⟨w.heap.size, 0, none⟩ : Addr).add j) = some u := by
  have : (⟨w.heap.size, 0, none⟩ : Addr).add j = ⟨w.heap.size, j, none⟩ := by simp [Addr.add]; omega
  rw [this, World.cell?_alloc_new]
  simpa using h
theorem ownsRow_later {w : World} {base e size n : Nat} {v : Value} {xs : List Value} (h : w.ownsRow base e size v n xs) (p : Regrown) : (later w p).ownsRow base e size v n xs := by
  obtain ⟨h1, h2 | ⟨g, cap, cur, h3, h4, h5, h6⟩⟩ := h
  · exact ⟨h1, Or.inl h2⟩
  · exact ⟨h1, Or.inr ⟨g, cap, cur, h3, h4, ((below_later w p).block g (Array.getElem?_eq_some_iff.1 h5).1).trans h5, h6⟩⟩
theorem ownsRow_mono {w : World} {base base' e size n : Nat} {v : Value} {xs : List Value} (h : w.ownsRow base e size v n xs) (hb : base' ≤ base) : w.ownsRow base' e size v n xs := by
  obtain ⟨h1, h2 | ⟨g, cap, cur, h3, h4, h5⟩⟩ := h
  · exact ⟨h1, Or.inl h2⟩
  · exact ⟨h1, Or.inr ⟨g, cap, cur, h3, Nat.le_trans hb h4, h5⟩⟩
set_option maxRecDepth 20000 in
set_option maxHeartbeats 1000000 in
theorem row_any (t : Trk) (r : Rel) (fi : Nat → Int) (b off cap : Nat) (row : Int) (w : World) (ot : t.Ok) (o : r.Ok) (hf : FlInts fi r.ds) (a1 : 0 ≤ row) (a2 : row < r.rows)
    (hbw : b < w.heap.size) (hc : FloatsAt w b off r.ds) :
    Calls Try.prog 105 #[.agg #[.int .i64 t.sx, .int .i64 t.sy, .int .i64 t.sz, .int .i64 t.step, .int .i64 t.lines, .int .i64 t.near, .int .i64 t.bin, .int .i64 t.bins, .bool t.east, .int .i64 r.x, .int .i64 r.y, .int .i64 r.cell, .int .i64 r.rows, .int .i64 r.cols, .slice (some ⟨b, off, none⟩) r.ds.length cap], .int .i64 row] w
      fun e w' => ∃ v, e = .returned v ∧ w'.ownsRow w.heap.size 159 2 v r.cols.toNat (sightsUpto t r fi row r.cols.toNat) ∧ Below w.heap.size w w' := by
  obtain ⟨i0, hi, hz0, hz1, hz2⟩ := info_parts info159
  have OT := Lib.hid ot
  have O := Lib.hid o
  have HFI := Lib.hid hf
  have HFC := Lib.hid hc
  obtain ⟨-, -, -, -, -, -, r1, r2, l1, l2, -⟩ := o
  clear ot hf hc
  go_enter Try.func105, Try.ntmps105
  go_wp2
  obtain ⟨W2, hW2, hV2, hB2, hs2⟩ : ∃ W2, w.alloc (.cells #[.int .i64 t.sx, .int .i64 t.sy, .int .i64 t.sz, .int .i64 t.step, .int .i64 t.lines, .int .i64 t.near, .int .i64 t.bin, .int .i64 t.bins, .bool t.east, .int .i64 r.x, .int .i64 r.y, .int .i64 r.cell, .int .i64 r.rows, .int .i64 r.cols, .slice (some ⟨b, off, none⟩) r.ds.length cap] 150) = W2 ∧ ViewAt W2 w.heap.size t r b off cap ∧ Below w.heap.size w W2 ∧ W2.heap.size = w.heap.size + 1 :=
    ⟨_, rfl, viewAt_alloc _ _ _ _ _ _ _, (Below.refl _ _).alloc (Nat.le_refl _) _, by simp⟩
  rw [hW2]
  have HB2 := Lib.hid hB2
  have HS2 := Lib.hid hs2
  have HV2 := Lib.hid hV2
  have hlt2 : w.heap.size < W2.heap.size := by omega
  clear hW2 hB2 hs2 hV2
  go_loopw [5, 12] (fun v i wr => ∃ k : Nat, (k : Int) ≤ r.cols ∧ i = .int .i64 k ∧ wr.ownsRow W2.heap.size 159 2 v k (sightsUpto t r fi row k) ∧ Below W2.heap.size W2 wr)
    (fun _ i _ => r.cols.toNat - (intOf i).toNat)
  case atStart => exact ⟨0, by omega, rfl, World.ownsRow_nil _ _ _ _, Below.refl _ _⟩
  case round =>
    obtain ⟨k, hk, rfl, hown, hnx⟩ := hrel
    have HX := Lib.hid hnx
    have HO := Lib.hid hown
    have hsz := hnx.size
    by_cases hlt : (k : Int) < r.cols
    · obtain ⟨c0, c1, c2, c3, c4, c5, c6, c7, c8, c9, c10, c11, c12, c13, c14⟩ := HV2.out.below hlt2 hnx
      obtain ⟨_, _, _, hil⟩ := idx_lt O.out a1 a2 (show (0 : Int) ≤ k by omega) hlt
      obtain ⟨hi1, hi2, hi3⟩ := HFI.out _ hil
      have HI := Lib.hid hi1
      have HFW := Lib.hid (HFC.out.below hbw (HB2.out.trans (hnx.mono (by omega))))
      have HSN := Lib.hid (show sightsUpto t r fi row (k + 1) = sightsUpto t r fi row k ++ [.int .i64 (offP t (pxP r k)), .int .i64 (depthP t (fi (bitAt r.ds (idxP r row k))))] from rfl)
      have hbr : b < wr.heap.size := by omega
      clear hnx hown hi1
      go_wp2_with (first | (go_at_call 141; refine (sight_any t r b off cap _ _ (fi (bitAt r.ds (idxP r row k))) _ OT.out O.out (by omega) (by omega) (by omega) (by omega) hbr HFW.out HI.out (by omega) (by omega)).mono ?_; rintro e w' ⟨rfl, hb⟩; obtain ⟨pp, rfl⟩ := later_of_below hb; clear hb) | (at_builtin; refine wpList_append_own _ rfl _ _ 156 rfl W2.heap.size 159 i0 (.agg #[.int .i64 0, .int .i64 0]) 2 16 Try.underlying156 hi hz0 hz1 hz2 rfl (by decide) _ _ _ rfl ((ownsRow_later HO.out _).alloc _) ⟨(later wr pp).heap.size, 0, none⟩ 1 1 [.int .i64 (offP t (pxP r k)), .int .i64 (depthP t (fi (bitAt r.ds (idxP r row k))))] (by simp; rfl) rfl ?c1 ?c2 ?c3 ?c4 ?c5 ?_))
      case c1 => exact cells_new _ [_, _] _
      case c2 => intro u hu; simp at hu; rcases hu with rfl | rfl <;> rfl
      case c3 => unfold maxLen; omega
      case c4 => omega
      case c5 => simp; omega
      intro v' w1 hown' hgrow _
      have HX1 := Lib.hid (show Below W2.heap.size W2 w1 from (HX.out.trans (show Below W2.heap.size wr _ from below_mono_of hsz (by (repeat' (first | with_reducible exact Below.refl _ _ | (with_reducible refine below_later_of ?_ ?_ _) | (with_reducible refine Below.alloc ?_ ?_ _) | (with_reducible refine Below.setCell ?_ ?_ _) | (with_reducible refine Below.drew ?_) | (simp; done) | (simp; omega) | omega))))).grown hgrow (by simp; omega) (fun g hg => (HO.out.lt g hg).1))
      have HO1 := Lib.hid hown'
      clear hown' hgrow
      go_wp2
      go_roundw
      case rel => exact ⟨k + 1, by omega, by go_num, by rw [HSN.out]; exact HO1.out, HX1.out⟩
      case measure => simp [intOf]; omega
    · obtain ⟨n, hn⟩ : ∃ n : Nat, r.cols = n := ⟨r.cols.toNat, by omega⟩
      have hkn : r.cols.toNat = k := by omega
      have HKN := Lib.hid hkn
      have hge : r.cols ≤ k := by omega
      clear hn hkn
      go_wp2
      go_ret
      rw [HKN.out]
      exact ⟨_, rfl, ownsRow_mono HO.out (by omega), HB2.out.trans (HX.out.mono (by omega))⟩
/-- Block g holds the sights of a row. -/
def SightsAt (w : World) (g : Nat) (t : Trk) (r : Rel) (fi : Nat → Int) (row : Int) (n : Nat) : Prop :=
  ∀ k : Nat, k < n → w.cell? ⟨g, k * 2, none⟩ = some (.int .i64 (soP t r k)) ∧ w.cell? ⟨g, k * 2 + 1, none⟩ = some (.int .i64 (sdP t r fi row k))
theorem SightsAt.below {w w' : World} {g B n : Nat} {t : Trk} {r : Rel} {fi : Nat → Int} {row : Int} (h : SightsAt w g t r fi row n) (hb : g < B) (hw : Below B w w') : SightsAt w' g t r fi row n := fun k hk =>
  ⟨(hw.cell (p := ⟨g, k * 2, none⟩) hb).trans (h k hk).1, (hw.cell (p := ⟨g, k * 2 + 1, none⟩) hb).trans (h k hk).2⟩
theorem row_sights (t : Trk) (r : Rel) (fi : Nat → Int) (b off cap : Nat) (row : Int) (w : World) (ot : t.Ok) (o : r.Ok) (hf : FlInts fi r.ds) (a1 : 0 ≤ row) (a2 : row < r.rows)
    (hbw : b < w.heap.size) (hc : FloatsAt w b off r.ds) :
    Calls Try.prog 105 #[.agg #[.int .i64 t.sx, .int .i64 t.sy, .int .i64 t.sz, .int .i64 t.step, .int .i64 t.lines, .int .i64 t.near, .int .i64 t.bin, .int .i64 t.bins, .bool t.east, .int .i64 r.x, .int .i64 r.y, .int .i64 r.cell, .int .i64 r.rows, .int .i64 r.cols, .slice (some ⟨b, off, none⟩) r.ds.length cap], .int .i64 row] w
      fun e w' => ∃ g c, e = .returned (.slice (some ⟨g, 0, none⟩) r.cols.toNat c) ∧ w.heap.size ≤ g ∧ g < w'.heap.size ∧ SightsAt w' g t r fi row r.cols.toNat ∧ Below w.heap.size w w' :=
  (row_any t r fi b off cap row w ot o hf a1 a2 hbw hc).mono fun e w' ⟨v, he, ho, hb⟩ => by
    obtain ⟨g, c, rfl, h1, h2, h3, h4⟩ := ownsRow_slice ho (by have := o.l1; omega)
    refine ⟨g, c, he, h1, h2, fun k hk => ?_, hb⟩
    have a0 := (ho.cellAt (k * 2) (by omega)).trans (sightsUpto_at t r fi row k 0 (by omega) _ hk)
    have a1 := (ho.cellAt (k * 2 + 1) (by omega)).trans (sightsUpto_at t r fi row k 1 (by omega) _ hk)
    exact ⟨a0, a1⟩
end Go.Proofs.Ytokpdmlmlkkekaa

/- The kinds of the cells of a row. -/
namespace Go.Proofs.Ytokpdmlmlkkekaa
set_option linter.unusedVariables false
open Go.RowKit
def anyOver (t : Trk) (r : Rel) (fi : Nat → Int) (row : Int) (k m : Nat) : Bool := (List.range m).any fun j => liesP (soP t r j) (sdP t r fi row j) (soP t r k) (sdP t r fi row k)
def anyShadow (t : Trk) (r : Rel) (fi : Nat → Int) (row : Int) (k m : Nat) : Bool := (List.range m).any fun j => hidesP (soP t r j) (sdP t r fi row j) (soP t r k) (sdP t r fi row k)
def kindB (o s : Bool) : Int := if o && s then 3 else if o then 1 else if s then 2 else 0
def kindP (t : Trk) (r : Rel) (fi : Nat → Int) (row : Int) (k : Nat) : Int := kindB (anyOver t r fi row k r.cols.toNat) (anyShadow t r fi row k r.cols.toNat)
def kindsP (t : Trk) (r : Rel) (fi : Nat → Int) (row : Int) : List Int := (List.range r.cols.toNat).map (kindP t r fi row)
theorem anyOver_succ (t : Trk) (r : Rel) (fi : Nat → Int) (row : Int) (k m : Nat) : anyOver t r fi row k (m + 1) = (anyOver t r fi row k m || liesP (soP t r m) (sdP t r fi row m) (soP t r k) (sdP t r fi row k)) := by
  unfold anyOver; rw [List.range_succ, List.any_append]; simp
theorem anyShadow_succ (t : Trk) (r : Rel) (fi : Nat → Int) (row : Int) (k m : Nat) : anyShadow t r fi row k (m + 1) = (anyShadow t r fi row k m || hidesP (soP t r m) (sdP t r fi row m) (soP t r k) (sdP t r fi row k)) := by
  unfold anyShadow; rw [List.range_succ, List.any_append]; simp
theorem ownsRow_below {w w' : World} {base e size n : Nat} {v : Value} {xs : List Value} (h : w.ownsRow base e size v n xs) (hw : Below w.heap.size w w') : w'.ownsRow base e size v n xs := by
  obtain ⟨h1, h2 | ⟨g, cap, cur, h3, h4, h5, h6⟩⟩ := h
  · exact ⟨h1, Or.inl h2⟩
  · exact ⟨h1, Or.inr ⟨g, cap, cur, h3, h4, (hw.block g (Array.getElem?_eq_some_iff.1 h5).1).trans h5, h6⟩⟩
theorem info3 : (Try.prog.info? 3).map (fun i => (i.zero, i.size, i.bytes)) = some (some (.int .i64 0), 1, 8) := by kernel_rfl
theorem row_n (t : Trk) (r : Rel) (fi : Nat → Int) (b off cap : Nat) (row : Int) (w : World) (n : Nat) (hn : r.cols.toNat = n) (ot : t.Ok) (o : r.Ok) (hf : FlInts fi r.ds) (a1 : 0 ≤ row) (a2 : row < r.rows)
    (hbw : b < w.heap.size) (hc : FloatsAt w b off r.ds) :
    Calls Try.prog 105 #[.agg #[.int .i64 t.sx, .int .i64 t.sy, .int .i64 t.sz, .int .i64 t.step, .int .i64 t.lines, .int .i64 t.near, .int .i64 t.bin, .int .i64 t.bins, .bool t.east, .int .i64 r.x, .int .i64 r.y, .int .i64 r.cell, .int .i64 r.rows, .int .i64 r.cols, .slice (some ⟨b, off, none⟩) r.ds.length cap], .int .i64 row] w
      fun e w' => ∃ g c, e = .returned (.slice (some ⟨g, 0, none⟩) n c) ∧ w.heap.size ≤ g ∧ g < w'.heap.size ∧ SightsAt w' g t r fi row n ∧ Below w.heap.size w w' := by
  subst hn; exact row_sights t r fi b off cap row w ot o hf a1 a2 hbw hc
set_option maxRecDepth 20000 in
set_option maxHeartbeats 4000000 in
theorem kinds_any (t : Trk) (r : Rel) (fi : Nat → Int) (b off cap : Nat) (row : Int) (w : World) (ot : t.Ok) (o : r.Ok) (hf : FlInts fi r.ds) (a1 : 0 ≤ row) (a2 : row < r.rows)
    (hbw : b < w.heap.size) (hc : FloatsAt w b off r.ds) :
    Calls Try.prog 102 #[.agg #[.int .i64 t.sx, .int .i64 t.sy, .int .i64 t.sz, .int .i64 t.step, .int .i64 t.lines, .int .i64 t.near, .int .i64 t.bin, .int .i64 t.bins, .bool t.east, .int .i64 r.x, .int .i64 r.y, .int .i64 r.cell, .int .i64 r.rows, .int .i64 r.cols, .slice (some ⟨b, off, none⟩) r.ds.length cap], .int .i64 row] w
      fun e w' => ∃ g, e = .returned (.slice (some ⟨g, 0, none⟩) r.cols.toNat r.cols.toNat) ∧ w'.ownsRow w.heap.size 3 1 (.slice (some ⟨g, 0, none⟩) r.cols.toNat r.cols.toNat) r.cols.toNat ((kindsP t r fi row).map (.int .i64)) ∧ Below w.heap.size w w' := by
  obtain ⟨i0, hi, hz0, hz1, hz2⟩ := info_parts info3
  have HSB := Lib.hid (fun (k : Nat) (hk : (k : Int) < r.cols) => so_bd ot o (show (0 : Int) ≤ k by omega) hk)
  have HDB := Lib.hid (fun (k : Nat) (hk : (k : Int) < r.cols) => sd_bd ot o hf a1 a2 (show (0 : Int) ≤ k by omega) hk)
  have OT := Lib.hid ot
  have O := Lib.hid o
  have HFI := Lib.hid hf
  have HFC := Lib.hid hc
  obtain ⟨-, -, -, -, -, -, r1, r2, l1, l2, -⟩ := o
  obtain ⟨n, hn⟩ : ∃ n : Nat, r.cols.toNat = n := ⟨_, rfl⟩
  have hn1 : (n : Int) = r.cols := by omega
  have HN1 := Lib.hid hn1
  have HKP := Lib.hid (show ∀ k, kindP t r fi row k = kindB (anyOver t r fi row k n) (anyShadow t r fi row k n) from fun k => by unfold kindP; rw [hn])
  have HKS := Lib.hid (show kindsP t r fi row = (List.range n).map (kindP t r fi row) by unfold kindsP; rw [hn])
  have hnl : 1 ≤ n := by omega
  have hnh : n ≤ 64 := by omega
  have HN := Lib.hid (show ((r.cols.toNat : Nat) : Int) = (n : Int) by rw [hn])
  have HNN := Lib.hid hn
  clear ot hf hc hn hn1
  go_enter Try.func102, Try.ntmps102
  go_wp2_with (first | (go_at_call 105; refine (row_n t r fi b off cap row _ n HNN.out OT.out O.out HFI.out (by omega) (by omega) (by simp; omega) (HFC.out.below hbw (by (repeat' (first | with_reducible exact Below.refl _ _ | (with_reducible refine below_later_of ?_ ?_ _) | (with_reducible refine Below.alloc ?_ ?_ _) | (with_reducible refine Below.setCell ?_ ?_ _) | (with_reducible refine Below.drew ?_) | (simp; done) | (simp; omega) | omega))))).mono ?_; rintro e w2 ⟨g, c, rfl, hg1, hg2, hsi, hb2⟩) | (at_make; refine wpList_make_full _ rfl _ _ 61 rfl w2.heap.size 3 i0 (.int .i64 0) 1 Try.underlying61 hi hz0 hz1 _ _ _ _ n rfl rfl rfl rfl (by rw [hz2]; omega) (by unfold maxLen; omega) (Nat.le_refl _) ?_; intro w3 hown3 hgrow3))
  have HB := Lib.hid (show Below w.heap.size w w2 from (show Below w.heap.size w _ from (by (repeat' (first | with_reducible exact Below.refl _ _ | (with_reducible refine below_later_of ?_ ?_ _) | (with_reducible refine Below.alloc ?_ ?_ _) | (with_reducible refine Below.setCell ?_ ?_ _) | (with_reducible refine Below.drew ?_) | (simp; done) | (simp; omega) | omega)))).trans (hb2.mono (by simp)))
  have hw2 : w.heap.size < w2.heap.size := by have := hb2.size; simp at this; omega
  have HSI := Lib.hid hsi
  have HX3 := Lib.hid (show Below w2.heap.size w2 w3 from (Below.refl _ _).grown hgrow3 (Nat.le_refl _) (fun g hg => by cases hg))
  have HO3 := Lib.hid (show ∃ ys : List Int, ys.length = n ∧ w3.ownsRow w2.heap.size 3 1 (.slice (some ⟨w2.heap.size, 0, none⟩) n n) n (ys.map (.int .i64)) from
    ⟨List.replicate n 0, by simp, by rw [List.map_replicate]; have := hown3; rwa [show (Value.int .i64 0).cells = #[Value.int .i64 0] from rfl, toList_madeCells_one, Nat.mul_one] at this⟩)
  clear hb2 hsi hown3 hgrow3
  go_wp2
  go_loopw [21] (fun i wr => ∃ k : Nat, k ≤ n ∧ i = .int .i64 k ∧ (∃ ys : List Int, ys.length = n ∧ wr.ownsRow w2.heap.size 3 1 (.slice (some ⟨w2.heap.size, 0, none⟩) n n) n (ys.map (.int .i64)) ∧ ∀ j, j < k → ys[j]? = some (kindP t r fi row j)) ∧ Below w2.heap.size w2 wr)
    (fun i _ => n - (intOf i).toNat)
  case atStart =>
    obtain ⟨ys, h1, h2⟩ := HO3.out
    exact ⟨0, Nat.zero_le _, rfl, ⟨ys, h1, h2, fun j hj => by omega⟩, HX3.out⟩
  case round =>
    obtain ⟨k, hk, rfl, hys, hnx⟩ := hrel
    obtain ⟨wo, hwo⟩ : ∃ wo : World, wo = wr := ⟨_, rfl⟩
    subst hwo
    have HX := Lib.hid hnx
    have HYS := Lib.hid hys
    have hszo := hnx.size
    clear hys
    by_cases hlt : k < n
    · obtain ⟨d1, d2⟩ := (HSI.out.below hg2 hnx) k hlt
      have hgo : g < wo.heap.size := by omega
      have B3 := Lib.hid (HSB.out k (by have := HN1.out; omega))
      have B4 := Lib.hid (HDB.out k (by have := HN1.out; omega))
      have HKK := Lib.hid (HKP.out k)
      have HSOK := Lib.hid (fun m => anyOver_succ t r fi row k m)
      have HSSK := Lib.hid (fun m => anyShadow_succ t r fi row k m)
      have HO0 := Lib.hid (show anyOver t r fi row k 0 = false from rfl)
      have HS0 := Lib.hid (show anyShadow t r fi row k 0 = false from rfl)
      generalize soP t r k = so at d1 B3 HSOK HSSK
      generalize sdP t r fi row k = sd at d2 B4 HSOK HSSK
      clear hnx
      go_wp2
      obtain ⟨W3, hW3, e1, e2, hlt3, hB3⟩ : ∃ W3, wo.alloc (.cells #[.int .i64 so, .int .i64 sd] 159) = W3 ∧ W3.cell? ⟨wo.heap.size, 0, none⟩ = some (.int .i64 so) ∧ W3.cell? ⟨wo.heap.size, 1, none⟩ = some (.int .i64 sd) ∧ wo.heap.size < W3.heap.size ∧ Below wo.heap.size wo W3 :=
        ⟨_, rfl, World.cell?_alloc_new _ _ _ _, World.cell?_alloc_new _ _ _ _, by simp, (Below.refl _ _).alloc (Nat.le_refl _) _⟩
      rw [hW3]
      have E1 := Lib.hid e1
      have E2 := Lib.hid e2
      have HB3 := Lib.hid hB3
      clear hW3 e1 e2 hB3 d1 d2
      go_loopw [9, 10, 28] (fun ov sh v wr => ∃ m : Nat, m ≤ n ∧ v = .int .i64 m ∧ ov = .bool (anyOver t r fi row k m) ∧ sh = .bool (anyShadow t r fi row k m) ∧ Below W3.heap.size W3 wr)
        (fun _ _ v _ => n - (intOf v).toNat)
      case atStart => exact ⟨0, Nat.zero_le _, rfl, by rw [HO0.out], by rw [HS0.out], Below.refl _ _⟩
      case round =>
        obtain ⟨m, hm, rfl, rfl, rfl, hnx⟩ := hrel
        have hszi := hnx.size
        have s1 := (hnx.cell (p := ⟨wo.heap.size, 0, none⟩) hlt3).trans E1.out
        have s2 := (hnx.cell (p := ⟨wo.heap.size, 1, none⟩) hlt3).trans E2.out
        have HXI := Lib.hid hnx
        have HXW := Lib.hid (show Below w2.heap.size w2 wr from HX.out.trans ((HB3.out.trans (hnx.mono (by omega))).mono hszo))
        by_cases hml : m < n
        · obtain ⟨d1, d2⟩ := (HSI.out.below hg2 HXW.out) m hml
          have hgr : g < wr.heap.size := by omega
          have B1 := Lib.hid (HSB.out m (by have := HN1.out; omega))
          have B2 := Lib.hid (HDB.out m (by have := HN1.out; omega))
          have HSO := Lib.hid (HSOK.out m)
          have HSS := Lib.hid (HSSK.out m)
          generalize soP t r m = mo at d1 B1 HSO HSS
          generalize sdP t r fi row m = md at d2 B2 HSO HSS
          obtain ⟨l, hl⟩ : ∃ l, liesP mo md so sd = l := ⟨_, rfl⟩
          obtain ⟨h, hh⟩ : ∃ h, hidesP mo md so sd = h := ⟨_, rfl⟩
          have HL := Lib.hid hl
          have HH := Lib.hid hh
          rw [hl] at HSO
          rw [hh] at HSS
          clear hl hh hnx
          generalize anyOver t r fi row k m = ov at HSO
          generalize anyShadow t r fi row k m = sh at HSS
          cases ov <;> cases sh
          all_goals (go_wp2_with (first | (go_at_call 142; (with_reducible refine (lies_any _ _ _ _ _ B1.out B2.out B3.out B4.out HL.out).mono ?_); rintro e w' ⟨rfl, hb⟩; obtain ⟨pp, rfl⟩ := later_of_below hb; clear hb) | (go_at_call 106; (with_reducible refine (hides_any _ _ _ _ _ B1.out B2.out B3.out B4.out HH.out).mono ?_); rintro e w' ⟨rfl, hb⟩; obtain ⟨pp, rfl⟩ := later_of_below hb; clear hb)))
          all_goals (go_roundw; (case rel => exact ⟨m + 1, by omega, by go_num, by rw [HSO.out]; rfl, by rw [HSS.out]; rfl, HXI.out.trans (below_mono_of hszi (by (repeat' (first | with_reducible exact Below.refl _ _ | (with_reducible refine below_later_of ?_ ?_ _) | (with_reducible refine Below.alloc ?_ ?_ _) | (with_reducible refine Below.setCell ?_ ?_ _) | (with_reducible refine Below.drew ?_) | (simp; done) | (simp; omega) | omega))))⟩); (case measure => simp [intOf]; omega))
        · obtain rfl : m = n := by omega
          obtain ⟨ys, hy1, hy2, hy3⟩ := HYS.out
          have hw4 : Below wo.heap.size wo wr := HB3.out.trans (hnx.mono (by omega))
          have HO4 := Lib.hid (ownsRow_below hy2 hw4)
          have hcl : ∃ z : Int, wr.cell? ⟨w2.heap.size, k, none⟩ = some (.int .i64 z) := by
            refine ⟨ys[k], ?_⟩
            rw [HO4.out.cellAt k (by omega)]
            simp [hy1, hlt]
          obtain ⟨z, hcl⟩ := hcl
          have hfz := HO4.out.frozenAt k
          have HZ := Lib.hid (show ∀ u : Int, (∀ v : Int, v = u → kindP t r fi row k = v) → (∃ ys : List Int, ys.length = m ∧ (wr.setCell ⟨w2.heap.size, k, none⟩ (.int .i64 u)).ownsRow w2.heap.size 3 1 (.slice (some ⟨w2.heap.size, 0, none⟩) m m) m (ys.map (.int .i64)) ∧ ∀ j, j < k + 1 → ys[j]? = some (kindP t r fi row j)) ∧ Below w2.heap.size w2 (wr.setCell ⟨w2.heap.size, k, none⟩ (.int .i64 u)) from fun u hu => by
            refine ⟨⟨ys.set k u, by simpa using hy1, ?_, fun j hj => ?_⟩, HXW.out.setCell (Nat.le_refl _) _⟩
            · have := (HO4.out.stored k (.int .i64 u)).1
              rwa [← List.map_set] at this
            · by_cases e : j = k
              · rw [e, List.getElem?_set_self (by omega), hu u rfl]
              · rw [List.getElem?_set_ne (Ne.symm e)]; exact hy3 j (by omega))
          have hw2r : w2.heap.size < wr.heap.size := (HO4.out.lt _ rfl).2
          clear hy1 hy2 hy3 hw4 hnx s1 s2
          generalize anyOver t r fi row k m = ov at HKK
          generalize anyShadow t r fi row k m = sh at HKK
          cases ov <;> cases sh
          all_goals go_wp2
          all_goals (go_roundw; (case rel => refine ⟨k + 1, by omega, by go_num, ?_⟩; refine HZ.out _ ?_; intro v hv; rw [HKK.out, hv]; rfl); (case measure => simp [intOf]; omega))
    · obtain rfl : k = n := by omega
      go_wp2
      go_ret
      obtain ⟨ys, hy1, hy2, hy3⟩ := HYS.out
      have hl : kindsP t r fi row = ys := by
        rw [HKS.out]
        apply List.ext_getElem?
        intro j
        by_cases hj : j < k
        · rw [hy3 j hj]; simp [hj]
        · rw [List.getElem?_eq_none (by simp; omega), List.getElem?_eq_none (by omega)]
      rw [HNN.out, hl]
      exact ⟨_, rfl, ownsRow_mono hy2 (by omega), HB.out.trans (HX.out.mono (by omega))⟩
end Go.Proofs.Ytokpdmlmlkkekaa

/- The cells of a view, one by one. -/
namespace Go.Proofs.Ytokpdmlmlkkekaa
set_option linter.unusedVariables false
open Go.RowKit
def encC (nc k : Nat) : Array Value := #[.int .i64 ((k / nc : Nat) : Int), .int .i64 ((k % nc : Nat) : Int)]
theorem encC_at {nc i j : Nat} (hj : j < nc) : encC nc (i * nc + j) = #[.int .i64 (i : Int), .int .i64 (j : Int)] := by
  unfold encC
  rw [Nat.mul_comm, Nat.mul_add_div (by omega), Nat.div_eq_of_lt hj, Nat.mul_add_mod, Nat.mod_eq_of_lt hj, Nat.add_zero]
theorem ViewAt.block {w w' : World} {B : Nat} {t : Trk} {r : Rel} {b off cap : Nat} (h : ViewAt w B t r b off cap) (hw : w'.heap[B]? = w.heap[B]?) : ViewAt w' B t r b off cap := by
  have hc : ∀ j, w'.cell? ⟨B, j, none⟩ = w.cell? ⟨B, j, none⟩ := fun j => World.cell?_of_block hw
  unfold ViewAt at h ⊢
  simp only [hc]
  exact h
set_option maxRecDepth 20000 in
set_option maxHeartbeats 1000000 in
theorem cells_iter (n : Nat) (hn : 1 ≤ n) (t : Trk) (r : Rel) (b off cap : Nat) (o : r.Ok) (nr nc : Nat) (hnr : r.rows = nr) (hnc : r.cols = nc) (W : World) :
    IterOk Fence.wide n Try.prog 130 #[.agg #[.int .i64 t.sx, .int .i64 t.sy, .int .i64 t.sz, .int .i64 t.step, .int .i64 t.lines, .int .i64 t.near, .int .i64 t.bin, .int .i64 t.bins, .bool t.east, .int .i64 r.x, .int .i64 r.y, .int .i64 r.cell, .int .i64 r.rows, .int .i64 r.cols, .slice (some ⟨b, off, none⟩) r.ds.length cap]] (nr * nc) (encC nc) W := by
  intro l J Jx hJ hJx hY h0
  obtain ⟨-, -, -, -, -, -, r1, r2, l1, l2, -⟩ := o
  have HNR := Lib.hid hnr
  have HNC := Lib.hid hnc
  have HJ := Lib.hid hJ
  have HY := Lib.hid hY
  have H0 := Lib.hid h0
  clear hJ hJx hY h0
  refine callsIn_of_wp Try.func130 rfl trivial ?_ rfl
  simp only [Try.ntmps130, List.size_toArray, List.length_cons, List.length_nil, Nat.reduceAdd, Nat.reduceSub, Array.replicate_succ, Array.replicate_zero, List.push_toArray, List.append_toArray, List.nil_append, List.cons_append]
  have c1 : 1 ≤ nc := by omega
  have c2 : nc ≤ 64 := by omega
  have c3 : 1 ≤ nr := by omega
  have c4 : nr ≤ 64 := by omega
  clear hnr hnc
  gi_wp2
  obtain ⟨W2, hW2, hV2, hB2, hs2⟩ : ∃ W2, W.alloc (.cells #[.int .i64 t.sx, .int .i64 t.sy, .int .i64 t.sz, .int .i64 t.step, .int .i64 t.lines, .int .i64 t.near, .int .i64 t.bin, .int .i64 t.bins, .bool t.east, .int .i64 r.x, .int .i64 r.y, .int .i64 r.cell, .int .i64 r.rows, .int .i64 r.cols, .slice (some ⟨b, off, none⟩) r.ds.length cap] 150) = W2 ∧ ViewAt W2 W.heap.size t r b off cap ∧ Below W.heap.size W W2 ∧ W2.heap.size = W.heap.size + 1 :=
    ⟨_, rfl, viewAt_alloc _ _ _ _ _ _ _, (Below.refl _ _).alloc (Nat.le_refl _) _, by simp⟩
  rw [hW2]
  have HV2 := Lib.hid hV2
  have HJ0 := Lib.hid (HJ.out 0 _ _ H0.out hB2)
  have hlt2 : W.heap.size < W2.heap.size := by omega
  clear hW2 hV2 hB2 hs2
  gi_loopw [11] (fun v wr => ∃ i : Nat, i ≤ nr ∧ v = .int .i64 i ∧ J (i * nc) wr ∧ KeepTop W.heap.size W2 wr) (fun v _ => nr - (intOf v).toNat)
  case atStart => exact ⟨0, Nat.zero_le _, rfl, by rw [Nat.zero_mul]; exact HJ0.out, KeepTop.refl _ _⟩
  case round =>
    obtain ⟨i, hi, rfl, hj, hkt⟩ := hrel
    obtain ⟨c0, d1, d2, d3, d4, d5, d6, d7, d8, d9, d10, d11, d12, d13, d14⟩ := HV2.out.block (hkt.same _ (Nat.le_refl _) hlt2)
    clear c0 d1 d2 d3 d4 d5 d6 d7 d8 d9 d10 d11 d14
    have HKT := Lib.hid hkt
    have HJI := Lib.hid hj
    have hsz := hkt.size
    clear hj hkt
    by_cases hlt : i < nr
    · have hlt' : (i : Int) < r.rows := by have := HNR.out; omega
      gi_wp2
      gi_loopw [19] (fun v wr => ∃ j : Nat, j ≤ nc ∧ v = .int .i64 j ∧ J (i * nc + j) wr ∧ KeepTop W.heap.size W2 wr) (fun v _ => nc - (intOf v).toNat)
      case atStart => exact ⟨0, Nat.zero_le _, rfl, by rw [Nat.add_zero]; exact HJI.out, HKT.out⟩
      case round =>
        obtain ⟨j, hjn, rfl, hj2, hkt2⟩ := hrel
        by_cases hjl : j < nc
        · have hjl' : (j : Int) < r.cols := by have := HNC.out; omega
          have hk : i * nc + j < nr * nc := by
            have := Nat.mul_le_mul_right nc (show i + 1 ≤ nr by omega)
            rw [Nat.add_mul] at this; omega
          obtain ⟨fn, tmps, assign, body, hy, hR⟩ := HY.out _ _ hj2 hk (Nat.le_trans (Nat.le_of_lt hlt2) hkt2.size)
          rw [encC_at hjl] at hy
          have HR := Lib.hid hR
          have HK2 := Lib.hid hkt2
          clear hR hj2 hkt2
          gi_wp2
          refine HR.out.mono ?_
          rintro e W3 (⟨rfl, hJ3, hk3⟩ | ⟨rfl, hJx3⟩)
          · have HJ3 := Lib.hid hJ3
            have HK3 := Lib.hid (HK2.out.trans hk3)
            clear hJ3 hk3
            gi_wp2
            go_roundw
            case rel => exact ⟨j + 1, by omega, by go_num, HJ3.out, HK3.out⟩
            case measure => simp [intOf]; omega
          · gi_wp2
            refine bodyPost_ret (results_none rfl _ _ _) rfl ?_
            exact ⟨⟨_, rfl⟩, .inr hJx3⟩
        · have hjg : r.cols ≤ (j : Int) := by have := HNC.out; omega
          obtain rfl : j = nc := by omega
          have HJE := Lib.hid hj2
          have HKE := Lib.hid hkt2
          clear hj2 hkt2
          gi_wp2
          go_roundw
          case rel => exact ⟨i + 1, by omega, by go_num, by rw [Nat.add_mul, Nat.one_mul]; exact HJE.out, HKE.out⟩
          case measure => simp [intOf]; omega
    · have hge : r.rows ≤ (i : Int) := by have := HNR.out; omega
      obtain rfl : i = nr := by omega
      gi_wp2
      go_end0
      exact ⟨⟨_, rfl⟩, .inl HJI.out⟩
end Go.Proofs.Ytokpdmlmlkkekaa

/- viewOf. -/
namespace Go.Proofs.Ytokpdmlmlkkekaa
set_option linter.unusedVariables false
open Go.RowKit
/-- Stores and loads of whole rows inside a fence. -/
theorem wpListIn_store_row {F : Fence} {n : Nat} {P : Program} {ops : Array Oper} {rest : List Oper} {o : Oper} {a : Act} {w : World} {Q : Exit → Act → World → Prop} (hgd : o.guard = none) (ty : TypeId) (x y : Operand) (ho : o.op = .store ty x y)
    (g : Nat) (cells : Array Value) (hx : a.eval x = .pointer (some ⟨g, 0, none⟩)) (hy : a.eval y = .agg cells)
    (t : TypeId) (old : Array Value) (hg : w.heap[g]? = some (.cells old t (0, 0))) (hi : (P.info? ty).map (·.size) = some cells.size)
    (hold : old.size = cells.size) (h1 : cells.all (·.oneCell') = true)
    (h : wpListIn F n P ops Q rest (a.put o.dst undef) (w.setRow g cells)) : wpListIn F n P ops Q (o :: rest) a w := by
  refine wpListIn_plain hgd fun K hK => ?_
  unfold Oper.wpIn
  refine ⟨?_, ?_⟩
  · simp [Oper.about, ho]
  · rw [Oper.semAt_eq _ _ _ (by rw [ho]; intro c hc; cases hc)]
    unfold execOp
    simp only [ho, hx, hy, Instr.storeAt, Instr.sureAddr, Sem.run_bind, Sem.run_pure, Result.andThen_ok, run_storeVar_row w g t ty old cells hg hi hold h1]
    exact hK _ _ h
theorem wpListIn_load_row {F : Fence} {n : Nat} {P : Program} {ops : Array Oper} {rest : List Oper} {o : Oper} {a : Act} {w : World} {Q : Exit → Act → World → Prop} (hgd : o.guard = none) (ty : TypeId) (x : Operand) (ho : o.op = .load ty x)
    (g : Nat) (hx : a.eval x = .pointer (some ⟨g, 0, none⟩)) (t : TypeId) (cs : Array Value) (fr : Nat × Nat) (d : TypeDesc) (hg : w.heap[g]? = some (.cells cs t fr))
    (hu : P.underlying ty = some d) (hd : (match d with | .struct _ | .array _ _ => true | _ => false) = true) (hi : (P.info? ty).map (·.size) = some cs.size)
    (h : wpListIn F n P ops Q rest (a.put o.dst (.agg cs)) w) : wpListIn F n P ops Q (o :: rest) a w := by
  refine wpListIn_plain hgd fun K hK => ?_
  unfold Oper.wpIn
  refine ⟨?_, ?_⟩
  · simp [Oper.about, ho]
  · rw [Oper.semAt_eq _ _ _ (by rw [ho]; intro c hc; cases hc)]
    unfold execOp
    simp only [ho, hx, Instr.loadAt, Instr.sureAddr, Sem.run_bind, Sem.run_pure, Result.andThen_ok, run_loadVar_row w g t ty cs fr d hg hu hd hi]
    exact hK _ _ h
theorem callsIn_round {l m : Nat} {P : Program} {f : FuncId} {args : Array Value} {w : World} {R : Ending → World → Prop} (h : Calls P f args w R) : CallsIn (Fence.wide.inRound l) m P f args w R := callsIn_wide (n := m).2 h
/-- The off and the depth of cell k, row by row. -/
def offK (t : Trk) (r : Rel) (k : Nat) : Int := soP t r ((k % r.cols.toNat : Nat) : Int)
def depK (t : Trk) (r : Rel) (fi : Nat → Int) (k : Nat) : Int := sdP t r fi ((k / r.cols.toNat : Nat) : Int) ((k % r.cols.toNat : Nat) : Int)
def deepUpto (t : Trk) (r : Rel) (fi : Nat → Int) (k : Nat) : Bool := (List.range k).all fun j => decide (1 ≤ depK t r fi j)
/-- Some cell is not on the side that the satellite sees. -/
def BadOff (t : Trk) (r : Rel) : Prop := ∃ k, k < r.ds.length ∧ offK t r k ≤ 0
open Classical in
noncomputable def viewErrP (fe fi : Nat → Int) (t : Trk) (r : Rel) : Int :=
  if first2 (checkTrackP t) (relErrP fe r) = 0 then (if BadOff t r then 15 else if deepUpto t r fi r.ds.length then 0 else 26) else first2 (checkTrackP t) (relErrP fe r)
theorem first_e (x y : Int) (b : Nat) (w : World) {e0 : Int} (he : first2 x y = e0) (h0 : w.cell? ⟨b, 0, none⟩ = some (.int .i64 x)) (h1 : w.cell? ⟨b, 1, none⟩ = some (.int .i64 y)) :
    Calls Try.prog 109 #[.slice (some ⟨b, 0, none⟩) 2 2] w fun e w' => e = .returned (.int .i64 e0) ∧ w = w' := by
  subst he; exact first_two x y b w h0 h1
set_option maxRecDepth 20000 in
set_option maxHeartbeats 2000000 in
theorem viewOf_err (fe fi : Nat → Int) (t : Trk) (r : Rel) (a : Option Addr) (cap : Nat) (w : World) (hlen : r.ds.length ≤ 1000000000) (hfe : ∀ k, k < r.ds.length → FlErr (bitAt r.ds k) (fe (bitAt r.ds k)))
    (ha : 0 < r.ds.length → ∃ b off, a = some ⟨b, off, none⟩ ∧ b < w.heap.size ∧ FloatsAt w b off r.ds) (h : ¬ first2 (checkTrackP t) (relErrP fe r) = 0) :
    Calls Try.prog 101 #[.agg #[.int .i64 t.sx, .int .i64 t.sy, .int .i64 t.sz, .int .i64 t.step, .int .i64 t.lines, .int .i64 t.near, .int .i64 t.bin, .int .i64 t.bins, .bool t.east], .agg #[.int .i64 r.x, .int .i64 r.y, .int .i64 r.cell, .int .i64 r.rows, .int .i64 r.cols, .slice a r.ds.length cap]] w fun e w' => e = .returned (.tuple #[.agg #[.int .i64 t.sx, .int .i64 t.sy, .int .i64 t.sz, .int .i64 t.step, .int .i64 t.lines, .int .i64 t.near, .int .i64 t.bin, .int .i64 t.bins, .bool t.east, .int .i64 r.x, .int .i64 r.y, .int .i64 r.cell, .int .i64 r.rows, .int .i64 r.cols, .slice a r.ds.length cap], .int .i64 (viewErrP fe fi t r)]) ∧ Below w.heap.size w w' := by
  obtain ⟨e0, he⟩ : ∃ e0, first2 (checkTrackP t) (relErrP fe r) = e0 := ⟨_, rfl⟩
  have HF : viewErrP fe fi t r = e0 := by unfold viewErrP; rw [if_neg h, he]
  rw [HF]
  rw [he] at h
  have HE := Lib.hid he
  have HFE := Lib.hid hfe
  have HA := Lib.hid (show ∀ w', w.heap.size ≤ w'.heap.size → Below w.heap.size w w' → 0 < r.ds.length → ∃ b off, a = some ⟨b, off, none⟩ ∧ b < w'.heap.size ∧ FloatsAt w' b off r.ds from fun w' hs hb hp => by
    obtain ⟨b, off, h1, h2, h3⟩ := ha hp
    exact ⟨b, off, h1, by omega, h3.below h2 hb⟩)
  clear he hfe ha HF
  go_enter Try.func101, Try.ntmps101
  go_wp2
  go_region_held3 (fun w' => w'.cell? ⟨w.heap.size, 0, none⟩ = some (.int .i64 t.sx) ∧ w'.cell? ⟨w.heap.size, 1, none⟩ = some (.int .i64 t.sy) ∧ w'.cell? ⟨w.heap.size, 2, none⟩ = some (.int .i64 t.sz) ∧ w'.cell? ⟨w.heap.size, 3, none⟩ = some (.int .i64 t.step) ∧ w'.cell? ⟨w.heap.size, 4, none⟩ = some (.int .i64 t.lines) ∧ w'.cell? ⟨w.heap.size, 5, none⟩ = some (.int .i64 t.near) ∧ w'.cell? ⟨w.heap.size, 6, none⟩ = some (.int .i64 t.bin) ∧ w'.cell? ⟨w.heap.size, 7, none⟩ = some (.int .i64 t.bins) ∧ w'.cell? ⟨w.heap.size, 8, none⟩ = some (.bool t.east) ∧ w'.cell? ⟨w.heap.size + 1, 0, none⟩ = some (.int .i64 r.x) ∧ w'.cell? ⟨w.heap.size + 1, 1, none⟩ = some (.int .i64 r.y) ∧ w'.cell? ⟨w.heap.size + 1, 2, none⟩ = some (.int .i64 r.cell) ∧ w'.cell? ⟨w.heap.size + 1, 3, none⟩ = some (.int .i64 r.rows) ∧ w'.cell? ⟨w.heap.size + 1, 4, none⟩ = some (.int .i64 r.cols) ∧ w'.cell? ⟨w.heap.size + 1, 5, none⟩ = some (.slice a r.ds.length cap)) (first | ((first | (simp [go_sem]; done) | simp [go_sem, ↓IntWalk.iteOmega]); done)) (first | (go_at_call 26; refine (checkTrack_any t _).mono ?_; rintro e w' ⟨rfl, hb⟩; obtain ⟨pp, rfl⟩ := later_of_below hb; clear hb) | (go_at_call 44; refine (checkRelief_any fe r a cap _ (by omega) HFE.out (HA.out _ (by simp; omega) (by (repeat' (first | with_reducible exact Below.refl _ _ | (with_reducible refine below_later_of ?_ ?_ _) | (with_reducible refine Below.alloc ?_ ?_ _) | (with_reducible refine Below.setCell ?_ ?_ _) | (with_reducible refine Below.drew ?_) | (simp; done) | (simp; omega) | omega))))).mono ?_; rintro e w' ⟨rfl, hb⟩; obtain ⟨pp, rfl⟩ := later_of_below hb; clear hb) | (go_at_call 109; refine (first_e (checkTrackP t) (relErrP fe r) _ _ HE.out (by (first | (simp [go_sem]; done) | simp [go_sem, ↓IntWalk.iteOmega])) (by (first | (simp [go_sem]; done) | simp [go_sem, ↓IntWalk.iteOmega]))).mono ?_; rintro e w' ⟨rfl, rfl⟩))
  go_wp2
  refine bodyPost_ret ?_ rfl ⟨rfl, (by (repeat' (first | with_reducible exact Below.refl _ _ | (with_reducible refine below_later_of ?_ ?_ _) | (with_reducible refine Below.alloc ?_ ?_ _) | (with_reducible refine Below.setCell ?_ ?_ _) | (with_reducible refine Below.drew ?_) | (simp; done) | (simp; omega) | omega)))⟩
  first | (simp [results, Try.results101, go_sem]; done) | simp [results, Try.results101, go_sem, ↓IntWalk.iteOmega]
end Go.Proofs.Ytokpdmlmlkkekaa

/- The round of viewOf's loop. -/
namespace Go.Proofs.Ytokpdmlmlkkekaa
set_option linter.unusedVariables false
open Go.RowKit

theorem wp_world {P : Program} {c : Code} {Q : Exit → Act → World → Prop} {a : Act} {w : World} (F : World → Prop) (hf : F w) (h : ∀ W, F W → Code.wp P c Q a W) : Code.wp P c Q a w := h w hf
theorem heap_new_at (w : World) (o : Obj) (k : Nat) (h : k = w.heap.size) : (w.alloc o).heap[k]? = some o := by subst h; exact heap_alloc_new w o
/-- A cell of a row that was just written: not looked into. -/
def rowCell (w : World) (m : Nat) (cs : Array Value) (a : Addr) : Option Value := (w.setRow m cs).cell? a
@[go_sem] theorem cell_setRow_pick (w : World) (m : Nat) (cs : Array Value) (n i : Nat) : (w.setRow m cs).cell? ⟨n, i, none⟩ = pickEq m n (rowCell w m cs ⟨n, i, none⟩) (w.cell? ⟨n, i, none⟩) := by
  unfold pickEq
  split
  · rfl
  · exact World.cell?_of_block (setRow_other w m n cs (by omega))
def rowFrozen (w : World) (m : Nat) (cs : Array Value) (a : Addr) : Bool := (w.setRow m cs).frozen? a
@[go_sem] theorem frozen_setRow_pick (w : World) (m : Nat) (cs : Array Value) (n i : Nat) : (w.setRow m cs).frozen? ⟨n, i, none⟩ = pickEq m n (rowFrozen w m cs ⟨n, i, none⟩) (w.frozen? ⟨n, i, none⟩) := by
  unfold pickEq
  split
  · rfl
  · exact World.frozen?_of_block (setRow_other w m n cs (by omega))
theorem below_setRow {B : Nat} {a w : World} (h : Below B a w) {g : Nat} (hg : B ≤ g) (cs : Array Value) : Below B a (w.setRow g cs) :=
  h.trans ⟨rfl, rfl, rfl, by simp, fun k hk => setRow_other _ _ _ _ (by omega)⟩
theorem KeepTop.setRow {B : Nat} {X Y : World} (h : KeepTop B X Y) {g : Nat} (hg : g < B) (cs : Array Value) : KeepTop B X (Y.setRow g cs) :=
  ⟨by simpa using h.size, fun i h1 h2 => (setRow_other _ _ _ _ (by omega)).trans (h.same i h1 h2)⟩
theorem cell_box {W : World} {g : Nat} {v : Value} {T : TypeId} (h : W.heap[g]? = some (.cells #[v] T (0, 0))) : W.cell? ⟨g, 0, none⟩ = some v ∧ W.frozen? ⟨g, 0, none⟩ = false :=
  ⟨by rw [cell_of_row W g 0 _ _ _ h]; rfl, frozen_of_row W g 0 _ _ h⟩
theorem deepUpto_succ (t : Trk) (r : Rel) (fi : Nat → Int) (k : Nat) : deepUpto t r fi (k + 1) = (deepUpto t r fi k && decide (1 ≤ depK t r fi k)) := by
  unfold deepUpto; rw [List.range_succ, List.all_append]; simp
theorem viewInfo : (Try.prog.info? 150).map (·.size) = some 15 := by kernel_rfl
/-- What is known at the loop of viewOf. -/
structure VLoop (w : World) (B8 : Nat) (t : Trk) (r : Rel) (b off cap : Nat) (d : Bool) (W : World) : Prop where
  bel : Below w.heap.size w W
  h4 : W.heap[w.heap.size + 1 + 1]? = some (.cells #[.int .i64 0, .int .i64 0, .int .i64 0, .int .i64 0, .int .i64 0, .int .i64 0, .int .i64 0, .int .i64 0, .bool false, .int .i64 0, .int .i64 0, .int .i64 0, .int .i64 0, .int .i64 0, .slice none 0 0] 150 (0, 0))
  h5 : W.heap[w.heap.size + 1 + 1 + 1]? = some (.cells #[.int .i64 0] 32 (0, 0))
  h6 : W.heap[w.heap.size + 1 + 1 + 1 + 1]? = some (.cells #[.int .i64 t.sx, .int .i64 t.sy, .int .i64 t.sz, .int .i64 t.step, .int .i64 t.lines, .int .i64 t.near, .int .i64 t.bin, .int .i64 t.bins, .bool t.east, .int .i64 r.x, .int .i64 r.y, .int .i64 r.cell, .int .i64 r.rows, .int .i64 r.cols, .slice (some ⟨b, off, none⟩) r.ds.length cap] 150 (0, 0))
  h8 : W.heap[B8]? = some (.cells #[.bool d] 4 (0, 0))
theorem VLoop.below {w W W' : World} {B8 B : Nat} {t : Trk} {r : Rel} {b off cap : Nat} {d : Bool} (h : VLoop w B8 t r b off cap d W) (hB : w.heap.size + 1 + 1 + 1 + 1 < B) (h8 : B8 < B) (hw : Below B W W') : VLoop w B8 t r b off cap d W' :=
  ⟨h.bel.trans (hw.mono (by omega)), (hw.block _ (by omega)).trans h.h4, (hw.block _ (by omega)).trans h.h5, (hw.block _ (by omega)).trans h.h6, (hw.block _ h8).trans h.h8⟩
/-- What is known where a round has left. -/
structure VEnd (w : World) (t : Trk) (r : Rel) (b off cap : Nat) (e : Int) (W : World) : Prop where
  bel : Below w.heap.size w W
  h4 : W.heap[w.heap.size + 1 + 1]? = some (.cells #[.int .i64 t.sx, .int .i64 t.sy, .int .i64 t.sz, .int .i64 t.step, .int .i64 t.lines, .int .i64 t.near, .int .i64 t.bin, .int .i64 t.bins, .bool t.east, .int .i64 r.x, .int .i64 r.y, .int .i64 r.cell, .int .i64 r.rows, .int .i64 r.cols, .slice (some ⟨b, off, none⟩) r.ds.length cap] 150 (0, 0))
  h5 : W.heap[w.heap.size + 1 + 1 + 1]? = some (.cells #[.int .i64 e] 32 (0, 0))
theorem VEnd.below {w W W' : World} {B : Nat} {t : Trk} {r : Rel} {b off cap : Nat} {e : Int} (h : VEnd w t r b off cap e W) (hB : w.heap.size + 1 + 1 + 1 < B) (hw : Below B W W') : VEnd w t r b off cap e W' :=
  ⟨h.bel.trans (hw.mono (by omega)), (hw.block _ (by omega)).trans h.h4, (hw.block _ (by omega)).trans h.h5⟩

/-- The body of the first range over a function in a code. -/
def rangeBody : Code → Option Code
  | .seq a b => match rangeBody a with | some c => some c | none => rangeBody b
  | .cond _ a b => match rangeBody a with | some c => some c | none => rangeBody b
  | .block _ c => rangeBody c
  | .loop c => rangeBody c
  | .scope c => rangeBody c
  | .rangeFunc _ _ _ body => some body
  | _ => none
set_option maxRecDepth 20000 in
set_option maxHeartbeats 2000000 in
theorem viewBody (body : Code) (hbody : Try.f101.body.bind rangeBody = some body) (fi : Nat → Int) (t : Trk) (r : Rel) (b off cap : Nat) (w W : World) (B8 C l m : Nat) (i j : Nat) (d : Bool) (hz : Int) (I : World → Prop) (Ix : Code → World → Prop)
    (ot : t.Ok) (o : r.Ok) (hi' : (i : Int) < r.rows) (hj' : (j : Int) < r.cols) (hf1 : FlInt (bitAt r.ds (idxP r i j)) hz) (hf2 : -1000000 ≤ hz) (hf3 : hz ≤ 1000000)
    (h8 : w.heap.size + 1 + 1 + 1 + 1 < B8) (hC : B8 < C) (hWs : B8 < W.heap.size) (hbw : b < w.heap.size) (hfl : FloatsAt w b off r.ds) (hvl : VLoop w B8 t r b off cap d W)
    (hstop : offP t (pxP r j) ≤ 0 → ∀ W', VEnd w t r b off cap 15 W' → Ix .ret W')
    (hgo : ¬ offP t (pxP r j) ≤ 0 → ∀ W', VLoop w B8 t r b off cap (d && decide (1 ≤ depthP t hz)) W' → B8 < W'.heap.size → I W')
    (u0 u1 u2 u3 u7 u11 u12 u13 u14 u15 u16 u17 u18 u19 u20 u21 u22 u23 u24 u25 u26 u27 u28 u29 u30 u31 u32 u33 u34 u35 u36 u37 u38 u39 u40 u41 u42 u43 u44 u45 u46 u47 u48 : Value) :
    body.wpIn (Fence.wide.inRound l) (m + 2) Try.prog (boundPost C I Ix W) { tmps := #[u0, u1, u2, u3, .pointer (some ⟨w.heap.size + 1 + 1, 0, none⟩), .pointer (some ⟨w.heap.size + 1 + 1 + 1, 0, none⟩), .pointer (some ⟨w.heap.size + 1 + 1 + 1 + 1, 0, none⟩), u7, .pointer (some ⟨B8, 0, none⟩), .int .i64 (i : Int), .int .i64 (j : Int), u11, u12, u13, u14, u15, u16, u17, u18, u19, u20, u21, u22, u23, u24, u25, u26, u27, u28, u29, u30, u31, u32, u33, u34, u35, u36, u37, u38, u39, u40, u41, u42, u43, u44, u45, u46, u47, u48], defers := [] } W := by
  unfold Try.f101 at hbody
  simp only [Option.bind_some, rangeBody, Option.some.injEq] at hbody
  subst hbody
  have HF1 := Lib.hid hf1
  have OT := Lib.hid ot
  have O := Lib.hid o
  have HVB := Lib.hid hvl
  have HST := Lib.hid hstop
  have HGO := Lib.hid hgo
  have H6 := Lib.hid (show ∀ W', Below W.heap.size W W' → W'.heap[w.heap.size + 1 + 1 + 1 + 1]? = some (.cells #[.int .i64 t.sx, .int .i64 t.sy, .int .i64 t.sz, .int .i64 t.step, .int .i64 t.lines, .int .i64 t.near, .int .i64 t.bin, .int .i64 t.bins, .bool t.east, .int .i64 r.x, .int .i64 r.y, .int .i64 r.cell, .int .i64 r.rows, .int .i64 r.cols, .slice (some ⟨b, off, none⟩) r.ds.length cap] 150 (0, 0)) from fun W' hb => (hb.block _ (by omega)).trans hvl.h6)
  have H4 := Lib.hid (show ∀ W', Below W.heap.size W W' → W'.heap[w.heap.size + 1 + 1]? = some (.cells #[.int .i64 0, .int .i64 0, .int .i64 0, .int .i64 0, .int .i64 0, .int .i64 0, .int .i64 0, .int .i64 0, .bool false, .int .i64 0, .int .i64 0, .int .i64 0, .int .i64 0, .int .i64 0, .slice none 0 0] 150 (0, 0)) from fun W' hb => (hb.block _ (by omega)).trans hvl.h4)
  obtain ⟨e8, f8⟩ := cell_box hvl.h8
  obtain ⟨e5, f5⟩ := cell_box hvl.h5
  have hbW : b < W.heap.size := by have := hvl.bel.size; omega
  have HFW := Lib.hid (hfl.below hbw hvl.bel)
  have hwW : w.heap.size + 1 + 1 + 1 + 1 < W.heap.size := by omega
  clear hf1 hvl hstop hgo ot o hfl
  have hszb := HVB.out.bel.size
  by_cases ho : offP t (pxP r j) ≤ 0
  · gi_wp2_with (first | (refine ⟨trivial, ?_⟩; gi_at_call 141; refine (callsIn_round (sight_any t r b off cap _ _ hz _ OT.out O.out (by omega) (by omega) (by omega) (by omega) hbW HFW.out HF1.out (by omega) (by omega))).mono ?_; rintro e w' ⟨rfl, hb⟩; obtain ⟨pp, rfl⟩ := later_of_below hb; clear hb) | (refine wpListIn_load_row rfl 150 (.tmp 6) rfl _ rfl _ _ _ _ (H6.out _ (by (repeat' (first | with_reducible exact Below.refl _ _ | (with_reducible refine below_later_of ?_ ?_ _) | (with_reducible refine Below.alloc ?_ ?_ _) | (with_reducible refine Below.setCell ?_ ?_ _) | (with_reducible refine Below.drew ?_) | (simp; done) | (simp; omega) | omega)))) Try.underlying150 rfl viewInfo ?_) | (refine wpListIn_store_row rfl 150 (.tmp 4) (.tmp 38) rfl _ #[.int .i64 t.sx, .int .i64 t.sy, .int .i64 t.sz, .int .i64 t.step, .int .i64 t.lines, .int .i64 t.near, .int .i64 t.bin, .int .i64 t.bins, .bool t.east, .int .i64 r.x, .int .i64 r.y, .int .i64 r.cell, .int .i64 r.rows, .int .i64 r.cols, .slice (some ⟨b, off, none⟩) r.ds.length cap] rfl rfl _ _ (H4.out _ (by (repeat' (first | with_reducible exact Below.refl _ _ | (with_reducible refine below_later_of ?_ ?_ _) | (with_reducible refine Below.alloc ?_ ?_ _) | (with_reducible refine Below.setCell ?_ ?_ _) | (with_reducible refine Below.drew ?_) | (simp; done) | (simp; omega) | omega)))) viewInfo rfl (by simp [Value.oneCell']) ?_))
    have hX := (show Below W.heap.size W ((later W pp).alloc (.cells #[.int .i64 (offP t (pxP r j)), .int .i64 (depthP t hz)] 159)) from (by (repeat' (first | with_reducible exact Below.refl _ _ | (with_reducible refine below_later_of ?_ ?_ _) | (with_reducible refine Below.alloc ?_ ?_ _) | (with_reducible refine Below.setCell ?_ ?_ _) | (with_reducible refine Below.drew ?_) | (simp; done) | (simp; omega) | omega))))
    refine ⟨((KeepTop.below hX).setRow (by omega) _).setCell (p := ⟨w.heap.size + 1 + 1 + 1, 0, none⟩) (by simp only; omega) _, HST.out ho _ ⟨?_, ?_, ?_⟩⟩
    · exact (below_setRow (HVB.out.bel.trans (hX.mono hszb)) (by omega) _).setCell (p := ⟨w.heap.size + 1 + 1 + 1, 0, none⟩) (by simp only; omega) _
    · refine (Below.heap_setCell _ ⟨w.heap.size + 1 + 1 + 1, 0, none⟩ _ _ (by simp only; omega)).trans (setRow_heap _ _ _ _ _ _ ((hX.block _ (by omega)).trans HVB.out.h4))
    · exact heap_setCell_same _ _ _ _ _ _ ((setRow_other _ _ _ _ (by omega)).trans ((hX.block _ (by omega)).trans HVB.out.h5))
  · have hn : ¬ offP t (pxP r j) ≤ 0 := ho
    have ho' : 0 < offP t (pxP r j) := by omega
    have fin : ∀ (X : World) (v : Bool), Below W.heap.size W X → v = (d && decide (1 ≤ depthP t hz)) → KeepTop C W (X.setCell ⟨B8, 0, none⟩ (.bool v)) ∧ I (X.setCell ⟨B8, 0, none⟩ (.bool v)) := fun X v hX hv => by
      refine ⟨(KeepTop.below hX).setCell (by omega) _, HGO.out hn _ ⟨?_, ?_, ?_, ?_, ?_⟩ ?_⟩
      · exact (HVB.out.bel.trans (hX.mono hszb)).setCell (by simp only; omega) _
      · exact (Below.heap_setCell _ _ _ _ (by simp only; omega)).trans ((hX.block _ (by omega)).trans HVB.out.h4)
      · exact (Below.heap_setCell _ _ _ _ (by simp only; omega)).trans ((hX.block _ (by omega)).trans HVB.out.h5)
      · exact (Below.heap_setCell _ _ _ _ (by simp only; omega)).trans ((hX.block _ (by omega)).trans HVB.out.h6)
      · rw [← hv]; exact heap_setCell_same _ _ _ _ _ _ ((hX.block _ (by omega)).trans HVB.out.h8)
      · have := hX.size; simp [World.setCell]; omega
    have FIN := Lib.hid fin
    clear fin hn
    cases d
    · gi_wp2_with (first | (refine ⟨trivial, ?_⟩; gi_at_call 141; refine (callsIn_round (sight_any t r b off cap _ _ hz _ OT.out O.out (by omega) (by omega) (by omega) (by omega) hbW HFW.out HF1.out (by omega) (by omega))).mono ?_; rintro e w' ⟨rfl, hb⟩; obtain ⟨pp, rfl⟩ := later_of_below hb; clear hb) | (refine wpListIn_load_row rfl 150 (.tmp 6) rfl _ rfl _ _ _ _ (H6.out _ (by (repeat' (first | with_reducible exact Below.refl _ _ | (with_reducible refine below_later_of ?_ ?_ _) | (with_reducible refine Below.alloc ?_ ?_ _) | (with_reducible refine Below.setCell ?_ ?_ _) | (with_reducible refine Below.drew ?_) | (simp; done) | (simp; omega) | omega)))) Try.underlying150 rfl viewInfo ?_))
      exact FIN.out _ _ (by (repeat' (first | with_reducible exact Below.refl _ _ | (with_reducible refine below_later_of ?_ ?_ _) | (with_reducible refine Below.alloc ?_ ?_ _) | (with_reducible refine Below.setCell ?_ ?_ _) | (with_reducible refine Below.drew ?_) | (simp; done) | (simp; omega) | omega))) rfl
    · by_cases hd : 1 ≤ depthP t hz
      · have hd' : decide (1 ≤ depthP t hz) = true := by simpa using hd
        gi_wp2_with (first | (refine ⟨trivial, ?_⟩; gi_at_call 141; refine (callsIn_round (sight_any t r b off cap _ _ hz _ OT.out O.out (by omega) (by omega) (by omega) (by omega) hbW HFW.out HF1.out (by omega) (by omega))).mono ?_; rintro e w' ⟨rfl, hb⟩; obtain ⟨pp, rfl⟩ := later_of_below hb; clear hb) | (refine wpListIn_load_row rfl 150 (.tmp 6) rfl _ rfl _ _ _ _ (H6.out _ (by (repeat' (first | with_reducible exact Below.refl _ _ | (with_reducible refine below_later_of ?_ ?_ _) | (with_reducible refine Below.alloc ?_ ?_ _) | (with_reducible refine Below.setCell ?_ ?_ _) | (with_reducible refine Below.drew ?_) | (simp; done) | (simp; omega) | omega)))) Try.underlying150 rfl viewInfo ?_))
        exact FIN.out _ _ (by (repeat' (first | with_reducible exact Below.refl _ _ | (with_reducible refine below_later_of ?_ ?_ _) | (with_reducible refine Below.alloc ?_ ?_ _) | (with_reducible refine Below.setCell ?_ ?_ _) | (with_reducible refine Below.drew ?_) | (simp; done) | (simp; omega) | omega))) (by simp [hd])
      · have hd' : decide (1 ≤ depthP t hz) = false := by simpa using hd
        gi_wp2_with (first | (refine ⟨trivial, ?_⟩; gi_at_call 141; refine (callsIn_round (sight_any t r b off cap _ _ hz _ OT.out O.out (by omega) (by omega) (by omega) (by omega) hbW HFW.out HF1.out (by omega) (by omega))).mono ?_; rintro e w' ⟨rfl, hb⟩; obtain ⟨pp, rfl⟩ := later_of_below hb; clear hb) | (refine wpListIn_load_row rfl 150 (.tmp 6) rfl _ rfl _ _ _ _ (H6.out _ (by (repeat' (first | with_reducible exact Below.refl _ _ | (with_reducible refine below_later_of ?_ ?_ _) | (with_reducible refine Below.alloc ?_ ?_ _) | (with_reducible refine Below.setCell ?_ ?_ _) | (with_reducible refine Below.drew ?_) | (simp; done) | (simp; omega) | omega)))) Try.underlying150 rfl viewInfo ?_))
        exact FIN.out _ _ (by (repeat' (first | with_reducible exact Below.refl _ _ | (with_reducible refine below_later_of ?_ ?_ _) | (with_reducible refine Below.alloc ?_ ?_ _) | (with_reducible refine Below.setCell ?_ ?_ _) | (with_reducible refine Below.drew ?_) | (simp; done) | (simp; omega) | omega))) (by simp [hd])
end Go.Proofs.Ytokpdmlmlkkekaa

/- viewOf, where track and relief are right. -/
namespace Go.Proofs.Ytokpdmlmlkkekaa
set_option linter.unusedVariables false
open Go.RowKit

theorem viewAt_heap {W : World} {B : Nat} {t : Trk} {r : Rel} {b off cap : Nat} {T : TypeId} {fr : Nat × Nat} (h : W.heap[B]? = some (.cells #[.int .i64 t.sx, .int .i64 t.sy, .int .i64 t.sz, .int .i64 t.step, .int .i64 t.lines, .int .i64 t.near, .int .i64 t.bin, .int .i64 t.bins, .bool t.east, .int .i64 r.x, .int .i64 r.y, .int .i64 r.cell, .int .i64 r.rows, .int .i64 r.cols, .slice (some ⟨b, off, none⟩) r.ds.length cap] T fr)) : ViewAt W B t r b off cap :=
  ⟨cell_of_row W B 0 _ _ _ h, cell_of_row W B 1 _ _ _ h, cell_of_row W B 2 _ _ _ h, cell_of_row W B 3 _ _ _ h, cell_of_row W B 4 _ _ _ h, cell_of_row W B 5 _ _ _ h, cell_of_row W B 6 _ _ _ h, cell_of_row W B 7 _ _ _ h, cell_of_row W B 8 _ _ _ h, cell_of_row W B 9 _ _ _ h, cell_of_row W B 10 _ _ _ h, cell_of_row W B 11 _ _ _ h, cell_of_row W B 12 _ _ _ h, cell_of_row W B 13 _ _ _ h, cell_of_row W B 14 _ _ _ h⟩
set_option maxRecDepth 20000 in
set_option maxHeartbeats 1000000 in
theorem viewLeave (t : Trk) (r : Rel) (b off cap : Nat) (w W : World) (D : Nat) (e : Int) (hv : VEnd w t r b off cap e W) (hD : W.heap[D]? = some (.deferred (some []))) (hDs : w.heap.size + 1 + 1 + 1 < D)
    (R : Ending → World → Prop) (hR : ∀ W', Below w.heap.size w W' → R (.returned (.tuple #[.agg #[.int .i64 t.sx, .int .i64 t.sy, .int .i64 t.sz, .int .i64 t.step, .int .i64 t.lines, .int .i64 t.near, .int .i64 t.bin, .int .i64 t.bins, .bool t.east, .int .i64 r.x, .int .i64 r.y, .int .i64 r.cell, .int .i64 r.rows, .int .i64 r.cols, .slice (some ⟨b, off, none⟩) r.ds.length cap], .int .i64 e])) W') (u0 u1 u2 u3 u6 u7 u8 u9 u10 u11 u12 u13 u14 u15 u16 u17 u18 u19 u20 u21 u22 u23 u24 u25 u26 u27 u28 u29 u30 u31 u32 u33 u34 u35 u36 u37 u38 u39 u40 u41 u42 u43 u44 u45 u46 u47 u48 : Value) :
    LeavesInM Fence.wide 9 Try.prog Try.f101 #[u0, u1, u2, u3, .pointer (some ⟨w.heap.size + 1 + 1, 0, none⟩), .pointer (some ⟨w.heap.size + 1 + 1 + 1, 0, none⟩), u6, u7, u8, u9, u10, u11, u12, u13, u14, u15, u16, u17, u18, u19, u20, u21, u22, u23, u24, u25, u26, u27, u28, u29, u30, u31, u32, u33, u34, u35, u36, u37, u38, u39, u40, u41, u42, u43, u44, u45, u46, u47, u48] R [{ target := .collected D, args := #[] }] .returning W := by
  refine ⟨by simp, .inl ⟨_, _, rfl, run_takeDeferred hD, ?_⟩⟩
  have hb : Below D W (W.putObj D (.deferred none)) := below_putObj (Nat.le_refl _) _
  have hv2 := hv.below hDs hb
  obtain ⟨c0, c1, c2, c3, c4, c5, c6, c7, c8, c9, c10, c11, c12, c13, c14⟩ := viewAt_heap hv2.h4
  obtain ⟨e5, f5⟩ := cell_box hv2.h5
  have HB := hv2.bel
  generalize W.putObj D (.deferred none) = W2 at c0 c1 c2 c3 c4 c5 c6 c7 c8 c9 c10 c11 c12 c13 c14 e5 f5 HB
  refine ⟨_, ?_, hR _ HB⟩
  simp [results, Try.results101, go_sem, c0, c1, c2, c3, c4, c5, c6, c7, c8, c9, c10, c11, c12, c13, c14, e5]
set_option maxRecDepth 20000 in
set_option maxHeartbeats 2000000 in
theorem viewOf_ok (fe fi : Nat → Int) (t : Trk) (r : Rel) (b off cap : Nat) (w : World) (hlen : r.ds.length ≤ 1000000000) (hfe : ∀ k, k < r.ds.length → FlErr (bitAt r.ds k) (fe (bitAt r.ds k))) (hfi : FlInts fi r.ds)
    (hbw : b < w.heap.size) (hfl : FloatsAt w b off r.ds) (ht0 : checkTrackP t = 0) (hr0 : relErrP fe r = 0) :
    Calls Try.prog 101 #[.agg #[.int .i64 t.sx, .int .i64 t.sy, .int .i64 t.sz, .int .i64 t.step, .int .i64 t.lines, .int .i64 t.near, .int .i64 t.bin, .int .i64 t.bins, .bool t.east], .agg #[.int .i64 r.x, .int .i64 r.y, .int .i64 r.cell, .int .i64 r.rows, .int .i64 r.cols, .slice (some ⟨b, off, none⟩) r.ds.length cap]] w fun e w' => e = .returned (.tuple #[.agg #[.int .i64 t.sx, .int .i64 t.sy, .int .i64 t.sz, .int .i64 t.step, .int .i64 t.lines, .int .i64 t.near, .int .i64 t.bin, .int .i64 t.bins, .bool t.east, .int .i64 r.x, .int .i64 r.y, .int .i64 r.cell, .int .i64 r.rows, .int .i64 r.cols, .slice (some ⟨b, off, none⟩) r.ds.length cap], .int .i64 (viewErrP fe fi t r)]) ∧ Below w.heap.size w w' := by
  have he : first2 (checkTrackP t) (relErrP fe r) = 0 := by unfold first2; rw [if_pos ht0, hr0]
  have HQ := Lib.hid (show viewErrP fe fi t r = open Classical in (if BadOff t r then 15 else if deepUpto t r fi r.ds.length then 0 else 26) by unfold viewErrP; rw [if_pos he])
  have HE := Lib.hid he
  have HFE := Lib.hid hfe
  have HA := Lib.hid (show ∀ w', w.heap.size ≤ w'.heap.size → Below w.heap.size w w' → 0 < r.ds.length → ∃ b' off', some (⟨b, off, none⟩ : Addr) = some ⟨b', off', none⟩ ∧ b' < w'.heap.size ∧ FloatsAt w' b' off' r.ds from fun w' hs hb hp => 
    ⟨b, off, rfl, by omega, hfl.below hbw hb⟩)
  have HFL := Lib.hid hfl
  have OT := Lib.hid (checkTrackP_ok ht0)
  have O := Lib.hid (relErrP_ok hr0).1
  have HFI := Lib.hid hfi
  clear hfe he hfl ht0 hr0 hfi
  refine callsIn_wide.1 (callsIn_of_wp_marks (F := Fence.wide) (n := 9) Try.func101 rfl trivial (wpIn_wide.2 ?_) rfl)
  simp only [Try.ntmps101, List.size_toArray, List.length_cons, List.length_nil, Nat.reduceAdd, Nat.reduceSub, Array.replicate_succ, Array.replicate_zero, List.push_toArray, List.append_toArray, List.nil_append, List.cons_append]
  go_wp2
  go_region_held3 (fun w' => w'.cell? ⟨w.heap.size, 0, none⟩ = some (.int .i64 t.sx) ∧ w'.cell? ⟨w.heap.size, 1, none⟩ = some (.int .i64 t.sy) ∧ w'.cell? ⟨w.heap.size, 2, none⟩ = some (.int .i64 t.sz) ∧ w'.cell? ⟨w.heap.size, 3, none⟩ = some (.int .i64 t.step) ∧ w'.cell? ⟨w.heap.size, 4, none⟩ = some (.int .i64 t.lines) ∧ w'.cell? ⟨w.heap.size, 5, none⟩ = some (.int .i64 t.near) ∧ w'.cell? ⟨w.heap.size, 6, none⟩ = some (.int .i64 t.bin) ∧ w'.cell? ⟨w.heap.size, 7, none⟩ = some (.int .i64 t.bins) ∧ w'.cell? ⟨w.heap.size, 8, none⟩ = some (.bool t.east) ∧ w'.cell? ⟨w.heap.size + 1, 0, none⟩ = some (.int .i64 r.x) ∧ w'.cell? ⟨w.heap.size + 1, 1, none⟩ = some (.int .i64 r.y) ∧ w'.cell? ⟨w.heap.size + 1, 2, none⟩ = some (.int .i64 r.cell) ∧ w'.cell? ⟨w.heap.size + 1, 3, none⟩ = some (.int .i64 r.rows) ∧ w'.cell? ⟨w.heap.size + 1, 4, none⟩ = some (.int .i64 r.cols) ∧ w'.cell? ⟨w.heap.size + 1, 5, none⟩ = some (.slice (some ⟨b, off, none⟩) r.ds.length cap)) (first | ((first | (simp [go_sem]; done) | simp [go_sem, ↓IntWalk.iteOmega]); done)) (first | (go_at_call 26; refine (checkTrack_any t _).mono ?_; rintro e w' ⟨rfl, hb⟩; obtain ⟨p1, rfl⟩ := later_of_below hb; clear hb) | (go_at_call 44; refine (checkRelief_any fe r (some ⟨b, off, none⟩) cap _ (by omega) HFE.out (HA.out _ (by simp; omega) (by (repeat' (first | with_reducible exact Below.refl _ _ | (with_reducible refine below_later_of ?_ ?_ _) | (with_reducible refine Below.alloc ?_ ?_ _) | (with_reducible refine Below.setCell ?_ ?_ _) | (with_reducible refine Below.drew ?_) | (simp; done) | (simp; omega) | omega))))).mono ?_; rintro e w' ⟨rfl, hb⟩; obtain ⟨p2, rfl⟩ := later_of_below hb; clear hb) | (go_at_call 109; refine (first_e (checkTrackP t) (relErrP fe r) _ _ HE.out (by (first | (simp [go_sem]; done) | simp [go_sem, ↓IntWalk.iteOmega])) (by (first | (simp [go_sem]; done) | simp [go_sem, ↓IntWalk.iteOmega]))).mono ?_; rintro e w' ⟨rfl, rfl⟩))
  go_wp2
  obtain ⟨B8, hB8⟩ : ∃ B8, B8 = w.heap.size + 1 + 1 + 1 + 1 + 1 + p1.os.size + p2.os.size + 1 := ⟨_, rfl⟩
  refine wp_world (fun W => VLoop w B8 t r b off cap true W ∧ W.heap.size = B8 + 1) ⟨⟨(by (repeat' (first | with_reducible exact Below.refl _ _ | (with_reducible refine below_later_of ?_ ?_ _) | (with_reducible refine Below.alloc ?_ ?_ _) | (with_reducible refine Below.setCell ?_ ?_ _) | (with_reducible refine Below.drew ?_) | (simp; done) | (simp; omega) | omega))), ?_, ?_, ?_, heap_new_at _ _ _ (by simp; omega)⟩, by simp; omega⟩ ?_
  · refine ((show Below (w.heap.size + 1 + 1 + 1 + 1 + 1) (((((w.alloc (.cells #[.int .i64 t.sx, .int .i64 t.sy, .int .i64 t.sz, .int .i64 t.step, .int .i64 t.lines, .int .i64 t.near, .int .i64 t.bin, .int .i64 t.bins, .bool t.east] 25)).alloc (.cells #[.int .i64 r.x, .int .i64 r.y, .int .i64 r.cell, .int .i64 r.rows, .int .i64 r.cols, .slice (some ⟨b, off, none⟩) r.ds.length cap] 59)).alloc (.cells #[.int .i64 0, .int .i64 0, .int .i64 0, .int .i64 0, .int .i64 0, .int .i64 0, .int .i64 0, .int .i64 0, .bool false, .int .i64 0, .int .i64 0, .int .i64 0, .int .i64 0, .int .i64 0, .slice none 0 0] 150)).alloc (.cells #[.int .i64 0] 32)).alloc (.cells #[.int .i64 t.sx, .int .i64 t.sy, .int .i64 t.sz, .int .i64 t.step, .int .i64 t.lines, .int .i64 t.near, .int .i64 t.bin, .int .i64 t.bins, .bool t.east, .int .i64 r.x, .int .i64 r.y, .int .i64 r.cell, .int .i64 r.rows, .int .i64 r.cols, .slice (some ⟨b, off, none⟩) r.ds.length cap] 150)) _ from (by (repeat' (first | with_reducible exact Below.refl _ _ | (with_reducible refine below_later_of ?_ ?_ _) | (with_reducible refine Below.alloc ?_ ?_ _) | (with_reducible refine Below.setCell ?_ ?_ _) | (with_reducible refine Below.drew ?_) | (simp; done) | (simp; omega) | omega)))).block _ (by omega)).trans ?_
    exact (Below.heap_alloc _ _ _ (by simp)).trans ((Below.heap_alloc _ _ _ (by simp)).trans (heap_new_at _ _ _ (by simp)))
  · refine ((show Below (w.heap.size + 1 + 1 + 1 + 1 + 1) (((((w.alloc (.cells #[.int .i64 t.sx, .int .i64 t.sy, .int .i64 t.sz, .int .i64 t.step, .int .i64 t.lines, .int .i64 t.near, .int .i64 t.bin, .int .i64 t.bins, .bool t.east] 25)).alloc (.cells #[.int .i64 r.x, .int .i64 r.y, .int .i64 r.cell, .int .i64 r.rows, .int .i64 r.cols, .slice (some ⟨b, off, none⟩) r.ds.length cap] 59)).alloc (.cells #[.int .i64 0, .int .i64 0, .int .i64 0, .int .i64 0, .int .i64 0, .int .i64 0, .int .i64 0, .int .i64 0, .bool false, .int .i64 0, .int .i64 0, .int .i64 0, .int .i64 0, .int .i64 0, .slice none 0 0] 150)).alloc (.cells #[.int .i64 0] 32)).alloc (.cells #[.int .i64 t.sx, .int .i64 t.sy, .int .i64 t.sz, .int .i64 t.step, .int .i64 t.lines, .int .i64 t.near, .int .i64 t.bin, .int .i64 t.bins, .bool t.east, .int .i64 r.x, .int .i64 r.y, .int .i64 r.cell, .int .i64 r.rows, .int .i64 r.cols, .slice (some ⟨b, off, none⟩) r.ds.length cap] 150)) _ from (by (repeat' (first | with_reducible exact Below.refl _ _ | (with_reducible refine below_later_of ?_ ?_ _) | (with_reducible refine Below.alloc ?_ ?_ _) | (with_reducible refine Below.setCell ?_ ?_ _) | (with_reducible refine Below.drew ?_) | (simp; done) | (simp; omega) | omega)))).block _ (by omega)).trans ?_
    exact (Below.heap_alloc _ _ _ (by simp)).trans (heap_new_at _ _ _ (by simp))
  · refine ((show Below (w.heap.size + 1 + 1 + 1 + 1 + 1) (((((w.alloc (.cells #[.int .i64 t.sx, .int .i64 t.sy, .int .i64 t.sz, .int .i64 t.step, .int .i64 t.lines, .int .i64 t.near, .int .i64 t.bin, .int .i64 t.bins, .bool t.east] 25)).alloc (.cells #[.int .i64 r.x, .int .i64 r.y, .int .i64 r.cell, .int .i64 r.rows, .int .i64 r.cols, .slice (some ⟨b, off, none⟩) r.ds.length cap] 59)).alloc (.cells #[.int .i64 0, .int .i64 0, .int .i64 0, .int .i64 0, .int .i64 0, .int .i64 0, .int .i64 0, .int .i64 0, .bool false, .int .i64 0, .int .i64 0, .int .i64 0, .int .i64 0, .int .i64 0, .slice none 0 0] 150)).alloc (.cells #[.int .i64 0] 32)).alloc (.cells #[.int .i64 t.sx, .int .i64 t.sy, .int .i64 t.sz, .int .i64 t.step, .int .i64 t.lines, .int .i64 t.near, .int .i64 t.bin, .int .i64 t.bins, .bool t.east, .int .i64 r.x, .int .i64 r.y, .int .i64 r.cell, .int .i64 r.rows, .int .i64 r.cols, .slice (some ⟨b, off, none⟩) r.ds.length cap] 150)) _ from (by (repeat' (first | with_reducible exact Below.refl _ _ | (with_reducible refine below_later_of ?_ ?_ _) | (with_reducible refine Below.alloc ?_ ?_ _) | (with_reducible refine Below.setCell ?_ ?_ _) | (with_reducible refine Below.drew ?_) | (simp; done) | (simp; omega) | omega)))).block _ (by omega)).trans ?_
    exact heap_new_at _ _ _ (by simp)
  rintro WL ⟨hvl, hsl⟩
  rw [← hB8]
  have h8 : w.heap.size + 1 + 1 + 1 + 1 < B8 := by omega
  obtain ⟨nr, hnr⟩ : ∃ nr : Nat, r.rows = nr := ⟨r.rows.toNat, by have := O.out.r1; omega⟩
  obtain ⟨nc, hnc⟩ : ∃ nc : Nat, r.cols = nc := ⟨r.cols.toNat, by have := O.out.l1; omega⟩
  have hN : nr * nc = r.ds.length := by
    have := O.out.len
    rw [hnr, hnc, ← Int.natCast_mul] at this
    exact (Int.ofNat_inj.1 this).symm
  have HVL := Lib.hid hvl
  have HNR := Lib.hid hnr
  have HNC := Lib.hid hnc
  have HN := Lib.hid hN
  have HSL := Lib.hid hsl
  clear hvl hB8 hnr hnc hN hsl HE HFE HA
  refine wpIn_wide.1 (wpIn_rangeBound (n := 9) rfl (by omega) (gf := 130) rfl trivial (enters_of Try.func130 (by kernel_rfl) rfl) (N := nr * nc) (enc := encC nc) (fun k => rfl)
    (fun W _ => cells_iter 8 (by omega) t r b off cap O.out nr nc HNR.out HNC.out W)
    (fun k W => VLoop w B8 t r b off cap (deepUpto t r fi k) W ∧ B8 < W.heap.size ∧ ∀ j, j < k → 0 < offK t r j)
    (fun c W => c = .ret ∧ VEnd w t r b off cap 15 W ∧ BadOff t r)
    (fun k W1 W2 h hb => ⟨h.1.below (B := WL.heap.size) (by rw [HSL.out]; omega) (by rw [HSL.out]; omega) hb, Nat.lt_of_lt_of_le h.2.1 hb.size, h.2.2⟩)
    (fun c W1 W2 h hb => ⟨h.1, h.2.1.below (B := WL.heap.size) (by rw [HSL.out]; omega) hb, h.2.2⟩)
    ⟨HVL.out, by rw [HSL.out]; omega, fun j hj => by omega⟩
    (fun T k => (((T.setIfInBounds 29 (.int .i64 ((k / nc : Nat) : Int))).setIfInBounds 30 (.int .i64 ((k % nc : Nat) : Int))).setIfInBounds 9 (.int .i64 ((k / nc : Nat) : Int))).setIfInBounds 10 (.int .i64 ((k % nc : Nat) : Int)))
    ?assign ?body ?done ?stop)
  case assign =>
    intro l k W K hK
    simp only [encC]
    simp only [List.setIfInBounds_toArray, List.set_cons_succ, List.set_cons_zero] at hK
    gi_wp2
    exact hK
  case body =>
    rintro l k W ⟨hvl, hWs, hoff⟩ hkN hWL
    have hnc1 : 1 ≤ nc := by have := O.out.l1; have := HNC.out; omega
    have hi : k / nc < nr := Nat.div_lt_of_lt_mul (by rw [Nat.mul_comm]; exact hkN)
    have hj : k % nc < nc := Nat.mod_lt _ hnc1
    have hcn : r.cols.toNat = nc := by have := HNC.out; omega
    have hok : offK t r k = offP t (pxP r ((k % nc : Nat) : Int)) := by unfold offK; rw [hcn]; rfl
    have hdk : depK t r fi k = depthP t (fi (bitAt r.ds (idxP r ((k / nc : Nat) : Int) ((k % nc : Nat) : Int)))) := by unfold depK; rw [hcn]; rfl
    have hds := deepUpto_succ t r fi k
    have hi' : ((k / nc : Nat) : Int) < r.rows := by have := HNR.out; omega
    have hj' : ((k % nc : Nat) : Int) < r.cols := by have := HNC.out; omega
    obtain ⟨_, _, _, hil⟩ := idx_lt O.out (Int.natCast_nonneg _) hi' (Int.natCast_nonneg _) hj'
    obtain ⟨hf1, hf2, hf3⟩ := HFI.out _ hil
    refine viewBody _ (by kernel_rfl) fi t r b off cap w W B8 WL.heap.size l 5 (k / nc) (k % nc) _ _ _ _ OT.out O.out hi' hj' hf1 hf2 hf3 h8 (by rw [HSL.out]; omega) hWs hbw HFL.out hvl ?_ ?_ _ _ _ _ _ _ _ _ _ _ _ _ _ _ _ _ _ _ _ _ _ _ _ _ _ _ _ _ _ _ _ _ _ _ _ _ _ _ _ _ _ _ _
    · intro ho W' hv
      exact ⟨rfl, hv, k, by rw [← HN.out]; exact hkN, by rw [hok]; exact ho⟩
    · intro ho W' hv hs
      refine ⟨by rw [hds, hdk]; exact hv, hs, fun j hj => ?_⟩
      by_cases e : j = k
      · rw [e, hok]; omega
      · exact hoff j (by omega)
  case done =>
    rintro W ⟨hvl, hWs, hoff⟩ hD
    rw [HN.out] at hvl hoff
    have hnb : ¬ BadOff t r := fun ⟨k, h1, h2⟩ => by have := hoff k h1; omega
    have HW6 := Lib.hid hvl.h6
    have HW4 := Lib.hid hvl.h4
    have HVL2 := Lib.hid hvl
    obtain ⟨e8, f8⟩ := cell_box hvl.h8
    obtain ⟨e5, f5⟩ := cell_box hvl.h5
    have hwW : w.heap.size + 1 + 1 + 1 + 1 < W.heap.size := by omega
    have HEN := Lib.hid (show ∀ e : Int, VEnd w t r b off cap e ((W.setRow (w.heap.size + 1 + 1) #[.int .i64 t.sx, .int .i64 t.sy, .int .i64 t.sz, .int .i64 t.step, .int .i64 t.lines, .int .i64 t.near, .int .i64 t.bin, .int .i64 t.bins, .bool t.east, .int .i64 r.x, .int .i64 r.y, .int .i64 r.cell, .int .i64 r.rows, .int .i64 r.cols, .slice (some ⟨b, off, none⟩) r.ds.length cap]).setCell ⟨w.heap.size + 1 + 1 + 1, 0, none⟩ (.int .i64 e)) from fun e => by
      refine ⟨(below_setRow hvl.bel (by omega) _).setCell (by simp only; omega) _, ?_, ?_⟩
      · exact (Below.heap_setCell _ ⟨w.heap.size + 1 + 1 + 1, 0, none⟩ _ _ (by simp only; omega)).trans (setRow_heap _ _ _ _ _ _ hvl.h4)
      · exact heap_setCell_same _ _ _ _ _ _ ((setRow_other _ _ _ _ (by omega)).trans hvl.h5))
    have HDD := Lib.hid (show ∀ e : Int, ((W.setRow (w.heap.size + 1 + 1) #[.int .i64 t.sx, .int .i64 t.sy, .int .i64 t.sz, .int .i64 t.step, .int .i64 t.lines, .int .i64 t.near, .int .i64 t.bin, .int .i64 t.bins, .bool t.east, .int .i64 r.x, .int .i64 r.y, .int .i64 r.cell, .int .i64 r.rows, .int .i64 r.cols, .slice (some ⟨b, off, none⟩) r.ds.length cap]).setCell ⟨w.heap.size + 1 + 1 + 1, 0, none⟩ (.int .i64 e)).heap[WL.heap.size]? = some (.deferred (some [])) from fun e => by
      refine (Below.heap_setCell _ _ _ _ (by rw [HSL.out]; simp only; omega)).trans ((setRow_other _ _ _ _ (by rw [HSL.out]; omega)).trans hD)
      )
    have HQ2 := Lib.hid (show viewErrP fe fi t r = if deepUpto t r fi r.ds.length then 0 else 26 by rw [HQ.out, if_neg hnb])
    clear hvl hoff hD hnb HQ
    generalize deepUpto t r fi r.ds.length = d at e8 HQ2
    cases d
    · go_wp2_with (first | (refine wpList_load_row rfl 150 (.tmp 6) rfl _ rfl _ _ _ _ HW6.out Try.underlying150 rfl viewInfo ?_) | (refine wpList_store_row rfl 150 (.tmp 4) (.tmp 47) rfl _ #[.int .i64 t.sx, .int .i64 t.sy, .int .i64 t.sz, .int .i64 t.step, .int .i64 t.lines, .int .i64 t.near, .int .i64 t.bin, .int .i64 t.bins, .bool t.east, .int .i64 r.x, .int .i64 r.y, .int .i64 r.cell, .int .i64 r.rows, .int .i64 r.cols, .slice (some ⟨b, off, none⟩) r.ds.length cap] rfl rfl _ _ HW4.out viewInfo rfl (by simp [Value.oneCell']) ?_))
      exact viewLeave t r b off cap w _ WL.heap.size 26 (HEN.out _) (HDD.out _) (by rw [HSL.out]; omega) _ (fun W' hb => ⟨by rw [HQ2.out]; rfl, hb⟩) _ _ _ _ _ _ _ _ _ _ _ _ _ _ _ _ _ _ _ _ _ _ _ _ _ _ _ _ _ _ _ _ _ _ _ _ _ _ _ _ _ _ _ _ _ _ _
    · go_wp2_with (first | (refine wpList_load_row rfl 150 (.tmp 6) rfl _ rfl _ _ _ _ HW6.out Try.underlying150 rfl viewInfo ?_) | (refine wpList_store_row rfl 150 (.tmp 4) (.tmp 48) rfl _ #[.int .i64 t.sx, .int .i64 t.sy, .int .i64 t.sz, .int .i64 t.step, .int .i64 t.lines, .int .i64 t.near, .int .i64 t.bin, .int .i64 t.bins, .bool t.east, .int .i64 r.x, .int .i64 r.y, .int .i64 r.cell, .int .i64 r.rows, .int .i64 r.cols, .slice (some ⟨b, off, none⟩) r.ds.length cap] rfl rfl _ _ HW4.out viewInfo rfl (by simp [Value.oneCell']) ?_))
      exact viewLeave t r b off cap w _ WL.heap.size 0 (HEN.out _) (HDD.out _) (by rw [HSL.out]; omega) _ (fun W' hb => ⟨by rw [HQ2.out]; rfl, hb⟩) _ _ _ _ _ _ _ _ _ _ _ _ _ _ _ _ _ _ _ _ _ _ _ _ _ _ _ _ _ _ _ _ _ _ _ _ _ _ _ _ _ _ _ _ _ _ _
  case stop =>
    rintro c W ⟨rfl, hv, hbo⟩ hD
    gi_wp2
    exact viewLeave t r b off cap w W WL.heap.size 15 hv hD (by rw [HSL.out]; omega) _ (fun W' hb => ⟨by rw [HQ.out, if_pos hbo], hb⟩) _ _ _ _ _ _ _ _ _ _ _ _ _ _ _ _ _ _ _ _ _ _ _ _ _ _ _ _ _ _ _ _ _ _ _ _ _ _ _ _ _ _ _ _ _ _ _
end Go.Proofs.Ytokpdmlmlkkekaa

/- MaskRow. -/
namespace Go.Proofs.Ytokpdmlmlkkekaa
set_option linter.unusedVariables false
open Go.RowKit
/-- What is asked of a relief's value: how long it is, what its floats are, where they lie. -/
structure RelAt (fe fi : Nat → Int) (w : World) (r : Rel) (a : Option Addr) : Prop where
  len : r.ds.length ≤ 1000000000
  errs : ∀ k, k < r.ds.length → FlErr (bitAt r.ds k) (fe (bitAt r.ds k))
  ints : relErrP fe r = 0 → FlInts fi r.ds
  at_ : 0 < r.ds.length → ∃ b off, a = some ⟨b, off, none⟩ ∧ b < w.heap.size ∧ FloatsAt w b off r.ds
theorem RelAt.below {fe fi : Nat → Int} {w w' : World} {r : Rel} {a : Option Addr} (h : RelAt fe fi w r a) (hw : Below w.heap.size w w') : RelAt fe fi w' r a :=
  ⟨h.len, h.errs, h.ints, fun hp => by
    obtain ⟨b, off, h1, h2, h3⟩ := h.at_ hp
    exact ⟨b, off, h1, Nat.lt_of_lt_of_le h2 hw.size, h3.below h2 hw⟩⟩
theorem RelAt.pos {fe fi : Nat → Int} {w : World} {r : Rel} {a : Option Addr} (h : RelAt fe fi w r a) (hr : relErrP fe r = 0) : ∃ b off, a = some ⟨b, off, none⟩ ∧ b < w.heap.size ∧ FloatsAt w b off r.ds := by
  refine h.at_ ?_
  have o := (relErrP_ok hr).1
  have h1 := o.len
  have : 1 * 1 ≤ r.rows * r.cols := Int.mul_le_mul o.r1 o.l1 (by omega) (by have := o.r1; omega)
  omega
theorem viewOf_any (fe fi : Nat → Int) (t : Trk) (r : Rel) (a : Option Addr) (cap : Nat) (w : World) (h : RelAt fe fi w r a) {e0 : Int} (he : viewErrP fe fi t r = e0) :
    Calls Try.prog 101 #[.agg #[.int .i64 t.sx, .int .i64 t.sy, .int .i64 t.sz, .int .i64 t.step, .int .i64 t.lines, .int .i64 t.near, .int .i64 t.bin, .int .i64 t.bins, .bool t.east], .agg #[.int .i64 r.x, .int .i64 r.y, .int .i64 r.cell, .int .i64 r.rows, .int .i64 r.cols, .slice a r.ds.length cap]] w fun e w' => e = .returned (.tuple #[.agg #[.int .i64 t.sx, .int .i64 t.sy, .int .i64 t.sz, .int .i64 t.step, .int .i64 t.lines, .int .i64 t.near, .int .i64 t.bin, .int .i64 t.bins, .bool t.east, .int .i64 r.x, .int .i64 r.y, .int .i64 r.cell, .int .i64 r.rows, .int .i64 r.cols, .slice a r.ds.length cap], .int .i64 e0]) ∧ Below w.heap.size w w' := by
  subst he
  by_cases h0 : first2 (checkTrackP t) (relErrP fe r) = 0
  · have h1 : checkTrackP t = 0 ∧ relErrP fe r = 0 := by
      unfold first2 at h0
      split at h0
      · rename_i h1; exact ⟨h1, h0⟩
      · contradiction
    obtain ⟨b, off, rfl, h2, h3⟩ := h.pos h1.2
    exact viewOf_ok fe fi t r b off cap w h.len h.errs (h.ints h1.2) h2 h3 h1.1 h1.2
  · exact viewOf_err fe fi t r a cap w h.len h.errs h.at_ h0
theorem viewErrP_ok {fe fi : Nat → Int} {t : Trk} {r : Rel} (h : viewErrP fe fi t r = 0) : checkTrackP t = 0 ∧ relErrP fe r = 0 ∧ ¬ BadOff t r ∧ deepUpto t r fi r.ds.length = true := by
  unfold viewErrP at h
  split at h
  · rename_i h0
    have h1 : checkTrackP t = 0 ∧ relErrP fe r = 0 := by
      unfold first2 at h0
      split at h0
      · rename_i h1; exact ⟨h1, h0⟩
      · contradiction
    split at h
    · exact absurd h (by decide)
    · rename_i h2
      split at h
      · rename_i h3; exact ⟨h1.1, h1.2, h2, h3⟩
      · exact absurd h (by decide)
  · contradiction
noncomputable def maskErrP (fe fi : Nat → Int) (t : Trk) (r : Rel) (row : Int) : Int := if viewErrP fe fi t r = 0 then (if inR 0 (r.rows - 1) row then 0 else 6) else viewErrP fe fi t r
set_option maxRecDepth 20000 in
set_option maxHeartbeats 1000000 in
theorem maskRow_bad (fe fi : Nat → Int) (t : Trk) (r : Rel) (a : Option Addr) (cap : Nat) (row : Int) (w : World) (h : RelAt fe fi w r a) (hm : maskErrP fe fi t r row ≠ 0) :
    Calls Try.prog 32 #[.agg #[.int .i64 t.sx, .int .i64 t.sy, .int .i64 t.sz, .int .i64 t.step, .int .i64 t.lines, .int .i64 t.near, .int .i64 t.bin, .int .i64 t.bins, .bool t.east], .agg #[.int .i64 r.x, .int .i64 r.y, .int .i64 r.cell, .int .i64 r.rows, .int .i64 r.cols, .slice a r.ds.length cap], .int .i64 row] w fun e w' => e = .returned (.tuple #[.slice none 0 0, .int .i64 (maskErrP fe fi t r row)]) ∧ Below w.heap.size w w' := by
  have HR := Lib.hid h
  clear h
  by_cases hv : viewErrP fe fi t r = 0
  · have HE := Lib.hid hv
    cases hw : inR 0 (r.rows - 1) row
    · have HF : maskErrP fe fi t r row = 6 := by unfold maskErrP; rw [if_pos hv, hw]; rfl
      rw [HF]
      have HW := Lib.hid hw
      obtain ⟨-, h1, -, -⟩ := viewErrP_ok hv
      obtain ⟨-, -, -, -, -, -, r1, r2, -, -, -⟩ := (relErrP_ok h1).1
      clear HF hm hv hw h1
      go_enter Try.func32, Try.ntmps32
      go_wp2_with (first | (go_at_call 101; refine (viewOf_any fe fi t r _ cap _ (HR.out.below (by (repeat' (first | with_reducible exact Below.refl _ _ | (with_reducible refine below_later_of ?_ ?_ _) | (with_reducible refine Below.alloc ?_ ?_ _) | (with_reducible refine Below.setCell ?_ ?_ _) | (with_reducible refine Below.drew ?_) | (simp; done) | (simp; omega) | omega)))) HE.out).mono ?_; rintro e w' ⟨rfl, hb⟩; obtain ⟨pp, rfl⟩ := later_of_below hb; clear hb) | (go_at_call 91; (with_reducible refine (within_c row 0 (r.rows - 1) _ HW.out).mono ?_); rintro e w' ⟨rfl, rfl⟩))
      go_ret2
      exact ⟨rfl, (by (repeat' (first | with_reducible exact Below.refl _ _ | (with_reducible refine below_later_of ?_ ?_ _) | (with_reducible refine Below.alloc ?_ ?_ _) | (with_reducible refine Below.setCell ?_ ?_ _) | (with_reducible refine Below.drew ?_) | (simp; done) | (simp; omega) | omega)))⟩
    · exact absurd (show maskErrP fe fi t r row = 0 by unfold maskErrP; rw [if_pos hv, hw]; rfl) hm
  · obtain ⟨e0, he⟩ : ∃ e0, viewErrP fe fi t r = e0 := ⟨_, rfl⟩
    have HF : maskErrP fe fi t r row = e0 := by unfold maskErrP; rw [if_neg hv, he]
    rw [HF]
    rw [he] at hv
    have HE := Lib.hid he
    clear HF hm he
    go_enter Try.func32, Try.ntmps32
    go_wp2_with (first | (go_at_call 101; refine (viewOf_any fe fi t r _ cap _ (HR.out.below (by (repeat' (first | with_reducible exact Below.refl _ _ | (with_reducible refine below_later_of ?_ ?_ _) | (with_reducible refine Below.alloc ?_ ?_ _) | (with_reducible refine Below.setCell ?_ ?_ _) | (with_reducible refine Below.drew ?_) | (simp; done) | (simp; omega) | omega)))) HE.out).mono ?_; rintro e w' ⟨rfl, hb⟩; obtain ⟨pp, rfl⟩ := later_of_below hb; clear hb))
    go_ret2
    exact ⟨rfl, (by (repeat' (first | with_reducible exact Below.refl _ _ | (with_reducible refine below_later_of ?_ ?_ _) | (with_reducible refine Below.alloc ?_ ?_ _) | (with_reducible refine Below.setCell ?_ ?_ _) | (with_reducible refine Below.drew ?_) | (simp; done) | (simp; omega) | omega)))⟩
set_option maxRecDepth 20000 in
set_option maxHeartbeats 1000000 in
theorem maskRow_ok (fe fi : Nat → Int) (t : Trk) (r : Rel) (a : Option Addr) (cap : Nat) (row : Int) (w : World) (h : RelAt fe fi w r a) (hm : maskErrP fe fi t r row = 0) :
    Calls Try.prog 32 #[.agg #[.int .i64 t.sx, .int .i64 t.sy, .int .i64 t.sz, .int .i64 t.step, .int .i64 t.lines, .int .i64 t.near, .int .i64 t.bin, .int .i64 t.bins, .bool t.east], .agg #[.int .i64 r.x, .int .i64 r.y, .int .i64 r.cell, .int .i64 r.rows, .int .i64 r.cols, .slice a r.ds.length cap], .int .i64 row] w fun e w' => ∃ g, e = .returned (.tuple #[.slice (some ⟨g, 0, none⟩) r.cols.toNat r.cols.toNat, .int .i64 0]) ∧
      w'.ownsRow w.heap.size 3 1 (.slice (some ⟨g, 0, none⟩) r.cols.toNat r.cols.toNat) r.cols.toNat ((kindsP t r fi row).map (.int .i64)) ∧ Below w.heap.size w w' := by
  have HR := Lib.hid h
  have hv : viewErrP fe fi t r = 0 := by
    unfold maskErrP at hm
    split at hm
    · assumption
    · contradiction
  have hw : inR 0 (r.rows - 1) row = true := by
    unfold maskErrP at hm
    rw [if_pos hv] at hm
    split at hm
    · assumption
    · exact absurd hm (by decide)
  obtain ⟨h1, h2, -, -⟩ := viewErrP_ok hv
  obtain ⟨b, off, rfl, hbw, hfl⟩ := h.pos h2
  have HFI := Lib.hid (h.ints h2)
  have HFL := Lib.hid hfl
  have OT := Lib.hid (checkTrackP_ok h1)
  have O := Lib.hid (relErrP_ok h2).1
  have HE := Lib.hid hv
  have HW := Lib.hid hw
  obtain ⟨w1, w2⟩ := inR_iff.1 hw
  obtain ⟨-, -, -, -, -, -, r1, r2, l1, l2, -⟩ := (relErrP_ok h2).1
  obtain ⟨n, hn⟩ : ∃ n : Nat, r.cols.toNat = n := ⟨_, rfl⟩
  have HN := Lib.hid hn
  clear h hv hw h1 h2 hfl hm hn
  go_enter Try.func32, Try.ntmps32
  go_wp2_with (first | (go_at_call 101; refine (viewOf_any fe fi t r _ cap _ (HR.out.below (by (repeat' (first | with_reducible exact Below.refl _ _ | (with_reducible refine below_later_of ?_ ?_ _) | (with_reducible refine Below.alloc ?_ ?_ _) | (with_reducible refine Below.setCell ?_ ?_ _) | (with_reducible refine Below.drew ?_) | (simp; done) | (simp; omega) | omega)))) HE.out).mono ?_; rintro e w' ⟨rfl, hb⟩; obtain ⟨pp, rfl⟩ := later_of_below hb; clear hb) | (go_at_call 91; (with_reducible refine (within_c row 0 (r.rows - 1) _ HW.out).mono ?_); rintro e w' ⟨rfl, rfl⟩) | (go_at_call 102; refine (kinds_any t r fi b off cap row _ OT.out O.out HFI.out (by omega) (by omega) (by simp; omega) (HFL.out.below hbw (by (repeat' (first | with_reducible exact Below.refl _ _ | (with_reducible refine below_later_of ?_ ?_ _) | (with_reducible refine Below.alloc ?_ ?_ _) | (with_reducible refine Below.setCell ?_ ?_ _) | (with_reducible refine Below.drew ?_) | (simp; done) | (simp; omega) | omega))))).mono ?_; rintro e w2 ⟨g, rfl, hown, hb2⟩))
  have HB := Lib.hid (show Below w.heap.size w w2 from (show Below w.heap.size w _ from (by (repeat' (first | with_reducible exact Below.refl _ _ | (with_reducible refine below_later_of ?_ ?_ _) | (with_reducible refine Below.alloc ?_ ?_ _) | (with_reducible refine Below.setCell ?_ ?_ _) | (with_reducible refine Below.drew ?_) | (simp; done) | (simp; omega) | omega)))).trans (hb2.mono (by simp; omega)))
  have HO := Lib.hid (ownsRow_mono hown (show w.heap.size ≤ _ by simp; omega))
  clear hown hb2
  go_wp2
  go_ret2
  exact ⟨g, rfl, HO.out, HB.out⟩
end Go.Proofs.Ytokpdmlmlkkekaa
