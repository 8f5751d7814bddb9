/- Reliefs: heights of places; the reference. -/
import Derived.Test.YtokpdmlmlkkekaaS3
import Derived.Test.YtokpdmlmlkkekaaS2
namespace Go.Proofs.Ytokpdmlmlkkekaa
set_option linter.unusedVariables false
open Go.RowKit
theorem hasCellB_iff {r : Rel} {row col : Int} : hasCellB r row col = true ↔ (0 ≤ row ∧ row ≤ r.rows - 1) ∧ 0 ≤ col ∧ col ≤ r.cols - 1 := by
  unfold hasCellB; rw [Bool.and_eq_true, inR_iff, inR_iff]
theorem cellOfP_ok {r : Rel} {x y z u v : Int} (h : cellOfP r x y z = (u, v, 0)) : relErrP feB r = 0 ∧ placeB x y z = true ∧ hasCellB r u v = true ∧ u = rowP r y ∧ v = colP r x := by
  unfold cellOfP at h
  split at h
  · rename_i h0
    have h1 : relErrP feB r = 0 ∧ checkPlaceP x y z = 0 := by
      unfold first2 at h0
      split at h0
      · rename_i h1; exact ⟨h1, h0⟩
      · contradiction
    have hpl : placeB x y z = true := by
      have := h1.2
      unfold checkPlaceP at this
      split at this
      · assumption
      · exact absurd this (by decide)
    split at h
    · rename_i h2
      simp only [Prod.mk.injEq] at h
      obtain ⟨rfl, rfl, -⟩ := h
      exact ⟨h1.1, hpl, h2, rfl, rfl⟩
    · simp only [Prod.mk.injEq] at h; omega
  · rename_i h0
    simp only [Prod.mk.injEq] at h
    exact absurd h.2.2 h0
/-- The height of a cell, by the program and by the reference. -/
structure HeightOk (r : Rel) (w : World) (b off : Nat) (row col : Int) (k : Nat) : Prop where
  hk : row * r.cols + col = (k : Int)
  p1 : 0 ≤ row * r.cols
  p2 : row * r.cols ≤ 1000000
  q1 : 0 ≤ col
  q2 : col ≤ 1000000
  lt : k < r.ds.length
  cell : w.cell? ⟨b, off + k, none⟩ = some (.float .f32 (bitAt r.ds k))
  int : FlInt (bitAt r.ds k) (intB (bitAt r.ds k))
theorem heightOk {r : Rel} {w : World} {b off : Nat} {row col : Int} (hr : relErrP feB r = 0) (hc : hasCellB r row col = true) (hf : FloatsAt w b off r.ds) : HeightOk r w b off row col (idxP r row col) := by
  obtain ⟨⟨h1, h2⟩, h3, h4⟩ := hasCellB_iff.1 hc
  have o := (relErrP_ok hr).1
  obtain ⟨k1, k2, k3, k4⟩ := idx_lt o h1 (by omega) h3 (by omega)
  exact ⟨k1, k2, by omega, h3, by have := o.l2; omega, k4, hf _ k4, (flInts_any hr _ k4).1⟩
set_option maxHeartbeats 400000 in
theorem rHeightOf (r : Rel) (b off cap : Nat) (row col : Int) (k : Nat) (h : Int) (w : World) (hk : row * r.cols + col = (k : Int)) (p1 : 0 ≤ row * r.cols) (p2 : row * r.cols ≤ 1000000) (q1 : 0 ≤ col) (q2 : col ≤ 1000000)
    (hlt : k < r.ds.length) (hbw : b < w.heap.size) (hc : w.cell? ⟨b, off + k, none⟩ = some (.float .f32 (bitAt r.ds k))) (hi : FlInt (bitAt r.ds k) h) :
    Calls Try.prog 117 #[.agg #[.int .i64 r.x, .int .i64 r.y, .int .i64 r.cell, .int .i64 r.rows, .int .i64 r.cols, .slice (some ⟨b, off, none⟩) r.ds.length cap], .int .i64 row, .int .i64 col] w fun e w' => e = .returned (.int .i64 h) ∧ Below w.heap.size w w' := by
  unfold FlInt at hi
  go_enter Try.func117, Try.ntmps117
  go_wp2
  go_ret
  exact ⟨rfl, (by (repeat' (first | with_reducible exact Below.refl _ _ | (with_reducible refine below_later_of ?_ ?_ _) | (with_reducible refine Below.alloc ?_ ?_ _) | (with_reducible refine Below.setCell ?_ ?_ _) | (with_reducible refine Below.drew ?_) | (simp; done) | (simp; omega) | omega)))⟩
theorem cellOf_e {r : Rel} {a : Option Addr} {cap : Nat} {x y z : Int} (w : World) (hl : r.ds.length ≤ 1000000000) (ha : SrcAt w a r.ds) {u v e0 : Int} (hr : cellOfP r x y z = (u, v, e0)) :
    Calls Try.prog 41 #[.agg #[.int .i64 r.x, .int .i64 r.y, .int .i64 r.cell, .int .i64 r.rows, .int .i64 r.cols, .slice a r.ds.length cap], .agg #[.int .i64 x, .int .i64 y, .int .i64 z]] w fun e w' => e = .returned (.tuple #[.agg #[.int .i64 u, .int .i64 v], .int .i64 e0]) ∧ Below w.heap.size w w' := cellOf_any r a cap x y z w hl ha hr
set_option maxRecDepth 20000 in
set_option maxHeartbeats 1000000 in
theorem heightAt_any (r : Rel) (a : Option Addr) (cap : Nat) (x y z : Int) (w : World) (hl : r.ds.length ≤ 1000000000) (ha : SrcAt w a r.ds) {h0 e0 : Int} (hr : heightAtP r x y z = (h0, e0)) :
    Calls Try.prog 42 #[.agg #[.int .i64 r.x, .int .i64 r.y, .int .i64 r.cell, .int .i64 r.rows, .int .i64 r.cols, .slice a r.ds.length cap], .agg #[.int .i64 x, .int .i64 y, .int .i64 z]] w fun e w' => e = .returned (.tuple #[.int .i64 h0, .int .i64 e0]) ∧ Below w.heap.size w w' := by
  obtain ⟨u, v, ec, hc⟩ : ∃ u v ec, cellOfP r x y z = (u, v, ec) := ⟨_, _, _, rfl⟩
  unfold heightAtP at hr
  rw [hc] at hr
  simp only at hr
  have HL := Lib.hid hl
  have HA := Lib.hid ha
  have HC := Lib.hid hc
  by_cases he : ec = 0
  · subst he
    rw [if_pos rfl] at hr
    simp only [Prod.mk.injEq] at hr
    obtain ⟨rfl, rfl⟩ := hr
    obtain ⟨h1, h2, h3, -, -⟩ := cellOfP_ok hc
    have o := (relErrP_ok h1).1
    have hpos : 0 < r.ds.length := by
      have h1 := o.len
      have : 1 * 1 ≤ r.rows * r.cols := Int.mul_le_mul o.r1 o.l1 (by omega) (by have := o.r1; omega)
      omega
    obtain ⟨b, off, rfl, hbw, hf⟩ := ha hpos
    have hk := heightOk h1 h3 hf
    obtain ⟨k, hkk⟩ : ∃ k, idxP r u v = k := ⟨_, rfl⟩
    rw [hkk] at hk ⊢
    have HK := Lib.hid hk
    obtain ⟨-, p1, p2, q1, q2, lt, -, hi⟩ := hk
    generalize intB (bitAt r.ds k) = hh at hi ⊢
    have HI := Lib.hid hi
    clear hi hl ha hc h1 h2 h3 hf hkk
    go_enter Try.func42, Try.ntmps42
    go_wp2_with (first | (go_at_call 41; refine (cellOf_e _ HL.out (HA.out.below (by (repeat' (first | with_reducible exact Below.refl _ _ | (with_reducible refine below_later_of ?_ ?_ _) | (with_reducible refine Below.alloc ?_ ?_ _) | (with_reducible refine Below.setCell ?_ ?_ _) | (with_reducible refine Below.drew ?_) | (simp; done) | (simp; omega) | omega)))) HC.out).mono ?_; rintro e w' ⟨rfl, hb⟩; obtain ⟨pp, rfl⟩ := later_of_below hb; clear hb) | (go_at_call 111; refine (height_any r b off cap _ _ k hh _ HK.out.hk (by omega) (by omega) (by omega) (by omega) (by omega) (by simp; omega) (by (first | (simp [go_sem]; done) | simp [go_sem, ↓IntWalk.iteOmega]); exact HK.out.cell) HI.out).mono ?_; rintro e w' ⟨rfl, hb⟩; obtain ⟨pp, rfl⟩ := later_of_below hb; clear hb))
    go_ret2
    exact ⟨rfl, (by (repeat' (first | with_reducible exact Below.refl _ _ | (with_reducible refine below_later_of ?_ ?_ _) | (with_reducible refine Below.alloc ?_ ?_ _) | (with_reducible refine Below.setCell ?_ ?_ _) | (with_reducible refine Below.drew ?_) | (simp; done) | (simp; omega) | omega)))⟩
  · rw [if_neg he] at hr
    simp only [Prod.mk.injEq] at hr
    obtain ⟨rfl, rfl⟩ := hr
    clear hl ha hc
    go_enter Try.func42, Try.ntmps42
    go_wp2_with (first | (go_at_call 41; refine (cellOf_e _ HL.out (HA.out.below (by (repeat' (first | with_reducible exact Below.refl _ _ | (with_reducible refine below_later_of ?_ ?_ _) | (with_reducible refine Below.alloc ?_ ?_ _) | (with_reducible refine Below.setCell ?_ ?_ _) | (with_reducible refine Below.drew ?_) | (simp; done) | (simp; omega) | omega)))) HC.out).mono ?_; rintro e w' ⟨rfl, hb⟩; obtain ⟨pp, rfl⟩ := later_of_below hb; clear hb))
    go_ret2
    exact ⟨rfl, (by (repeat' (first | with_reducible exact Below.refl _ _ | (with_reducible refine below_later_of ?_ ?_ _) | (with_reducible refine Below.alloc ?_ ?_ _) | (with_reducible refine Below.setCell ?_ ?_ _) | (with_reducible refine Below.drew ?_) | (simp; done) | (simp; omega) | omega)))⟩
set_option maxHeartbeats 400000 in
theorem rRowOf (r : Rel) (a : Option Addr) (cap : Nat) (y : Int) (w : World) (o : r.Ok) (y1 : -100000000 ≤ y) (y2 : y ≤ 100000000) :
    Calls Try.prog 115 #[.agg #[.int .i64 r.x, .int .i64 r.y, .int .i64 r.cell, .int .i64 r.rows, .int .i64 r.cols, .slice a r.ds.length cap], .int .i64 y] w fun e w' => e = .returned (.int .i64 (rowP r y)) ∧ Below w.heap.size w w' := by
  obtain ⟨rx1, rx2, ry1, ry2, c1, c2, -, -, -, -, -⟩ := o
  unfold rowP
  go_enter Try.func115, Try.ntmps115
  go_wp2_with (first | (go_at_call 57; refine (bFloor _ _ _ (by omega) (by omega) (by omega) (by omega)).mono ?_; rintro e w' ⟨rfl, rfl⟩))
  go_ret
  exact ⟨rfl, (by (repeat' (first | with_reducible exact Below.refl _ _ | (with_reducible refine below_later_of ?_ ?_ _) | (with_reducible refine Below.alloc ?_ ?_ _) | (with_reducible refine Below.setCell ?_ ?_ _) | (with_reducible refine Below.drew ?_) | (simp; done) | (simp; omega) | omega)))⟩
set_option maxHeartbeats 400000 in
theorem rColOf (r : Rel) (a : Option Addr) (cap : Nat) (x : Int) (w : World) (o : r.Ok) (x1 : -100000000 ≤ x) (x2 : x ≤ 100000000) :
    Calls Try.prog 116 #[.agg #[.int .i64 r.x, .int .i64 r.y, .int .i64 r.cell, .int .i64 r.rows, .int .i64 r.cols, .slice a r.ds.length cap], .int .i64 x] w fun e w' => e = .returned (.int .i64 (colP r x)) ∧ Below w.heap.size w w' := by
  obtain ⟨rx1, rx2, ry1, ry2, c1, c2, -, -, -, -, -⟩ := o
  unfold colP
  go_enter Try.func116, Try.ntmps116
  go_wp2_with (first | (go_at_call 57; refine (bFloor _ _ _ (by omega) (by omega) (by omega) (by omega)).mono ?_; rintro e w' ⟨rfl, rfl⟩))
  go_ret
  exact ⟨rfl, (by (repeat' (first | with_reducible exact Below.refl _ _ | (with_reducible refine below_later_of ?_ ?_ _) | (with_reducible refine Below.alloc ?_ ?_ _) | (with_reducible refine Below.setCell ?_ ?_ _) | (with_reducible refine Below.drew ?_) | (simp; done) | (simp; omega) | omega)))⟩
set_option maxHeartbeats 1000000 in
theorem rHasCell (r : Rel) (a : Option Addr) (cap : Nat) (row col : Int) (w : World) (r1 : 1 ≤ r.rows) (r2 : r.rows ≤ 64) (l1 : 1 ≤ r.cols) (l2 : r.cols ≤ 64) {c : Bool} (hc : hasCellB r row col = c) :
    Calls Try.prog 37 #[.agg #[.int .i64 r.x, .int .i64 r.y, .int .i64 r.cell, .int .i64 r.rows, .int .i64 r.cols, .slice a r.ds.length cap], .int .i64 row, .int .i64 col] w fun e w' => e = .returned (.bool c) ∧ Below w.heap.size w w' := by
  subst hc
  cases h1 : inR 0 (r.rows - 1) row
  · have HF := Lib.hid (show hasCellB r row col = false by unfold hasCellB; rw [h1]; rfl)
    have H1 := Lib.hid h1
    clear h1
    go_enter Try.func37, Try.ntmps37
    go_wp2_with (first | (go_at_call 36; (with_reducible refine (bWithin row 0 (r.rows - 1) _ H1.out).mono ?_); rintro e w' ⟨rfl, rfl⟩))
    go_ret
    exact ⟨ret_bool HF.out.symm, (by (repeat' (first | with_reducible exact Below.refl _ _ | (with_reducible refine below_later_of ?_ ?_ _) | (with_reducible refine Below.alloc ?_ ?_ _) | (with_reducible refine Below.setCell ?_ ?_ _) | (with_reducible refine Below.drew ?_) | (simp; done) | (simp; omega) | omega)))⟩
  · obtain ⟨c, h2⟩ : ∃ c, inR 0 (r.cols - 1) col = c := ⟨_, rfl⟩
    have HF := Lib.hid (show hasCellB r row col = c by unfold hasCellB; rw [h1, h2]; rfl)
    have H1 := Lib.hid h1
    have H2 := Lib.hid h2
    clear h1 h2
    go_enter Try.func37, Try.ntmps37
    go_wp2_with (first | (go_at_call 36; (with_reducible refine (bWithin row 0 (r.rows - 1) _ H1.out).mono ?_); rintro e w' ⟨rfl, rfl⟩) | (go_at_call 36; (with_reducible refine (bWithin col 0 (r.cols - 1) _ H2.out).mono ?_); rintro e w' ⟨rfl, rfl⟩))
    go_ret
    exact ⟨ret_bool HF.out.symm, (by (repeat' (first | with_reducible exact Below.refl _ _ | (with_reducible refine below_later_of ?_ ?_ _) | (with_reducible refine Below.alloc ?_ ?_ _) | (with_reducible refine Below.setCell ?_ ?_ _) | (with_reducible refine Below.drew ?_) | (simp; done) | (simp; omega) | omega)))⟩
theorem cellOfP_right {r : Rel} {x y z : Int} (hr : relErrP feB r = 0) (hp : placeB x y z = true) : cellOfP r x y z = if hasCellB r (rowP r y) (colP r x) then (rowP r y, colP r x, 0) else (0, 0, 12) := by
  unfold cellOfP
  rw [if_pos]
  unfold first2 checkPlaceP
  rw [hr, hp]; rfl
set_option maxRecDepth 20000 in
set_option maxHeartbeats 1000000 in
theorem rCellOf (r : Rel) (a : Option Addr) (cap : Nat) (x y z : Int) (w : World) (hr : relErrP feB r = 0) (hp : placeB x y z = true) {u v e0 : Int} (hc : cellOfP r x y z = (u, v, e0)) :
    Calls Try.prog 46 #[.agg #[.int .i64 r.x, .int .i64 r.y, .int .i64 r.cell, .int .i64 r.rows, .int .i64 r.cols, .slice a r.ds.length cap], .agg #[.int .i64 x, .int .i64 y, .int .i64 z]] w fun e w' => e = .returned (.tuple #[.agg #[.int .i64 u, .int .i64 v], .int .i64 e0]) ∧ Below w.heap.size w w' := by
  rw [cellOfP_right hr hp] at hc
  have o := (relErrP_ok hr).1
  have O := Lib.hid o
  obtain ⟨⟨x1, x2⟩, ⟨y1, y2⟩, -⟩ := placeB_iff.1 hp
  obtain ⟨-, -, -, -, -, -, r1, r2, l1, l2, -⟩ := o
  clear hr hp
  rcases (show hasCellB r (rowP r y) (colP r x) = false ∨ hasCellB r (rowP r y) (colP r x) = true by cases hasCellB r (rowP r y) (colP r x) <;> simp) with hh | hh
  · rw [hh] at hc
    simp only [Bool.false_eq_true, if_false, Prod.mk.injEq] at hc
    obtain ⟨rfl, rfl, rfl⟩ := hc
    have HH := Lib.hid hh
    clear hh
    go_enter Try.func46, Try.ntmps46
    go_wp2
    refine wp_region_calm (by kernel_rfl) (by kernel_rfl) ?_
    repeat (go_big_quiet_step (first | (go_at_call 115; exact calm_of (rRowOf r a cap _ _ O.out (by omega) (by omega))) | (go_at_call 116; exact calm_of (rColOf r a cap _ _ O.out (by omega) (by omega)))))
    refine wpQuiet_nil ?_
    rintro _ ⟨p1, rfl⟩
    go_wp2_with (first | (go_at_call 37; refine (rHasCell r a cap _ _ _ (by omega) (by omega) (by omega) (by omega) HH.out).mono ?_; rintro e w' ⟨rfl, hb⟩; obtain ⟨pp, rfl⟩ := later_of_below hb; clear hb))
    refine bodyPost_ret ?_ rfl ⟨rfl, (by (repeat' (first | with_reducible exact Below.refl _ _ | (with_reducible refine below_later_of ?_ ?_ _) | (with_reducible refine Below.alloc ?_ ?_ _) | (with_reducible refine Below.setCell ?_ ?_ _) | (with_reducible refine Below.drew ?_) | (simp; done) | (simp; omega) | omega)))⟩
    first | (simp [results, Try.results46, go_sem]; done) | simp [results, Try.results46, go_sem, ↓IntWalk.iteOmega]
  · rw [hh] at hc
    simp only [if_true, Prod.mk.injEq] at hc
    obtain ⟨rfl, rfl, rfl⟩ := hc
    have HH := Lib.hid hh
    clear hh
    go_enter Try.func46, Try.ntmps46
    go_wp2
    refine wp_region_calm (by kernel_rfl) (by kernel_rfl) ?_
    repeat (go_big_quiet_step (first | (go_at_call 115; exact calm_of (rRowOf r a cap _ _ O.out (by omega) (by omega))) | (go_at_call 116; exact calm_of (rColOf r a cap _ _ O.out (by omega) (by omega)))))
    refine wpQuiet_nil ?_
    rintro _ ⟨p1, rfl⟩
    go_wp2_with (first | (go_at_call 37; refine (rHasCell r a cap _ _ _ (by omega) (by omega) (by omega) (by omega) HH.out).mono ?_; rintro e w' ⟨rfl, hb⟩; obtain ⟨pp, rfl⟩ := later_of_below hb; clear hb))
    refine bodyPost_ret ?_ rfl ⟨rfl, (by (repeat' (first | with_reducible exact Below.refl _ _ | (with_reducible refine below_later_of ?_ ?_ _) | (with_reducible refine Below.alloc ?_ ?_ _) | (with_reducible refine Below.setCell ?_ ?_ _) | (with_reducible refine Below.drew ?_) | (simp; done) | (simp; omega) | omega)))⟩
    first | (simp [results, Try.results46, go_sem]; done) | simp [results, Try.results46, go_sem, ↓IntWalk.iteOmega]
set_option maxRecDepth 20000 in
set_option maxHeartbeats 1000000 in
theorem rHeightAt (r : Rel) (a : Option Addr) (cap : Nat) (x y z : Int) (w : World) (ha : SrcAt w a r.ds) (hrr : relErrP feB r = 0) (hpp : placeB x y z = true) {h0 e0 : Int} (hr : heightAtP r x y z = (h0, e0)) :
    Calls Try.prog 47 #[.agg #[.int .i64 r.x, .int .i64 r.y, .int .i64 r.cell, .int .i64 r.rows, .int .i64 r.cols, .slice a r.ds.length cap], .agg #[.int .i64 x, .int .i64 y, .int .i64 z]] w fun e w' => e = .returned (.tuple #[.int .i64 h0, .int .i64 e0]) ∧ Below w.heap.size w w' := by
  obtain ⟨u, v, ec, hc⟩ : ∃ u v ec, cellOfP r x y z = (u, v, ec) := ⟨_, _, _, rfl⟩
  unfold heightAtP at hr
  rw [hc] at hr
  simp only at hr
  have HR := Lib.hid hrr
  have HP := Lib.hid hpp
  have HC := Lib.hid hc
  by_cases he : ec = 0
  · subst he
    rw [if_pos rfl] at hr
    simp only [Prod.mk.injEq] at hr
    obtain ⟨rfl, rfl⟩ := hr
    obtain ⟨h1, h2, h3, -, -⟩ := cellOfP_ok hc
    have o := (relErrP_ok h1).1
    have hpos : 0 < r.ds.length := by
      have h1 := o.len
      have : 1 * 1 ≤ r.rows * r.cols := Int.mul_le_mul o.r1 o.l1 (by omega) (by have := o.r1; omega)
      omega
    obtain ⟨b, off, rfl, hbw, hf⟩ := ha hpos
    have hk := heightOk h1 h3 hf
    obtain ⟨k, hkk⟩ : ∃ k, idxP r u v = k := ⟨_, rfl⟩
    rw [hkk] at hk ⊢
    have HK := Lib.hid hk
    obtain ⟨-, p1, p2, q1, q2, lt, -, hi⟩ := hk
    generalize intB (bitAt r.ds k) = hh at hi ⊢
    have HI := Lib.hid hi
    clear hi ha hc h1 h2 h3 hf hkk hrr hpp
    go_enter Try.func47, Try.ntmps47
    go_wp2_with (first | (go_at_call 46; refine (rCellOf r _ cap x y z _ HR.out HP.out HC.out).mono ?_; rintro e w' ⟨rfl, hb⟩; obtain ⟨pp, rfl⟩ := later_of_below hb; clear hb) | (go_at_call 117; refine (rHeightOf r b off cap _ _ k hh _ HK.out.hk (by omega) (by omega) (by omega) (by omega) (by omega) (by simp; omega) (by (first | (simp [go_sem]; done) | simp [go_sem, ↓IntWalk.iteOmega]); exact HK.out.cell) HI.out).mono ?_; rintro e w' ⟨rfl, hb⟩; obtain ⟨pp, rfl⟩ := later_of_below hb; clear hb))
    go_ret2
    exact ⟨rfl, (by (repeat' (first | with_reducible exact Below.refl _ _ | (with_reducible refine below_later_of ?_ ?_ _) | (with_reducible refine Below.alloc ?_ ?_ _) | (with_reducible refine Below.setCell ?_ ?_ _) | (with_reducible refine Below.drew ?_) | (simp; done) | (simp; omega) | omega)))⟩
  · rw [if_neg he] at hr
    simp only [Prod.mk.injEq] at hr
    obtain ⟨rfl, rfl⟩ := hr
    clear ha hc hrr hpp
    go_enter Try.func47, Try.ntmps47
    go_wp2_with (first | (go_at_call 46; refine (rCellOf r _ cap x y z _ HR.out HP.out HC.out).mono ?_; rintro e w' ⟨rfl, hb⟩; obtain ⟨pp, rfl⟩ := later_of_below hb; clear hb))
    go_ret2
    exact ⟨rfl, (by (repeat' (first | with_reducible exact Below.refl _ _ | (with_reducible refine below_later_of ?_ ?_ _) | (with_reducible refine Below.alloc ?_ ?_ _) | (with_reducible refine Below.setCell ?_ ?_ _) | (with_reducible refine Below.drew ?_) | (simp; done) | (simp; omega) | omega)))⟩
set_option maxHeartbeats 400000 in
theorem few_any (r : Rel) (a : Option Addr) (cap : Nat) (w : World) {c : Bool} (hc : decide (r.ds.length ≤ 80) = c) :
    Calls Try.prog 31 #[.agg #[.int .i64 r.x, .int .i64 r.y, .int .i64 r.cell, .int .i64 r.rows, .int .i64 r.cols, .slice a r.ds.length cap]] w fun e w' => e = .returned (.bool c) ∧ Below w.heap.size w w' := by
  subst hc
  go_enter Try.func31, Try.ntmps31
  go_wp2
  go_ret
  exact ⟨ret_bool (by rw [decide_eq_decide]; omega), (by (repeat' (first | with_reducible exact Below.refl _ _ | (with_reducible refine below_later_of ?_ ?_ _) | (with_reducible refine Below.alloc ?_ ?_ _) | (with_reducible refine Below.setCell ?_ ?_ _) | (with_reducible refine Below.drew ?_) | (simp; done) | (simp; omega) | omega)))⟩
end Go.Proofs.Ytokpdmlmlkkekaa
