/- Heights of a box: the program's HeightsIn. -/
import Derived.Test.YthnfepfbkmafaaaV1
namespace Go.Proofs.Ythnfepfbkmafaaa
set_option linter.unusedVariables false
open Go.RowKit
set_option maxRecDepth 20000 in
set_option maxHeartbeats 2000000 in
theorem heightsIn_err (r : Rel) (a : Option Addr) (cap : Nat) (q : Bx) (w : World) (hl : r.ds.length ≤ 1000000000) (ha : SrcAt w a r.ds) {e0 : Int} (he : first2 (relErrP feB r) (boxErrP q) = e0) (hz : e0 ≠ 0) :
    Calls Try.prog 66 #[.agg #[.int .i64 r.x, .int .i64 r.y, .int .i64 r.cell, .int .i64 r.rows, .int .i64 r.cols, .slice a r.ds.length cap], .agg #[.int .i64 q.x1, .int .i64 q.x2, .int .i64 q.y1, .int .i64 q.y2]] w fun e w' => e = .returned (.tuple #[.agg #[.int .i64 0, .int .i64 0], .int .i64 e0]) ∧ Below w.heap.size w w' := by
  have HL := Lib.hid hl
  have HA := Lib.hid ha
  have HE := Lib.hid he
  clear hl ha he
  go_enter Try.func66, Try.ntmps66
  go_wp2
  go_region_held3 (fun w' => w'.cell? ⟨w.heap.size, 0, none⟩ = some (.int .i64 r.x) ∧ w'.cell? ⟨w.heap.size, 1, none⟩ = some (.int .i64 r.y) ∧ w'.cell? ⟨w.heap.size, 2, none⟩ = some (.int .i64 r.cell) ∧ w'.cell? ⟨w.heap.size, 3, none⟩ = some (.int .i64 r.rows) ∧ w'.cell? ⟨w.heap.size, 4, none⟩ = some (.int .i64 r.cols) ∧ w'.cell? ⟨w.heap.size, 5, none⟩ = some (.slice a r.ds.length cap) ∧ w'.cell? ⟨w.heap.size + 1, 0, none⟩ = some (.int .i64 q.x1) ∧ w'.cell? ⟨w.heap.size + 1, 1, none⟩ = some (.int .i64 q.x2) ∧ w'.cell? ⟨w.heap.size + 1, 2, none⟩ = some (.int .i64 q.y1) ∧ w'.cell? ⟨w.heap.size + 1, 3, none⟩ = some (.int .i64 q.y2)) (first | ((first | (simp [go_sem]; done) | simp [go_sem, ↓IntWalk.iteOmega]); done)) (first | (go_at_call 42; refine (checkRelief_any feB r _ cap _ HL.out (fun k _ => flErr_any _) (HA.out.below' (by (repeat' (first | with_reducible exact Below.refl _ _ | (with_reducible refine below_later_of ?_ ?_ _) | (with_reducible refine Below.alloc ?_ ?_ _) | (with_reducible refine Below.setCell ?_ ?_ _) | (with_reducible refine Below.drew ?_) | (simp; done) | (simp; omega) | omega))))).mono ?_; rintro e w' ⟨rfl, hb⟩; obtain ⟨pp, rfl⟩ := later_of_below hb; clear hb) | (go_at_call 128; refine (check_any q _ rfl).mono ?_; rintro e w' ⟨rfl, hb⟩; obtain ⟨pp, rfl⟩ := later_of_below hb; clear hb) | (go_at_call 105; refine (first_e _ _ _ _ HE.out (by (first | (simp [go_sem]; done) | simp [go_sem, ↓IntWalk.iteOmega])) (by (first | (simp [go_sem]; done) | simp [go_sem, ↓IntWalk.iteOmega]))).mono ?_; rintro e w' ⟨rfl, rfl⟩))
  all_goals
    go_wp2
    refine bodyPost_ret ?_ rfl ⟨rfl, (by (repeat' (first | with_reducible exact Below.refl _ _ | (with_reducible refine below_later_of ?_ ?_ _) | (with_reducible refine Below.alloc ?_ ?_ _) | (with_reducible refine Below.setCell ?_ ?_ _) | (with_reducible refine Below.drew ?_) | (simp; done) | (simp; omega) | omega)))⟩
    first | (simp [results, Try.results66, go_sem]; done) | simp [results, Try.results66, go_sem, ↓IntWalk.iteOmega]
set_option maxRecDepth 20000 in
set_option maxHeartbeats 4000000 in
theorem heightsIn_out (r : Rel) (a : Option Addr) (cap : Nat) (q : Bx) (w : World) (hl : r.ds.length ≤ 1000000000) (ha : SrcAt w a r.ds) (he : first2 (relErrP feB r) (boxErrP q) = 0) (o : r.Ok) (oq : q.Ok) (hg : inGridB r q = false) :
    Calls Try.prog 66 #[.agg #[.int .i64 r.x, .int .i64 r.y, .int .i64 r.cell, .int .i64 r.rows, .int .i64 r.cols, .slice a r.ds.length cap], .agg #[.int .i64 q.x1, .int .i64 q.x2, .int .i64 q.y1, .int .i64 q.y2]] w fun e w' => e = .returned (.tuple #[.agg #[.int .i64 0, .int .i64 0], .int .i64 12]) ∧ Below w.heap.size w w' := by
  have HL := Lib.hid hl
  have HA := Lib.hid ha
  have HE := Lib.hid he
  have O := Lib.hid o
  obtain ⟨x1a, x1b, x2a, x2b, y1a, y1b, y2a, y2b, xo, yo⟩ := oq
  obtain ⟨-, -, -, -, -, -, r1, r2, l1, l2, -⟩ := o
  clear hl ha he
  unfold inGridB at hg
  rcases (show hasCellB r (rowP r q.y1) (colP r q.x1) = false ∨ hasCellB r (rowP r q.y1) (colP r q.x1) = true by cases hasCellB r (rowP r q.y1) (colP r q.x1) <;> simp) with h1 | h1
  · have H1 := Lib.hid h1
    clear h1 hg
    go_enter Try.func66, Try.ntmps66
    go_wp2
    go_region_held3 (fun w' => w'.cell? ⟨w.heap.size, 0, none⟩ = some (.int .i64 r.x) ∧ w'.cell? ⟨w.heap.size, 1, none⟩ = some (.int .i64 r.y) ∧ w'.cell? ⟨w.heap.size, 2, none⟩ = some (.int .i64 r.cell) ∧ w'.cell? ⟨w.heap.size, 3, none⟩ = some (.int .i64 r.rows) ∧ w'.cell? ⟨w.heap.size, 4, none⟩ = some (.int .i64 r.cols) ∧ w'.cell? ⟨w.heap.size, 5, none⟩ = some (.slice a r.ds.length cap) ∧ w'.cell? ⟨w.heap.size + 1, 0, none⟩ = some (.int .i64 q.x1) ∧ w'.cell? ⟨w.heap.size + 1, 1, none⟩ = some (.int .i64 q.x2) ∧ w'.cell? ⟨w.heap.size + 1, 2, none⟩ = some (.int .i64 q.y1) ∧ w'.cell? ⟨w.heap.size + 1, 3, none⟩ = some (.int .i64 q.y2)) (first | ((first | (simp [go_sem]; done) | simp [go_sem, ↓IntWalk.iteOmega]); done)) (first | (go_at_call 42; refine (checkRelief_any feB r _ cap _ HL.out (fun k _ => flErr_any _) (HA.out.below' (by (repeat' (first | with_reducible exact Below.refl _ _ | (with_reducible refine below_later_of ?_ ?_ _) | (with_reducible refine Below.alloc ?_ ?_ _) | (with_reducible refine Below.setCell ?_ ?_ _) | (with_reducible refine Below.drew ?_) | (simp; done) | (simp; omega) | omega))))).mono ?_; rintro e w' ⟨rfl, hb⟩; obtain ⟨pp, rfl⟩ := later_of_below hb; clear hb) | (go_at_call 128; refine (check_any q _ rfl).mono ?_; rintro e w' ⟨rfl, hb⟩; obtain ⟨pp, rfl⟩ := later_of_below hb; clear hb) | (go_at_call 105; refine (first_e _ _ _ _ HE.out (by (first | (simp [go_sem]; done) | simp [go_sem, ↓IntWalk.iteOmega])) (by (first | (simp [go_sem]; done) | simp [go_sem, ↓IntWalk.iteOmega]))).mono ?_; rintro e w' ⟨rfl, rfl⟩))
    all_goals
      go_wp2_with (first | (go_at_call 106; refine (cell_any r _ cap _ _ _ O.out (by omega) (by omega) (by omega) (by omega)).mono ?_; rintro e w' ⟨rfl, hb⟩; obtain ⟨pp, rfl⟩ := later_of_below hb; clear hb) | (go_at_call 98; (with_reducible refine (has_cell r _ cap (rowP r q.y1) (colP r q.x1) _ r1 r2 l1 l2 H1.out).mono ?_); rintro e w' ⟨rfl, hb⟩; obtain ⟨pp, rfl⟩ := later_of_below hb; clear hb))
      refine bodyPost_ret ?_ rfl ⟨rfl, (by (repeat' (first | with_reducible exact Below.refl _ _ | (with_reducible refine below_later_of ?_ ?_ _) | (with_reducible refine Below.alloc ?_ ?_ _) | (with_reducible refine Below.setCell ?_ ?_ _) | (with_reducible refine Below.drew ?_) | (simp; done) | (simp; omega) | omega)))⟩
      first | (simp [results, Try.results66, go_sem]; done) | simp [results, Try.results66, go_sem, ↓IntWalk.iteOmega]
  · rw [h1, Bool.true_and] at hg
    have H1 := Lib.hid h1
    have H2 := Lib.hid hg
    clear h1 hg
    go_enter Try.func66, Try.ntmps66
    go_wp2
    go_region_held3 (fun w' => w'.cell? ⟨w.heap.size, 0, none⟩ = some (.int .i64 r.x) ∧ w'.cell? ⟨w.heap.size, 1, none⟩ = some (.int .i64 r.y) ∧ w'.cell? ⟨w.heap.size, 2, none⟩ = some (.int .i64 r.cell) ∧ w'.cell? ⟨w.heap.size, 3, none⟩ = some (.int .i64 r.rows) ∧ w'.cell? ⟨w.heap.size, 4, none⟩ = some (.int .i64 r.cols) ∧ w'.cell? ⟨w.heap.size, 5, none⟩ = some (.slice a r.ds.length cap) ∧ w'.cell? ⟨w.heap.size + 1, 0, none⟩ = some (.int .i64 q.x1) ∧ w'.cell? ⟨w.heap.size + 1, 1, none⟩ = some (.int .i64 q.x2) ∧ w'.cell? ⟨w.heap.size + 1, 2, none⟩ = some (.int .i64 q.y1) ∧ w'.cell? ⟨w.heap.size + 1, 3, none⟩ = some (.int .i64 q.y2)) (first | ((first | (simp [go_sem]; done) | simp [go_sem, ↓IntWalk.iteOmega]); done)) (first | (go_at_call 42; refine (checkRelief_any feB r _ cap _ HL.out (fun k _ => flErr_any _) (HA.out.below' (by (repeat' (first | with_reducible exact Below.refl _ _ | (with_reducible refine below_later_of ?_ ?_ _) | (with_reducible refine Below.alloc ?_ ?_ _) | (with_reducible refine Below.setCell ?_ ?_ _) | (with_reducible refine Below.drew ?_) | (simp; done) | (simp; omega) | omega))))).mono ?_; rintro e w' ⟨rfl, hb⟩; obtain ⟨pp, rfl⟩ := later_of_below hb; clear hb) | (go_at_call 128; refine (check_any q _ rfl).mono ?_; rintro e w' ⟨rfl, hb⟩; obtain ⟨pp, rfl⟩ := later_of_below hb; clear hb) | (go_at_call 105; refine (first_e _ _ _ _ HE.out (by (first | (simp [go_sem]; done) | simp [go_sem, ↓IntWalk.iteOmega])) (by (first | (simp [go_sem]; done) | simp [go_sem, ↓IntWalk.iteOmega]))).mono ?_; rintro e w' ⟨rfl, rfl⟩))
    all_goals
      go_wp2_with (first | (go_at_call 106; refine (cell_any r _ cap _ _ _ O.out (by omega) (by omega) (by omega) (by omega)).mono ?_; rintro e w' ⟨rfl, hb⟩; obtain ⟨pp, rfl⟩ := later_of_below hb; clear hb) | (go_at_call 98; (with_reducible refine (has_cell r _ cap (rowP r q.y1) (colP r q.x1) _ r1 r2 l1 l2 H1.out).mono ?_); rintro e w' ⟨rfl, hb⟩; obtain ⟨pp, rfl⟩ := later_of_below hb; clear hb) | (go_at_call 98; (with_reducible refine (has_cell r _ cap (rowP r q.y2) (colP r q.x2) _ r1 r2 l1 l2 H2.out).mono ?_); rintro e w' ⟨rfl, hb⟩; obtain ⟨pp, rfl⟩ := later_of_below hb; clear hb))
      refine bodyPost_ret ?_ rfl ⟨rfl, (by (repeat' (first | with_reducible exact Below.refl _ _ | (with_reducible refine below_later_of ?_ ?_ _) | (with_reducible refine Below.alloc ?_ ?_ _) | (with_reducible refine Below.setCell ?_ ?_ _) | (with_reducible refine Below.drew ?_) | (simp; done) | (simp; omega) | omega)))⟩
      first | (simp [results, Try.results66, go_sem]; done) | simp [results, Try.results66, go_sem, ↓IntWalk.iteOmega]
end Go.Proofs.Ythnfepfbkmafaaa
