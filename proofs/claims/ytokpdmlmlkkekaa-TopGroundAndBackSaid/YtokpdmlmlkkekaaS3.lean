/- Reliefs: cells and heights of places, the program. -/
import Derived.Test.YtokpdmlmlkkekaaS1
import Derived.Test.YtokpdmlmlkkekaaZK
namespace Go.Proofs.Ytokpdmlmlkkekaa
set_option linter.unusedVariables false
open Go.RowKit
def rowP (r : Rel) (y : Int) : Int := (y - r.y) / r.cell
def colP (r : Rel) (x : Int) : Int := (x - r.x) / r.cell
def hasCellB (r : Rel) (row col : Int) : Bool := inR 0 (r.rows - 1) row && inR 0 (r.cols - 1) col
set_option maxHeartbeats 1000000 in
theorem cell_any (r : Rel) (a : Option Addr) (cap : Nat) (x y : Int) (w : World) (o : r.Ok) (x1 : -100000000 ≤ x) (x2 : x ≤ 100000000) (y1 : -100000000 ≤ y) (y2 : y ≤ 100000000) :
    Calls Try.prog 110 #[.agg #[.int .i64 r.x, .int .i64 r.y, .int .i64 r.cell, .int .i64 r.rows, .int .i64 r.cols, .slice a r.ds.length cap], .int .i64 x, .int .i64 y] w fun e w' => e = .returned (.tuple #[.int .i64 (rowP r y), .int .i64 (colP r x)]) ∧ Below w.heap.size w w' := by
  obtain ⟨rx1, rx2, ry1, ry2, c1, c2, -, -, -, -, -⟩ := o
  unfold rowP colP
  go_enter Try.func110, Try.ntmps110
  go_wp2
  refine wp_region_calm (by kernel_rfl) (by kernel_rfl) ?_
  repeat (go_big_quiet_step (first | (go_at_call 133; exact calm_same (floor_pos _ _ _ (by omega) (by omega) (by omega) (by omega)))))
  refine wpQuiet_nil ?_
  rintro _ ⟨p1, rfl⟩
  go_wp2
  go_ret2
  exact ⟨rfl, (by (repeat' (first | with_reducible exact Below.refl _ _ | (with_reducible refine below_later_of ?_ ?_ _) | (with_reducible refine Below.alloc ?_ ?_ _) | (with_reducible refine Below.setCell ?_ ?_ _) | (with_reducible refine Below.drew ?_) | (simp; done) | (simp; omega) | omega)))⟩
set_option maxHeartbeats 1000000 in
theorem has_cell (r : Rel) (a : Option Addr) (cap : Nat) (row col : Int) (w : World) (r1 : 1 ≤ r.rows) (r2 : r.rows ≤ 64) (l1 : 1 ≤ r.cols) (l2 : r.cols ≤ 64) {c : Bool} (hc : hasCellB r row col = c) :
    Calls Try.prog 104 #[.agg #[.int .i64 r.x, .int .i64 r.y, .int .i64 r.cell, .int .i64 r.rows, .int .i64 r.cols, .slice a r.ds.length cap], .int .i64 row, .int .i64 col] w fun e w' => e = .returned (.bool c) ∧ Below w.heap.size w w' := by
  subst hc
  cases h1 : inR 0 (r.rows - 1) row
  · have HF := Lib.hid (show hasCellB r row col = false by unfold hasCellB; rw [h1]; rfl)
    have H1 := Lib.hid h1
    clear h1
    go_enter Try.func104, Try.ntmps104
    go_wp2_with (first | (go_at_call 91; (with_reducible refine (within_c row 0 (r.rows - 1) _ H1.out).mono ?_); rintro e w' ⟨rfl, rfl⟩))
    go_ret
    exact ⟨ret_bool HF.out.symm, (by (repeat' (first | with_reducible exact Below.refl _ _ | (with_reducible refine below_later_of ?_ ?_ _) | (with_reducible refine Below.alloc ?_ ?_ _) | (with_reducible refine Below.setCell ?_ ?_ _) | (with_reducible refine Below.drew ?_) | (simp; done) | (simp; omega) | omega)))⟩
  · obtain ⟨c, h2⟩ : ∃ c, inR 0 (r.cols - 1) col = c := ⟨_, rfl⟩
    have HF := Lib.hid (show hasCellB r row col = c by unfold hasCellB; rw [h1, h2]; rfl)
    have H1 := Lib.hid h1
    have H2 := Lib.hid h2
    clear h1 h2
    go_enter Try.func104, Try.ntmps104
    go_wp2_with (first | (go_at_call 91; (with_reducible refine (within_c row 0 (r.rows - 1) _ H1.out).mono ?_); rintro e w' ⟨rfl, rfl⟩) | (go_at_call 91; (with_reducible refine (within_c col 0 (r.cols - 1) _ H2.out).mono ?_); rintro e w' ⟨rfl, rfl⟩))
    go_ret
    exact ⟨ret_bool HF.out.symm, (by (repeat' (first | with_reducible exact Below.refl _ _ | (with_reducible refine below_later_of ?_ ?_ _) | (with_reducible refine Below.alloc ?_ ?_ _) | (with_reducible refine Below.setCell ?_ ?_ _) | (with_reducible refine Below.drew ?_) | (simp; done) | (simp; omega) | omega)))⟩
/-- The cell of a place: row, column, error. -/
def cellOfP (r : Rel) (x y z : Int) : Int × Int × Int :=
  if first2 (relErrP feB r) (checkPlaceP x y z) = 0 then (if hasCellB r (rowP r y) (colP r x) then (rowP r y, colP r x, 0) else (0, 0, 12)) else (0, 0, first2 (relErrP feB r) (checkPlaceP x y z))
def heightAtP (r : Rel) (x y z : Int) : Int × Int :=
  if (cellOfP r x y z).2.2 = 0 then (intB (bitAt r.ds (idxP r (cellOfP r x y z).1 (cellOfP r x y z).2.1)), 0) else (0, (cellOfP r x y z).2.2)
theorem SrcAt.below' {w w' : World} {a : Option Addr} {ds : List Nat} (h : SrcAt w a ds) (hw : Below w.heap.size w w') : 0 < ds.length → ∃ b off, a = some ⟨b, off, none⟩ ∧ b < w'.heap.size ∧ FloatsAt w' b off ds := h.below hw
set_option maxRecDepth 20000 in
set_option maxHeartbeats 2000000 in
theorem cellOf_any (r : Rel) (a : Option Addr) (cap : Nat) (x y z : Int) (w : World) (hl : r.ds.length ≤ 1000000000) (ha : SrcAt w a r.ds) {u v e0 : Int} (hr : cellOfP r x y z = (u, v, e0)) :
    Calls Try.prog 41 #[.agg #[.int .i64 r.x, .int .i64 r.y, .int .i64 r.cell, .int .i64 r.rows, .int .i64 r.cols, .slice a r.ds.length cap], .agg #[.int .i64 x, .int .i64 y, .int .i64 z]] w fun e w' => e = .returned (.tuple #[.agg #[.int .i64 u, .int .i64 v], .int .i64 e0]) ∧ Below w.heap.size w w' := by
  have HL := Lib.hid hl
  have HA := Lib.hid ha
  clear hl ha
  unfold cellOfP at hr
  by_cases h0 : first2 (relErrP feB r) (checkPlaceP x y z) = 0
  · rw [if_pos h0] at hr
    have HE := Lib.hid h0
    have h1 : relErrP feB r = 0 ∧ checkPlaceP x y z = 0 := by
      unfold first2 at h0
      split at h0
      · rename_i h1; exact ⟨h1, h0⟩
      · contradiction
    have o := (relErrP_ok h1.1).1
    have O := Lib.hid o
    have hpl : placeB x y z = true := by
      have := h1.2
      unfold checkPlaceP at this
      split at this
      · assumption
      · exact absurd this (by decide)
    obtain ⟨⟨x1, x2⟩, ⟨y1, y2⟩, -⟩ := placeB_iff.1 hpl
    obtain ⟨-, -, -, -, -, -, r1, r2, l1, l2, -⟩ := o
    clear h0 h1 hpl
    rcases (show hasCellB r (rowP r y) (colP r x) = false ∨ hasCellB r (rowP r y) (colP r x) = true by cases hasCellB r (rowP r y) (colP r x) <;> simp) with hh | hh
    · rw [hh] at hr
      simp only [Bool.false_eq_true, if_false, Prod.mk.injEq] at hr
      obtain ⟨rfl, rfl, rfl⟩ := hr
      have HH := Lib.hid hh
      clear hh
      go_enter Try.func41, Try.ntmps41
      go_wp2
      go_region_held3 (fun w' => w'.cell? ⟨w.heap.size, 0, none⟩ = some (.int .i64 r.x) ∧ w'.cell? ⟨w.heap.size, 1, none⟩ = some (.int .i64 r.y) ∧ w'.cell? ⟨w.heap.size, 2, none⟩ = some (.int .i64 r.cell) ∧ w'.cell? ⟨w.heap.size, 3, none⟩ = some (.int .i64 r.rows) ∧ w'.cell? ⟨w.heap.size, 4, none⟩ = some (.int .i64 r.cols) ∧ w'.cell? ⟨w.heap.size, 5, none⟩ = some (.slice a r.ds.length cap) ∧ w'.cell? ⟨w.heap.size + 1, 0, none⟩ = some (.int .i64 x) ∧ w'.cell? ⟨w.heap.size + 1, 1, none⟩ = some (.int .i64 y) ∧ w'.cell? ⟨w.heap.size + 1, 2, none⟩ = some (.int .i64 z)) (first | ((first | (simp [go_sem]; done) | simp [go_sem, ↓IntWalk.iteOmega]); done)) (first | (go_at_call 44; refine (checkRelief_any feB r a cap _ HL.out (fun k _ => flErr_any _) (HA.out.below' (by (repeat' (first | with_reducible exact Below.refl _ _ | (with_reducible refine below_later_of ?_ ?_ _) | (with_reducible refine Below.alloc ?_ ?_ _) | (with_reducible refine Below.setCell ?_ ?_ _) | (with_reducible refine Below.drew ?_) | (simp; done) | (simp; omega) | omega))))).mono ?_; rintro e w' ⟨rfl, hb⟩; obtain ⟨pp, rfl⟩ := later_of_below hb; clear hb) | (go_at_call 95; refine (checkPlace_any x y z _).mono ?_; rintro e w' ⟨rfl, hb⟩; obtain ⟨pp, rfl⟩ := later_of_below hb; clear hb) | (go_at_call 109; refine (first_e _ _ _ _ HE.out (by (first | (simp [go_sem]; done) | simp [go_sem, ↓IntWalk.iteOmega])) (by (first | (simp [go_sem]; done) | simp [go_sem, ↓IntWalk.iteOmega]))).mono ?_; rintro e w' ⟨rfl, rfl⟩))
      go_wp2_with (first | (go_at_call 110; refine (cell_any r a cap x y _ O.out (by omega) (by omega) (by omega) (by omega)).mono ?_; rintro e w' ⟨rfl, hb⟩; obtain ⟨pp, rfl⟩ := later_of_below hb; clear hb) | (go_at_call 104; refine (has_cell r a cap _ _ _ (by omega) (by omega) (by omega) (by omega) HH.out).mono ?_; rintro e w' ⟨rfl, hb⟩; obtain ⟨pp, rfl⟩ := later_of_below hb; clear hb))
      refine bodyPost_ret ?_ rfl ⟨rfl, (by (repeat' (first | with_reducible exact Below.refl _ _ | (with_reducible refine below_later_of ?_ ?_ _) | (with_reducible refine Below.alloc ?_ ?_ _) | (with_reducible refine Below.setCell ?_ ?_ _) | (with_reducible refine Below.drew ?_) | (simp; done) | (simp; omega) | omega)))⟩
      first | (simp [results, Try.results41, go_sem]; done) | simp [results, Try.results41, go_sem, ↓IntWalk.iteOmega]
    · rw [hh] at hr
      simp only [if_true, Prod.mk.injEq] at hr
      obtain ⟨rfl, rfl, rfl⟩ := hr
      have HH := Lib.hid hh
      clear hh
      go_enter Try.func41, Try.ntmps41
      go_wp2
      go_region_held3 (fun w' => w'.cell? ⟨w.heap.size, 0, none⟩ = some (.int .i64 r.x) ∧ w'.cell? ⟨w.heap.size, 1, none⟩ = some (.int .i64 r.y) ∧ w'.cell? ⟨w.heap.size, 2, none⟩ = some (.int .i64 r.cell) ∧ w'.cell? ⟨w.heap.size, 3, none⟩ = some (.int .i64 r.rows) ∧ w'.cell? ⟨w.heap.size, 4, none⟩ = some (.int .i64 r.cols) ∧ w'.cell? ⟨w.heap.size, 5, none⟩ = some (.slice a r.ds.length cap) ∧ w'.cell? ⟨w.heap.size + 1, 0, none⟩ = some (.int .i64 x) ∧ w'.cell? ⟨w.heap.size + 1, 1, none⟩ = some (.int .i64 y) ∧ w'.cell? ⟨w.heap.size + 1, 2, none⟩ = some (.int .i64 z)) (first | ((first | (simp [go_sem]; done) | simp [go_sem, ↓IntWalk.iteOmega]); done)) (first | (go_at_call 44; refine (checkRelief_any feB r a cap _ HL.out (fun k _ => flErr_any _) (HA.out.below' (by (repeat' (first | with_reducible exact Below.refl _ _ | (with_reducible refine below_later_of ?_ ?_ _) | (with_reducible refine Below.alloc ?_ ?_ _) | (with_reducible refine Below.setCell ?_ ?_ _) | (with_reducible refine Below.drew ?_) | (simp; done) | (simp; omega) | omega))))).mono ?_; rintro e w' ⟨rfl, hb⟩; obtain ⟨pp, rfl⟩ := later_of_below hb; clear hb) | (go_at_call 95; refine (checkPlace_any x y z _).mono ?_; rintro e w' ⟨rfl, hb⟩; obtain ⟨pp, rfl⟩ := later_of_below hb; clear hb) | (go_at_call 109; refine (first_e _ _ _ _ HE.out (by (first | (simp [go_sem]; done) | simp [go_sem, ↓IntWalk.iteOmega])) (by (first | (simp [go_sem]; done) | simp [go_sem, ↓IntWalk.iteOmega]))).mono ?_; rintro e w' ⟨rfl, rfl⟩))
      go_wp2_with (first | (go_at_call 110; refine (cell_any r a cap x y _ O.out (by omega) (by omega) (by omega) (by omega)).mono ?_; rintro e w' ⟨rfl, hb⟩; obtain ⟨pp, rfl⟩ := later_of_below hb; clear hb) | (go_at_call 104; refine (has_cell r a cap _ _ _ (by omega) (by omega) (by omega) (by omega) HH.out).mono ?_; rintro e w' ⟨rfl, hb⟩; obtain ⟨pp, rfl⟩ := later_of_below hb; clear hb))
      refine bodyPost_ret ?_ rfl ⟨rfl, (by (repeat' (first | with_reducible exact Below.refl _ _ | (with_reducible refine below_later_of ?_ ?_ _) | (with_reducible refine Below.alloc ?_ ?_ _) | (with_reducible refine Below.setCell ?_ ?_ _) | (with_reducible refine Below.drew ?_) | (simp; done) | (simp; omega) | omega)))⟩
      first | (simp [results, Try.results41, go_sem]; done) | simp [results, Try.results41, go_sem, ↓IntWalk.iteOmega]
  · rw [if_neg h0] at hr
    simp only [Prod.mk.injEq] at hr
    obtain ⟨rfl, rfl, rfl⟩ := hr
    obtain ⟨e1, he⟩ : ∃ e1, first2 (relErrP feB r) (checkPlaceP x y z) = e1 := ⟨_, rfl⟩
    rw [he] at h0 ⊢
    have HE := Lib.hid he
    clear he
    go_enter Try.func41, Try.ntmps41
    go_wp2
    go_region_held3 (fun w' => w'.cell? ⟨w.heap.size, 0, none⟩ = some (.int .i64 r.x) ∧ w'.cell? ⟨w.heap.size, 1, none⟩ = some (.int .i64 r.y) ∧ w'.cell? ⟨w.heap.size, 2, none⟩ = some (.int .i64 r.cell) ∧ w'.cell? ⟨w.heap.size, 3, none⟩ = some (.int .i64 r.rows) ∧ w'.cell? ⟨w.heap.size, 4, none⟩ = some (.int .i64 r.cols) ∧ w'.cell? ⟨w.heap.size, 5, none⟩ = some (.slice a r.ds.length cap) ∧ w'.cell? ⟨w.heap.size + 1, 0, none⟩ = some (.int .i64 x) ∧ w'.cell? ⟨w.heap.size + 1, 1, none⟩ = some (.int .i64 y) ∧ w'.cell? ⟨w.heap.size + 1, 2, none⟩ = some (.int .i64 z)) (first | ((first | (simp [go_sem]; done) | simp [go_sem, ↓IntWalk.iteOmega]); done)) (first | (go_at_call 44; refine (checkRelief_any feB r a cap _ HL.out (fun k _ => flErr_any _) (HA.out.below' (by (repeat' (first | with_reducible exact Below.refl _ _ | (with_reducible refine below_later_of ?_ ?_ _) | (with_reducible refine Below.alloc ?_ ?_ _) | (with_reducible refine Below.setCell ?_ ?_ _) | (with_reducible refine Below.drew ?_) | (simp; done) | (simp; omega) | omega))))).mono ?_; rintro e w' ⟨rfl, hb⟩; obtain ⟨pp, rfl⟩ := later_of_below hb; clear hb) | (go_at_call 95; refine (checkPlace_any x y z _).mono ?_; rintro e w' ⟨rfl, hb⟩; obtain ⟨pp, rfl⟩ := later_of_below hb; clear hb) | (go_at_call 109; refine (first_e _ _ _ _ HE.out (by (first | (simp [go_sem]; done) | simp [go_sem, ↓IntWalk.iteOmega])) (by (first | (simp [go_sem]; done) | simp [go_sem, ↓IntWalk.iteOmega]))).mono ?_; rintro e w' ⟨rfl, rfl⟩))
    go_wp2
    refine bodyPost_ret ?_ rfl ⟨rfl, (by (repeat' (first | with_reducible exact Below.refl _ _ | (with_reducible refine below_later_of ?_ ?_ _) | (with_reducible refine Below.alloc ?_ ?_ _) | (with_reducible refine Below.setCell ?_ ?_ _) | (with_reducible refine Below.drew ?_) | (simp; done) | (simp; omega) | omega)))⟩
    first | (simp [results, Try.results41, go_sem]; done) | simp [results, Try.results41, go_sem, ↓IntWalk.iteOmega]
end Go.Proofs.Ytokpdmlmlkkekaa
