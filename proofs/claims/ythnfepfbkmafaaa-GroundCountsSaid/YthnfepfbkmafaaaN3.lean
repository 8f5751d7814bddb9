/- The law GroundShadows returns true. -/
import Derived.Test.YthnfepfbkmafaaaN2
import Derived.Deep.CutRange
import Derived.Deep.RegionHeld3
namespace Go.Proofs.Ythnfepfbkmafaaa
set_option linter.unusedVariables false
open Go.RowKit
set_option maxRecDepth 20000 in
set_option maxHeartbeats 1000000 in
theorem gshadows_many (t : Trk) (r : Rel) (a : Option Addr) (cap : Nat) (row col up : Int) (w : World) (hl : ¬ r.ds.length ≤ 80) : Calls Try.prog 6 #[.agg #[.int .i64 t.sx, .int .i64 t.sy, .int .i64 t.sz, .int .i64 t.step, .int .i64 t.lines, .int .i64 t.near, .int .i64 t.bin, .int .i64 t.bins, .bool t.east], .agg #[.int .i64 r.x, .int .i64 r.y, .int .i64 r.cell, .int .i64 r.rows, .int .i64 r.cols, .slice a r.ds.length cap], .agg #[.int .i64 row, .int .i64 col, .int .i64 up]] w fun e w' => e = .returned (.bool true) ∧ Below w.heap.size w w' := by
  have HFW := Lib.hid (show decide (r.ds.length ≤ 80) = false by simpa using hl)
  clear hl
  go_enter Try.func6, Try.ntmps6
  go_wp2_with (first | (go_at_call 16; refine (awake_any _).mono ?_; rintro e w' ⟨rfl, hb⟩; obtain ⟨pp, rfl⟩ := later_of_below hb; clear hb) | (go_at_call 29; refine (few_any r _ cap _ HFW.out).mono ?_; rintro e w' ⟨rfl, hb⟩; obtain ⟨pp, rfl⟩ := later_of_below hb; clear hb))
  go_ret
  exact ⟨rfl, (by (repeat' (first | with_reducible exact Below.refl _ _ | (with_reducible refine below_later_of ?_ ?_ _) | (with_reducible refine Below.alloc ?_ ?_ _) | (with_reducible refine Below.setCell ?_ ?_ _) | (with_reducible refine Below.drew ?_) | (simp; done) | (simp; omega) | omega)))⟩
set_option maxRecDepth 20000 in
set_option maxHeartbeats 1000000 in
theorem gshadows_view (t : Trk) (r : Rel) (a : Option Addr) (cap : Nat) (row col up : Int) (w : World) (hl : r.ds.length ≤ 80) (hs : SrcAt w a r.ds) (hv : viewErrP feB intB t r ≠ 0) : Calls Try.prog 6 #[.agg #[.int .i64 t.sx, .int .i64 t.sy, .int .i64 t.sz, .int .i64 t.step, .int .i64 t.lines, .int .i64 t.near, .int .i64 t.bin, .int .i64 t.bins, .bool t.east], .agg #[.int .i64 r.x, .int .i64 r.y, .int .i64 r.cell, .int .i64 r.rows, .int .i64 r.cols, .slice a r.ds.length cap], .agg #[.int .i64 row, .int .i64 col, .int .i64 up]] w fun e w' => e = .returned (.bool true) ∧ Below w.heap.size w w' := by
  have HFW := Lib.hid (show decide (r.ds.length ≤ 80) = true by simpa using hl)
  have HS0 := Lib.hid hs
  obtain ⟨e0, he⟩ : ∃ e0, viewErrP feB intB t r = e0 := ⟨_, rfl⟩
  rw [he] at hv
  have HE := Lib.hid he
  have hz1 : (e0 != 0) = true := by simpa using hv
  clear hs he
  go_enter Try.func6, Try.ntmps6
  go_wp2_with (first | (go_at_call 16; refine (awake_any _).mono ?_; rintro e w' ⟨rfl, hb⟩; obtain ⟨pp, rfl⟩ := later_of_below hb; clear hb) | (go_at_call 29; refine (few_any r _ cap _ HFW.out).mono ?_; rintro e w' ⟨rfl, hb⟩; obtain ⟨pp, rfl⟩ := later_of_below hb; clear hb) | (go_at_call 33; refine (lViewErr t r _ cap _ (by omega) (HS0.out.below (by (repeat' (first | with_reducible exact Below.refl _ _ | (with_reducible refine below_later_of ?_ ?_ _) | (with_reducible refine Below.alloc ?_ ?_ _) | (with_reducible refine Below.setCell ?_ ?_ _) | (with_reducible refine Below.drew ?_) | (simp; done) | (simp; omega) | omega)))) HE.out).mono ?_; rintro e w' ⟨rfl, hb⟩; obtain ⟨pp, rfl⟩ := later_of_below hb; clear hb))
  go_ret
  exact ⟨rfl, (by (repeat' (first | with_reducible exact Below.refl _ _ | (with_reducible refine below_later_of ?_ ?_ _) | (with_reducible refine Below.alloc ?_ ?_ _) | (with_reducible refine Below.setCell ?_ ?_ _) | (with_reducible refine Below.drew ?_) | (simp; done) | (simp; omega) | omega)))⟩
set_option maxRecDepth 20000 in
set_option maxHeartbeats 1000000 in
theorem gshadows_cell (t : Trk) (r : Rel) (a : Option Addr) (cap : Nat) (row col up : Int) (w : World) (hl : r.ds.length ≤ 80) (hs : SrcAt w a r.ds) (hv : viewErrP feB intB t r = 0) (hh : hasCellB r row col = false) : Calls Try.prog 6 #[.agg #[.int .i64 t.sx, .int .i64 t.sy, .int .i64 t.sz, .int .i64 t.step, .int .i64 t.lines, .int .i64 t.near, .int .i64 t.bin, .int .i64 t.bins, .bool t.east], .agg #[.int .i64 r.x, .int .i64 r.y, .int .i64 r.cell, .int .i64 r.rows, .int .i64 r.cols, .slice a r.ds.length cap], .agg #[.int .i64 row, .int .i64 col, .int .i64 up]] w fun e w' => e = .returned (.bool true) ∧ Below w.heap.size w w' := by
  have HFW := Lib.hid (show decide (r.ds.length ≤ 80) = true by simpa using hl)
  have HS0 := Lib.hid hs
  have HE := Lib.hid hv
  have HH := Lib.hid hh
  obtain ⟨-, h2, -, -⟩ := viewErrP_ok hv
  obtain ⟨-, -, -, -, -, -, r1, r2, l1, l2, -⟩ := (relErrP_ok h2).1
  clear hs hv hh h2
  go_enter Try.func6, Try.ntmps6
  go_wp2_with (first | (go_at_call 16; refine (awake_any _).mono ?_; rintro e w' ⟨rfl, hb⟩; obtain ⟨pp, rfl⟩ := later_of_below hb; clear hb) | (go_at_call 29; refine (few_any r _ cap _ HFW.out).mono ?_; rintro e w' ⟨rfl, hb⟩; obtain ⟨pp, rfl⟩ := later_of_below hb; clear hb) | (go_at_call 33; refine (lViewErr t r _ cap _ (by omega) (HS0.out.below (by (repeat' (first | with_reducible exact Below.refl _ _ | (with_reducible refine below_later_of ?_ ?_ _) | (with_reducible refine Below.alloc ?_ ?_ _) | (with_reducible refine Below.setCell ?_ ?_ _) | (with_reducible refine Below.drew ?_) | (simp; done) | (simp; omega) | omega)))) HE.out).mono ?_; rintro e w' ⟨rfl, hb⟩; obtain ⟨pp, rfl⟩ := later_of_below hb; clear hb) | (go_at_call 35; refine (rHasCell r _ cap row col _ (by omega) (by omega) (by omega) (by omega) HH.out).mono ?_; rintro e w' ⟨rfl, hb⟩; obtain ⟨pp, rfl⟩ := later_of_below hb; clear hb))
  go_ret
  exact ⟨rfl, (by (repeat' (first | with_reducible exact Below.refl _ _ | (with_reducible refine below_later_of ?_ ?_ _) | (with_reducible refine Below.alloc ?_ ?_ _) | (with_reducible refine Below.setCell ?_ ?_ _) | (with_reducible refine Below.drew ?_) | (simp; done) | (simp; omega) | omega)))⟩
set_option maxRecDepth 20000 in
set_option maxHeartbeats 1000000 in
theorem gshadows_up (t : Trk) (r : Rel) (a : Option Addr) (cap : Nat) (row col up : Int) (w : World) (hl : r.ds.length ≤ 80) (hs : SrcAt w a r.ds) (hv : viewErrP feB intB t r = 0) (hh : hasCellB r row col = true) (hw : inR 0 200000 up = false) : Calls Try.prog 6 #[.agg #[.int .i64 t.sx, .int .i64 t.sy, .int .i64 t.sz, .int .i64 t.step, .int .i64 t.lines, .int .i64 t.near, .int .i64 t.bin, .int .i64 t.bins, .bool t.east], .agg #[.int .i64 r.x, .int .i64 r.y, .int .i64 r.cell, .int .i64 r.rows, .int .i64 r.cols, .slice a r.ds.length cap], .agg #[.int .i64 row, .int .i64 col, .int .i64 up]] w fun e w' => e = .returned (.bool true) ∧ Below w.heap.size w w' := by
  have HFW := Lib.hid (show decide (r.ds.length ≤ 80) = true by simpa using hl)
  have HS0 := Lib.hid hs
  have HE := Lib.hid hv
  have HH := Lib.hid hh
  have HW := Lib.hid hw
  obtain ⟨-, h2, -, -⟩ := viewErrP_ok hv
  obtain ⟨-, -, -, -, -, -, r1, r2, l1, l2, -⟩ := (relErrP_ok h2).1
  clear hs hv hh hw h2
  go_enter Try.func6, Try.ntmps6
  go_wp2_with (first | (go_at_call 16; refine (awake_any _).mono ?_; rintro e w' ⟨rfl, hb⟩; obtain ⟨pp, rfl⟩ := later_of_below hb; clear hb) | (go_at_call 29; refine (few_any r _ cap _ HFW.out).mono ?_; rintro e w' ⟨rfl, hb⟩; obtain ⟨pp, rfl⟩ := later_of_below hb; clear hb) | (go_at_call 33; refine (lViewErr t r _ cap _ (by omega) (HS0.out.below (by (repeat' (first | with_reducible exact Below.refl _ _ | (with_reducible refine below_later_of ?_ ?_ _) | (with_reducible refine Below.alloc ?_ ?_ _) | (with_reducible refine Below.setCell ?_ ?_ _) | (with_reducible refine Below.drew ?_) | (simp; done) | (simp; omega) | omega)))) HE.out).mono ?_; rintro e w' ⟨rfl, hb⟩; obtain ⟨pp, rfl⟩ := later_of_below hb; clear hb) | (go_at_call 35; refine (rHasCell r _ cap row col _ (by omega) (by omega) (by omega) (by omega) HH.out).mono ?_; rintro e w' ⟨rfl, hb⟩; obtain ⟨pp, rfl⟩ := later_of_below hb; clear hb) | (go_at_call 34; (with_reducible refine (bWithin up 0 200000 _ HW.out).mono ?_); rintro e w' ⟨rfl, rfl⟩))
  go_ret
  exact ⟨rfl, (by (repeat' (first | with_reducible exact Below.refl _ _ | (with_reducible refine below_later_of ?_ ?_ _) | (with_reducible refine Below.alloc ?_ ?_ _) | (with_reducible refine Below.setCell ?_ ?_ _) | (with_reducible refine Below.drew ?_) | (simp; done) | (simp; omega) | omega)))⟩
@[go_sem] theorem run_store_float {P : Program} {w : World} {a : Addr} {m : Mode} (k : FloatKind) (b : Nat) : (store a (.float k b) m).run P w = stored P w a (.float k b) m := run_store P w a _ m rfl
theorem relBlk_other {w : World} {B g j : Nat} {r : Rel} {a : Option Addr} {cap : Nat} (h : RelBlk w B r a cap) (hg : g ≠ B) (u : Value) : RelBlk (w.setCell ⟨g, j, none⟩ u) B r a cap := by
  have ho : ∀ k, (w.setCell ⟨g, j, none⟩ u).cell? ⟨B, k, none⟩ = w.cell? ⟨B, k, none⟩ := fun k => World.cell?_setCell_other _ _ _ _ (by intro e; simp at e <;> omega)
  obtain ⟨h0, h1, h2, h3, h4, h5⟩ := h
  exact ⟨(ho _).trans h0, (ho _).trans h1, (ho _).trans h2, (ho _).trans h3, (ho _).trans h4, (ho _).trans h5⟩
set_option maxRecDepth 20000 in
set_option maxHeartbeats 16000000 in
theorem gshadows_main (t : Trk) (r : Rel) (a : Option Addr) (cap : Nat) (row col up : Int) (w : World) (hl : r.ds.length ≤ 80) (hs : SrcAt w a r.ds) (hn : a = none → cap = 0) (hv : viewErrP feB intB t r = 0) (hh : hasCellB r row col = true) (hw : inR 0 200000 up = true) : Calls Try.prog 6 #[.agg #[.int .i64 t.sx, .int .i64 t.sy, .int .i64 t.sz, .int .i64 t.step, .int .i64 t.lines, .int .i64 t.near, .int .i64 t.bin, .int .i64 t.bins, .bool t.east], .agg #[.int .i64 r.x, .int .i64 r.y, .int .i64 r.cell, .int .i64 r.rows, .int .i64 r.cols, .slice a r.ds.length cap], .agg #[.int .i64 row, .int .i64 col, .int .i64 up]] w fun e w' => e = .returned (.bool true) ∧ Below w.heap.size w w' := by
  have HFW := Lib.hid (show decide (r.ds.length ≤ 80) = true by simpa using hl)
  have HS0 := Lib.hid hs
  have HN := Lib.hid hn
  have HE := Lib.hid hv
  have HH := Lib.hid hh
  have HW := Lib.hid hw
  obtain ⟨ht, h2, hbo, -⟩ := viewErrP_ok hv
  have o := (relErrP_ok h2).1
  obtain ⟨⟨g1, g2⟩, g3, g4⟩ := hasCellB_iff.1 hh
  obtain ⟨up1, up2⟩ := inR_iff.1 hw
  obtain ⟨n, hnn⟩ : ∃ n : Nat, r.cols.toNat = n := ⟨_, rfl⟩
  have hn1 : (n : Int) = r.cols := by have := o.l1; omega
  have a3 : (n : Int) ≤ r.cols := by omega
  have a4 : r.cols ≤ (n : Int) := by omega
  have hnl : n ≤ 64 := by have := o.l2; omega
  have hnc : ((n : Int) != r.cols) = false := by simpa using hn1
  have HNN := Lib.hid hnn
  have HM := Lib.hid (mask_ok hv g1 (show row < r.rows by omega))
  have HRE := Lib.hid h2
  have HBO := Lib.hid hbo
  have O := Lib.hid o
  have HCE := Lib.hid (show ∀ k : Nat, k < n → hasCellB r row k = true from fun k hk => hasCellB_iff.2 ⟨⟨g1, g2⟩, by omega, by omega⟩)
  have HBN := Lib.hid (show ∀ k : Nat, k < n → anyShadow t r intB row k n = false → blockP feB intB t r row k = (0, 12) from fun k hk hs => block_shadow hv hnn (hasCellB_iff.2 ⟨⟨g1, g2⟩, by omega, by omega⟩) hs)
  have HBY := Lib.hid (show ∀ k : Nat, k < n → anyShadow t r intB row k n = true → ∃ j : Nat, blockP feB intB t r row k = ((j : Int), (0 : Int)) ∧ j < n ∧ (t.east = true → j < k) ∧ (t.east = false → k < j) from fun k hk hs => block_hidden o hv hnn (hasCellB_iff.2 ⟨⟨g1, g2⟩, by omega, by omega⟩) hs)
  have HKP := Lib.hid (show ∀ k : Nat, kindP t r intB row k = kindB (anyOver t r intB row k n) (anyShadow t r intB row k n) from fun k => by unfold kindP; rw [hnn])
  obtain ⟨-, -, -, -, -, -, r1, r2, l1, l2, -⟩ := o
  clear hs hn hv hh hw ht h2 hbo hnn hn1
  go_enter Try.func6, Try.ntmps6
  go_wp2_with (first | (go_at_call 16; refine (awake_any _).mono ?_; rintro e w' ⟨rfl, hb⟩; obtain ⟨pp, rfl⟩ := later_of_below hb; clear hb) | (go_at_call 29; refine (few_any r _ cap _ HFW.out).mono ?_; rintro e w' ⟨rfl, hb⟩; obtain ⟨pp, rfl⟩ := later_of_below hb; clear hb) | (go_at_call 33; refine (lViewErr t r _ cap _ (by omega) (HS0.out.below (by (repeat' (first | with_reducible exact Below.refl _ _ | (with_reducible refine below_later_of ?_ ?_ _) | (with_reducible refine Below.alloc ?_ ?_ _) | (with_reducible refine Below.setCell ?_ ?_ _) | (with_reducible refine Below.drew ?_) | (simp; done) | (simp; omega) | omega)))) HE.out).mono ?_; rintro e w' ⟨rfl, hb⟩; obtain ⟨pp, rfl⟩ := later_of_below hb; clear hb) | (go_at_call 35; refine (rHasCell r _ cap row col _ (by omega) (by omega) (by omega) (by omega) HH.out).mono ?_; rintro e w' ⟨rfl, hb⟩; obtain ⟨pp, rfl⟩ := later_of_below hb; clear hb) | (go_at_call 34; (with_reducible refine (bWithin up 0 200000 _ HW.out).mono ?_); rintro e w' ⟨rfl, rfl⟩))
  refine wp_world (fun W => TrkBlk W w.heap.size t ∧ RelBlk W (w.heap.size + 1) r a cap ∧ TriBlk W (w.heap.size + 1 + 1) row col up ∧ Below w.heap.size w W ∧ w.heap.size + 1 + 1 < W.heap.size) ⟨⟨(by (first | (simp [go_sem]; done) | simp [go_sem, ↓IntWalk.iteOmega])), (by (first | (simp [go_sem]; done) | simp [go_sem, ↓IntWalk.iteOmega])), (by (first | (simp [go_sem]; done) | simp [go_sem, ↓IntWalk.iteOmega])), (by (first | (simp [go_sem]; done) | simp [go_sem, ↓IntWalk.iteOmega])), (by (first | (simp [go_sem]; done) | simp [go_sem, ↓IntWalk.iteOmega])), (by (first | (simp [go_sem]; done) | simp [go_sem, ↓IntWalk.iteOmega])), (by (first | (simp [go_sem]; done) | simp [go_sem, ↓IntWalk.iteOmega])), (by (first | (simp [go_sem]; done) | simp [go_sem, ↓IntWalk.iteOmega])), (by (first | (simp [go_sem]; done) | simp [go_sem, ↓IntWalk.iteOmega]))⟩, ⟨(by (first | (simp [go_sem]; done) | simp [go_sem, ↓IntWalk.iteOmega])), (by (first | (simp [go_sem]; done) | simp [go_sem, ↓IntWalk.iteOmega])), (by (first | (simp [go_sem]; done) | simp [go_sem, ↓IntWalk.iteOmega])), (by (first | (simp [go_sem]; done) | simp [go_sem, ↓IntWalk.iteOmega])), (by (first | (simp [go_sem]; done) | simp [go_sem, ↓IntWalk.iteOmega])), (by (first | (simp [go_sem]; done) | simp [go_sem, ↓IntWalk.iteOmega]))⟩, ⟨(by (first | (simp [go_sem]; done) | simp [go_sem, ↓IntWalk.iteOmega])), (by (first | (simp [go_sem]; done) | simp [go_sem, ↓IntWalk.iteOmega])), (by (first | (simp [go_sem]; done) | simp [go_sem, ↓IntWalk.iteOmega]))⟩, (by (repeat' (first | with_reducible exact Below.refl _ _ | (with_reducible refine below_later_of ?_ ?_ _) | (with_reducible refine Below.alloc ?_ ?_ _) | (with_reducible refine Below.setCell ?_ ?_ _) | (with_reducible refine Below.drew ?_) | (simp; done) | (simp; omega) | omega))), by (simp <;> omega)⟩ ?_
  rintro W2 ⟨tt, kk, ii, hb, hs5⟩
  have HBW := Lib.hid hb
  have HS := Lib.hid (HS0.out.below hb)
  have HALL := Lib.hid (show ∀ w', Below W2.heap.size W2 w' → (fun w' => w'.cell? ⟨w.heap.size, 0, none⟩ = some (.int .i64 t.sx) ∧ w'.cell? ⟨w.heap.size, 1, none⟩ = some (.int .i64 t.sy) ∧ w'.cell? ⟨w.heap.size, 2, none⟩ = some (.int .i64 t.sz) ∧ w'.cell? ⟨w.heap.size, 3, none⟩ = some (.int .i64 t.step) ∧ w'.cell? ⟨w.heap.size, 4, none⟩ = some (.int .i64 t.lines) ∧ w'.cell? ⟨w.heap.size, 5, none⟩ = some (.int .i64 t.near) ∧ w'.cell? ⟨w.heap.size, 6, none⟩ = some (.int .i64 t.bin) ∧ w'.cell? ⟨w.heap.size, 7, none⟩ = some (.int .i64 t.bins) ∧ w'.cell? ⟨w.heap.size, 8, none⟩ = some (.bool t.east) ∧ w'.cell? ⟨w.heap.size + 1, 0, none⟩ = some (.int .i64 r.x) ∧ w'.cell? ⟨w.heap.size + 1, 1, none⟩ = some (.int .i64 r.y) ∧ w'.cell? ⟨w.heap.size + 1, 2, none⟩ = some (.int .i64 r.cell) ∧ w'.cell? ⟨w.heap.size + 1, 3, none⟩ = some (.int .i64 r.rows) ∧ w'.cell? ⟨w.heap.size + 1, 4, none⟩ = some (.int .i64 r.cols) ∧ w'.cell? ⟨w.heap.size + 1, 5, none⟩ = some (.slice a r.ds.length cap) ∧ w'.cell? ⟨w.heap.size + 1 + 1, 0, none⟩ = some (.int .i64 row) ∧ w'.cell? ⟨w.heap.size + 1 + 1, 1, none⟩ = some (.int .i64 col) ∧ w'.cell? ⟨w.heap.size + 1 + 1, 2, none⟩ = some (.int .i64 up)) w' from fun w' hb' => by
    obtain ⟨t0, t1, t2, t3, t4, t5, t6, t7, t8⟩ := tt.below (show w.heap.size < W2.heap.size by omega) hb'
    obtain ⟨k0, k1, k2, k3, k4, k5⟩ := kk.below (show w.heap.size + 1 < W2.heap.size by omega) hb'
    obtain ⟨i0, i1, i2⟩ := ii.below hs5 hb'
    exact ⟨t0, t1, t2, t3, t4, t5, t6, t7, t8, k0, k1, k2, k3, k4, k5, i0, i1, i2⟩)
  clear tt kk ii hb
  go_wp2_with fail
  go_cut [7, 8] from 44 to 52 (fun X Y wx => ∃ g, X = .slice (some ⟨g, 0, none⟩) n n ∧ Y = .int .i64 0 ∧ g < wx.heap.size ∧ KindsAt wx g t r intB row n ∧ Below W2.heap.size W2 wx)
  case first =>
    go_region_held3 (fun w' => w'.cell? ⟨w.heap.size, 0, none⟩ = some (.int .i64 t.sx) ∧ w'.cell? ⟨w.heap.size, 1, none⟩ = some (.int .i64 t.sy) ∧ w'.cell? ⟨w.heap.size, 2, none⟩ = some (.int .i64 t.sz) ∧ w'.cell? ⟨w.heap.size, 3, none⟩ = some (.int .i64 t.step) ∧ w'.cell? ⟨w.heap.size, 4, none⟩ = some (.int .i64 t.lines) ∧ w'.cell? ⟨w.heap.size, 5, none⟩ = some (.int .i64 t.near) ∧ w'.cell? ⟨w.heap.size, 6, none⟩ = some (.int .i64 t.bin) ∧ w'.cell? ⟨w.heap.size, 7, none⟩ = some (.int .i64 t.bins) ∧ w'.cell? ⟨w.heap.size, 8, none⟩ = some (.bool t.east) ∧ w'.cell? ⟨w.heap.size + 1, 0, none⟩ = some (.int .i64 r.x) ∧ w'.cell? ⟨w.heap.size + 1, 1, none⟩ = some (.int .i64 r.y) ∧ w'.cell? ⟨w.heap.size + 1, 2, none⟩ = some (.int .i64 r.cell) ∧ w'.cell? ⟨w.heap.size + 1, 3, none⟩ = some (.int .i64 r.rows) ∧ w'.cell? ⟨w.heap.size + 1, 4, none⟩ = some (.int .i64 r.cols) ∧ w'.cell? ⟨w.heap.size + 1, 5, none⟩ = some (.slice a r.ds.length cap) ∧ w'.cell? ⟨w.heap.size + 1 + 1, 0, none⟩ = some (.int .i64 row) ∧ w'.cell? ⟨w.heap.size + 1 + 1, 1, none⟩ = some (.int .i64 col) ∧ w'.cell? ⟨w.heap.size + 1 + 1, 2, none⟩ = some (.int .i64 up)) (exact HALL.out _ (by (repeat' (first | with_reducible exact Below.refl _ _ | (with_reducible refine below_later_of ?_ ?_ _) | (with_reducible refine Below.alloc ?_ ?_ _) | (with_reducible refine Below.setCell ?_ ?_ _) | (with_reducible refine Below.drew ?_) | (simp; done) | (simp; omega) | omega)))) (first | (go_at_call 31; refine (copy_any r a cap _ (by omega) (HS.out.below (by (repeat' (first | with_reducible exact Below.refl _ _ | (with_reducible refine below_later_of ?_ ?_ _) | (with_reducible refine Below.alloc ?_ ?_ _) | (with_reducible refine Below.setCell ?_ ?_ _) | (with_reducible refine Below.drew ?_) | (simp; done) | (simp; omega) | omega)))) HN.out).mono ?_; rintro e w' ⟨a', cap', rfl, hs2, hn2, hb⟩; have HS2 := Lib.hid hs2; have HN2 := Lib.hid hn2; clear hs2 hn2; obtain ⟨pp, rfl⟩ := later_of_below hb; clear hb) | (go_at_call 30; refine (maskRow_k t r _ _ n row _ (relAt_any (by omega) (HS2.out.below' (by (repeat' (first | with_reducible exact Below.refl _ _ | (with_reducible refine below_later_of ?_ ?_ _) | (with_reducible refine Below.alloc ?_ ?_ _) | (with_reducible refine Below.setCell ?_ ?_ _) | (with_reducible refine Below.drew ?_) | (simp; done) | (simp; omega) | omega))))) HM.out HNN.out).mono ?_; rintro e w' ⟨g, rfl, hg, hk, hb⟩; have HG := Lib.hid (And.intro hg hk); clear hg hk; obtain ⟨pp, rfl⟩ := later_of_below hb; clear hb))
    all_goals
      go_wp2_with fail
      go_meet
      exact ⟨_, rfl, rfl, by have := HG.out.1; simp at this ⊢; omega, HG.out.2.below HG.out.1 (by (repeat' (first | with_reducible exact Below.refl _ _ | (with_reducible refine below_later_of ?_ ?_ _) | (with_reducible refine Below.alloc ?_ ?_ _) | (with_reducible refine Below.setCell ?_ ?_ _) | (with_reducible refine Below.drew ?_) | (simp; done) | (simp; omega) | omega))), (by (repeat' (first | with_reducible exact Below.refl _ _ | (with_reducible refine below_later_of ?_ ?_ _) | (with_reducible refine Below.alloc ?_ ?_ _) | (with_reducible refine Below.setCell ?_ ?_ _) | (with_reducible refine Below.drew ?_) | (simp; done) | (simp; omega) | omega)))⟩
  case rest =>
    obtain ⟨g, rfl, rfl, hg, hk, hb⟩ := hcut
    have HSC := Lib.hid (HS.out.below hb)
    have HALL1 := Lib.hid (show ∀ w', Below wc.heap.size wc w' → (fun w' => w'.cell? ⟨w.heap.size, 0, none⟩ = some (.int .i64 t.sx) ∧ w'.cell? ⟨w.heap.size, 1, none⟩ = some (.int .i64 t.sy) ∧ w'.cell? ⟨w.heap.size, 2, none⟩ = some (.int .i64 t.sz) ∧ w'.cell? ⟨w.heap.size, 3, none⟩ = some (.int .i64 t.step) ∧ w'.cell? ⟨w.heap.size, 4, none⟩ = some (.int .i64 t.lines) ∧ w'.cell? ⟨w.heap.size, 5, none⟩ = some (.int .i64 t.near) ∧ w'.cell? ⟨w.heap.size, 6, none⟩ = some (.int .i64 t.bin) ∧ w'.cell? ⟨w.heap.size, 7, none⟩ = some (.int .i64 t.bins) ∧ w'.cell? ⟨w.heap.size, 8, none⟩ = some (.bool t.east) ∧ w'.cell? ⟨w.heap.size + 1, 0, none⟩ = some (.int .i64 r.x) ∧ w'.cell? ⟨w.heap.size + 1, 1, none⟩ = some (.int .i64 r.y) ∧ w'.cell? ⟨w.heap.size + 1, 2, none⟩ = some (.int .i64 r.cell) ∧ w'.cell? ⟨w.heap.size + 1, 3, none⟩ = some (.int .i64 r.rows) ∧ w'.cell? ⟨w.heap.size + 1, 4, none⟩ = some (.int .i64 r.cols) ∧ w'.cell? ⟨w.heap.size + 1, 5, none⟩ = some (.slice a r.ds.length cap) ∧ w'.cell? ⟨w.heap.size + 1 + 1, 0, none⟩ = some (.int .i64 row) ∧ w'.cell? ⟨w.heap.size + 1 + 1, 1, none⟩ = some (.int .i64 col) ∧ w'.cell? ⟨w.heap.size + 1 + 1, 2, none⟩ = some (.int .i64 up)) w' from fun w' hb' => HALL.out w' (hb.trans (hb'.mono hb.size)))
    have HKD := Lib.hid hk
    have HBC := Lib.hid (HBW.out.trans (hb.mono (by omega)))
    have hszc := hb.size
    obtain ⟨k00, k01, k02, k03, k04, k05, k06, k07, k08, k10, k11, k12, k13, k14, k15, i0, i1, i2⟩ := HALL.out wc hb
    clear hb hk HALL HS HS0 HBW
    obtain ⟨wd, hwd⟩ : ∃ wd : World, wd = wc := ⟨_, rfl⟩
    subst hwd
    go_wp2
    clear k00 k01 k02 k03 k04 k05 k06 k07 k08 k10 k11 k12 k13 k14 k15 i0 i1 i2
    go_loopw [9] (fun i wr => ∃ k : Nat, k ≤ n ∧ i = .int .i64 k ∧ Below wd.heap.size wd wr) (fun i _ => n - (intOf i).toNat)
    case atStart => exact ⟨0, Nat.zero_le _, rfl, Below.refl _ _⟩
    case round =>
      obtain ⟨k, hkn, rfl, hnx⟩ := hrel
      have HX := Lib.hid hnx
      have hszi := hnx.size
      have HALL2 := Lib.hid (show ∀ w', Below wr.heap.size wr w' → (fun w' => w'.cell? ⟨w.heap.size, 0, none⟩ = some (.int .i64 t.sx) ∧ w'.cell? ⟨w.heap.size, 1, none⟩ = some (.int .i64 t.sy) ∧ w'.cell? ⟨w.heap.size, 2, none⟩ = some (.int .i64 t.sz) ∧ w'.cell? ⟨w.heap.size, 3, none⟩ = some (.int .i64 t.step) ∧ w'.cell? ⟨w.heap.size, 4, none⟩ = some (.int .i64 t.lines) ∧ w'.cell? ⟨w.heap.size, 5, none⟩ = some (.int .i64 t.near) ∧ w'.cell? ⟨w.heap.size, 6, none⟩ = some (.int .i64 t.bin) ∧ w'.cell? ⟨w.heap.size, 7, none⟩ = some (.int .i64 t.bins) ∧ w'.cell? ⟨w.heap.size, 8, none⟩ = some (.bool t.east) ∧ w'.cell? ⟨w.heap.size + 1, 0, none⟩ = some (.int .i64 r.x) ∧ w'.cell? ⟨w.heap.size + 1, 1, none⟩ = some (.int .i64 r.y) ∧ w'.cell? ⟨w.heap.size + 1, 2, none⟩ = some (.int .i64 r.cell) ∧ w'.cell? ⟨w.heap.size + 1, 3, none⟩ = some (.int .i64 r.rows) ∧ w'.cell? ⟨w.heap.size + 1, 4, none⟩ = some (.int .i64 r.cols) ∧ w'.cell? ⟨w.heap.size + 1, 5, none⟩ = some (.slice a r.ds.length cap) ∧ w'.cell? ⟨w.heap.size + 1 + 1, 0, none⟩ = some (.int .i64 row) ∧ w'.cell? ⟨w.heap.size + 1 + 1, 1, none⟩ = some (.int .i64 col) ∧ w'.cell? ⟨w.heap.size + 1 + 1, 2, none⟩ = some (.int .i64 up)) w' from fun w' hb' => HALL1.out w' (hnx.trans (hb'.mono hnx.size)))
      have HS := Lib.hid (HSC.out.below hnx)
      by_cases hlt : k < n
      · rcases (show anyShadow t r intB row k n = false ∨ anyShadow t r intB row k n = true by cases anyShadow t r intB row k n <;> simp) with hsh | hsh
        · have HBL := Lib.hid (HBN.out k hlt hsh)
          have hck := (hnx.cell (p := ⟨g, k, none⟩) hg).trans (HKD.out k hlt)
          rw [HKP.out k, hsh] at hck
          have hgr : g < wr.heap.size := by omega
          obtain ⟨wo, hwo⟩ : ∃ wo : World, wo = wr := ⟨_, rfl⟩
          subst hwo
          clear hnx hsh
          go_wp2
          go_cut [10, 11] from 69 to 79 (fun X Y wx => X = .int .i64 0 ∧ Y = .int .i64 12 ∧ Below wo.heap.size wo wx)
          case first =>
            go_region_held3 (fun w' => w'.cell? ⟨w.heap.size, 0, none⟩ = some (.int .i64 t.sx) ∧ w'.cell? ⟨w.heap.size, 1, none⟩ = some (.int .i64 t.sy) ∧ w'.cell? ⟨w.heap.size, 2, none⟩ = some (.int .i64 t.sz) ∧ w'.cell? ⟨w.heap.size, 3, none⟩ = some (.int .i64 t.step) ∧ w'.cell? ⟨w.heap.size, 4, none⟩ = some (.int .i64 t.lines) ∧ w'.cell? ⟨w.heap.size, 5, none⟩ = some (.int .i64 t.near) ∧ w'.cell? ⟨w.heap.size, 6, none⟩ = some (.int .i64 t.bin) ∧ w'.cell? ⟨w.heap.size, 7, none⟩ = some (.int .i64 t.bins) ∧ w'.cell? ⟨w.heap.size, 8, none⟩ = some (.bool t.east) ∧ w'.cell? ⟨w.heap.size + 1, 0, none⟩ = some (.int .i64 r.x) ∧ w'.cell? ⟨w.heap.size + 1, 1, none⟩ = some (.int .i64 r.y) ∧ w'.cell? ⟨w.heap.size + 1, 2, none⟩ = some (.int .i64 r.cell) ∧ w'.cell? ⟨w.heap.size + 1, 3, none⟩ = some (.int .i64 r.rows) ∧ w'.cell? ⟨w.heap.size + 1, 4, none⟩ = some (.int .i64 r.cols) ∧ w'.cell? ⟨w.heap.size + 1, 5, none⟩ = some (.slice a r.ds.length cap) ∧ w'.cell? ⟨w.heap.size + 1 + 1, 0, none⟩ = some (.int .i64 row) ∧ w'.cell? ⟨w.heap.size + 1 + 1, 1, none⟩ = some (.int .i64 col) ∧ w'.cell? ⟨w.heap.size + 1 + 1, 2, none⟩ = some (.int .i64 up)) (exact HALL2.out _ (by (repeat' (first | with_reducible exact Below.refl _ _ | (with_reducible refine below_later_of ?_ ?_ _) | (with_reducible refine Below.alloc ?_ ?_ _) | (with_reducible refine Below.setCell ?_ ?_ _) | (with_reducible refine Below.drew ?_) | (simp; done) | (simp; omega) | omega)))) (first | (go_at_call 31; refine (copy_any r a cap _ (by omega) (HS.out.below (by (repeat' (first | with_reducible exact Below.refl _ _ | (with_reducible refine below_later_of ?_ ?_ _) | (with_reducible refine Below.alloc ?_ ?_ _) | (with_reducible refine Below.setCell ?_ ?_ _) | (with_reducible refine Below.drew ?_) | (simp; done) | (simp; omega) | omega)))) HN.out).mono ?_; rintro e w' ⟨a', cap', rfl, hs2, hn2, hb⟩; have HS2 := Lib.hid hs2; have HN2 := Lib.hid hn2; clear hs2 hn2; obtain ⟨pp, rfl⟩ := later_of_below hb; clear hb) | (go_at_call 32; refine (blocker_any feB intB t r _ _ row _ _ (relAt_any (by omega) (HS2.out.below' (by (repeat' (first | with_reducible exact Below.refl _ _ | (with_reducible refine below_later_of ?_ ?_ _) | (with_reducible refine Below.alloc ?_ ?_ _) | (with_reducible refine Below.setCell ?_ ?_ _) | (with_reducible refine Below.drew ?_) | (simp; done) | (simp; omega) | omega))))) HBL.out).mono ?_; rintro e w' ⟨rfl, hb⟩; obtain ⟨pp, rfl⟩ := later_of_below hb; clear hb))
            all_goals
              go_wp2_with fail
              go_meet
              exact ⟨rfl, rfl, (by (repeat' (first | with_reducible exact Below.refl _ _ | (with_reducible refine below_later_of ?_ ?_ _) | (with_reducible refine Below.alloc ?_ ?_ _) | (with_reducible refine Below.setCell ?_ ?_ _) | (with_reducible refine Below.drew ?_) | (simp; done) | (simp; omega) | omega)))⟩
          case rest =>
            obtain ⟨rfl, rfl, hb⟩ := hcut
            have hck2 := (hb.cell (p := ⟨g, k, none⟩) hgr).trans hck
            have HXX := Lib.hid (HX.out.trans (hb.mono hszi))
            have hszx := hb.size
            clear hb hck
            generalize anyOver t r intB row k n = ov at hck2
            cases ov
            all_goals (simp only [kindB, Bool.and_false, Bool.false_eq_true, if_false, if_true] at hck2)
            all_goals go_wp2
            all_goals (go_roundw; (case rel => exact ⟨k + 1, by omega, by go_num, HXX.out.trans (below_mono_of (show wd.heap.size ≤ wc.heap.size by omega) (by (repeat' (first | with_reducible exact Below.refl _ _ | (with_reducible refine below_later_of ?_ ?_ _) | (with_reducible refine Below.alloc ?_ ?_ _) | (with_reducible refine Below.setCell ?_ ?_ _) | (with_reducible refine Below.drew ?_) | (simp; done) | (simp; omega) | omega))))⟩); (case measure => simp [intOf]; omega))
        · obtain ⟨j, hbl, hjn, hje, hjw⟩ := HBY.out k hlt hsh
          have HBL := Lib.hid hbl
          have HJE := Lib.hid hje
          have HJW := Lib.hid hjw
          have hck := (hnx.cell (p := ⟨g, k, none⟩) hg).trans (HKD.out k hlt)
          rw [HKP.out k, hsh] at hck
          have hgr : g < wr.heap.size := by omega
          have HWJ := Lib.hid (show inR 0 ((n : Int) - 1) (j : Int) = true from inR_iff.2 ⟨by omega, by omega⟩)
          obtain ⟨wo, hwo⟩ : ∃ wo : World, wo = wr := ⟨_, rfl⟩
          subst hwo
          clear hnx hsh hbl hje hjw
          go_wp2
          go_cut [10, 11] from 69 to 79 (fun X Y wx => X = .int .i64 (j : Int) ∧ Y = .int .i64 0 ∧ Below wo.heap.size wo wx)
          case first =>
            go_region_held3 (fun w' => w'.cell? ⟨w.heap.size, 0, none⟩ = some (.int .i64 t.sx) ∧ w'.cell? ⟨w.heap.size, 1, none⟩ = some (.int .i64 t.sy) ∧ w'.cell? ⟨w.heap.size, 2, none⟩ = some (.int .i64 t.sz) ∧ w'.cell? ⟨w.heap.size, 3, none⟩ = some (.int .i64 t.step) ∧ w'.cell? ⟨w.heap.size, 4, none⟩ = some (.int .i64 t.lines) ∧ w'.cell? ⟨w.heap.size, 5, none⟩ = some (.int .i64 t.near) ∧ w'.cell? ⟨w.heap.size, 6, none⟩ = some (.int .i64 t.bin) ∧ w'.cell? ⟨w.heap.size, 7, none⟩ = some (.int .i64 t.bins) ∧ w'.cell? ⟨w.heap.size, 8, none⟩ = some (.bool t.east) ∧ w'.cell? ⟨w.heap.size + 1, 0, none⟩ = some (.int .i64 r.x) ∧ w'.cell? ⟨w.heap.size + 1, 1, none⟩ = some (.int .i64 r.y) ∧ w'.cell? ⟨w.heap.size + 1, 2, none⟩ = some (.int .i64 r.cell) ∧ w'.cell? ⟨w.heap.size + 1, 3, none⟩ = some (.int .i64 r.rows) ∧ w'.cell? ⟨w.heap.size + 1, 4, none⟩ = some (.int .i64 r.cols) ∧ w'.cell? ⟨w.heap.size + 1, 5, none⟩ = some (.slice a r.ds.length cap) ∧ w'.cell? ⟨w.heap.size + 1 + 1, 0, none⟩ = some (.int .i64 row) ∧ w'.cell? ⟨w.heap.size + 1 + 1, 1, none⟩ = some (.int .i64 col) ∧ w'.cell? ⟨w.heap.size + 1 + 1, 2, none⟩ = some (.int .i64 up)) (exact HALL2.out _ (by (repeat' (first | with_reducible exact Below.refl _ _ | (with_reducible refine below_later_of ?_ ?_ _) | (with_reducible refine Below.alloc ?_ ?_ _) | (with_reducible refine Below.setCell ?_ ?_ _) | (with_reducible refine Below.drew ?_) | (simp; done) | (simp; omega) | omega)))) (first | (go_at_call 31; refine (copy_any r a cap _ (by omega) (HS.out.below (by (repeat' (first | with_reducible exact Below.refl _ _ | (with_reducible refine below_later_of ?_ ?_ _) | (with_reducible refine Below.alloc ?_ ?_ _) | (with_reducible refine Below.setCell ?_ ?_ _) | (with_reducible refine Below.drew ?_) | (simp; done) | (simp; omega) | omega)))) HN.out).mono ?_; rintro e w' ⟨a', cap', rfl, hs2, hn2, hb⟩; have HS2 := Lib.hid hs2; have HN2 := Lib.hid hn2; clear hs2 hn2; obtain ⟨pp, rfl⟩ := later_of_below hb; clear hb) | (go_at_call 32; refine (blocker_any feB intB t r _ _ row _ _ (relAt_any (by omega) (HS2.out.below' (by (repeat' (first | with_reducible exact Below.refl _ _ | (with_reducible refine below_later_of ?_ ?_ _) | (with_reducible refine Below.alloc ?_ ?_ _) | (with_reducible refine Below.setCell ?_ ?_ _) | (with_reducible refine Below.drew ?_) | (simp; done) | (simp; omega) | omega))))) HBL.out).mono ?_; rintro e w' ⟨rfl, hb⟩; obtain ⟨pp, rfl⟩ := later_of_below hb; clear hb))
            all_goals
              go_wp2_with fail
              go_meet
              exact ⟨rfl, rfl, (by (repeat' (first | with_reducible exact Below.refl _ _ | (with_reducible refine below_later_of ?_ ?_ _) | (with_reducible refine Below.alloc ?_ ?_ _) | (with_reducible refine Below.setCell ?_ ?_ _) | (with_reducible refine Below.drew ?_) | (simp; done) | (simp; omega) | omega)))⟩
          case rest =>
            obtain ⟨rfl, rfl, hb⟩ := hcut
            have hck2 := (hb.cell (p := ⟨g, k, none⟩) hgr).trans hck
            have HXX := Lib.hid (HX.out.trans (hb.mono hszi))
            have hszx := hb.size
            obtain ⟨-, -, -, -, -, -, -, -, t8, -, -, -, -, -, -, -, -, -⟩ := HALL2.out wc hb
            clear hb hck
            generalize anyOver t r intB row k n = ov at hck2
            rcases (show t.east = true ∨ t.east = false by cases t.east <;> simp) with he | he
            · rw [he] at t8
              have hjk := HJE.out he
              have hjd : decide ((k : Int) ≤ (j : Int)) = false := by simp; omega
              clear he
              cases ov
              all_goals (simp only [kindB, Bool.and_true, Bool.and_self, Bool.false_eq_true, if_false, if_true] at hck2)
              all_goals (go_wp2_with (first | (go_at_call 34; (with_reducible refine (bWithin (j : Int) 0 ((n : Int) - 1) _ HWJ.out).mono ?_); rintro e w' ⟨rfl, rfl⟩)))
              all_goals (go_roundw; (case rel => exact ⟨k + 1, by omega, by go_num, HXX.out.trans (below_mono_of (show wd.heap.size ≤ wc.heap.size by omega) (by (repeat' (first | with_reducible exact Below.refl _ _ | (with_reducible refine below_later_of ?_ ?_ _) | (with_reducible refine Below.alloc ?_ ?_ _) | (with_reducible refine Below.setCell ?_ ?_ _) | (with_reducible refine Below.drew ?_) | (simp; done) | (simp; omega) | omega))))⟩); (case measure => simp [intOf]; omega))
            · rw [he] at t8
              have hjk := HJW.out he
              have hjd : decide ((j : Int) ≤ (k : Int)) = false := by simp; omega
              clear he
              cases ov
              all_goals (simp only [kindB, Bool.and_true, Bool.and_self, Bool.false_eq_true, if_false, if_true] at hck2)
              all_goals (go_wp2_with (first | (go_at_call 34; (with_reducible refine (bWithin (j : Int) 0 ((n : Int) - 1) _ HWJ.out).mono ?_); rintro e w' ⟨rfl, rfl⟩)))
              all_goals (go_roundw; (case rel => exact ⟨k + 1, by omega, by go_num, HXX.out.trans (below_mono_of (show wd.heap.size ≤ wc.heap.size by omega) (by (repeat' (first | with_reducible exact Below.refl _ _ | (with_reducible refine below_later_of ?_ ?_ _) | (with_reducible refine Below.alloc ?_ ?_ _) | (with_reducible refine Below.setCell ?_ ?_ _) | (with_reducible refine Below.drew ?_) | (simp; done) | (simp; omega) | omega))))⟩); (case measure => simp [intOf]; omega))
      · obtain rfl : k = n := by omega
        obtain ⟨k00, k01, k02, k03, k04, k05, k06, k07, k08, k10, k11, k12, k13, k14, k15, i0, i1, i2⟩ := HALL2.out wr (Below.refl _ _)
        have HBR := Lib.hid (HBC.out.trans (hnx.mono (by omega)))
        have hgr : g < wr.heap.size := by omega
        have HKR := Lib.hid (HKD.out.below hg hnx)
        obtain ⟨hik, hi1, hi2, hil⟩ := idx_lt O.out g1 (show row < r.rows by omega) g3 (show col < r.cols by omega)
        clear hnx HALL1 HSC
        have HPOS := Lib.hid (show 0 < r.ds.length by omega)
        generalize hidx : idxP r row col = i at hik hil
        have HIDX := Lib.hid hidx
        clear hidx
        go_wp2_with (first | (go_at_call 31; refine (copy_own r a cap _ (by omega) (HS.out.below (by (repeat' (first | with_reducible exact Below.refl _ _ | (with_reducible refine below_later_of ?_ ?_ _) | (with_reducible refine Below.alloc ?_ ?_ _) | (with_reducible refine Below.setCell ?_ ?_ _) | (with_reducible refine Below.drew ?_) | (simp; done) | (simp; omega) | omega)))) HN.out).mono ?_; rintro e w' ⟨a', cap', rfl, hs2, hn2, hb⟩; obtain ⟨b', rfl, hb1, hb2, hfl, hfz⟩ := hs2 HPOS.out; have HFL := Lib.hid hfl; have HFZ := Lib.hid hfz; clear hs2 hn2 hfl hfz; obtain ⟨p9, rfl⟩ := later_of_below hb; clear hb))
        obtain ⟨B13, hB⟩ : ∃ B13, B13 = wr.heap.size + p9.os.size := ⟨_, rfl⟩
        have hbl : b' < B13 := by rw [hB]; simpa using hb2
        refine wp_world (fun W => TrkBlk W w.heap.size t ∧ TriBlk W (w.heap.size + 1 + 1) row col up ∧ RelBlk W B13 r (some ⟨b', 0, none⟩) cap' ∧ FloatsAt W b' 0 r.ds ∧ (∀ k, W.frozen? ⟨b', k, none⟩ = false) ∧ KindsAt W g t r intB row k ∧ Below wr.heap.size wr W ∧ B13 < W.heap.size) ⟨TrkBlk.below ⟨k00, k01, k02, k03, k04, k05, k06, k07, k08⟩ (show w.heap.size < wr.heap.size by omega) (by (repeat' (first | with_reducible exact Below.refl _ _ | (with_reducible refine below_later_of ?_ ?_ _) | (with_reducible refine Below.alloc ?_ ?_ _) | (with_reducible refine Below.setCell ?_ ?_ _) | (with_reducible refine Below.drew ?_) | (simp; done) | (simp; omega) | omega))), TriBlk.below ⟨i0, i1, i2⟩ (show w.heap.size + 1 + 1 < wr.heap.size by omega) (by (repeat' (first | with_reducible exact Below.refl _ _ | (with_reducible refine below_later_of ?_ ?_ _) | (with_reducible refine Below.alloc ?_ ?_ _) | (with_reducible refine Below.setCell ?_ ?_ _) | (with_reducible refine Below.drew ?_) | (simp; done) | (simp; omega) | omega))), by rw [hB]; exact ⟨(by (first | (simp [go_sem]; done) | simp [go_sem, ↓IntWalk.iteOmega])), (by (first | (simp [go_sem]; done) | simp [go_sem, ↓IntWalk.iteOmega])), (by (first | (simp [go_sem]; done) | simp [go_sem, ↓IntWalk.iteOmega])), (by (first | (simp [go_sem]; done) | simp [go_sem, ↓IntWalk.iteOmega])), (by (first | (simp [go_sem]; done) | simp [go_sem, ↓IntWalk.iteOmega])), (by (first | (simp [go_sem]; done) | simp [go_sem, ↓IntWalk.iteOmega]))⟩, HFL.out.below hb2 (by (repeat' (first | with_reducible exact Below.refl _ _ | (with_reducible refine below_later_of ?_ ?_ _) | (with_reducible refine Below.alloc ?_ ?_ _) | (with_reducible refine Below.setCell ?_ ?_ _) | (with_reducible refine Below.drew ?_) | (simp; done) | (simp; omega) | omega))), fun k => (Below.frozen (show Below (later wr p9).heap.size (later wr p9) _ from (by (repeat' (first | with_reducible exact Below.refl _ _ | (with_reducible refine below_later_of ?_ ?_ _) | (with_reducible refine Below.alloc ?_ ?_ _) | (with_reducible refine Below.setCell ?_ ?_ _) | (with_reducible refine Below.drew ?_) | (simp; done) | (simp; omega) | omega)))) (p := ⟨b', k, none⟩) hb2).trans (HFZ.out k), HKR.out.below hgr (by (repeat' (first | with_reducible exact Below.refl _ _ | (with_reducible refine below_later_of ?_ ?_ _) | (with_reducible refine Below.alloc ?_ ?_ _) | (with_reducible refine Below.setCell ?_ ?_ _) | (with_reducible refine Below.drew ?_) | (simp; done) | (simp; omega) | omega))), (by (repeat' (first | with_reducible exact Below.refl _ _ | (with_reducible refine below_later_of ?_ ?_ _) | (with_reducible refine Below.alloc ?_ ?_ _) | (with_reducible refine Below.setCell ?_ ?_ _) | (with_reducible refine Below.drew ?_) | (simp; done) | (simp; omega) | omega))), by rw [hB]; simp⟩ ?_
        rintro W3 ⟨tt, ii, yy, ff, fz, kd, hbw, hs13⟩
        rw [← hB]
        clear hB hb2 HFL HFZ k00 k01 k02 k03 k04 k05 k06 k07 k08 k10 k11 k12 k13 k14 k15 i0 i1 i2
        obtain ⟨y0, y1, y2, y3, y4, y5⟩ := yy
        obtain ⟨v, hvn, hadd⟩ := raise_bits ((relErrP_ok HRE.out).2 i hil) up1 up2
        have hci : W3.cell? ⟨b', i, none⟩ = some (.float .f32 (bitAt r.ds i)) := by have := ff i hil; rwa [Nat.zero_add] at this
        have hzi := fz i
        have TT := Lib.hid tt
        have II := Lib.hid ii
        have YY := Lib.hid (show RelBlk W3 B13 r (some ⟨b', 0, none⟩) cap' from ⟨y0, y1, y2, y3, y4, y5⟩)
        have FF := Lib.hid ff
        have KD := Lib.hid kd
        have HBX := Lib.hid (HBR.out.trans (hbw.mono (by omega)))
        have hszw := hbw.size
        have HVN := Lib.hid hvn
        obtain ⟨i0, i1, i2⟩ := ii
        generalize hbb : bitAt r.ds i = bb at hci hadd
        have HBB := Lib.hid hbb
        clear tt ff kd hbw hvn hbb fz
        have hbl3 : b' < W3.heap.size := by omega
        obtain ⟨e2, he2⟩ : ∃ e2, viewErrP feB intB t (reData r (r.ds.set i v)) = e2 := ⟨_, rfl⟩
        have HE2 := Lib.hid he2
        have HD := Lib.hid (show (r.ds.set i v).length = r.ds.length from List.length_set)
        obtain ⟨t0, t1, t2, t3, t4, t5, t6, t7, t8⟩ := TT.out
        have SA0 := Lib.hid (show ∀ (p : Regrown) (w' : World), Below (later W3 p).heap.size ((later W3 p).setCell ⟨b', i, none⟩ (.float .f32 v)) w' → SrcAt w' (some ⟨b', 0, none⟩) (r.ds.set i v) from fun p w' hb _ => ⟨b', 0, rfl, Nat.lt_of_lt_of_le (Nat.lt_of_lt_of_le hbl3 (below_later W3 p).size) (by simpa using hb.size), (floatsAt_set (FF.out.below hbl3 (below_later W3 p)) hil).below (Nat.lt_of_lt_of_le hbl3 (below_later W3 p).size) hb⟩)
        by_cases hz : e2 = 0
        · subst hz
          have HM2 := Lib.hid (mask_ok he2 g1 (show row < (reData r (r.ds.set i v)).rows from show row < r.rows by omega))
          clear he2
          refine wp_region_calm_tail 15 (by kernel_rfl) (by kernel_rfl) ?_
          simp only [List.take_succ_cons, List.take_zero, List.drop_succ_cons, List.drop_zero]
          repeat (go_big_quiet_step (fail))
          refine wpQuiet_nil ?_
          rintro _ ⟨p8, rfl⟩
          go_wp2_with (first | (go_at_call 33; refine (lViewErr_re t r (r.ds.set i v) _ cap' _ HD.out (by omega) (SA0.out p8 _ (by (repeat' (first | with_reducible exact Below.refl _ _ | (with_reducible refine below_later_of ?_ ?_ _) | (with_reducible refine Below.alloc ?_ ?_ _) | (with_reducible refine Below.setCell ?_ ?_ _) | (with_reducible refine Below.drew ?_) | (simp; done) | (simp; omega) | omega)))) HE2.out).mono ?_; rintro e w' ⟨rfl, hb⟩; obtain ⟨pp, rfl⟩ := later_of_below hb; clear hb) | (go_at_call 30; refine (maskRow_re t r (r.ds.set i v) _ cap' k row _ HD.out (relAt_any (by rw [show (reData r (r.ds.set i v)).ds.length = r.ds.length from HD.out]; omega) (SA0.out p8 _ (by (repeat' (first | with_reducible exact Below.refl _ _ | (with_reducible refine below_later_of ?_ ?_ _) | (with_reducible refine Below.alloc ?_ ?_ _) | (with_reducible refine Below.setCell ?_ ?_ _) | (with_reducible refine Below.drew ?_) | (simp; done) | (simp; omega) | omega))))) HM2.out HNN.out).mono ?_; rintro e w' ⟨q, rfl, hg2, hk2, hb⟩; have HG2 := Lib.hid (And.intro hg2 hk2); clear hg2 hk2; obtain ⟨p7, rfl⟩ := later_of_below hb; clear hb))
          have HLW := Lib.hid (show Below b' W3 (later (later ((later W3 p8).setCell ⟨b', i, none⟩ (.float .f32 v)) pp) p7) from (by (repeat' (first | with_reducible exact Below.refl _ _ | (with_reducible refine below_later_of ?_ ?_ _) | (with_reducible refine Below.setCell ?_ ?_ _) | (simp; done) | (simp; omega) | omega))))
          have hbb1 : w.heap.size + 1 + 1 < b' := by omega
          refine wp_world (fun W => W.cell? ⟨w.heap.size, 8, none⟩ = some (.bool t.east) ∧ W.cell? ⟨w.heap.size + 1 + 1, 1, none⟩ = some (.int .i64 col) ∧ KindsAt W g t r intB row k ∧ KindsAt W q t (reData r (r.ds.set i v)) intB row k ∧ Below w.heap.size w W ∧ q < W.heap.size ∧ b' ≤ W.heap.size) ⟨(HLW.out.cell (p := ⟨w.heap.size, 8, none⟩) (show w.heap.size < b' by omega)).trans t8, (HLW.out.cell (p := ⟨w.heap.size + 1 + 1, 1, none⟩) (show w.heap.size + 1 + 1 < b' by omega)).trans i1, KD.out.below (show g < b' by omega) HLW.out, HG2.out.2, HBX.out.trans (HLW.out.mono (by omega)), HG2.out.1, Nat.le_trans (show b' ≤ W3.heap.size by omega) HLW.out.size⟩ ?_
          clear HLW HG2
          rintro W5 ⟨e8, d1, ka, kb, hb, hq, hb5⟩
          have HE8 := Lib.hid e8
          have HD1 := Lib.hid d1
          have HKA := Lib.hid ka
          have HKB := Lib.hid kb
          have HB5 := Lib.hid hb
          have HVV := Lib.hid (show intB (bitAt r.ds (idxP r row col)) ≤ intB v by rw [intB_of HVN.out, HIDX.out, HBB.out]; omega)
          have HSH := Lib.hid (show ∀ m : Nat, m < k → (m : Int) ≠ col → anyShadow t r intB row m k = true → anyShadow t (reData r (r.ds.set i v)) intB row m k = true from fun m hm hmc hs => by
            have := shadow_raise (t := t) (r := r) (fi := intB) (n := k) (k := m) (v := v) O.out g1 (show row < r.rows by omega) g3 (show col < r.cols by omega) (show (m : Int) < r.cols by omega) a3 hmc HVV.out (by have := so_pos HBO.out O.out (Int.natCast_nonneg m) (show (m : Int) < r.cols by omega); omega) hs
            rw [HIDX.out] at this
            exact this)
          have HKQ := Lib.hid (show ∀ m : Nat, kindP t (reData r (r.ds.set i v)) intB row m = kindB (anyOver t (reData r (r.ds.set i v)) intB row m k) (anyShadow t (reData r (r.ds.set i v)) intB row m k) from fun m => by unfold kindP; rw [show (reData r (r.ds.set i v)).cols.toNat = k from HNN.out])
          clear e8 d1 ka kb hb t0 t1 t2 t3 t4 t5 t6 t7 t8 i0 i1 i2 y0 y1 y2 y3 y4 y5 hci hzi hadd hik
          go_loopw [17] (fun i wr => ∃ m : Nat, m ≤ k ∧ i = .int .i64 m ∧ Below W5.heap.size W5 wr) (fun i _ => k - (intOf i).toNat)
          case atStart => exact ⟨0, Nat.zero_le _, rfl, Below.refl _ _⟩
          case round =>
            obtain ⟨m, hmk, rfl, hnx⟩ := hrel
            have HX5 := Lib.hid hnx
            have hsz5 := hnx.size
            have e8 := (hnx.cell (p := ⟨w.heap.size, 8, none⟩) (show w.heap.size < W5.heap.size by omega)).trans HE8.out
            have d1 := (hnx.cell (p := ⟨w.heap.size + 1 + 1, 1, none⟩) (show w.heap.size + 1 + 1 < W5.heap.size by omega)).trans HD1.out
            by_cases hlt : m < k
            · have ca := (hnx.cell (p := ⟨g, m, none⟩) (show g < W5.heap.size by omega)).trans (HKA.out m hlt)
              have cb := (hnx.cell (p := ⟨q, m, none⟩) hq).trans (HKB.out m hlt)
              rw [HKP.out m] at ca
              rw [HKQ.out m] at cb
              have hsm := HSH.out m hlt
              clear hnx
              generalize anyOver t r intB row m k = o1 at ca
              generalize anyOver t (reData r (r.ds.set i v)) intB row m k = o2 at cb
              generalize anyShadow t r intB row m k = s1 at ca hsm
              generalize anyShadow t (reData r (r.ds.set i v)) intB row m k = s2 at cb hsm
              by_cases hmc : (m : Int) = col
              · have hd1 : decide ((m : Int) < col) = false := by simp; omega
                have hd2 : decide (col < (m : Int)) = false := by simp; omega
                clear hsm hmc
                rcases (show t.east = true ∨ t.east = false by cases t.east <;> simp) with he | he
                all_goals (rw [he] at e8; clear he)
                all_goals go_wp2
                all_goals (go_roundw; (case rel => exact ⟨m + 1, by omega, by go_num, HX5.out.trans (below_mono_of hsz5 (by (repeat' (first | with_reducible exact Below.refl _ _ | (with_reducible refine below_later_of ?_ ?_ _) | (with_reducible refine Below.alloc ?_ ?_ _) | (with_reducible refine Below.setCell ?_ ?_ _) | (with_reducible refine Below.drew ?_) | (simp; done) | (simp; omega) | omega))))⟩); (case measure => simp [intOf]; omega))
              · have hs12 := hsm hmc
                clear hsm
                have HS12 := Lib.hid hs12
                clear hs12
                rcases (show t.east = true ∨ t.east = false by cases t.east <;> simp) with he | he
                all_goals (rw [he] at e8; clear he)
                · by_cases hd : col < (m : Int)
                  · cases s1
                    · cases o1
                      all_goals (simp only [kindB, Bool.and_false, Bool.and_self, Bool.false_eq_true, if_false, if_true] at ca)
                      all_goals go_wp2
                      all_goals (go_roundw; (case rel => exact ⟨m + 1, by omega, by go_num, HX5.out.trans (below_mono_of hsz5 (by (repeat' (first | with_reducible exact Below.refl _ _ | (with_reducible refine below_later_of ?_ ?_ _) | (with_reducible refine Below.alloc ?_ ?_ _) | (with_reducible refine Below.setCell ?_ ?_ _) | (with_reducible refine Below.drew ?_) | (simp; done) | (simp; omega) | omega))))⟩); (case measure => simp [intOf]; omega))
                    · obtain rfl := HS12.out rfl
                      cases o1 <;> cases o2
                      all_goals (simp only [kindB, Bool.and_true, Bool.and_self, Bool.false_eq_true, if_false, if_true] at ca cb)
                      all_goals go_wp2
                      all_goals (go_roundw; (case rel => exact ⟨m + 1, by omega, by go_num, HX5.out.trans (below_mono_of hsz5 (by (repeat' (first | with_reducible exact Below.refl _ _ | (with_reducible refine below_later_of ?_ ?_ _) | (with_reducible refine Below.alloc ?_ ?_ _) | (with_reducible refine Below.setCell ?_ ?_ _) | (with_reducible refine Below.drew ?_) | (simp; done) | (simp; omega) | omega))))⟩); (case measure => simp [intOf]; omega))
                  · have hd2 : decide (col < (m : Int)) = false := by simp; omega
                    go_wp2
                    (go_roundw; (case rel => exact ⟨m + 1, by omega, by go_num, HX5.out.trans (below_mono_of hsz5 (by (repeat' (first | with_reducible exact Below.refl _ _ | (with_reducible refine below_later_of ?_ ?_ _) | (with_reducible refine Below.alloc ?_ ?_ _) | (with_reducible refine Below.setCell ?_ ?_ _) | (with_reducible refine Below.drew ?_) | (simp; done) | (simp; omega) | omega))))⟩); (case measure => simp [intOf]; omega))
                · by_cases hd : (m : Int) < col
                  · cases s1
                    · cases o1
                      all_goals (simp only [kindB, Bool.and_false, Bool.and_self, Bool.false_eq_true, if_false, if_true] at ca)
                      all_goals go_wp2
                      all_goals (go_roundw; (case rel => exact ⟨m + 1, by omega, by go_num, HX5.out.trans (below_mono_of hsz5 (by (repeat' (first | with_reducible exact Below.refl _ _ | (with_reducible refine below_later_of ?_ ?_ _) | (with_reducible refine Below.alloc ?_ ?_ _) | (with_reducible refine Below.setCell ?_ ?_ _) | (with_reducible refine Below.drew ?_) | (simp; done) | (simp; omega) | omega))))⟩); (case measure => simp [intOf]; omega))
                    · obtain rfl := HS12.out rfl
                      cases o1 <;> cases o2
                      all_goals (simp only [kindB, Bool.and_true, Bool.and_self, Bool.false_eq_true, if_false, if_true] at ca cb)
                      all_goals go_wp2
                      all_goals (go_roundw; (case rel => exact ⟨m + 1, by omega, by go_num, HX5.out.trans (below_mono_of hsz5 (by (repeat' (first | with_reducible exact Below.refl _ _ | (with_reducible refine below_later_of ?_ ?_ _) | (with_reducible refine Below.alloc ?_ ?_ _) | (with_reducible refine Below.setCell ?_ ?_ _) | (with_reducible refine Below.drew ?_) | (simp; done) | (simp; omega) | omega))))⟩); (case measure => simp [intOf]; omega))
                  · have hd2 : decide ((m : Int) < col) = false := by simp; omega
                    go_wp2
                    (go_roundw; (case rel => exact ⟨m + 1, by omega, by go_num, HX5.out.trans (below_mono_of hsz5 (by (repeat' (first | with_reducible exact Below.refl _ _ | (with_reducible refine below_later_of ?_ ?_ _) | (with_reducible refine Below.alloc ?_ ?_ _) | (with_reducible refine Below.setCell ?_ ?_ _) | (with_reducible refine Below.drew ?_) | (simp; done) | (simp; omega) | omega))))⟩); (case measure => simp [intOf]; omega))
            · obtain rfl : m = k := by omega
              clear hnx
              go_wp2
              go_ret
              exact ⟨rfl, HB5.out.trans (HX5.out.mono (by omega))⟩
        · have hz1 : (e2 != 0) = true := by simpa using hz
          clear he2
          refine wp_region_calm_tail 15 (by kernel_rfl) (by kernel_rfl) ?_
          simp only [List.take_succ_cons, List.take_zero, List.drop_succ_cons, List.drop_zero]
          repeat (go_big_quiet_step (fail))
          refine wpQuiet_nil ?_
          rintro _ ⟨p8, rfl⟩
          go_wp2_with (first | (go_at_call 33; refine (lViewErr_re t r (r.ds.set i v) _ cap' _ HD.out (by omega) (SA0.out p8 _ (by (repeat' (first | with_reducible exact Below.refl _ _ | (with_reducible refine below_later_of ?_ ?_ _) | (with_reducible refine Below.alloc ?_ ?_ _) | (with_reducible refine Below.setCell ?_ ?_ _) | (with_reducible refine Below.drew ?_) | (simp; done) | (simp; omega) | omega)))) HE2.out).mono ?_; rintro e w' ⟨rfl, hb⟩; obtain ⟨pp, rfl⟩ := later_of_below hb; clear hb))
          go_ret
          exact ⟨rfl, HBX.out.trans (((show Below b' W3 _ from (by (repeat' (first | with_reducible exact Below.refl _ _ | (with_reducible refine below_later_of ?_ ?_ _) | (with_reducible refine Below.setCell ?_ ?_ _) | (simp; done) | (simp; omega) | omega))))).mono (by omega))⟩
theorem gshadows_any (t : Trk) (r : Rel) (a : Option Addr) (cap : Nat) (row col up : Int) (w : World) (hs : SrcAt w a r.ds) (hn : a = none → cap = 0) : Calls Try.prog 6 #[.agg #[.int .i64 t.sx, .int .i64 t.sy, .int .i64 t.sz, .int .i64 t.step, .int .i64 t.lines, .int .i64 t.near, .int .i64 t.bin, .int .i64 t.bins, .bool t.east], .agg #[.int .i64 r.x, .int .i64 r.y, .int .i64 r.cell, .int .i64 r.rows, .int .i64 r.cols, .slice a r.ds.length cap], .agg #[.int .i64 row, .int .i64 col, .int .i64 up]] w fun e w' => e = .returned (.bool true) ∧ Below w.heap.size w w' := by
  by_cases hl : r.ds.length ≤ 80
  · by_cases hv : viewErrP feB intB t r = 0
    · rcases (show hasCellB r row col = false ∨ hasCellB r row col = true by cases hasCellB r row col <;> simp) with hh | hh
      · exact gshadows_cell t r a cap row col up w hl hs hv hh
      · rcases (show inR 0 200000 up = false ∨ inR 0 200000 up = true by cases inR 0 200000 up <;> simp) with hw | hw
        · exact gshadows_up t r a cap row col up w hl hs hv hh hw
        · exact gshadows_main t r a cap row col up w hl hs hn hv hh hw
    · exact gshadows_view t r a cap row col up w hl hs hv
  · exact gshadows_many t r a cap row col up w hl
end Go.Proofs.Ythnfepfbkmafaaa
