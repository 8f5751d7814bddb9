/- The law GroundCounts returns true. -/
import Derived.Test.YthnfepfbkmafaaaC11
import Derived.Test.YthnfepfbkmafaaaN3
import Derived.Deep.CutRange
import Derived.Deep.RegionHeld3
namespace Go.Proofs.Ythnfepfbkmafaaa
set_option linter.unusedVariables false
open Go.RowKit
/-- The first m heights are as the first. -/
def FlatUpto (w : World) (b m : Nat) (r : Rel) : Prop := ∀ j, j < r.ds.length → w.cell? ⟨b, j, none⟩ = some (.float .f32 (bitAt r.ds (if j < m then 0 else j)))
theorem FlatUpto.below {w w' : World} {b m B : Nat} {r : Rel} (h : FlatUpto w b m r) (hb : b < B) (hw : Below B w w') : FlatUpto w' b m r := fun j hj => (hw.cell (p := ⟨b, j, none⟩) hb).trans (h j hj)
theorem flatUpto_set {w : World} {b m : Nat} {r : Rel} (h : FlatUpto w b m r) (hm : m < r.ds.length) : FlatUpto (w.setCell ⟨b, m, none⟩ (.float .f32 (bitAt r.ds 0))) b (m + 1) r := fun j hj => by
  by_cases e : j = m
  · subst e
    rw [if_pos (by omega)]
    exact World.cell?_setCell_same _ _ _ (h j hj)
  · rw [World.cell?_setCell_other _ _ _ _ (by intro e2; simp at e2 <;> omega), h j hj]
    by_cases k : j < m
    · rw [if_pos k, if_pos (by omega)]
    · rw [if_neg k, if_neg (by omega)]
theorem flatUpto_all {w : World} {b : Nat} {r : Rel} (h : FlatUpto w b r.ds.length r) : FloatsAt w b 0 (flatR r).ds := fun k hk => by
  rw [flat_len] at hk
  rw [flatR_at r hk, Nat.zero_add, h k hk, if_pos hk]
theorem counts_flat (t : Trk) (r : Rel) (a : Option Addr) (cap : Nat) (w : World) (hl : r.ds.length ≤ 1000000000) (hs : SrcAt w a (flatR r).ds) (he : viewErrP feB intB t r = 0) :
    Calls Try.prog 56 #[.agg #[.int .i64 t.sx, .int .i64 t.sy, .int .i64 t.sz, .int .i64 t.step, .int .i64 t.lines, .int .i64 t.near, .int .i64 t.bin, .int .i64 t.bins, .bool t.east], .agg #[.int .i64 r.x, .int .i64 r.y, .int .i64 r.cell, .int .i64 r.rows, .int .i64 r.cols, .slice a r.ds.length cap]] w fun e w' => e = .returned (.tuple #[.agg #[.int .i64 (r.ds.length : Int), .int .i64 0, .int .i64 0, .int .i64 0], .int .i64 0]) ∧ Below w.heap.size w w' := by
  have h := counts_ok t (flatR r) a cap w (relAt_any (by rw [flat_len]; exact hl) hs) (flat_view he)
  obtain ⟨e0, e1, e2, e3⟩ := flat_count he
  rw [e0, e1, e2, e3, flat_len] at h
  exact h
set_option maxRecDepth 20000 in
set_option maxHeartbeats 1000000 in
theorem gcounts_many (t : Trk) (r : Rel) (a : Option Addr) (cap : Nat) (u v : Int) (w : World) (hl : ¬ r.ds.length ≤ 80) : Calls Try.prog 10 #[.agg #[.int .i64 t.sx, .int .i64 t.sy, .int .i64 t.sz, .int .i64 t.step, .int .i64 t.lines, .int .i64 t.near, .int .i64 t.bin, .int .i64 t.bins, .bool t.east], .agg #[.int .i64 r.x, .int .i64 r.y, .int .i64 r.cell, .int .i64 r.rows, .int .i64 r.cols, .slice a r.ds.length cap], .agg #[.int .i64 u, .int .i64 v]] w fun e w' => e = .returned (.bool true) ∧ Below w.heap.size w w' := by
  have HFW := Lib.hid (show decide (r.ds.length ≤ 80) = false by simpa using hl)
  clear hl
  go_enter Try.func10, Try.ntmps10
  go_wp2_with (first | (go_at_call 16; refine (awake_any _).mono ?_; rintro e w' ⟨rfl, hb⟩; obtain ⟨pp, rfl⟩ := later_of_below hb; clear hb) | (go_at_call 29; refine (few_any r a cap _ HFW.out).mono ?_; rintro e w' ⟨rfl, hb⟩; obtain ⟨pp, rfl⟩ := later_of_below hb; clear hb))
  go_ret
  exact ⟨rfl, (by (repeat' (first | with_reducible exact Below.refl _ _ | (with_reducible refine below_later_of ?_ ?_ _) | (with_reducible refine Below.alloc ?_ ?_ _) | (with_reducible refine Below.setCell ?_ ?_ _) | (with_reducible refine Below.drew ?_) | (simp; done) | (simp; omega) | omega)))⟩
set_option maxRecDepth 20000 in
set_option maxHeartbeats 8000000 in
theorem gcounts_few (t : Trk) (r : Rel) (a : Option Addr) (cap : Nat) (u v : Int) (w : World) (hl : r.ds.length ≤ 80) (hs : SrcAt w a r.ds) (hn : a = none → cap = 0) : Calls Try.prog 10 #[.agg #[.int .i64 t.sx, .int .i64 t.sy, .int .i64 t.sz, .int .i64 t.step, .int .i64 t.lines, .int .i64 t.near, .int .i64 t.bin, .int .i64 t.bins, .bool t.east], .agg #[.int .i64 r.x, .int .i64 r.y, .int .i64 r.cell, .int .i64 r.rows, .int .i64 r.cols, .slice a r.ds.length cap], .agg #[.int .i64 u, .int .i64 v]] w fun e w' => e = .returned (.bool true) ∧ Below w.heap.size w w' := by
  have HFW := Lib.hid (show decide (r.ds.length ≤ 80) = true by simpa using hl)
  have HS0 := Lib.hid hs
  have HN := Lib.hid hn
  obtain ⟨e0, he0⟩ : ∃ e0, viewErrP feB intB t r = e0 := ⟨_, rfl⟩
  obtain ⟨n, hpn⟩ : ∃ n, plN t r e0 u v = n := ⟨_, rfl⟩
  have HE := Lib.hid he0
  have HPN := Lib.hid hpn
  clear hs hn he0 hpn
  go_enter Try.func10, Try.ntmps10
  go_wp2_with (first | (go_at_call 16; refine (awake_any _).mono ?_; rintro e w' ⟨rfl, hb⟩; obtain ⟨pp, rfl⟩ := later_of_below hb; clear hb) | (go_at_call 29; refine (few_any r a cap _ HFW.out).mono ?_; rintro e w' ⟨rfl, hb⟩; obtain ⟨pp, rfl⟩ := later_of_below hb; clear hb))
  refine wp_world (fun W => TrkBlk W w.heap.size t ∧ RelBlk W (w.heap.size + 1) r a cap ∧ TwoBlk W (w.heap.size + 1 + 1) u v ∧ Below w.heap.size w W ∧ w.heap.size + 1 + 1 < W.heap.size) ⟨⟨(by (first | (simp [go_sem]; done) | simp [go_sem, ↓IntWalk.iteOmega])), (by (first | (simp [go_sem]; done) | simp [go_sem, ↓IntWalk.iteOmega])), (by (first | (simp [go_sem]; done) | simp [go_sem, ↓IntWalk.iteOmega])), (by (first | (simp [go_sem]; done) | simp [go_sem, ↓IntWalk.iteOmega])), (by (first | (simp [go_sem]; done) | simp [go_sem, ↓IntWalk.iteOmega])), (by (first | (simp [go_sem]; done) | simp [go_sem, ↓IntWalk.iteOmega])), (by (first | (simp [go_sem]; done) | simp [go_sem, ↓IntWalk.iteOmega])), (by (first | (simp [go_sem]; done) | simp [go_sem, ↓IntWalk.iteOmega])), (by (first | (simp [go_sem]; done) | simp [go_sem, ↓IntWalk.iteOmega]))⟩, ⟨(by (first | (simp [go_sem]; done) | simp [go_sem, ↓IntWalk.iteOmega])), (by (first | (simp [go_sem]; done) | simp [go_sem, ↓IntWalk.iteOmega])), (by (first | (simp [go_sem]; done) | simp [go_sem, ↓IntWalk.iteOmega])), (by (first | (simp [go_sem]; done) | simp [go_sem, ↓IntWalk.iteOmega])), (by (first | (simp [go_sem]; done) | simp [go_sem, ↓IntWalk.iteOmega])), (by (first | (simp [go_sem]; done) | simp [go_sem, ↓IntWalk.iteOmega]))⟩, ⟨(by (first | (simp [go_sem]; done) | simp [go_sem, ↓IntWalk.iteOmega])), (by (first | (simp [go_sem]; done) | simp [go_sem, ↓IntWalk.iteOmega]))⟩, (by (repeat' (first | with_reducible exact Below.refl _ _ | (with_reducible refine below_later_of ?_ ?_ _) | (with_reducible refine Below.alloc ?_ ?_ _) | (with_reducible refine Below.setCell ?_ ?_ _) | (with_reducible refine Below.drew ?_) | (simp; done) | (simp; omega) | omega))), by simp; omega⟩ ?_
  rintro W2 ⟨tt, kk, ii, hb, hs5⟩
  have HBW := Lib.hid hb
  have HS := Lib.hid (HS0.out.below hb)
  have HALL := Lib.hid (show ∀ w', Below W2.heap.size W2 w' → (fun w' => w'.cell? ⟨w.heap.size, 0, none⟩ = some (.int .i64 t.sx) ∧ w'.cell? ⟨w.heap.size, 1, none⟩ = some (.int .i64 t.sy) ∧ w'.cell? ⟨w.heap.size, 2, none⟩ = some (.int .i64 t.sz) ∧ w'.cell? ⟨w.heap.size, 3, none⟩ = some (.int .i64 t.step) ∧ w'.cell? ⟨w.heap.size, 4, none⟩ = some (.int .i64 t.lines) ∧ w'.cell? ⟨w.heap.size, 5, none⟩ = some (.int .i64 t.near) ∧ w'.cell? ⟨w.heap.size, 6, none⟩ = some (.int .i64 t.bin) ∧ w'.cell? ⟨w.heap.size, 7, none⟩ = some (.int .i64 t.bins) ∧ w'.cell? ⟨w.heap.size, 8, none⟩ = some (.bool t.east) ∧ w'.cell? ⟨w.heap.size + 1, 0, none⟩ = some (.int .i64 r.x) ∧ w'.cell? ⟨w.heap.size + 1, 1, none⟩ = some (.int .i64 r.y) ∧ w'.cell? ⟨w.heap.size + 1, 2, none⟩ = some (.int .i64 r.cell) ∧ w'.cell? ⟨w.heap.size + 1, 3, none⟩ = some (.int .i64 r.rows) ∧ w'.cell? ⟨w.heap.size + 1, 4, none⟩ = some (.int .i64 r.cols) ∧ w'.cell? ⟨w.heap.size + 1, 5, none⟩ = some (.slice a r.ds.length cap) ∧ w'.cell? ⟨w.heap.size + 1 + 1, 0, none⟩ = some (.int .i64 u) ∧ w'.cell? ⟨w.heap.size + 1 + 1, 1, none⟩ = some (.int .i64 v)) w' from fun w' hb' => by
    obtain ⟨t0, t1, t2, t3, t4, t5, t6, t7, t8⟩ := tt.below (show w.heap.size < W2.heap.size by omega) hb'
    obtain ⟨k0, k1, k2, k3, k4, k5⟩ := kk.below (show w.heap.size + 1 < W2.heap.size by omega) hb'
    obtain ⟨i0, i1⟩ := ii.below hs5 hb'
    exact ⟨t0, t1, t2, t3, t4, t5, t6, t7, t8, k0, k1, k2, k3, k4, k5, i0, i1⟩)
  clear tt kk ii hb
  go_wp2_with fail
  go_cut [7, 8] from 23 to 29 (fun X Y wx => ∃ B, X = .pointer (some ⟨B, 0, none⟩) ∧ Y = .int .i64 e0 ∧ B < wx.heap.size ∧ FourBlk wx B (cntE t r e0 0) (cntE t r e0 1) (cntE t r e0 2) (cntE t r e0 3) ∧ Below W2.heap.size W2 wx)
  case first =>
    go_region_held3 (fun w' => w'.cell? ⟨w.heap.size, 0, none⟩ = some (.int .i64 t.sx) ∧ w'.cell? ⟨w.heap.size, 1, none⟩ = some (.int .i64 t.sy) ∧ w'.cell? ⟨w.heap.size, 2, none⟩ = some (.int .i64 t.sz) ∧ w'.cell? ⟨w.heap.size, 3, none⟩ = some (.int .i64 t.step) ∧ w'.cell? ⟨w.heap.size, 4, none⟩ = some (.int .i64 t.lines) ∧ w'.cell? ⟨w.heap.size, 5, none⟩ = some (.int .i64 t.near) ∧ w'.cell? ⟨w.heap.size, 6, none⟩ = some (.int .i64 t.bin) ∧ w'.cell? ⟨w.heap.size, 7, none⟩ = some (.int .i64 t.bins) ∧ w'.cell? ⟨w.heap.size, 8, none⟩ = some (.bool t.east) ∧ w'.cell? ⟨w.heap.size + 1, 0, none⟩ = some (.int .i64 r.x) ∧ w'.cell? ⟨w.heap.size + 1, 1, none⟩ = some (.int .i64 r.y) ∧ w'.cell? ⟨w.heap.size + 1, 2, none⟩ = some (.int .i64 r.cell) ∧ w'.cell? ⟨w.heap.size + 1, 3, none⟩ = some (.int .i64 r.rows) ∧ w'.cell? ⟨w.heap.size + 1, 4, none⟩ = some (.int .i64 r.cols) ∧ w'.cell? ⟨w.heap.size + 1, 5, none⟩ = some (.slice a r.ds.length cap) ∧ w'.cell? ⟨w.heap.size + 1 + 1, 0, none⟩ = some (.int .i64 u) ∧ w'.cell? ⟨w.heap.size + 1 + 1, 1, none⟩ = some (.int .i64 v)) (exact HALL.out _ (by (repeat' (first | with_reducible exact Below.refl _ _ | (with_reducible refine below_later_of ?_ ?_ _) | (with_reducible refine Below.alloc ?_ ?_ _) | (with_reducible refine Below.setCell ?_ ?_ _) | (with_reducible refine Below.drew ?_) | (simp; done) | (simp; omega) | omega)))) (first | (go_at_call 31; refine (copy_any r a cap _ (by omega) (HS.out.below (by (repeat' (first | with_reducible exact Below.refl _ _ | (with_reducible refine below_later_of ?_ ?_ _) | (with_reducible refine Below.alloc ?_ ?_ _) | (with_reducible refine Below.setCell ?_ ?_ _) | (with_reducible refine Below.drew ?_) | (simp; done) | (simp; omega) | omega)))) HN.out).mono ?_; rintro e w' ⟨a', cap', rfl, hs2, hn2, hb⟩; have HS2 := Lib.hid hs2; have HN2 := Lib.hid hn2; clear hs2 hn2; obtain ⟨pp, rfl⟩ := later_of_below hb; clear hb) | (go_at_call 56; refine (counts_v t r _ _ _ (relAt_any (by omega) (HS2.out.below' (by (repeat' (first | with_reducible exact Below.refl _ _ | (with_reducible refine below_later_of ?_ ?_ _) | (with_reducible refine Below.alloc ?_ ?_ _) | (with_reducible refine Below.setCell ?_ ?_ _) | (with_reducible refine Below.drew ?_) | (simp; done) | (simp; omega) | omega))))) HE.out).mono ?_; rintro e w' ⟨rfl, hb⟩; obtain ⟨pp, rfl⟩ := later_of_below hb; clear hb))
    all_goals
      go_wp2_with fail
      go_meet
      exact ⟨_, rfl, rfl, by (simp <;> omega), ⟨⟨(by (first | (simp [go_sem]; done) | simp [go_sem, ↓IntWalk.iteOmega])), (by (first | (simp [go_sem]; done) | simp [go_sem, ↓IntWalk.iteOmega])), (by (first | (simp [go_sem]; done) | simp [go_sem, ↓IntWalk.iteOmega])), (by (first | (simp [go_sem]; done) | simp [go_sem, ↓IntWalk.iteOmega]))⟩, (by (first | (simp [go_sem]; done) | simp [go_sem, ↓IntWalk.iteOmega])), (by (first | (simp [go_sem]; done) | simp [go_sem, ↓IntWalk.iteOmega])), (by (first | (simp [go_sem]; done) | simp [go_sem, ↓IntWalk.iteOmega])), (by (first | (simp [go_sem]; done) | simp [go_sem, ↓IntWalk.iteOmega]))⟩, (by (repeat' (first | with_reducible exact Below.refl _ _ | (with_reducible refine below_later_of ?_ ?_ _) | (with_reducible refine Below.alloc ?_ ?_ _) | (with_reducible refine Below.setCell ?_ ?_ _) | (with_reducible refine Below.drew ?_) | (simp; done) | (simp; omega) | omega)))⟩
  case rest =>
    obtain ⟨B, rfl, rfl, hB, hfour, hb⟩ := hcut
    obtain ⟨wd, hwd⟩ : ∃ wd : World, wd = wc := ⟨_, rfl⟩
    subst hwd
    have HALL1 := Lib.hid (show ∀ w', Below wd.heap.size wd w' → (fun w' => w'.cell? ⟨w.heap.size, 0, none⟩ = some (.int .i64 t.sx) ∧ w'.cell? ⟨w.heap.size, 1, none⟩ = some (.int .i64 t.sy) ∧ w'.cell? ⟨w.heap.size, 2, none⟩ = some (.int .i64 t.sz) ∧ w'.cell? ⟨w.heap.size, 3, none⟩ = some (.int .i64 t.step) ∧ w'.cell? ⟨w.heap.size, 4, none⟩ = some (.int .i64 t.lines) ∧ w'.cell? ⟨w.heap.size, 5, none⟩ = some (.int .i64 t.near) ∧ w'.cell? ⟨w.heap.size, 6, none⟩ = some (.int .i64 t.bin) ∧ w'.cell? ⟨w.heap.size, 7, none⟩ = some (.int .i64 t.bins) ∧ w'.cell? ⟨w.heap.size, 8, none⟩ = some (.bool t.east) ∧ w'.cell? ⟨w.heap.size + 1, 0, none⟩ = some (.int .i64 r.x) ∧ w'.cell? ⟨w.heap.size + 1, 1, none⟩ = some (.int .i64 r.y) ∧ w'.cell? ⟨w.heap.size + 1, 2, none⟩ = some (.int .i64 r.cell) ∧ w'.cell? ⟨w.heap.size + 1, 3, none⟩ = some (.int .i64 r.rows) ∧ w'.cell? ⟨w.heap.size + 1, 4, none⟩ = some (.int .i64 r.cols) ∧ w'.cell? ⟨w.heap.size + 1, 5, none⟩ = some (.slice a r.ds.length cap) ∧ w'.cell? ⟨w.heap.size + 1 + 1, 0, none⟩ = some (.int .i64 u) ∧ w'.cell? ⟨w.heap.size + 1 + 1, 1, none⟩ = some (.int .i64 v)) w' from fun w' hb' => HALL.out w' (hb.trans (hb'.mono hb.size)))
    have HF0 := Lib.hid hfour
    have HBD := Lib.hid (HBW.out.trans (hb.mono (by omega)))
    have HSD := Lib.hid (HS.out.below hb)
    have hsd := hb.size
    clear hfour hb HALL HS HBW
    have HS := Lib.hid HSD.out
    go_wp2_with fail
    go_cut [9, 10] from 30 to 37 (fun X Y wx => ∃ p c, X = .slice p n c ∧ Y = .int .i64 e0 ∧ PairsV wx p n (plZ t r u v) ∧ Below wd.heap.size wd wx)
    case first =>
      go_region_held3 (fun w' => w'.cell? ⟨w.heap.size, 0, none⟩ = some (.int .i64 t.sx) ∧ w'.cell? ⟨w.heap.size, 1, none⟩ = some (.int .i64 t.sy) ∧ w'.cell? ⟨w.heap.size, 2, none⟩ = some (.int .i64 t.sz) ∧ w'.cell? ⟨w.heap.size, 3, none⟩ = some (.int .i64 t.step) ∧ w'.cell? ⟨w.heap.size, 4, none⟩ = some (.int .i64 t.lines) ∧ w'.cell? ⟨w.heap.size, 5, none⟩ = some (.int .i64 t.near) ∧ w'.cell? ⟨w.heap.size, 6, none⟩ = some (.int .i64 t.bin) ∧ w'.cell? ⟨w.heap.size, 7, none⟩ = some (.int .i64 t.bins) ∧ w'.cell? ⟨w.heap.size, 8, none⟩ = some (.bool t.east) ∧ w'.cell? ⟨w.heap.size + 1, 0, none⟩ = some (.int .i64 r.x) ∧ w'.cell? ⟨w.heap.size + 1, 1, none⟩ = some (.int .i64 r.y) ∧ w'.cell? ⟨w.heap.size + 1, 2, none⟩ = some (.int .i64 r.cell) ∧ w'.cell? ⟨w.heap.size + 1, 3, none⟩ = some (.int .i64 r.rows) ∧ w'.cell? ⟨w.heap.size + 1, 4, none⟩ = some (.int .i64 r.cols) ∧ w'.cell? ⟨w.heap.size + 1, 5, none⟩ = some (.slice a r.ds.length cap) ∧ w'.cell? ⟨w.heap.size + 1 + 1, 0, none⟩ = some (.int .i64 u) ∧ w'.cell? ⟨w.heap.size + 1 + 1, 1, none⟩ = some (.int .i64 v)) (exact HALL1.out _ (by (repeat' (first | with_reducible exact Below.refl _ _ | (with_reducible refine below_later_of ?_ ?_ _) | (with_reducible refine Below.alloc ?_ ?_ _) | (with_reducible refine Below.setCell ?_ ?_ _) | (with_reducible refine Below.drew ?_) | (simp; done) | (simp; omega) | omega)))) (first | (go_at_call 31; refine (copy_any r a cap _ (by omega) (HS.out.below (by (repeat' (first | with_reducible exact Below.refl _ _ | (with_reducible refine below_later_of ?_ ?_ _) | (with_reducible refine Below.alloc ?_ ?_ _) | (with_reducible refine Below.setCell ?_ ?_ _) | (with_reducible refine Below.drew ?_) | (simp; done) | (simp; omega) | omega)))) HN.out).mono ?_; rintro e w' ⟨a', cap', rfl, hs2, hn2, hb⟩; have HS2 := Lib.hid hs2; have HN2 := Lib.hid hn2; clear hs2 hn2; obtain ⟨pp, rfl⟩ := later_of_below hb; clear hb) | (go_at_call 57; refine (placed_v t r _ _ u v _ (relAt_any (by omega) (HS2.out.below' (by (repeat' (first | with_reducible exact Below.refl _ _ | (with_reducible refine below_later_of ?_ ?_ _) | (with_reducible refine Below.alloc ?_ ?_ _) | (with_reducible refine Below.setCell ?_ ?_ _) | (with_reducible refine Below.drew ?_) | (simp; done) | (simp; omega) | omega))))) HE.out HPN.out).mono ?_; rintro e w' ⟨p1, c1, rfl, hv1, hb⟩; have HV1 := Lib.hid hv1; clear hv1; obtain ⟨pp, rfl⟩ := later_of_below hb; clear hb))
      all_goals
        go_wp2_with fail
        go_meet
        exact ⟨_, _, rfl, rfl, HV1.out.below (by (repeat' (first | with_reducible exact Below.refl _ _ | (with_reducible refine below_later_of ?_ ?_ _) | (with_reducible refine Below.alloc ?_ ?_ _) | (with_reducible refine Below.setCell ?_ ?_ _) | (with_reducible refine Below.drew ?_) | (simp; done) | (simp; omega) | omega))), (by (repeat' (first | with_reducible exact Below.refl _ _ | (with_reducible refine below_later_of ?_ ?_ _) | (with_reducible refine Below.alloc ?_ ?_ _) | (with_reducible refine Below.setCell ?_ ?_ _) | (with_reducible refine Below.drew ?_) | (simp; done) | (simp; omega) | omega)))⟩
    case rest =>
      obtain ⟨p, c, rfl, rfl, hpv, hb⟩ := hcut
      have HS3 := Lib.hid (HSD.out.below hb)
      have HV := Lib.hid hpv
      have HF := Lib.hid (HF0.out.below hB hb)
      have hsz := hb.size
      have hBc : B < wc.heap.size := by omega
      have HBW := Lib.hid (HBD.out.trans (hb.mono (by omega)))
      obtain ⟨t0, t1, t2, t3, t4, t5, t6, t7, t8, k0, k1, k2, k3, k4, k5, i0, i1⟩ := HALL1.out wc hb
      obtain ⟨⟨f0, f1, f2, f3⟩, -, -, -, -⟩ := HF.out
      have HALL2 := Lib.hid (show ∀ w', Below wc.heap.size wc w' → (fun w' => w'.cell? ⟨w.heap.size, 0, none⟩ = some (.int .i64 t.sx) ∧ w'.cell? ⟨w.heap.size, 1, none⟩ = some (.int .i64 t.sy) ∧ w'.cell? ⟨w.heap.size, 2, none⟩ = some (.int .i64 t.sz) ∧ w'.cell? ⟨w.heap.size, 3, none⟩ = some (.int .i64 t.step) ∧ w'.cell? ⟨w.heap.size, 4, none⟩ = some (.int .i64 t.lines) ∧ w'.cell? ⟨w.heap.size, 5, none⟩ = some (.int .i64 t.near) ∧ w'.cell? ⟨w.heap.size, 6, none⟩ = some (.int .i64 t.bin) ∧ w'.cell? ⟨w.heap.size, 7, none⟩ = some (.int .i64 t.bins) ∧ w'.cell? ⟨w.heap.size, 8, none⟩ = some (.bool t.east) ∧ w'.cell? ⟨w.heap.size + 1, 0, none⟩ = some (.int .i64 r.x) ∧ w'.cell? ⟨w.heap.size + 1, 1, none⟩ = some (.int .i64 r.y) ∧ w'.cell? ⟨w.heap.size + 1, 2, none⟩ = some (.int .i64 r.cell) ∧ w'.cell? ⟨w.heap.size + 1, 3, none⟩ = some (.int .i64 r.rows) ∧ w'.cell? ⟨w.heap.size + 1, 4, none⟩ = some (.int .i64 r.cols) ∧ w'.cell? ⟨w.heap.size + 1, 5, none⟩ = some (.slice a r.ds.length cap) ∧ w'.cell? ⟨w.heap.size + 1 + 1, 0, none⟩ = some (.int .i64 u) ∧ w'.cell? ⟨w.heap.size + 1 + 1, 1, none⟩ = some (.int .i64 v)) w' from fun w' hb' => HALL1.out w' (hb.trans (hb'.mono hb.size)))
      clear hb HS HSD HF0 HBD HALL1 hpv
      by_cases hv : e0 = 0
      · subst hv
        obtain ⟨h1, h2, -, -⟩ := viewErrP_ok HE.out
        have o := (relErrP_ok h2).1
        obtain ⟨b, off, rfl, hbw3, hfc⟩ := HS3.out (rel_pos h2)
        have HFC := Lib.hid hfc
        have hpos := rel_pos h2
        have hcs := count_sum (t := t) (fi := intB) o
        have hcb := fun c => (cntGrid_bd t r intB c (by have := o.l2; omega) r.rows.toNat).1
        have hc0 : 0 ≤ countP t r intB 0 := hcb 0
        have hc1 : 0 ≤ countP t r intB 1 := hcb 1
        have hc2 : 0 ≤ countP t r intB 2 := hcb 2
        have hc3 : 0 ≤ countP t r intB 3 := hcb 3
        have HRC := Lib.hid (show ∀ w', Below wc.heap.size wc w' → _ from fun w' hb => rCounts t r b off cap w' HE.out (Nat.lt_of_lt_of_le hbw3 hb.size) (hfc.below hbw3 hb))
        simp only [cntE, if_true] at f0 f1 f2 f3
        generalize countP t r intB 0 = x0 at *
        generalize countP t r intB 1 = x1 at *
        generalize countP t r intB 2 = x2 at *
        generalize countP t r intB 3 = x3 at *
        have hn4 : n ≤ 4096 := by
          rw [← HPN.out]; unfold plN; rw [if_pos rfl]
          have := cnGrid_le t r intB u v (by have := o.l2; omega) r.rows.toNat
          have := o.r2; omega
        have HPOS := Lib.hid hpos
        have hsum : (x0 + x1 + x2 + x3 != (r.ds.length : Int)) = false := by simp; omega
        clear hcb h1 h2 o hfc
        go_wp2_with (first | (go_at_call 33; refine (lViewErr t r _ cap _ (by omega) (HS3.out.below (by (repeat' (first | with_reducible exact Below.refl _ _ | (with_reducible refine below_later_of ?_ ?_ _) | (with_reducible refine Below.alloc ?_ ?_ _) | (with_reducible refine Below.setCell ?_ ?_ _) | (with_reducible refine Below.drew ?_) | (simp; done) | (simp; omega) | omega)))) HE.out).mono ?_; rintro e w' ⟨rfl, hb⟩; obtain ⟨pp, rfl⟩ := later_of_below hb; clear hb) | (go_at_call 58; refine (rPlaced_v t r b off cap u v _ HE.out (by (simp <;> omega)) (HFC.out.below hbw3 (by (repeat' (first | with_reducible exact Below.refl _ _ | (with_reducible refine below_later_of ?_ ?_ _) | (with_reducible refine Below.alloc ?_ ?_ _) | (with_reducible refine Below.setCell ?_ ?_ _) | (with_reducible refine Below.drew ?_) | (simp; done) | (simp; omega) | omega)))) HPN.out).mono ?_; rintro e w' ⟨p2, cp2, rfl, hv2, hb⟩; have HV2 := Lib.hid hv2; clear hv2; obtain ⟨p3, rfl⟩ := later_of_below hb; clear hb))
        refine wp_region_calm (by kernel_rfl) (by kernel_rfl) ?_
        repeat (go_big_quiet_step (first | (go_at_call 59; exact calm_of (HRC.out _ (by (repeat' (first | with_reducible exact Below.refl _ _ | (with_reducible refine below_later_of ?_ ?_ _) | (with_reducible refine Below.alloc ?_ ?_ _) | (with_reducible refine Below.setCell ?_ ?_ _) | (with_reducible refine Below.drew ?_) | (simp; done) | (simp; omega) | omega)))))))
        refine wpQuiet_nil ?_
        rintro _ ⟨p4, rfl⟩
        go_wp2
        refine wp_world (fun W => Below wc.heap.size wc W ∧ PairsV W p n (plZ t r u v) ∧ PairsV W p2 n (plZ t r u v)) ⟨(by (repeat' (first | with_reducible exact Below.refl _ _ | (with_reducible refine below_later_of ?_ ?_ _) | (with_reducible refine Below.alloc ?_ ?_ _) | (with_reducible refine Below.setCell ?_ ?_ _) | (with_reducible refine Below.drew ?_) | (simp; done) | (simp; omega) | omega))), HV.out.below (by (repeat' (first | with_reducible exact Below.refl _ _ | (with_reducible refine below_later_of ?_ ?_ _) | (with_reducible refine Below.alloc ?_ ?_ _) | (with_reducible refine Below.setCell ?_ ?_ _) | (with_reducible refine Below.drew ?_) | (simp; done) | (simp; omega) | omega))), HV2.out.below (by (repeat' (first | with_reducible exact Below.refl _ _ | (with_reducible refine below_later_of ?_ ?_ _) | (with_reducible refine Below.alloc ?_ ?_ _) | (with_reducible refine Below.setCell ?_ ?_ _) | (with_reducible refine Below.drew ?_) | (simp; done) | (simp; omega) | omega)))⟩ ?_
        rintro W5 ⟨hb5, hv5, hw5⟩
        have HV5 := Lib.hid hv5
        have HW5 := Lib.hid hw5
        have HB5 := Lib.hid (HBW.out.trans (hb5.mono (by omega)))
        have HS5 := Lib.hid (HS3.out.below hb5)
        have hs55 := hb5.size
        have HALL5 := Lib.hid (fun w' (hb' : Below W5.heap.size W5 w') => HALL2.out w' (hb5.trans (hb'.mono hb5.size)))
        clear hb5 hv5 hw5 HV HV2 t0 t1 t2 t3 t4 t5 t6 t7 t8 k0 k1 k2 k3 k4 k5 i0 i1 f0 f1 f2 f3 HBW HALL2 HF HRC
        go_loopw [13] (fun i wr => ∃ k : Nat, k ≤ n ∧ i = .int .i64 k ∧ Below W5.heap.size W5 wr) (fun i _ => n - (intOf i).toNat)
        case atStart => exact ⟨0, Nat.zero_le _, rfl, Below.refl _ _⟩
        case round =>
          obtain ⟨k, hk, rfl, hnx⟩ := hrel
          have HX := Lib.hid hnx
          have hszr := hnx.size
          by_cases hlt : k < n
          · obtain ⟨g, rfl, hg, hgc⟩ := HV5.out (by omega)
            obtain ⟨q, rfl, hq, hqc⟩ := HW5.out (by omega)
            have g0 := (hnx.cell (p := ⟨g, k * 2, none⟩) hg).trans (hgc k hlt).1
            have g1 := (hnx.cell (p := ⟨g, k * 2 + 1, none⟩) hg).trans (hgc k hlt).2
            have q0 := (hnx.cell (p := ⟨q, k * 2, none⟩) hq).trans (hqc k hlt).1
            have q1 := (hnx.cell (p := ⟨q, k * 2 + 1, none⟩) hq).trans (hqc k hlt).2
            have hgr : g < wr.heap.size := by omega
            have hqr : q < wr.heap.size := by omega
            clear hnx hgc hqc
            generalize plZ t r u v (k * 2) = z0 at *
            generalize plZ t r u v (k * 2 + 1) = z1 at *
            go_wp2
            refine wp_region_calm (by kernel_rfl) (by kernel_rfl) ?_
            repeat (go_big_quiet_step (fail))
            refine wpQuiet_nil ?_
            rintro _ ⟨p6, rfl⟩
            go_wp2
            go_roundw
            case rel => exact ⟨k + 1, by omega, by go_num, HX.out.trans (below_mono_of hszr (by (repeat' (first | with_reducible exact Below.refl _ _ | (with_reducible refine below_later_of ?_ ?_ _) | (with_reducible refine Below.alloc ?_ ?_ _) | (with_reducible refine Below.setCell ?_ ?_ _) | (with_reducible refine Below.drew ?_) | (simp; done) | (simp; omega) | omega))))⟩
            case measure => simp [intOf]; omega
          · obtain rfl : k = n := by omega
            obtain ⟨t0, t1, t2, t3, t4, t5, t6, t7, t8, k0, k1, k2, k3, k4, k5, i0, i1⟩ := HALL5.out wr hnx
            have HS6 := Lib.hid (HS5.out.below hnx)
            have HB6 := Lib.hid (HB5.out.trans (hnx.mono (by omega)))
            clear hnx
            obtain ⟨wo, hwo⟩ : ∃ wo : World, wo = wr := ⟨_, rfl⟩
            subst hwo
            clear HX
            go_wp2_with (first | (go_at_call 31; refine (copy_own r (some ⟨b, off, none⟩) cap _ (by omega) (HS6.out.below (by (repeat' (first | with_reducible exact Below.refl _ _ | (with_reducible refine below_later_of ?_ ?_ _) | (with_reducible refine Below.alloc ?_ ?_ _) | (with_reducible refine Below.setCell ?_ ?_ _) | (with_reducible refine Below.drew ?_) | (simp; done) | (simp; omega) | omega)))) HN.out).mono ?_; rintro e w' ⟨a', cap', rfl, hs2, hn2, hb⟩; obtain ⟨b', rfl, hb1, hb2, hfl, hfz⟩ := hs2 HPOS.out; have HFL := Lib.hid hfl; have HFZ := Lib.hid hfz; clear hs2 hn2 hfl hfz; obtain ⟨p9, rfl⟩ := later_of_below hb; clear hb))
            obtain ⟨B14, hB14⟩ : ∃ B14, B14 = wo.heap.size + p9.os.size := ⟨_, rfl⟩
            have hbl : b' < B14 := by rw [hB14]; simpa using hb2
            refine wp_world (fun W => TrkBlk W w.heap.size t ∧ RelBlk W (w.heap.size + 1) r (some ⟨b, off, none⟩) cap ∧ RelBlk W B14 r (some ⟨b', 0, none⟩) cap' ∧ FloatsAt W b' 0 r.ds ∧ (∀ k, W.frozen? ⟨b', k, none⟩ = false) ∧ Below wo.heap.size wo W ∧ B14 < W.heap.size) ⟨TrkBlk.below ⟨t0, t1, t2, t3, t4, t5, t6, t7, t8⟩ (show w.heap.size < wo.heap.size by omega) (by (repeat' (first | with_reducible exact Below.refl _ _ | (with_reducible refine below_later_of ?_ ?_ _) | (with_reducible refine Below.alloc ?_ ?_ _) | (with_reducible refine Below.setCell ?_ ?_ _) | (with_reducible refine Below.drew ?_) | (simp; done) | (simp; omega) | omega))), RelBlk.below ⟨k0, k1, k2, k3, k4, k5⟩ (show w.heap.size + 1 < wo.heap.size by omega) (by (repeat' (first | with_reducible exact Below.refl _ _ | (with_reducible refine below_later_of ?_ ?_ _) | (with_reducible refine Below.alloc ?_ ?_ _) | (with_reducible refine Below.setCell ?_ ?_ _) | (with_reducible refine Below.drew ?_) | (simp; done) | (simp; omega) | omega))), by rw [hB14]; exact ⟨(by (first | (simp [go_sem]; done) | simp [go_sem, ↓IntWalk.iteOmega])), (by (first | (simp [go_sem]; done) | simp [go_sem, ↓IntWalk.iteOmega])), (by (first | (simp [go_sem]; done) | simp [go_sem, ↓IntWalk.iteOmega])), (by (first | (simp [go_sem]; done) | simp [go_sem, ↓IntWalk.iteOmega])), (by (first | (simp [go_sem]; done) | simp [go_sem, ↓IntWalk.iteOmega])), (by (first | (simp [go_sem]; done) | simp [go_sem, ↓IntWalk.iteOmega]))⟩, HFL.out.below hb2 (by (repeat' (first | with_reducible exact Below.refl _ _ | (with_reducible refine below_later_of ?_ ?_ _) | (with_reducible refine Below.alloc ?_ ?_ _) | (with_reducible refine Below.setCell ?_ ?_ _) | (with_reducible refine Below.drew ?_) | (simp; done) | (simp; omega) | omega))), fun k => (Below.frozen (show Below (later wo p9).heap.size (later wo p9) _ from (by (repeat' (first | with_reducible exact Below.refl _ _ | (with_reducible refine below_later_of ?_ ?_ _) | (with_reducible refine Below.alloc ?_ ?_ _) | (with_reducible refine Below.setCell ?_ ?_ _) | (with_reducible refine Below.drew ?_) | (simp; done) | (simp; omega) | omega)))) (p := ⟨b', k, none⟩) hb2).trans (HFZ.out k), (by (repeat' (first | with_reducible exact Below.refl _ _ | (with_reducible refine below_later_of ?_ ?_ _) | (with_reducible refine Below.alloc ?_ ?_ _) | (with_reducible refine Below.setCell ?_ ?_ _) | (with_reducible refine Below.drew ?_) | (simp; done) | (simp; omega) | omega))), by rw [hB14]; simp⟩ ?_
            rintro W3 ⟨tt, kk, yy, ff, fz, hbw, hs13⟩
            rw [← hB14]
            have TT := Lib.hid tt
            have KK := Lib.hid kk
            have YY := Lib.hid yy
            have FZ := Lib.hid fz
            have FF := Lib.hid (show FlatUpto W3 b' 0 r from fun j hj => by have := ff j hj; rw [Nat.zero_add] at this; rw [if_neg (by omega)]; exact this)
            have HB3 := Lib.hid (HB6.out.trans (hbw.mono (by omega)))
            have hwb : w.heap.size + 1 < b' := by omega
            clear hB14 hb2 HFL HFZ t0 t1 t2 t3 t4 t5 t6 t7 t8 k0 k1 k2 k3 k4 k5 i0 i1 tt kk yy ff fz hbw
            go_loopw [15] (fun i wr => ∃ m : Nat, m ≤ r.ds.length ∧ i = .int .i64 m ∧ RelBlk wr B14 r (some ⟨b', 0, none⟩) cap' ∧ FlatUpto wr b' m r ∧ (∀ k, wr.frozen? ⟨b', k, none⟩ = false) ∧ Below b' W3 wr) (fun i _ => r.ds.length - (intOf i).toNat)
            case atStart => exact ⟨0, Nat.zero_le _, rfl, YY.out, FF.out, FZ.out, Below.refl _ _⟩
            case round =>
              obtain ⟨m, hm, rfl, yy, ff, fz, hnx⟩ := hrel
              have YY2 := Lib.hid yy
              have FF2 := Lib.hid ff
              have FZ2 := Lib.hid fz
              have HX2 := Lib.hid hnx
              have hsz3 := hnx.size
              have hb14 : B14 < wr.heap.size := by omega
              have hbr : b' < wr.heap.size := by omega
              obtain ⟨y0, y1, y2, y3, y4, y5⟩ := yy
              by_cases hlt2 : m < r.ds.length
              · have c0 := ff 0 (by omega)
                have cm := ff m hlt2
                have z0 := fz 0
                have zm := fz m
                rw [ite_self] at c0
                generalize hd0 : bitAt r.ds 0 = d0 at c0
                have HD0 := Lib.hid hd0
                generalize bitAt r.ds (if m < m then 0 else m) = dm at cm
                clear ff fz hnx hd0
                go_wp2
                refine wp_region_calm_tail 10 (by kernel_rfl) (by kernel_rfl) ?_
                simp only [List.take_succ_cons, List.take_zero, List.drop_succ_cons, List.drop_zero]
                repeat (go_big_quiet_step (fail))
                refine wpQuiet_nil ?_
                rintro _ ⟨p8, rfl⟩
                go_wp2
                go_roundw
                case rel =>
                  refine ⟨m + 1, by omega, by go_num, relBlk_other (YY2.out.below hb14 (below_later _ _)) (by omega) _, ?_, fun k => ?_, HX2.out.trans (by (repeat' (first | with_reducible exact Below.refl _ _ | (with_reducible refine below_later_of ?_ ?_ _) | (with_reducible refine Below.setCell ?_ ?_ _) | (simp; done) | (simp; omega) | omega)))⟩
                  · rw [← HD0.out]; exact flatUpto_set (FF2.out.below hbr (below_later _ _)) hlt2
                  · rw [World.frozen?_setCell]; exact ((below_later wr p8).frozen (p := ⟨b', k, none⟩) hbr).trans (FZ2.out k)
                case measure => simp [intOf]; omega
              · obtain rfl : m = r.ds.length := by omega
                have HSA := Lib.hid (show SrcAt wr (some ⟨b', 0, none⟩) (flatR r).ds from fun _ => ⟨b', 0, rfl, hbr, flatUpto_all ff⟩)
                obtain ⟨t0, t1, t2, t3, t4, t5, t6, t7, t8⟩ := TT.out.below (show w.heap.size < b' by omega) hnx
                obtain ⟨k0, k1, k2, k3, k4, k5⟩ := KK.out.below hwb hnx
                have HBE := Lib.hid (HB3.out.trans (hnx.mono (by omega)))
                clear ff fz hnx
                go_wp2_with (first | (go_at_call 56; refine (counts_flat t r _ cap' _ (by omega) (HSA.out.below (by (repeat' (first | with_reducible exact Below.refl _ _ | (with_reducible refine below_later_of ?_ ?_ _) | (with_reducible refine Below.alloc ?_ ?_ _) | (with_reducible refine Below.setCell ?_ ?_ _) | (with_reducible refine Below.drew ?_) | (simp; done) | (simp; omega) | omega)))) HE.out).mono ?_; rintro e w' ⟨rfl, hb⟩; obtain ⟨pp, rfl⟩ := later_of_below hb; clear hb))
                go_ret
                exact ⟨ret_bool (by simp), HBE.out.trans (below_mono_of (show w.heap.size ≤ wr.heap.size by omega) (by (repeat' (first | with_reducible exact Below.refl _ _ | (with_reducible refine below_later_of ?_ ?_ _) | (with_reducible refine Below.alloc ?_ ?_ _) | (with_reducible refine Below.setCell ?_ ?_ _) | (with_reducible refine Below.drew ?_) | (simp; done) | (simp; omega) | omega))))⟩
      · have hz : (e0 == 0) = false := by simpa using hv
        have hz1 : (e0 != 0) = true := by simpa using hv
        have hn0 : n = 0 := by rw [← HPN.out]; unfold plN; rw [if_neg hv]
        subst hn0
        simp only [cntE, if_neg hv] at f0 f1 f2 f3
        clear HPN
        go_wp2_with (first | (go_at_call 33; refine (lViewErr t r _ cap _ (by omega) (HS3.out.below (by (repeat' (first | with_reducible exact Below.refl _ _ | (with_reducible refine below_later_of ?_ ?_ _) | (with_reducible refine Below.alloc ?_ ?_ _) | (with_reducible refine Below.setCell ?_ ?_ _) | (with_reducible refine Below.drew ?_) | (simp; done) | (simp; omega) | omega)))) HE.out).mono ?_; rintro e w' ⟨rfl, hb⟩; obtain ⟨pp, rfl⟩ := later_of_below hb; clear hb))
        go_ret
        exact ⟨ret_bool (by simp), HBW.out.trans (below_mono_of (show w.heap.size ≤ wc.heap.size by omega) (by (repeat' (first | with_reducible exact Below.refl _ _ | (with_reducible refine below_later_of ?_ ?_ _) | (with_reducible refine Below.alloc ?_ ?_ _) | (with_reducible refine Below.setCell ?_ ?_ _) | (with_reducible refine Below.drew ?_) | (simp; done) | (simp; omega) | omega))))⟩
theorem gcounts_any (t : Trk) (r : Rel) (a : Option Addr) (cap : Nat) (u v : Int) (w : World) (hs : SrcAt w a r.ds) (hn : a = none → cap = 0) : Calls Try.prog 10 #[.agg #[.int .i64 t.sx, .int .i64 t.sy, .int .i64 t.sz, .int .i64 t.step, .int .i64 t.lines, .int .i64 t.near, .int .i64 t.bin, .int .i64 t.bins, .bool t.east], .agg #[.int .i64 r.x, .int .i64 r.y, .int .i64 r.cell, .int .i64 r.rows, .int .i64 r.cols, .slice a r.ds.length cap], .agg #[.int .i64 u, .int .i64 v]] w fun e w' => e = .returned (.bool true) ∧ Below w.heap.size w w' := by
  by_cases hl : r.ds.length ≤ 80
  · exact gcounts_few t r a cap u v w hl hs hn
  · exact gcounts_many t r a cap u v w hl
end Go.Proofs.Ythnfepfbkmafaaa
