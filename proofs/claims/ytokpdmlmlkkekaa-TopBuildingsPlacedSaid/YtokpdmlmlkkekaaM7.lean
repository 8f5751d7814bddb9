/- The law GroundMasks returns true. -/
import Derived.Test.YtokpdmlmlkkekaaM4
import Derived.Test.YtokpdmlmlkkekaaM6
import Derived.Deep.CutRange
import Derived.Deep.RegionHeld3
namespace Go.Proofs.Ytokpdmlmlkkekaa
set_option linter.unusedVariables false
open Go.RowKit
/-- A mask as it was returned: the kinds, or nothing. -/
def MaskV (w : World) (v : Value) (e : Int) (zs : List Int) : Prop := (e = 0 → IntsV w v zs) ∧ (e ≠ 0 → v = .slice none 0 0)
theorem MaskV.below {w w' : World} {v : Value} {e : Int} {zs : List Int} (h : MaskV w v e zs) (hw : Below w.heap.size w w') : MaskV w' v e zs := ⟨fun he => (h.1 he).below hw, h.2⟩
theorem kindsP_len (t : Trk) (r : Rel) (fi : Nat → Int) (row : Int) : (kindsP t r fi row).length = r.cols.toNat := by unfold kindsP; simp
theorem maskRow_v (fe fi : Nat → Int) (t : Trk) (r : Rel) (a : Option Addr) (cap : Nat) (row : Int) (w : World) (h : RelAt fe fi w r a) {e1 : Int} (hm : maskErrP fe fi t r row = e1) :
    Calls Try.prog 32 #[.agg #[.int .i64 t.sx, .int .i64 t.sy, .int .i64 t.sz, .int .i64 t.step, .int .i64 t.lines, .int .i64 t.near, .int .i64 t.bin, .int .i64 t.bins, .bool t.east], .agg #[.int .i64 r.x, .int .i64 r.y, .int .i64 r.cell, .int .i64 r.rows, .int .i64 r.cols, .slice a r.ds.length cap], .int .i64 row] w fun e w' => ∃ v, e = .returned (.tuple #[v, .int .i64 e1]) ∧ MaskV w' v e1 (kindsP t r fi row) ∧ Below w.heap.size w w' := by
  subst hm
  by_cases h0 : maskErrP fe fi t r row = 0
  · refine (maskRow_ok fe fi t r a cap row w h h0).mono ?_
    rintro e w' ⟨g, rfl, ho, hb⟩
    rw [h0]
    have hv : viewErrP fe fi t r = 0 := by
      unfold maskErrP at h0
      split at h0
      · assumption
      · contradiction
    have o := (relErrP_ok (viewErrP_ok hv).2.1).1
    exact ⟨_, rfl, ⟨fun _ => intsV_own ho (by have := o.l2; omega), fun h => absurd rfl h⟩, hb⟩
  · refine (maskRow_bad fe fi t r a cap row w h h0).mono ?_
    rintro e w' ⟨rfl, hb⟩
    exact ⟨_, rfl, ⟨fun h => absurd h h0, fun _ => rfl⟩, hb⟩
theorem rMaskRow_v (t : Trk) (r : Rel) (fi : Nat → Int) (b off cap : Nat) (row : Int) (w : World) (ot : t.Ok) (o : r.Ok) (hf : FlInts fi r.ds) (g1 : 0 ≤ row) (g2 : row < r.rows)
    (hbw : b < w.heap.size) (hc : FloatsAt w b off r.ds) :
    Calls Try.prog 39 #[.agg #[.int .i64 t.sx, .int .i64 t.sy, .int .i64 t.sz, .int .i64 t.step, .int .i64 t.lines, .int .i64 t.near, .int .i64 t.bin, .int .i64 t.bins, .bool t.east], .agg #[.int .i64 r.x, .int .i64 r.y, .int .i64 r.cell, .int .i64 r.rows, .int .i64 r.cols, .slice (some ⟨b, off, none⟩) r.ds.length cap], .int .i64 row] w fun e w' => ∃ v, e = .returned v ∧ IntsV w' v (kindsP t r fi row) ∧ Below w.heap.size w w' :=
  (rMaskRow t r fi b off cap row w ot o hf g1 g2 hbw hc).mono fun e w' ⟨v, he, ho, hb⟩ => by
    obtain ⟨g, c, rfl, -, -, -, -⟩ := ownsRow_slice ho (by have := o.l1; omega)
    exact ⟨_, he, intsV_own ho (by have := o.l2; omega), hb⟩
set_option maxRecDepth 20000 in
set_option maxHeartbeats 1000000 in
theorem gmasks_many (t : Trk) (r : Rel) (a : Option Addr) (cap : Nat) (row col : Int) (w : World) (hl : ¬ r.ds.length ≤ 80) :
    Calls Try.prog 5 #[.agg #[.int .i64 t.sx, .int .i64 t.sy, .int .i64 t.sz, .int .i64 t.step, .int .i64 t.lines, .int .i64 t.near, .int .i64 t.bin, .int .i64 t.bins, .bool t.east], .agg #[.int .i64 r.x, .int .i64 r.y, .int .i64 r.cell, .int .i64 r.rows, .int .i64 r.cols, .slice a r.ds.length cap], .agg #[.int .i64 row, .int .i64 col]] w fun e w' => e = .returned (.bool true) ∧ Below w.heap.size w w' := by
  have HFW := Lib.hid (show decide (r.ds.length ≤ 80) = false by simpa using hl)
  clear hl
  go_enter Try.func5, Try.ntmps5
  go_wp2_with (first | (go_at_call 18; refine (awake_any _).mono ?_; rintro e w' ⟨rfl, hb⟩; obtain ⟨pp, rfl⟩ := later_of_below hb; clear hb) | (go_at_call 31; refine (few_any r a cap _ HFW.out).mono ?_; rintro e w' ⟨rfl, hb⟩; obtain ⟨pp, rfl⟩ := later_of_below hb; clear hb))
  go_ret
  exact ⟨rfl, (by (repeat' (first | with_reducible exact Below.refl _ _ | (with_reducible refine below_later_of ?_ ?_ _) | (with_reducible refine Below.alloc ?_ ?_ _) | (with_reducible refine Below.setCell ?_ ?_ _) | (with_reducible refine Below.drew ?_) | (simp; done) | (simp; omega) | omega)))⟩
set_option maxRecDepth 20000 in
set_option maxHeartbeats 8000000 in
theorem gmasks_few (t : Trk) (r : Rel) (a : Option Addr) (cap : Nat) (row col : Int) (w : World) (hl : r.ds.length ≤ 80) (hs : SrcAt w a r.ds) (hn : a = none → cap = 0) :
    Calls Try.prog 5 #[.agg #[.int .i64 t.sx, .int .i64 t.sy, .int .i64 t.sz, .int .i64 t.step, .int .i64 t.lines, .int .i64 t.near, .int .i64 t.bin, .int .i64 t.bins, .bool t.east], .agg #[.int .i64 r.x, .int .i64 r.y, .int .i64 r.cell, .int .i64 r.rows, .int .i64 r.cols, .slice a r.ds.length cap], .agg #[.int .i64 row, .int .i64 col]] w fun e w' => e = .returned (.bool true) ∧ Below w.heap.size w w' := by
  have HFW := Lib.hid (show decide (r.ds.length ≤ 80) = true by simpa using hl)
  have HS0 := Lib.hid hs
  have HN := Lib.hid hn
  obtain ⟨e0, he0⟩ : ∃ e0, viewErrP feB intB t r = e0 := ⟨_, rfl⟩
  obtain ⟨e1, he1⟩ : ∃ e1, maskErrP feB intB t r row = e1 := ⟨_, rfl⟩
  obtain ⟨x, e2, he2⟩ : ∃ x e2, blockP feB intB t r row col = (x, e2) := ⟨_, _, rfl⟩
  have HE := Lib.hid he0
  have HM := Lib.hid he1
  have HB := Lib.hid he2
  clear hs hn he0 he1 he2
  go_enter Try.func5, Try.ntmps5
  go_wp2_with (first | (go_at_call 18; refine (awake_any _).mono ?_; rintro e w' ⟨rfl, hb⟩; obtain ⟨pp, rfl⟩ := later_of_below hb; clear hb) | (go_at_call 31; refine (few_any r a cap _ HFW.out).mono ?_; rintro e w' ⟨rfl, hb⟩; obtain ⟨pp, rfl⟩ := later_of_below hb; clear hb))
  refine wp_world (fun W => TrkBlk W w.heap.size t ∧ RelBlk W (w.heap.size + 1) r a cap ∧ TwoBlk W (w.heap.size + 1 + 1) row col ∧ Below w.heap.size w W ∧ w.heap.size + 1 + 1 < W.heap.size) ⟨⟨(by (first | (simp [go_sem]; done) | simp [go_sem, ↓IntWalk.iteOmega])), (by (first | (simp [go_sem]; done) | simp [go_sem, ↓IntWalk.iteOmega])), (by (first | (simp [go_sem]; done) | simp [go_sem, ↓IntWalk.iteOmega])), (by (first | (simp [go_sem]; done) | simp [go_sem, ↓IntWalk.iteOmega])), (by (first | (simp [go_sem]; done) | simp [go_sem, ↓IntWalk.iteOmega])), (by (first | (simp [go_sem]; done) | simp [go_sem, ↓IntWalk.iteOmega])), (by (first | (simp [go_sem]; done) | simp [go_sem, ↓IntWalk.iteOmega])), (by (first | (simp [go_sem]; done) | simp [go_sem, ↓IntWalk.iteOmega])), (by (first | (simp [go_sem]; done) | simp [go_sem, ↓IntWalk.iteOmega]))⟩, ⟨(by (first | (simp [go_sem]; done) | simp [go_sem, ↓IntWalk.iteOmega])), (by (first | (simp [go_sem]; done) | simp [go_sem, ↓IntWalk.iteOmega])), (by (first | (simp [go_sem]; done) | simp [go_sem, ↓IntWalk.iteOmega])), (by (first | (simp [go_sem]; done) | simp [go_sem, ↓IntWalk.iteOmega])), (by (first | (simp [go_sem]; done) | simp [go_sem, ↓IntWalk.iteOmega])), (by (first | (simp [go_sem]; done) | simp [go_sem, ↓IntWalk.iteOmega]))⟩, ⟨(by (first | (simp [go_sem]; done) | simp [go_sem, ↓IntWalk.iteOmega])), (by (first | (simp [go_sem]; done) | simp [go_sem, ↓IntWalk.iteOmega]))⟩, (by (repeat' (first | with_reducible exact Below.refl _ _ | (with_reducible refine below_later_of ?_ ?_ _) | (with_reducible refine Below.alloc ?_ ?_ _) | (with_reducible refine Below.setCell ?_ ?_ _) | (with_reducible refine Below.drew ?_) | (simp; done) | (simp; omega) | omega))), by simp; omega⟩ ?_
  rintro W2 ⟨tt, kk, ii, hb, hs5⟩
  have TT := Lib.hid tt
  have KK := Lib.hid kk
  have II := Lib.hid ii
  have HBW := Lib.hid hb
  have HS := Lib.hid (HS0.out.below hb)
  have HALL := Lib.hid (show ∀ w', Below W2.heap.size W2 w' → (fun w' => w'.cell? ⟨w.heap.size, 0, none⟩ = some (.int .i64 t.sx) ∧ w'.cell? ⟨w.heap.size, 1, none⟩ = some (.int .i64 t.sy) ∧ w'.cell? ⟨w.heap.size, 2, none⟩ = some (.int .i64 t.sz) ∧ w'.cell? ⟨w.heap.size, 3, none⟩ = some (.int .i64 t.step) ∧ w'.cell? ⟨w.heap.size, 4, none⟩ = some (.int .i64 t.lines) ∧ w'.cell? ⟨w.heap.size, 5, none⟩ = some (.int .i64 t.near) ∧ w'.cell? ⟨w.heap.size, 6, none⟩ = some (.int .i64 t.bin) ∧ w'.cell? ⟨w.heap.size, 7, none⟩ = some (.int .i64 t.bins) ∧ w'.cell? ⟨w.heap.size, 8, none⟩ = some (.bool t.east) ∧ w'.cell? ⟨w.heap.size + 1, 0, none⟩ = some (.int .i64 r.x) ∧ w'.cell? ⟨w.heap.size + 1, 1, none⟩ = some (.int .i64 r.y) ∧ w'.cell? ⟨w.heap.size + 1, 2, none⟩ = some (.int .i64 r.cell) ∧ w'.cell? ⟨w.heap.size + 1, 3, none⟩ = some (.int .i64 r.rows) ∧ w'.cell? ⟨w.heap.size + 1, 4, none⟩ = some (.int .i64 r.cols) ∧ w'.cell? ⟨w.heap.size + 1, 5, none⟩ = some (.slice a r.ds.length cap) ∧ w'.cell? ⟨w.heap.size + 1 + 1, 0, none⟩ = some (.int .i64 row) ∧ w'.cell? ⟨w.heap.size + 1 + 1, 1, none⟩ = some (.int .i64 col)) w' from fun w' hb' => by
    obtain ⟨t0, t1, t2, t3, t4, t5, t6, t7, t8⟩ := tt.below (show w.heap.size < W2.heap.size by omega) hb'
    obtain ⟨k0, k1, k2, k3, k4, k5⟩ := kk.below (show w.heap.size + 1 < W2.heap.size by omega) hb'
    obtain ⟨i0, i1⟩ := ii.below hs5 hb'
    exact ⟨t0, t1, t2, t3, t4, t5, t6, t7, t8, k0, k1, k2, k3, k4, k5, i0, i1⟩)
  clear tt kk ii hb
  go_wp2_with fail
  go_cut [7, 8] from 19 to 27 (fun X Y wx => Y = .int .i64 e1 ∧ MaskV wx X e1 (kindsP t r intB row) ∧ Below W2.heap.size W2 wx)
  case first =>
    go_region_held3 (fun w' => w'.cell? ⟨w.heap.size, 0, none⟩ = some (.int .i64 t.sx) ∧ w'.cell? ⟨w.heap.size, 1, none⟩ = some (.int .i64 t.sy) ∧ w'.cell? ⟨w.heap.size, 2, none⟩ = some (.int .i64 t.sz) ∧ w'.cell? ⟨w.heap.size, 3, none⟩ = some (.int .i64 t.step) ∧ w'.cell? ⟨w.heap.size, 4, none⟩ = some (.int .i64 t.lines) ∧ w'.cell? ⟨w.heap.size, 5, none⟩ = some (.int .i64 t.near) ∧ w'.cell? ⟨w.heap.size, 6, none⟩ = some (.int .i64 t.bin) ∧ w'.cell? ⟨w.heap.size, 7, none⟩ = some (.int .i64 t.bins) ∧ w'.cell? ⟨w.heap.size, 8, none⟩ = some (.bool t.east) ∧ w'.cell? ⟨w.heap.size + 1, 0, none⟩ = some (.int .i64 r.x) ∧ w'.cell? ⟨w.heap.size + 1, 1, none⟩ = some (.int .i64 r.y) ∧ w'.cell? ⟨w.heap.size + 1, 2, none⟩ = some (.int .i64 r.cell) ∧ w'.cell? ⟨w.heap.size + 1, 3, none⟩ = some (.int .i64 r.rows) ∧ w'.cell? ⟨w.heap.size + 1, 4, none⟩ = some (.int .i64 r.cols) ∧ w'.cell? ⟨w.heap.size + 1, 5, none⟩ = some (.slice a r.ds.length cap) ∧ w'.cell? ⟨w.heap.size + 1 + 1, 0, none⟩ = some (.int .i64 row) ∧ w'.cell? ⟨w.heap.size + 1 + 1, 1, none⟩ = some (.int .i64 col)) (exact HALL.out _ (by (repeat' (first | with_reducible exact Below.refl _ _ | (with_reducible refine below_later_of ?_ ?_ _) | (with_reducible refine Below.alloc ?_ ?_ _) | (with_reducible refine Below.setCell ?_ ?_ _) | (with_reducible refine Below.drew ?_) | (simp; done) | (simp; omega) | omega)))) (first | (go_at_call 33; refine (copy_any r a cap _ (by omega) (HS.out.below (by (repeat' (first | with_reducible exact Below.refl _ _ | (with_reducible refine below_later_of ?_ ?_ _) | (with_reducible refine Below.alloc ?_ ?_ _) | (with_reducible refine Below.setCell ?_ ?_ _) | (with_reducible refine Below.drew ?_) | (simp; done) | (simp; omega) | omega)))) HN.out).mono ?_; rintro e w' ⟨a', cap', rfl, hs2, hn2, hb⟩; have HS2 := Lib.hid hs2; have HN2 := Lib.hid hn2; clear hs2 hn2; obtain ⟨pp, rfl⟩ := later_of_below hb; clear hb) | (go_at_call 32; refine (maskRow_v feB intB t r _ _ row _ (relAt_any (by omega) (HS2.out.below' (by (repeat' (first | with_reducible exact Below.refl _ _ | (with_reducible refine below_later_of ?_ ?_ _) | (with_reducible refine Below.alloc ?_ ?_ _) | (with_reducible refine Below.setCell ?_ ?_ _) | (with_reducible refine Below.drew ?_) | (simp; done) | (simp; omega) | omega))))) HM.out).mono ?_; rintro e w' ⟨v1, rfl, hv1, hb⟩; have HV1 := Lib.hid hv1; clear hv1; obtain ⟨pp, rfl⟩ := later_of_below hb; clear hb))
    all_goals
      go_wp2_with fail
      go_meet
      exact ⟨rfl, HV1.out.below (by (repeat' (first | with_reducible exact Below.refl _ _ | (with_reducible refine below_later_of ?_ ?_ _) | (with_reducible refine Below.alloc ?_ ?_ _) | (with_reducible refine Below.setCell ?_ ?_ _) | (with_reducible refine Below.drew ?_) | (simp; done) | (simp; omega) | omega))), (by (repeat' (first | with_reducible exact Below.refl _ _ | (with_reducible refine below_later_of ?_ ?_ _) | (with_reducible refine Below.alloc ?_ ?_ _) | (with_reducible refine Below.setCell ?_ ?_ _) | (with_reducible refine Below.drew ?_) | (simp; done) | (simp; omega) | omega)))⟩
  case rest =>
    obtain ⟨rfl, hmv, hb⟩ := hcut
    obtain ⟨wd, hwd⟩ : ∃ wd : World, wd = wc := ⟨_, rfl⟩
    subst hwd
    have HALL1 := Lib.hid (show ∀ w', Below wd.heap.size wd w' → (fun w' => w'.cell? ⟨w.heap.size, 0, none⟩ = some (.int .i64 t.sx) ∧ w'.cell? ⟨w.heap.size, 1, none⟩ = some (.int .i64 t.sy) ∧ w'.cell? ⟨w.heap.size, 2, none⟩ = some (.int .i64 t.sz) ∧ w'.cell? ⟨w.heap.size, 3, none⟩ = some (.int .i64 t.step) ∧ w'.cell? ⟨w.heap.size, 4, none⟩ = some (.int .i64 t.lines) ∧ w'.cell? ⟨w.heap.size, 5, none⟩ = some (.int .i64 t.near) ∧ w'.cell? ⟨w.heap.size, 6, none⟩ = some (.int .i64 t.bin) ∧ w'.cell? ⟨w.heap.size, 7, none⟩ = some (.int .i64 t.bins) ∧ w'.cell? ⟨w.heap.size, 8, none⟩ = some (.bool t.east) ∧ w'.cell? ⟨w.heap.size + 1, 0, none⟩ = some (.int .i64 r.x) ∧ w'.cell? ⟨w.heap.size + 1, 1, none⟩ = some (.int .i64 r.y) ∧ w'.cell? ⟨w.heap.size + 1, 2, none⟩ = some (.int .i64 r.cell) ∧ w'.cell? ⟨w.heap.size + 1, 3, none⟩ = some (.int .i64 r.rows) ∧ w'.cell? ⟨w.heap.size + 1, 4, none⟩ = some (.int .i64 r.cols) ∧ w'.cell? ⟨w.heap.size + 1, 5, none⟩ = some (.slice a r.ds.length cap) ∧ w'.cell? ⟨w.heap.size + 1 + 1, 0, none⟩ = some (.int .i64 row) ∧ w'.cell? ⟨w.heap.size + 1 + 1, 1, none⟩ = some (.int .i64 col)) w' from fun w' hb' => HALL.out w' (hb.trans (hb'.mono hb.size)))
    have HV0 := Lib.hid hmv
    have HBD := Lib.hid (HBW.out.trans (hb.mono (by omega)))
    have HSD := Lib.hid (HS.out.below hb)
    have hsd := hb.size
    clear hmv hb HALL HS TT KK II HBW
    have HS := Lib.hid HSD.out
    go_wp2_with fail
    go_cut [9, 10] from 28 to 35 (fun X Y wx => X = .int .i64 x ∧ Y = .int .i64 e2 ∧ Below wd.heap.size wd wx)
    case first =>
      go_region_held3 (fun w' => w'.cell? ⟨w.heap.size, 0, none⟩ = some (.int .i64 t.sx) ∧ w'.cell? ⟨w.heap.size, 1, none⟩ = some (.int .i64 t.sy) ∧ w'.cell? ⟨w.heap.size, 2, none⟩ = some (.int .i64 t.sz) ∧ w'.cell? ⟨w.heap.size, 3, none⟩ = some (.int .i64 t.step) ∧ w'.cell? ⟨w.heap.size, 4, none⟩ = some (.int .i64 t.lines) ∧ w'.cell? ⟨w.heap.size, 5, none⟩ = some (.int .i64 t.near) ∧ w'.cell? ⟨w.heap.size, 6, none⟩ = some (.int .i64 t.bin) ∧ w'.cell? ⟨w.heap.size, 7, none⟩ = some (.int .i64 t.bins) ∧ w'.cell? ⟨w.heap.size, 8, none⟩ = some (.bool t.east) ∧ w'.cell? ⟨w.heap.size + 1, 0, none⟩ = some (.int .i64 r.x) ∧ w'.cell? ⟨w.heap.size + 1, 1, none⟩ = some (.int .i64 r.y) ∧ w'.cell? ⟨w.heap.size + 1, 2, none⟩ = some (.int .i64 r.cell) ∧ w'.cell? ⟨w.heap.size + 1, 3, none⟩ = some (.int .i64 r.rows) ∧ w'.cell? ⟨w.heap.size + 1, 4, none⟩ = some (.int .i64 r.cols) ∧ w'.cell? ⟨w.heap.size + 1, 5, none⟩ = some (.slice a r.ds.length cap) ∧ w'.cell? ⟨w.heap.size + 1 + 1, 0, none⟩ = some (.int .i64 row) ∧ w'.cell? ⟨w.heap.size + 1 + 1, 1, none⟩ = some (.int .i64 col)) (exact HALL1.out _ (by (repeat' (first | with_reducible exact Below.refl _ _ | (with_reducible refine below_later_of ?_ ?_ _) | (with_reducible refine Below.alloc ?_ ?_ _) | (with_reducible refine Below.setCell ?_ ?_ _) | (with_reducible refine Below.drew ?_) | (simp; done) | (simp; omega) | omega)))) (first | (go_at_call 33; refine (copy_any r a cap _ (by omega) (HS.out.below (by (repeat' (first | with_reducible exact Below.refl _ _ | (with_reducible refine below_later_of ?_ ?_ _) | (with_reducible refine Below.alloc ?_ ?_ _) | (with_reducible refine Below.setCell ?_ ?_ _) | (with_reducible refine Below.drew ?_) | (simp; done) | (simp; omega) | omega)))) HN.out).mono ?_; rintro e w' ⟨a', cap', rfl, hs2, hn2, hb⟩; have HS2 := Lib.hid hs2; have HN2 := Lib.hid hn2; clear hs2 hn2; obtain ⟨pp, rfl⟩ := later_of_below hb; clear hb) | (go_at_call 34; refine (blocker_any feB intB t r _ _ row col _ (relAt_any (by omega) (HS2.out.below' (by (repeat' (first | with_reducible exact Below.refl _ _ | (with_reducible refine below_later_of ?_ ?_ _) | (with_reducible refine Below.alloc ?_ ?_ _) | (with_reducible refine Below.setCell ?_ ?_ _) | (with_reducible refine Below.drew ?_) | (simp; done) | (simp; omega) | omega))))) HB.out).mono ?_; rintro e w' ⟨rfl, hb⟩; obtain ⟨pp, rfl⟩ := later_of_below hb; clear hb))
      all_goals
        go_wp2_with fail
        go_meet
        exact ⟨rfl, rfl, (by (repeat' (first | with_reducible exact Below.refl _ _ | (with_reducible refine below_later_of ?_ ?_ _) | (with_reducible refine Below.alloc ?_ ?_ _) | (with_reducible refine Below.setCell ?_ ?_ _) | (with_reducible refine Below.drew ?_) | (simp; done) | (simp; omega) | omega)))⟩
    case rest =>
      obtain ⟨rfl, rfl, hb⟩ := hcut
      have HS3 := Lib.hid (HSD.out.below hb)
      have HV1 := Lib.hid (HV0.out.below hb)
      have hsz := hb.size
      have HBW := Lib.hid (HBD.out.trans (hb.mono (by omega)))
      obtain ⟨t0, t1, t2, t3, t4, t5, t6, t7, t8, k0, k1, k2, k3, k4, k5, i0, i1⟩ := HALL1.out wc hb
      clear hb HS HSD HV0 HBD HALL1
      by_cases hv : e0 = 0
      · subst hv
        obtain ⟨h1, h2, -, -⟩ := viewErrP_ok HE.out
        have ot := checkTrackP_ok h1
        have o := (relErrP_ok h2).1
        have OT := Lib.hid ot
        have O := Lib.hid o
        have HFI := Lib.hid (flInts_any h2)
        obtain ⟨b, off, rfl, hbw3, hfc⟩ := HS3.out (rel_pos h2)
        have HFC := Lib.hid hfc
        have h1' := HM.out
        have h2' := HB.out
        unfold maskErrP at h1'
        unfold blockP at h2'
        rw [if_pos HE.out] at h1' h2'
        obtain ⟨-, -, -, -, -, -, r1, r2, l1, l2, -⟩ := o
        clear h1 h2 hfc ot HM HB
        rcases (show inR 0 (r.rows - 1) row = false ∨ inR 0 (r.rows - 1) row = true by cases inR 0 (r.rows - 1) row <;> simp) with hw | hw
        · have hh : hasCellB r row col = false := by unfold hasCellB; rw [hw]; rfl
          rw [hw] at h1'
          rw [hh] at h2'
          simp only [Bool.false_eq_true, if_false, Prod.mk.injEq] at h1' h2'
          subst h1'
          obtain ⟨rfl, rfl⟩ := h2'
          obtain rfl := HV1.out.2 (by decide)
          have HW := Lib.hid hw
          have HH := Lib.hid hh
          clear hw hh HV1
          go_wp2_with (first | (go_at_call 35; refine (lViewErr t r _ cap _ (by omega) (HS3.out.below (by (repeat' (first | with_reducible exact Below.refl _ _ | (with_reducible refine below_later_of ?_ ?_ _) | (with_reducible refine Below.alloc ?_ ?_ _) | (with_reducible refine Below.setCell ?_ ?_ _) | (with_reducible refine Below.drew ?_) | (simp; done) | (simp; omega) | omega)))) HE.out).mono ?_; rintro e w' ⟨rfl, hb⟩; obtain ⟨pp, rfl⟩ := later_of_below hb; clear hb) | (go_at_call 36; (with_reducible refine (bWithin row 0 (r.rows - 1) _ HW.out).mono ?_); rintro e w' ⟨rfl, rfl⟩) | (go_at_call 37; refine (rHasCell r _ cap row col _ (by omega) (by omega) (by omega) (by omega) HH.out).mono ?_; rintro e w' ⟨rfl, hb⟩; obtain ⟨pp, rfl⟩ := later_of_below hb; clear hb))
          go_ret
          exact ⟨ret_bool (by simp), HBW.out.trans (below_mono_of (show w.heap.size ≤ wc.heap.size by omega) (by (repeat' (first | with_reducible exact Below.refl _ _ | (with_reducible refine below_later_of ?_ ?_ _) | (with_reducible refine Below.alloc ?_ ?_ _) | (with_reducible refine Below.setCell ?_ ?_ _) | (with_reducible refine Below.drew ?_) | (simp; done) | (simp; omega) | omega))))⟩
        · obtain ⟨g1, g2⟩ := inR_iff.1 hw
          rw [hw] at h1'
          simp only [if_true] at h1'
          subst h1'
          have HV1 := Lib.hid (HV1.out.1 rfl)
          have HW := Lib.hid hw
          rcases (show hasCellB r row col = false ∨ hasCellB r row col = true by cases hasCellB r row col <;> simp) with hh | hh
          · rw [hh] at h2'
            simp only [Bool.false_eq_true, if_false, Prod.mk.injEq] at h2'
            obtain ⟨rfl, rfl⟩ := h2'
            have HH := Lib.hid hh
            clear hw hh
            go_wp2_with (first | (go_at_call 35; refine (lViewErr t r _ cap _ (by omega) (HS3.out.below (by (repeat' (first | with_reducible exact Below.refl _ _ | (with_reducible refine below_later_of ?_ ?_ _) | (with_reducible refine Below.alloc ?_ ?_ _) | (with_reducible refine Below.setCell ?_ ?_ _) | (with_reducible refine Below.drew ?_) | (simp; done) | (simp; omega) | omega)))) HE.out).mono ?_; rintro e w' ⟨rfl, hb⟩; obtain ⟨pp, rfl⟩ := later_of_below hb; clear hb) | (go_at_call 36; (with_reducible refine (bWithin row 0 (r.rows - 1) _ HW.out).mono ?_); rintro e w' ⟨rfl, rfl⟩) | (go_at_call 37; refine (rHasCell r _ cap row col _ (by omega) (by omega) (by omega) (by omega) HH.out).mono ?_; rintro e w' ⟨rfl, hb⟩; obtain ⟨pp, rfl⟩ := later_of_below hb; clear hb) | (go_at_call 39; refine (rMaskRow_v t r intB b off cap row _ OT.out O.out HFI.out (by omega) (by omega) (by simp; omega) (HFC.out.below hbw3 (by (repeat' (first | with_reducible exact Below.refl _ _ | (with_reducible refine below_later_of ?_ ?_ _) | (with_reducible refine Below.alloc ?_ ?_ _) | (with_reducible refine Below.setCell ?_ ?_ _) | (with_reducible refine Below.drew ?_) | (simp; done) | (simp; omega) | omega))))).mono ?_; rintro e w' ⟨v2, rfl, hv2, hb⟩; have HV2 := Lib.hid hv2; clear hv2; obtain ⟨pp, rfl⟩ := later_of_below hb; clear hb) | (go_at_call 38; refine (bInts _ _ _ _ _ (HV1.out.below (by (repeat' (first | with_reducible exact Below.refl _ _ | (with_reducible refine below_later_of ?_ ?_ _) | (with_reducible refine Below.alloc ?_ ?_ _) | (with_reducible refine Below.setCell ?_ ?_ _) | (with_reducible refine Below.drew ?_) | (simp; done) | (simp; omega) | omega)))) (HV2.out.below (by (repeat' (first | with_reducible exact Below.refl _ _ | (with_reducible refine below_later_of ?_ ?_ _) | (with_reducible refine Below.alloc ?_ ?_ _) | (with_reducible refine Below.setCell ?_ ?_ _) | (with_reducible refine Below.drew ?_) | (simp; done) | (simp; omega) | omega)))) (decide_eq_true rfl)).mono ?_; rintro e w' ⟨rfl, hb⟩; obtain ⟨pp, rfl⟩ := later_of_below hb; clear hb))
            go_ret
            exact ⟨ret_bool (by simp), HBW.out.trans (below_mono_of (show w.heap.size ≤ wc.heap.size by omega) (by (repeat' (first | with_reducible exact Below.refl _ _ | (with_reducible refine below_later_of ?_ ?_ _) | (with_reducible refine Below.alloc ?_ ?_ _) | (with_reducible refine Below.setCell ?_ ?_ _) | (with_reducible refine Below.drew ?_) | (simp; done) | (simp; omega) | omega))))⟩
          · rw [hh] at h2'
            simp only [if_true] at h2'
            have HBL := Lib.hid h2'
            have HH := Lib.hid hh
            clear hw hh h2'
            go_wp2_with (first | (go_at_call 35; refine (lViewErr t r _ cap _ (by omega) (HS3.out.below (by (repeat' (first | with_reducible exact Below.refl _ _ | (with_reducible refine below_later_of ?_ ?_ _) | (with_reducible refine Below.alloc ?_ ?_ _) | (with_reducible refine Below.setCell ?_ ?_ _) | (with_reducible refine Below.drew ?_) | (simp; done) | (simp; omega) | omega)))) HE.out).mono ?_; rintro e w' ⟨rfl, hb⟩; obtain ⟨pp, rfl⟩ := later_of_below hb; clear hb) | (go_at_call 36; (with_reducible refine (bWithin row 0 (r.rows - 1) _ HW.out).mono ?_); rintro e w' ⟨rfl, rfl⟩) | (go_at_call 37; refine (rHasCell r _ cap row col _ (by omega) (by omega) (by omega) (by omega) HH.out).mono ?_; rintro e w' ⟨rfl, hb⟩; obtain ⟨pp, rfl⟩ := later_of_below hb; clear hb) | (go_at_call 39; refine (rMaskRow_v t r intB b off cap row _ OT.out O.out HFI.out (by omega) (by omega) (by simp; omega) (HFC.out.below hbw3 (by (repeat' (first | with_reducible exact Below.refl _ _ | (with_reducible refine below_later_of ?_ ?_ _) | (with_reducible refine Below.alloc ?_ ?_ _) | (with_reducible refine Below.setCell ?_ ?_ _) | (with_reducible refine Below.drew ?_) | (simp; done) | (simp; omega) | omega))))).mono ?_; rintro e w' ⟨v2, rfl, hv2, hb⟩; have HV2 := Lib.hid hv2; clear hv2; obtain ⟨pp, rfl⟩ := later_of_below hb; clear hb) | (go_at_call 38; refine (bInts _ _ _ _ _ (HV1.out.below (by (repeat' (first | with_reducible exact Below.refl _ _ | (with_reducible refine below_later_of ?_ ?_ _) | (with_reducible refine Below.alloc ?_ ?_ _) | (with_reducible refine Below.setCell ?_ ?_ _) | (with_reducible refine Below.drew ?_) | (simp; done) | (simp; omega) | omega)))) (HV2.out.below (by (repeat' (first | with_reducible exact Below.refl _ _ | (with_reducible refine below_later_of ?_ ?_ _) | (with_reducible refine Below.alloc ?_ ?_ _) | (with_reducible refine Below.setCell ?_ ?_ _) | (with_reducible refine Below.drew ?_) | (simp; done) | (simp; omega) | omega)))) (decide_eq_true rfl)).mono ?_; rintro e w' ⟨rfl, hb⟩; obtain ⟨pp, rfl⟩ := later_of_below hb; clear hb) | (go_at_call 40; refine (rBlocker t r intB b off cap row col _ OT.out O.out HFI.out HH.out (by simp; omega) (HFC.out.below hbw3 (by (repeat' (first | with_reducible exact Below.refl _ _ | (with_reducible refine below_later_of ?_ ?_ _) | (with_reducible refine Below.alloc ?_ ?_ _) | (with_reducible refine Below.setCell ?_ ?_ _) | (with_reducible refine Below.drew ?_) | (simp; done) | (simp; omega) | omega)))) HBL.out).mono ?_; rintro e w' ⟨rfl, hb⟩; obtain ⟨pp, rfl⟩ := later_of_below hb; clear hb))
            go_ret
            exact ⟨ret_bool (by simp), HBW.out.trans (below_mono_of (show w.heap.size ≤ wc.heap.size by omega) (by (repeat' (first | with_reducible exact Below.refl _ _ | (with_reducible refine below_later_of ?_ ?_ _) | (with_reducible refine Below.alloc ?_ ?_ _) | (with_reducible refine Below.setCell ?_ ?_ _) | (with_reducible refine Below.drew ?_) | (simp; done) | (simp; omega) | omega))))⟩
      · have h1' := HM.out
        have h2' := HB.out
        unfold maskErrP at h1'
        unfold blockP at h2'
        rw [HE.out, if_neg hv] at h1' h2'
        simp only [Prod.mk.injEq] at h2'
        subst h1'
        obtain ⟨rfl, rfl⟩ := h2'
        obtain rfl := HV1.out.2 hv
        have hz : (e0 == 0) = false := by simpa using hv
        have hz1 : (e0 != 0) = true := by simpa using hv
        clear HM HB HV1
        go_wp2_with (first | (go_at_call 35; refine (lViewErr t r _ cap _ (by omega) (HS3.out.below (by (repeat' (first | with_reducible exact Below.refl _ _ | (with_reducible refine below_later_of ?_ ?_ _) | (with_reducible refine Below.alloc ?_ ?_ _) | (with_reducible refine Below.setCell ?_ ?_ _) | (with_reducible refine Below.drew ?_) | (simp; done) | (simp; omega) | omega)))) HE.out).mono ?_; rintro e w' ⟨rfl, hb⟩; obtain ⟨pp, rfl⟩ := later_of_below hb; clear hb))
        go_ret
        exact ⟨ret_bool (by simp), HBW.out.trans (below_mono_of (show w.heap.size ≤ wc.heap.size by omega) (by (repeat' (first | with_reducible exact Below.refl _ _ | (with_reducible refine below_later_of ?_ ?_ _) | (with_reducible refine Below.alloc ?_ ?_ _) | (with_reducible refine Below.setCell ?_ ?_ _) | (with_reducible refine Below.drew ?_) | (simp; done) | (simp; omega) | omega))))⟩
theorem gmasks_any (t : Trk) (r : Rel) (a : Option Addr) (cap : Nat) (row col : Int) (w : World) (hs : SrcAt w a r.ds) (hn : a = none → cap = 0) :
    Calls Try.prog 5 #[.agg #[.int .i64 t.sx, .int .i64 t.sy, .int .i64 t.sz, .int .i64 t.step, .int .i64 t.lines, .int .i64 t.near, .int .i64 t.bin, .int .i64 t.bins, .bool t.east], .agg #[.int .i64 r.x, .int .i64 r.y, .int .i64 r.cell, .int .i64 r.rows, .int .i64 r.cols, .slice a r.ds.length cap], .agg #[.int .i64 row, .int .i64 col]] w fun e w' => e = .returned (.bool true) ∧ Below w.heap.size w w' := by
  by_cases hl : r.ds.length ≤ 80
  · exact gmasks_few t r a cap row col w hl hs hn
  · exact gmasks_many t r a cap row col w hl
end Go.Proofs.Ytokpdmlmlkkekaa
