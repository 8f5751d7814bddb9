/- The law GroundReliefs returns true. -/
import Derived.Test.YtokpdmlmlkkekaaZS
import Derived.Test.YtokpdmlmlkkekaaZW
import Derived.Deep.CutRange
import Derived.Deep.RegionHeld3
namespace Go.Proofs.Ytokpdmlmlkkekaa
set_option linter.unusedVariables false
open Go.RowKit
/-- Block B holds a relief; a place. -/
def RelBlk (w : World) (B : Nat) (r : Rel) (a : Option Addr) (cap : Nat) : Prop := w.cell? ⟨B, 0, none⟩ = some (.int .i64 r.x) ∧ w.cell? ⟨B, 1, none⟩ = some (.int .i64 r.y) ∧ w.cell? ⟨B, 2, none⟩ = some (.int .i64 r.cell) ∧ w.cell? ⟨B, 3, none⟩ = some (.int .i64 r.rows) ∧ w.cell? ⟨B, 4, none⟩ = some (.int .i64 r.cols) ∧ w.cell? ⟨B, 5, none⟩ = some (.slice a r.ds.length cap)
theorem RelBlk.below {w w' : World} {B C : Nat} {r : Rel} {a : Option Addr} {cap : Nat} (h : RelBlk w B r a cap) (hB : B < C) (hw : Below C w w') : RelBlk w' B r a cap := by
  obtain ⟨h0, h1, h2, h3, h4, h5⟩ := h
  exact ⟨(hw.cell hB).trans h0, (hw.cell hB).trans h1, (hw.cell hB).trans h2, (hw.cell hB).trans h3, (hw.cell hB).trans h4, (hw.cell hB).trans h5⟩
def TriBlk (w : World) (B : Nat) (x y z : Int) : Prop := w.cell? ⟨B, 0, none⟩ = some (.int .i64 x) ∧ w.cell? ⟨B, 1, none⟩ = some (.int .i64 y) ∧ w.cell? ⟨B, 2, none⟩ = some (.int .i64 z)
theorem TriBlk.below {w w' : World} {B C : Nat} {x y z : Int} (h : TriBlk w B x y z) (hB : B < C) (hw : Below C w w') : TriBlk w' B x y z := by
  obtain ⟨h0, h1, h2⟩ := h
  exact ⟨(hw.cell hB).trans h0, (hw.cell hB).trans h1, (hw.cell hB).trans h2⟩
def TwoBlk (w : World) (B : Nat) (x y : Int) : Prop := w.cell? ⟨B, 0, none⟩ = some (.int .i64 x) ∧ w.cell? ⟨B, 1, none⟩ = some (.int .i64 y)
theorem TwoBlk.below {w w' : World} {B C : Nat} {x y : Int} (h : TwoBlk w B x y) (hB : B < C) (hw : Below C w w') : TwoBlk w' B x y := by
  obtain ⟨h0, h1⟩ := h
  exact ⟨(hw.cell hB).trans h0, (hw.cell hB).trans h1⟩
theorem cellOfP_bad {r : Rel} {x y z e : Int} (h : first2 (relErrP feB r) (checkPlaceP x y z) = e) (he : e ≠ 0) : cellOfP r x y z = (0, 0, e) := by
  unfold cellOfP; rw [h, if_neg he]
theorem heightAtP_bad {r : Rel} {x y z e : Int} (h : cellOfP r x y z = (0, 0, e)) (he : e ≠ 0) : heightAtP r x y z = (0, e) := by
  unfold heightAtP; rw [h]; exact if_neg he
theorem rCheckRelief_e (r : Rel) (a : Option Addr) (cap : Nat) (w : World) {e0 : Int} (he : relErrP feB r = e0) (hlen : r.ds.length ≤ 1000000000) (ha : SrcAt w a r.ds) :
    Calls Try.prog 43 #[.agg #[.int .i64 r.x, .int .i64 r.y, .int .i64 r.cell, .int .i64 r.rows, .int .i64 r.cols, .slice a r.ds.length cap]] w fun e w' => e = .returned (.int .i64 e0) ∧ Below w.heap.size w w' := by subst he; exact rCheckRelief r a cap w hlen ha
theorem checkRelief_e (r : Rel) (a : Option Addr) (cap : Nat) (w : World) {e0 : Int} (he : relErrP feB r = e0) (hlen : r.ds.length ≤ 1000000000) (ha : SrcAt w a r.ds) :
    Calls Try.prog 44 #[.agg #[.int .i64 r.x, .int .i64 r.y, .int .i64 r.cell, .int .i64 r.rows, .int .i64 r.cols, .slice a r.ds.length cap]] w fun e w' => e = .returned (.int .i64 e0) ∧ Below w.heap.size w w' := by subst he; exact checkRelief_any feB r a cap w hlen (fun k _ => flErr_any _) ha
set_option maxRecDepth 20000 in
set_option maxHeartbeats 1000000 in
theorem greliefs_many (r : Rel) (a : Option Addr) (cap : Nat) (x y z : Int) (w : World) (hl : ¬ r.ds.length ≤ 80) :
    Calls Try.prog 7 #[.agg #[.int .i64 r.x, .int .i64 r.y, .int .i64 r.cell, .int .i64 r.rows, .int .i64 r.cols, .slice a r.ds.length cap], .agg #[.int .i64 x, .int .i64 y, .int .i64 z]] w fun e w' => e = .returned (.bool true) ∧ Below w.heap.size w w' := by
  have HFW := Lib.hid (show decide (r.ds.length ≤ 80) = false by simpa using hl)
  clear hl
  go_enter Try.func7, Try.ntmps7
  go_wp2_with (first | (go_at_call 18; refine (awake_any _).mono ?_; rintro e w' ⟨rfl, hb⟩; obtain ⟨pp, rfl⟩ := later_of_below hb; clear hb) | (go_at_call 31; refine (few_any r a cap _ HFW.out).mono ?_; rintro e w' ⟨rfl, hb⟩; obtain ⟨pp, rfl⟩ := later_of_below hb; clear hb))
  go_ret
  exact ⟨rfl, (by (repeat' (first | with_reducible exact Below.refl _ _ | (with_reducible refine below_later_of ?_ ?_ _) | (with_reducible refine Below.alloc ?_ ?_ _) | (with_reducible refine Below.setCell ?_ ?_ _) | (with_reducible refine Below.drew ?_) | (simp; done) | (simp; omega) | omega)))⟩
set_option maxRecDepth 20000 in
set_option maxHeartbeats 4000000 in
theorem greliefs_few (r : Rel) (a : Option Addr) (cap : Nat) (x y z : Int) (w : World) (hl : r.ds.length ≤ 80) (hs : SrcAt w a r.ds) (hn : a = none → cap = 0) :
    Calls Try.prog 7 #[.agg #[.int .i64 r.x, .int .i64 r.y, .int .i64 r.cell, .int .i64 r.rows, .int .i64 r.cols, .slice a r.ds.length cap], .agg #[.int .i64 x, .int .i64 y, .int .i64 z]] w fun e w' => e = .returned (.bool true) ∧ Below w.heap.size w w' := by
  have HFW := Lib.hid (show decide (r.ds.length ≤ 80) = true by simpa using hl)
  have HS := Lib.hid hs
  have HN := Lib.hid hn
  obtain ⟨u, v, e1, hc⟩ : ∃ u v e1, cellOfP r x y z = (u, v, e1) := ⟨_, _, _, rfl⟩
  obtain ⟨hh, e2, hh2⟩ : ∃ hh e2, heightAtP r x y z = (hh, e2) := ⟨_, _, rfl⟩
  have HC := Lib.hid hc
  have HH := Lib.hid hh2
  clear hs hn hc hh2
  go_enter Try.func7, Try.ntmps7
  go_wp2_with (first | (go_at_call 18; refine (awake_any _).mono ?_; rintro e w' ⟨rfl, hb⟩; obtain ⟨pp, rfl⟩ := later_of_below hb; clear hb) | (go_at_call 31; refine (few_any r a cap _ HFW.out).mono ?_; rintro e w' ⟨rfl, hb⟩; obtain ⟨pp, rfl⟩ := later_of_below hb; clear hb))
  go_cut [5, 6] from 18 to 24 (fun X Y wx => ∃ B5, X = .pointer (some ⟨B5, 0, none⟩) ∧ Y = .int .i64 e1 ∧ RelBlk wx w.heap.size r a cap ∧ TriBlk wx (w.heap.size + 1) x y z ∧ TwoBlk wx B5 u v ∧ Below w.heap.size w wx ∧ w.heap.size + 1 < wx.heap.size ∧ B5 < wx.heap.size)
  case first =>
    go_region_held3 (fun w' => w'.cell? ⟨w.heap.size, 0, none⟩ = some (.int .i64 r.x) ∧ w'.cell? ⟨w.heap.size, 1, none⟩ = some (.int .i64 r.y) ∧ w'.cell? ⟨w.heap.size, 2, none⟩ = some (.int .i64 r.cell) ∧ w'.cell? ⟨w.heap.size, 3, none⟩ = some (.int .i64 r.rows) ∧ w'.cell? ⟨w.heap.size, 4, none⟩ = some (.int .i64 r.cols) ∧ w'.cell? ⟨w.heap.size, 5, none⟩ = some (.slice a r.ds.length cap) ∧ w'.cell? ⟨w.heap.size + 1, 0, none⟩ = some (.int .i64 x) ∧ w'.cell? ⟨w.heap.size + 1, 1, none⟩ = some (.int .i64 y) ∧ w'.cell? ⟨w.heap.size + 1, 2, none⟩ = some (.int .i64 z)) (first | ((first | (simp [go_sem]; done) | simp [go_sem, ↓IntWalk.iteOmega]); done)) (first | (go_at_call 33; refine (copy_any r a cap _ (by omega) (HS.out.below (by (repeat' (first | with_reducible exact Below.refl _ _ | (with_reducible refine below_later_of ?_ ?_ _) | (with_reducible refine Below.alloc ?_ ?_ _) | (with_reducible refine Below.setCell ?_ ?_ _) | (with_reducible refine Below.drew ?_) | (simp; done) | (simp; omega) | omega)))) HN.out).mono ?_; rintro e w' ⟨a', cap', rfl, hs2, hn2, hb⟩; have HS2 := Lib.hid hs2; have HN2 := Lib.hid hn2; clear hs2 hn2; obtain ⟨pp, rfl⟩ := later_of_below hb; clear hb) | (go_at_call 41; refine (cellOf_e _ (by omega) (HS2.out.below (by (repeat' (first | with_reducible exact Below.refl _ _ | (with_reducible refine below_later_of ?_ ?_ _) | (with_reducible refine Below.alloc ?_ ?_ _) | (with_reducible refine Below.setCell ?_ ?_ _) | (with_reducible refine Below.drew ?_) | (simp; done) | (simp; omega) | omega)))) HC.out).mono ?_; rintro e w' ⟨rfl, hb⟩; obtain ⟨pp, rfl⟩ := later_of_below hb; clear hb))
    all_goals
      go_wp2_with fail
      go_meet
      exact ⟨_, rfl, rfl, ⟨(by (first | (simp [go_sem]; done) | simp [go_sem, ↓IntWalk.iteOmega])), (by (first | (simp [go_sem]; done) | simp [go_sem, ↓IntWalk.iteOmega])), (by (first | (simp [go_sem]; done) | simp [go_sem, ↓IntWalk.iteOmega])), (by (first | (simp [go_sem]; done) | simp [go_sem, ↓IntWalk.iteOmega])), (by (first | (simp [go_sem]; done) | simp [go_sem, ↓IntWalk.iteOmega])), (by (first | (simp [go_sem]; done) | simp [go_sem, ↓IntWalk.iteOmega]))⟩, ⟨(by (first | (simp [go_sem]; done) | simp [go_sem, ↓IntWalk.iteOmega])), (by (first | (simp [go_sem]; done) | simp [go_sem, ↓IntWalk.iteOmega])), (by (first | (simp [go_sem]; done) | simp [go_sem, ↓IntWalk.iteOmega]))⟩, ⟨(by (first | (simp [go_sem]; done) | simp [go_sem, ↓IntWalk.iteOmega])), (by (first | (simp [go_sem]; done) | simp [go_sem, ↓IntWalk.iteOmega]))⟩, (by (repeat' (first | with_reducible exact Below.refl _ _ | (with_reducible refine below_later_of ?_ ?_ _) | (with_reducible refine Below.alloc ?_ ?_ _) | (with_reducible refine Below.setCell ?_ ?_ _) | (with_reducible refine Below.drew ?_) | (simp; done) | (simp; omega) | omega))), by (simp <;> omega), by (simp <;> omega)⟩
  case rest =>
    obtain ⟨B5, rfl, rfl, kk, tt, ii, hb, hs5, hs5'⟩ := hcut
    have KK := Lib.hid kk
    have TT := Lib.hid tt
    have II := Lib.hid ii
    have HB := Lib.hid hb
    obtain ⟨k0, k1, k2, k3, k4, k5⟩ := kk
    obtain ⟨t0, t1, t2⟩ := tt
    obtain ⟨i0, i1⟩ := ii
    have hsw : w.heap.size ≤ wc.heap.size := by omega
    have HS1 := Lib.hid (HS.out.below hb)
    obtain ⟨wd, hwd⟩ : ∃ wd : World, wd = wc := ⟨_, rfl⟩
    subst hwd
    clear hb
    go_wp2_with fail
    go_cut [7, 8] from 26 to 31 (fun X Y wx => X = .int .i64 hh ∧ Y = .int .i64 e2 ∧ Below wd.heap.size wd wx)
    case first =>
      go_region_held3 (fun w' => w'.cell? ⟨w.heap.size, 0, none⟩ = some (.int .i64 r.x) ∧ w'.cell? ⟨w.heap.size, 1, none⟩ = some (.int .i64 r.y) ∧ w'.cell? ⟨w.heap.size, 2, none⟩ = some (.int .i64 r.cell) ∧ w'.cell? ⟨w.heap.size, 3, none⟩ = some (.int .i64 r.rows) ∧ w'.cell? ⟨w.heap.size, 4, none⟩ = some (.int .i64 r.cols) ∧ w'.cell? ⟨w.heap.size, 5, none⟩ = some (.slice a r.ds.length cap) ∧ w'.cell? ⟨w.heap.size + 1, 0, none⟩ = some (.int .i64 x) ∧ w'.cell? ⟨w.heap.size + 1, 1, none⟩ = some (.int .i64 y) ∧ w'.cell? ⟨w.heap.size + 1, 2, none⟩ = some (.int .i64 z)) (first | exact ⟨k0, k1, k2, k3, k4, k5, t0, t1, t2⟩ | ((first | (simp [go_sem, k0, k1, k2, k3, k4, k5, t0, t1, t2]; done) | simp [go_sem, k0, k1, k2, k3, k4, k5, t0, t1, t2, ↓IntWalk.iteOmega]); done)) (first | (go_at_call 33; refine (copy_any r a cap _ (by omega) (HS1.out.below (by (repeat' (first | with_reducible exact Below.refl _ _ | (with_reducible refine below_later_of ?_ ?_ _) | (with_reducible refine Below.alloc ?_ ?_ _) | (with_reducible refine Below.setCell ?_ ?_ _) | (with_reducible refine Below.drew ?_) | (simp; done) | (simp; omega) | omega)))) HN.out).mono ?_; rintro e w' ⟨a', cap', rfl, hs2, hn2, hb⟩; have HS2 := Lib.hid hs2; have HN2 := Lib.hid hn2; clear hs2 hn2; obtain ⟨pp, rfl⟩ := later_of_below hb; clear hb) | (go_at_call 42; refine (heightAt_any r _ _ x y z _ (by omega) (HS2.out.below (by (repeat' (first | with_reducible exact Below.refl _ _ | (with_reducible refine below_later_of ?_ ?_ _) | (with_reducible refine Below.alloc ?_ ?_ _) | (with_reducible refine Below.setCell ?_ ?_ _) | (with_reducible refine Below.drew ?_) | (simp; done) | (simp; omega) | omega)))) HH.out).mono ?_; rintro e w' ⟨rfl, hb⟩; obtain ⟨pp, rfl⟩ := later_of_below hb; clear hb))
      all_goals
        go_wp2_with fail
        go_meet
        exact ⟨rfl, rfl, (by (repeat' (first | with_reducible exact Below.refl _ _ | (with_reducible refine below_later_of ?_ ?_ _) | (with_reducible refine Below.alloc ?_ ?_ _) | (with_reducible refine Below.setCell ?_ ?_ _) | (with_reducible refine Below.drew ?_) | (simp; done) | (simp; omega) | omega)))⟩
    case rest =>
      obtain ⟨rfl, rfl, hb⟩ := hcut
      have kk := KK.out.below (by omega) hb
      have tt := TT.out.below hs5 hb
      have ii := II.out.below hs5' hb
      have hsd := hb.size
      have hbw := HB.out.trans (hb.mono hsw)
      have HS3 := Lib.hid (HS.out.below hbw)
      have HBW := Lib.hid hbw
      clear k0 k1 k2 k3 k4 k5 t0 t1 t2 i0 i1 KK TT II HS1 HB hbw hb
      obtain ⟨k0, k1, k2, k3, k4, k5⟩ := kk
      obtain ⟨t0, t1, t2⟩ := tt
      obtain ⟨i0, i1⟩ := ii
      by_cases hr : relErrP feB r = 0
      · rcases (show placeB x y z = false ∨ placeB x y z = true by cases placeB x y z <;> simp) with hp | hp
        · have hf : first2 (relErrP feB r) (checkPlaceP x y z) = 2 := by unfold first2 checkPlaceP; rw [hr, hp]; rfl
          have h1 := cellOfP_bad (r := r) (x := x) (y := y) (z := z) hf (by decide)
          have h2 := heightAtP_bad h1 (by decide)
          rw [HC.out] at h1
          rw [HH.out] at h2
          simp only [Prod.mk.injEq] at h1 h2
          obtain ⟨rfl, rfl, rfl⟩ := h1
          obtain ⟨rfl, rfl⟩ := h2
          have HCK := Lib.hid hr
          have HP := Lib.hid hp
          clear hr hp hf HC HH
          go_wp2_with (first | (go_at_call 43; refine (rCheckRelief_e r a cap _ HCK.out (by omega) (HS3.out.below (by (repeat' (first | with_reducible exact Below.refl _ _ | (with_reducible refine below_later_of ?_ ?_ _) | (with_reducible refine Below.alloc ?_ ?_ _) | (with_reducible refine Below.setCell ?_ ?_ _) | (with_reducible refine Below.drew ?_) | (simp; done) | (simp; omega) | omega))))).mono ?_; rintro e w' ⟨rfl, hb⟩; obtain ⟨pp, rfl⟩ := later_of_below hb; clear hb) | (go_at_call 33; refine (copy_any r a cap _ (by omega) (HS3.out.below (by (repeat' (first | with_reducible exact Below.refl _ _ | (with_reducible refine below_later_of ?_ ?_ _) | (with_reducible refine Below.alloc ?_ ?_ _) | (with_reducible refine Below.setCell ?_ ?_ _) | (with_reducible refine Below.drew ?_) | (simp; done) | (simp; omega) | omega)))) HN.out).mono ?_; rintro e w' ⟨a', cap', rfl, hs2, hn2, hb⟩; have HS2 := Lib.hid hs2; have HN2 := Lib.hid hn2; clear hs2 hn2; obtain ⟨pp, rfl⟩ := later_of_below hb; clear hb) | (go_at_call 44; refine (checkRelief_e r _ _ _ HCK.out (by omega) (HS2.out.below (by (repeat' (first | with_reducible exact Below.refl _ _ | (with_reducible refine below_later_of ?_ ?_ _) | (with_reducible refine Below.alloc ?_ ?_ _) | (with_reducible refine Below.setCell ?_ ?_ _) | (with_reducible refine Below.drew ?_) | (simp; done) | (simp; omega) | omega))))).mono ?_; rintro e w' ⟨rfl, hb⟩; obtain ⟨pp, rfl⟩ := later_of_below hb; clear hb) | (go_at_call 45; refine (rIsPlace x y z _ HP.out).mono ?_; rintro e w' ⟨rfl, hb⟩; obtain ⟨pp, rfl⟩ := later_of_below hb; clear hb))
          go_ret
          exact ⟨ret_bool (by simp), HBW.out.trans (below_mono_of (show w.heap.size ≤ wc.heap.size by omega) (by (repeat' (first | with_reducible exact Below.refl _ _ | (with_reducible refine below_later_of ?_ ?_ _) | (with_reducible refine Below.alloc ?_ ?_ _) | (with_reducible refine Below.setCell ?_ ?_ _) | (with_reducible refine Below.drew ?_) | (simp; done) | (simp; omega) | omega))))⟩
        · have HCK := Lib.hid hr
          have HP := Lib.hid hp
          clear hr hp
          go_wp2_with (first | (go_at_call 43; refine (rCheckRelief_e r a cap _ HCK.out (by omega) (HS3.out.below (by (repeat' (first | with_reducible exact Below.refl _ _ | (with_reducible refine below_later_of ?_ ?_ _) | (with_reducible refine Below.alloc ?_ ?_ _) | (with_reducible refine Below.setCell ?_ ?_ _) | (with_reducible refine Below.drew ?_) | (simp; done) | (simp; omega) | omega))))).mono ?_; rintro e w' ⟨rfl, hb⟩; obtain ⟨pp, rfl⟩ := later_of_below hb; clear hb) | (go_at_call 33; refine (copy_any r a cap _ (by omega) (HS3.out.below (by (repeat' (first | with_reducible exact Below.refl _ _ | (with_reducible refine below_later_of ?_ ?_ _) | (with_reducible refine Below.alloc ?_ ?_ _) | (with_reducible refine Below.setCell ?_ ?_ _) | (with_reducible refine Below.drew ?_) | (simp; done) | (simp; omega) | omega)))) HN.out).mono ?_; rintro e w' ⟨a', cap', rfl, hs2, hn2, hb⟩; have HS2 := Lib.hid hs2; have HN2 := Lib.hid hn2; clear hs2 hn2; obtain ⟨pp, rfl⟩ := later_of_below hb; clear hb) | (go_at_call 44; refine (checkRelief_e r _ _ _ HCK.out (by omega) (HS2.out.below (by (repeat' (first | with_reducible exact Below.refl _ _ | (with_reducible refine below_later_of ?_ ?_ _) | (with_reducible refine Below.alloc ?_ ?_ _) | (with_reducible refine Below.setCell ?_ ?_ _) | (with_reducible refine Below.drew ?_) | (simp; done) | (simp; omega) | omega))))).mono ?_; rintro e w' ⟨rfl, hb⟩; obtain ⟨pp, rfl⟩ := later_of_below hb; clear hb) | (go_at_call 45; refine (rIsPlace x y z _ HP.out).mono ?_; rintro e w' ⟨rfl, hb⟩; obtain ⟨pp, rfl⟩ := later_of_below hb; clear hb) | (go_at_call 46; refine (rCellOf r a cap x y z _ HCK.out HP.out HC.out).mono ?_; rintro e w' ⟨rfl, hb⟩; obtain ⟨pp, rfl⟩ := later_of_below hb; clear hb) | (go_at_call 47; refine (rHeightAt r a cap x y z _ (HS3.out.below (by (repeat' (first | with_reducible exact Below.refl _ _ | (with_reducible refine below_later_of ?_ ?_ _) | (with_reducible refine Below.alloc ?_ ?_ _) | (with_reducible refine Below.setCell ?_ ?_ _) | (with_reducible refine Below.drew ?_) | (simp; done) | (simp; omega) | omega)))) HCK.out HP.out HH.out).mono ?_; rintro e w' ⟨rfl, hb⟩; obtain ⟨pp, rfl⟩ := later_of_below hb; clear hb))
          go_ret
          exact ⟨ret_bool (by simp), HBW.out.trans (below_mono_of (show w.heap.size ≤ wc.heap.size by omega) (by (repeat' (first | with_reducible exact Below.refl _ _ | (with_reducible refine below_later_of ?_ ?_ _) | (with_reducible refine Below.alloc ?_ ?_ _) | (with_reducible refine Below.setCell ?_ ?_ _) | (with_reducible refine Below.drew ?_) | (simp; done) | (simp; omega) | omega))))⟩
      · obtain ⟨ce, hce⟩ : ∃ ce, relErrP feB r = ce := ⟨_, rfl⟩
        have hf : first2 (relErrP feB r) (checkPlaceP x y z) = ce := by unfold first2; rw [if_neg hr, hce]
        rw [hce] at hr
        have h1 := cellOfP_bad (r := r) (x := x) (y := y) (z := z) hf hr
        have h2 := heightAtP_bad h1 hr
        rw [HC.out] at h1
        rw [HH.out] at h2
        simp only [Prod.mk.injEq] at h1 h2
        obtain ⟨rfl, rfl, rfl⟩ := h1
        obtain ⟨rfl, rfl⟩ := h2
        have HCK := Lib.hid hce
        have hz : (e2 == 0) = false := by simpa using hr
        clear hr hf HC HH hce
        go_wp2_with (first | (go_at_call 43; refine (rCheckRelief_e r a cap _ HCK.out (by omega) (HS3.out.below (by (repeat' (first | with_reducible exact Below.refl _ _ | (with_reducible refine below_later_of ?_ ?_ _) | (with_reducible refine Below.alloc ?_ ?_ _) | (with_reducible refine Below.setCell ?_ ?_ _) | (with_reducible refine Below.drew ?_) | (simp; done) | (simp; omega) | omega))))).mono ?_; rintro e w' ⟨rfl, hb⟩; obtain ⟨pp, rfl⟩ := later_of_below hb; clear hb) | (go_at_call 33; refine (copy_any r a cap _ (by omega) (HS3.out.below (by (repeat' (first | with_reducible exact Below.refl _ _ | (with_reducible refine below_later_of ?_ ?_ _) | (with_reducible refine Below.alloc ?_ ?_ _) | (with_reducible refine Below.setCell ?_ ?_ _) | (with_reducible refine Below.drew ?_) | (simp; done) | (simp; omega) | omega)))) HN.out).mono ?_; rintro e w' ⟨a', cap', rfl, hs2, hn2, hb⟩; have HS2 := Lib.hid hs2; have HN2 := Lib.hid hn2; clear hs2 hn2; obtain ⟨pp, rfl⟩ := later_of_below hb; clear hb) | (go_at_call 44; refine (checkRelief_e r _ _ _ HCK.out (by omega) (HS2.out.below (by (repeat' (first | with_reducible exact Below.refl _ _ | (with_reducible refine below_later_of ?_ ?_ _) | (with_reducible refine Below.alloc ?_ ?_ _) | (with_reducible refine Below.setCell ?_ ?_ _) | (with_reducible refine Below.drew ?_) | (simp; done) | (simp; omega) | omega))))).mono ?_; rintro e w' ⟨rfl, hb⟩; obtain ⟨pp, rfl⟩ := later_of_below hb; clear hb))
        go_ret
        exact ⟨ret_bool (by simp), HBW.out.trans (below_mono_of (show w.heap.size ≤ wc.heap.size by omega) (by (repeat' (first | with_reducible exact Below.refl _ _ | (with_reducible refine below_later_of ?_ ?_ _) | (with_reducible refine Below.alloc ?_ ?_ _) | (with_reducible refine Below.setCell ?_ ?_ _) | (with_reducible refine Below.drew ?_) | (simp; done) | (simp; omega) | omega))))⟩
theorem greliefs_any (r : Rel) (a : Option Addr) (cap : Nat) (x y z : Int) (w : World) (hs : SrcAt w a r.ds) (hn : a = none → cap = 0) :
    Calls Try.prog 7 #[.agg #[.int .i64 r.x, .int .i64 r.y, .int .i64 r.cell, .int .i64 r.rows, .int .i64 r.cols, .slice a r.ds.length cap], .agg #[.int .i64 x, .int .i64 y, .int .i64 z]] w fun e w' => e = .returned (.bool true) ∧ Below w.heap.size w w' := by
  by_cases hl : r.ds.length ≤ 80
  · exact greliefs_few r a cap x y z w hl hs hn
  · exact greliefs_many r a cap x y z w hl
end Go.Proofs.Ytokpdmlmlkkekaa
