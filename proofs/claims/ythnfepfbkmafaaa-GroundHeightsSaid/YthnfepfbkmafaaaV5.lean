/- The law GroundHeights returns true. -/
import Derived.Test.YthnfepfbkmafaaaV3
import Derived.Test.YthnfepfbkmafaaaV4
import Derived.Test.YthnfepfbkmafaaaM3
import Derived.Test.YthnfepfbkmafaaaZO
import Derived.Deep.CutRange
import Derived.Deep.RegionHeld3
namespace Go.Proofs.Ythnfepfbkmafaaa
set_option linter.unusedVariables false
open Go.RowKit
theorem heightsIn_any (r : Rel) (a : Option Addr) (cap : Nat) (q : Bx) (w : World) (hl : r.ds.length ≤ 1000000000) (ha : SrcAt w a r.ds) {lo hi e0 : Int} (hr : rangeP r q = (lo, hi, e0)) :
    Calls Try.prog 66 #[.agg #[.int .i64 r.x, .int .i64 r.y, .int .i64 r.cell, .int .i64 r.rows, .int .i64 r.cols, .slice a r.ds.length cap], .agg #[.int .i64 q.x1, .int .i64 q.x2, .int .i64 q.y1, .int .i64 q.y2]] w fun e w' => e = .returned (.tuple #[.agg #[.int .i64 lo, .int .i64 hi], .int .i64 e0]) ∧ Below w.heap.size w w' := by
  unfold rangeP at hr
  by_cases h0 : first2 (relErrP feB r) (boxErrP q) = 0
  · rw [if_pos h0] at hr
    have h1 : relErrP feB r = 0 ∧ boxErrP q = 0 := by
      unfold first2 at h0
      split at h0
      · rename_i h1; exact ⟨h1, h0⟩
      · contradiction
    rcases (show inGridB r q = false ∨ inGridB r q = true by cases inGridB r q <;> simp) with hg | hg
    · rw [hg] at hr
      simp only [Bool.false_eq_true, if_false, Prod.mk.injEq] at hr
      obtain ⟨rfl, rfl, rfl⟩ := hr
      exact heightsIn_out r a cap q w hl ha h0 (relErrP_ok h1.1).1 (boxErrP_ok h1.2) hg
    · rw [hg] at hr
      simp only [if_true, Prod.mk.injEq] at hr
      obtain ⟨rfl, rfl, rfl⟩ := hr
      have hpos : 0 < r.ds.length := by
        have o := (relErrP_ok h1.1).1
        have h1 := o.len
        have : 1 * 1 ≤ r.rows * r.cols := Int.mul_le_mul o.r1 o.l1 (by omega) (by have := o.r1; omega)
        omega
      obtain ⟨b, off, rfl, hbw, hf⟩ := ha hpos
      exact heightsIn_in r b off cap q w hl h1.1 h1.2 hbw hf hg
  · rw [if_neg h0] at hr
    simp only [Prod.mk.injEq] at hr
    obtain ⟨rfl, rfl, rfl⟩ := hr
    exact heightsIn_err r a cap q w hl ha rfl h0
/-- A place of the box has a height that lies among those of the box. -/
theorem range_has {r : Rel} {q : Bx} (hr : relErrP feB r = 0) (hq : boxErrP q = 0) (hg : inGridB r q = true) {x y : Int} (x1 : q.x1 ≤ x) (x2 : x ≤ q.x2) (y1 : q.y1 ≤ y) (y2 : y ≤ q.y2) :
    ∃ h, heightAtP r x y 0 = (h, 0) ∧ (gridP r q).1 ≤ h ∧ h ≤ (gridP r q).2 := by
  have o := (relErrP_ok hr).1
  have c1 := o.c1
  obtain ⟨x1a, x1b, x2a, x2b, y1a, y1b, y2a, y2b, xo, yo⟩ := boxErrP_ok hq
  unfold inGridB at hg
  rw [Bool.and_eq_true] at hg
  obtain ⟨⟨u1, u2⟩, u3, u4⟩ := hasCellB_iff.1 hg.1
  obtain ⟨⟨v1, v2⟩, v3, v4⟩ := hasCellB_iff.1 hg.2
  have m1 : rowP r q.y1 ≤ rowP r y := div_mono (by omega) c1
  have m2 : rowP r y ≤ rowP r q.y2 := div_mono (by omega) c1
  have m3 : colP r q.x1 ≤ colP r x := div_mono (by omega) c1
  have m4 : colP r x ≤ colP r q.x2 := div_mono (by omega) c1
  have hp : placeB x y 0 = true := placeB_iff.2 ⟨⟨by omega, by omega⟩, ⟨by omega, by omega⟩, by omega, by omega⟩
  have hc : cellOfP r x y 0 = (rowP r y, colP r x, 0) := by
    rw [cellOfP_right hr hp, if_pos (hasCellB_iff.2 ⟨⟨by omega, by omega⟩, by omega, by omega⟩)]
  refine ⟨hAt r (rowP r y) (colP r x), ?_, ?_⟩
  · unfold heightAtP hAt
    rw [hc]; rfl
  · have := @rngGrid_in r (rowP r q.y1) (colP r q.x1) (ncolP r q) (nrowP r q) (rowP r y - rowP r q.y1).toNat (colP r x - colP r q.x1).toNat (by unfold nrowP; omega) (by unfold ncolP; omega)
    rw [show rowP r q.y1 + ((rowP r y - rowP r q.y1).toNat : Int) = rowP r y by omega, show colP r q.x1 + ((colP r x - colP r q.x1).toNat : Int) = colP r x by omega] at this
    exact this
theorem insideP_in {lo hi n : Int} (h : lo ≤ hi) : lo ≤ insideP lo hi n ∧ insideP lo hi n ≤ hi := by
  have h1 := Int.emod_nonneg n (show hi - lo + 1 ≠ 0 by omega)
  have h2 := Int.emod_lt_of_pos n (show 0 < hi - lo + 1 by omega)
  unfold insideP; omega
/-- Block B holds a query. -/
def QryBlk (w : World) (B : Nat) (q : Bx) (a0 a1 a2 : Int) : Prop := w.cell? ⟨B, 0, none⟩ = some (.int .i64 q.x1) ∧ w.cell? ⟨B, 1, none⟩ = some (.int .i64 q.x2) ∧ w.cell? ⟨B, 2, none⟩ = some (.int .i64 q.y1) ∧ w.cell? ⟨B, 3, none⟩ = some (.int .i64 q.y2) ∧ w.cell? ⟨B, 4, none⟩ = some (.int .i64 a0) ∧ w.cell? ⟨B, 5, none⟩ = some (.int .i64 a1) ∧ w.cell? ⟨B, 6, none⟩ = some (.int .i64 a2)
theorem QryBlk.below {w w' : World} {B C : Nat} {q : Bx} {a0 a1 a2 : Int} (h : QryBlk w B q a0 a1 a2) (hB : B < C) (hw : Below C w w') : QryBlk w' B q a0 a1 a2 := by
  obtain ⟨h0, h1, h2, h3, h4, h5, h6⟩ := h
  exact ⟨(hw.cell hB).trans h0, (hw.cell hB).trans h1, (hw.cell hB).trans h2, (hw.cell hB).trans h3, (hw.cell hB).trans h4, (hw.cell hB).trans h5, (hw.cell hB).trans h6⟩
set_option maxRecDepth 20000 in
set_option maxHeartbeats 1000000 in
theorem gheights_many (r : Rel) (a : Option Addr) (cap : Nat) (q : Bx) (a0 a1 a2 : Int) (w : World) (hl : ¬ r.ds.length ≤ 80) :
    Calls Try.prog 14 #[.agg #[.int .i64 r.x, .int .i64 r.y, .int .i64 r.cell, .int .i64 r.rows, .int .i64 r.cols, .slice a r.ds.length cap], .agg #[.int .i64 q.x1, .int .i64 q.x2, .int .i64 q.y1, .int .i64 q.y2, .int .i64 a0, .int .i64 a1, .int .i64 a2]] w fun e w' => e = .returned (.bool true) ∧ Below w.heap.size w w' := by
  have HFW := Lib.hid (show decide (r.ds.length ≤ 80) = false by simpa using hl)
  clear hl
  go_enter Try.func14, Try.ntmps14
  go_wp2_with (first | (go_at_call 16; refine (awake_any _).mono ?_; rintro e w' ⟨rfl, hb⟩; obtain ⟨pp, rfl⟩ := later_of_below hb; clear hb) | (go_at_call 29; refine (few_any r a cap _ HFW.out).mono ?_; rintro e w' ⟨rfl, hb⟩; obtain ⟨pp, rfl⟩ := later_of_below hb; clear hb))
  go_ret
  exact ⟨rfl, (by (repeat' (first | with_reducible exact Below.refl _ _ | (with_reducible refine below_later_of ?_ ?_ _) | (with_reducible refine Below.alloc ?_ ?_ _) | (with_reducible refine Below.setCell ?_ ?_ _) | (with_reducible refine Below.drew ?_) | (simp; done) | (simp; omega) | omega)))⟩
set_option maxRecDepth 20000 in
set_option maxHeartbeats 8000000 in
theorem gheights_few (r : Rel) (a : Option Addr) (cap : Nat) (q : Bx) (a0 a1 a2 : Int) (w : World) (hl : r.ds.length ≤ 80) (hs : SrcAt w a r.ds) (hn : a = none → cap = 0) (i0 : I64 a0) (i1 : I64 a1) :
    Calls Try.prog 14 #[.agg #[.int .i64 r.x, .int .i64 r.y, .int .i64 r.cell, .int .i64 r.rows, .int .i64 r.cols, .slice a r.ds.length cap], .agg #[.int .i64 q.x1, .int .i64 q.x2, .int .i64 q.y1, .int .i64 q.y2, .int .i64 a0, .int .i64 a1, .int .i64 a2]] w fun e w' => e = .returned (.bool true) ∧ Below w.heap.size w w' := by
  have HFW := Lib.hid (show decide (r.ds.length ≤ 80) = true by simpa using hl)
  have HS0 := Lib.hid hs
  have HN := Lib.hid hn
  obtain ⟨lo, hi, e1, hr0⟩ : ∃ lo hi e1, rangeP r q = (lo, hi, e1) := ⟨_, _, _, rfl⟩
  have HR := Lib.hid hr0
  have HI := Lib.hid (And.intro i0 i1)
  clear hs hn hr0 i0 i1
  go_enter Try.func14, Try.ntmps14
  go_wp2_with (first | (go_at_call 16; refine (awake_any _).mono ?_; rintro e w' ⟨rfl, hb⟩; obtain ⟨pp, rfl⟩ := later_of_below hb; clear hb) | (go_at_call 29; refine (few_any r a cap _ HFW.out).mono ?_; rintro e w' ⟨rfl, hb⟩; obtain ⟨pp, rfl⟩ := later_of_below hb; clear hb))
  refine wp_world (fun W => RelBlk W w.heap.size r a cap ∧ QryBlk W (w.heap.size + 1) q a0 a1 a2 ∧ Below w.heap.size w W ∧ w.heap.size + 1 < W.heap.size) ⟨⟨(by (first | (simp [go_sem]; done) | simp [go_sem, ↓IntWalk.iteOmega])), (by (first | (simp [go_sem]; done) | simp [go_sem, ↓IntWalk.iteOmega])), (by (first | (simp [go_sem]; done) | simp [go_sem, ↓IntWalk.iteOmega])), (by (first | (simp [go_sem]; done) | simp [go_sem, ↓IntWalk.iteOmega])), (by (first | (simp [go_sem]; done) | simp [go_sem, ↓IntWalk.iteOmega])), (by (first | (simp [go_sem]; done) | simp [go_sem, ↓IntWalk.iteOmega]))⟩, ⟨(by (first | (simp [go_sem]; done) | simp [go_sem, ↓IntWalk.iteOmega])), (by (first | (simp [go_sem]; done) | simp [go_sem, ↓IntWalk.iteOmega])), (by (first | (simp [go_sem]; done) | simp [go_sem, ↓IntWalk.iteOmega])), (by (first | (simp [go_sem]; done) | simp [go_sem, ↓IntWalk.iteOmega])), (by (first | (simp [go_sem]; done) | simp [go_sem, ↓IntWalk.iteOmega])), (by (first | (simp [go_sem]; done) | simp [go_sem, ↓IntWalk.iteOmega])), (by (first | (simp [go_sem]; done) | simp [go_sem, ↓IntWalk.iteOmega]))⟩, (by (repeat' (first | with_reducible exact Below.refl _ _ | (with_reducible refine below_later_of ?_ ?_ _) | (with_reducible refine Below.alloc ?_ ?_ _) | (with_reducible refine Below.setCell ?_ ?_ _) | (with_reducible refine Below.drew ?_) | (simp; done) | (simp; omega) | omega))), by (simp <;> omega)⟩ ?_
  rintro W2 ⟨kk, tt, hb, hs5⟩
  have HBW0 := Lib.hid hb
  have HS := Lib.hid (HS0.out.below hb)
  have HALL := Lib.hid (show ∀ w', Below W2.heap.size W2 w' → (fun w' => w'.cell? ⟨w.heap.size, 0, none⟩ = some (.int .i64 r.x) ∧ w'.cell? ⟨w.heap.size, 1, none⟩ = some (.int .i64 r.y) ∧ w'.cell? ⟨w.heap.size, 2, none⟩ = some (.int .i64 r.cell) ∧ w'.cell? ⟨w.heap.size, 3, none⟩ = some (.int .i64 r.rows) ∧ w'.cell? ⟨w.heap.size, 4, none⟩ = some (.int .i64 r.cols) ∧ w'.cell? ⟨w.heap.size, 5, none⟩ = some (.slice a r.ds.length cap) ∧ w'.cell? ⟨w.heap.size + 1, 0, none⟩ = some (.int .i64 q.x1) ∧ w'.cell? ⟨w.heap.size + 1, 1, none⟩ = some (.int .i64 q.x2) ∧ w'.cell? ⟨w.heap.size + 1, 2, none⟩ = some (.int .i64 q.y1) ∧ w'.cell? ⟨w.heap.size + 1, 3, none⟩ = some (.int .i64 q.y2) ∧ w'.cell? ⟨w.heap.size + 1, 4, none⟩ = some (.int .i64 a0) ∧ w'.cell? ⟨w.heap.size + 1, 5, none⟩ = some (.int .i64 a1) ∧ w'.cell? ⟨w.heap.size + 1, 6, none⟩ = some (.int .i64 a2)) w' from fun w' hb' => by
    obtain ⟨k0, k1, k2, k3, k4, k5⟩ := kk.below (show w.heap.size < W2.heap.size by omega) hb'
    obtain ⟨t0, t1, t2, t3, t4, t5, t6⟩ := tt.below (show w.heap.size + 1 < W2.heap.size by omega) hb'
    exact ⟨k0, k1, k2, k3, k4, k5, t0, t1, t2, t3, t4, t5, t6⟩)
  clear tt kk hb
  go_wp2_with fail
  go_cut [5, 6] from 16 to 23 (fun X Y wx => ∃ B5, X = .pointer (some ⟨B5, 0, none⟩) ∧ Y = .int .i64 e1 ∧ TwoBlk wx B5 lo hi ∧ Below W2.heap.size W2 wx ∧ B5 < wx.heap.size)
  case first =>
    go_region_held3 (fun w' => w'.cell? ⟨w.heap.size, 0, none⟩ = some (.int .i64 r.x) ∧ w'.cell? ⟨w.heap.size, 1, none⟩ = some (.int .i64 r.y) ∧ w'.cell? ⟨w.heap.size, 2, none⟩ = some (.int .i64 r.cell) ∧ w'.cell? ⟨w.heap.size, 3, none⟩ = some (.int .i64 r.rows) ∧ w'.cell? ⟨w.heap.size, 4, none⟩ = some (.int .i64 r.cols) ∧ w'.cell? ⟨w.heap.size, 5, none⟩ = some (.slice a r.ds.length cap) ∧ w'.cell? ⟨w.heap.size + 1, 0, none⟩ = some (.int .i64 q.x1) ∧ w'.cell? ⟨w.heap.size + 1, 1, none⟩ = some (.int .i64 q.x2) ∧ w'.cell? ⟨w.heap.size + 1, 2, none⟩ = some (.int .i64 q.y1) ∧ w'.cell? ⟨w.heap.size + 1, 3, none⟩ = some (.int .i64 q.y2) ∧ w'.cell? ⟨w.heap.size + 1, 4, none⟩ = some (.int .i64 a0) ∧ w'.cell? ⟨w.heap.size + 1, 5, none⟩ = some (.int .i64 a1) ∧ w'.cell? ⟨w.heap.size + 1, 6, none⟩ = some (.int .i64 a2)) (exact HALL.out _ (by (repeat' (first | with_reducible exact Below.refl _ _ | (with_reducible refine below_later_of ?_ ?_ _) | (with_reducible refine Below.alloc ?_ ?_ _) | (with_reducible refine Below.setCell ?_ ?_ _) | (with_reducible refine Below.drew ?_) | (simp; done) | (simp; omega) | omega)))) (first | (go_at_call 31; refine (copy_any r _ cap _ (by omega) (HS.out.below (by (repeat' (first | with_reducible exact Below.refl _ _ | (with_reducible refine below_later_of ?_ ?_ _) | (with_reducible refine Below.alloc ?_ ?_ _) | (with_reducible refine Below.setCell ?_ ?_ _) | (with_reducible refine Below.drew ?_) | (simp; done) | (simp; omega) | omega)))) HN.out).mono ?_; rintro e w' ⟨a', cap', rfl, hs2, hn2, hb⟩; have HS2 := Lib.hid hs2; have HN2 := Lib.hid hn2; clear hs2 hn2; obtain ⟨pp, rfl⟩ := later_of_below hb; clear hb) | (go_at_call 66; refine (heightsIn_any r _ _ q _ (by omega) (HS2.out.below' (by (repeat' (first | with_reducible exact Below.refl _ _ | (with_reducible refine below_later_of ?_ ?_ _) | (with_reducible refine Below.alloc ?_ ?_ _) | (with_reducible refine Below.setCell ?_ ?_ _) | (with_reducible refine Below.drew ?_) | (simp; done) | (simp; omega) | omega)))) HR.out).mono ?_; rintro e w' ⟨rfl, hb⟩; obtain ⟨pp, rfl⟩ := later_of_below hb; clear hb))
    all_goals
      go_wp2_with fail
      go_meet
      exact ⟨_, rfl, rfl, ⟨(by (first | (simp [go_sem]; done) | simp [go_sem, ↓IntWalk.iteOmega])), (by (first | (simp [go_sem]; done) | simp [go_sem, ↓IntWalk.iteOmega]))⟩, (by (repeat' (first | with_reducible exact Below.refl _ _ | (with_reducible refine below_later_of ?_ ?_ _) | (with_reducible refine Below.alloc ?_ ?_ _) | (with_reducible refine Below.setCell ?_ ?_ _) | (with_reducible refine Below.drew ?_) | (simp; done) | (simp; omega) | omega))), by (simp <;> omega)⟩
  case rest =>
    obtain ⟨B5, rfl, rfl, ⟨b0, b1⟩, hb, hs5'⟩ := hcut
    have HS3 := Lib.hid (HS.out.below hb)
    have hsz := hb.size
    have HBW := Lib.hid (HBW0.out.trans (hb.mono (by omega)))
    have HB := Lib.hid hb
    obtain ⟨k0, k1, k2, k3, k4, k5, t0, t1, t2, t3, t4, t5, t6⟩ := HALL.out wc hb
    clear hb HS HBW0
    have HR' := HR.out
    unfold rangeP at HR'
    by_cases hr : relErrP feB r = 0
    · have HCK := Lib.hid hr
      by_cases hq : boxErrP q = 0
      · have HBE := Lib.hid hq
        have O := Lib.hid (relErrP_ok hr).1
        have OQ := Lib.hid (boxErrP_ok hq)
        rw [if_pos (show first2 (relErrP feB r) (boxErrP q) = 0 by unfold first2; rw [hr, hq]; rfl)] at HR'
        rcases (show inGridB r q = false ∨ inGridB r q = true by cases inGridB r q <;> simp) with hg | hg
        · rw [hg] at HR'
          simp only [Bool.false_eq_true, if_false, Prod.mk.injEq] at HR'
          obtain ⟨rfl, rfl, rfl⟩ := HR'
          have HG := Lib.hid hg
          clear hr hq hg
          go_wp2_with (first | (go_at_call 41; refine (rCheckRelief_e r _ cap _ HCK.out (by omega) (HS3.out.below (by (repeat' (first | with_reducible exact Below.refl _ _ | (with_reducible refine below_later_of ?_ ?_ _) | (with_reducible refine Below.alloc ?_ ?_ _) | (with_reducible refine Below.setCell ?_ ?_ _) | (with_reducible refine Below.drew ?_) | (simp; done) | (simp; omega) | omega))))).mono ?_; rintro e w' ⟨rfl, hb⟩; obtain ⟨pp, rfl⟩ := later_of_below hb; clear hb) | (go_at_call 61; refine (rBoxErr q _ HBE.out).mono ?_; rintro e w' ⟨rfl, hb⟩; obtain ⟨pp, rfl⟩ := later_of_below hb; clear hb) | (go_at_call 67; refine (rHeightsIn_out r _ cap q _ O.out OQ.out HG.out).mono ?_; rintro e w' ⟨rfl, hb⟩; obtain ⟨pp, rfl⟩ := later_of_below hb; clear hb))
          (go_ret; exact ⟨ret_bool (by simp), HBW.out.trans (below_mono_of (show w.heap.size ≤ wc.heap.size by omega) (by (repeat' (first | with_reducible exact Below.refl _ _ | (with_reducible refine below_later_of ?_ ?_ _) | (with_reducible refine Below.alloc ?_ ?_ _) | (with_reducible refine Below.setCell ?_ ?_ _) | (with_reducible refine Below.drew ?_) | (simp; done) | (simp; omega) | omega))))⟩)
        · rw [hg] at HR'
          simp only [if_true, Prod.mk.injEq] at HR'
          obtain ⟨h1, h2, rfl⟩ := HR'
          have HG := Lib.hid hg
          obtain ⟨b, off, rfl, hbw3, hfc⟩ := HS3.out (rel_pos hr)
          have HFC := Lib.hid hfc
          subst h1 h2
          obtain ⟨x1a, x1b, x2a, x2b, y1a, y1b, y2a, y2b, xo, yo⟩ := boxErrP_ok hq
          obtain ⟨⟨i00, i01⟩, i10, i11⟩ := HI.out
          obtain ⟨j1, j2⟩ := insideP_in (n := a0) xo
          obtain ⟨j3, j4⟩ := insideP_in (n := a1) yo
          obtain ⟨h, hh, l1, l2⟩ := range_has hr hq hg j1 j2 j3 j4
          have HH := Lib.hid hh
          have HW := Lib.hid (show inR (gridP r q).1 (gridP r q).2 h = true from inR_iff.2 ⟨l1, l2⟩)
          have HIN1 := Lib.hid (show ∀ w2, Calls Try.prog 63 #[.agg #[.int .i64 q.x1, .int .i64 q.x2], .int .i64 a0] w2 fun e w' => e = .returned (.int .i64 (insideP q.x1 q.x2 a0)) ∧ Below w2.heap.size w2 w' from fun w2 => lInside _ _ _ w2 (by omega) (by omega) (by omega) i00 i01)
          have HIN2 := Lib.hid (show ∀ w2, Calls Try.prog 63 #[.agg #[.int .i64 q.y1, .int .i64 q.y2], .int .i64 a1] w2 fun e w' => e = .returned (.int .i64 (insideP q.y1 q.y2 a1)) ∧ Below w2.heap.size w2 w' from fun w2 => lInside _ _ _ w2 (by omega) (by omega) (by omega) i10 i11)
          have HRI := Lib.hid (show ∀ w2, Below wc.heap.size wc w2 → Calls Try.prog 67 #[.agg #[.int .i64 r.x, .int .i64 r.y, .int .i64 r.cell, .int .i64 r.rows, .int .i64 r.cols, .slice (some ⟨b, off, none⟩) r.ds.length cap], .agg #[.int .i64 q.x1, .int .i64 q.x2, .int .i64 q.y1, .int .i64 q.y2]] w2 fun e w' => e = .returned (.tuple #[.agg #[.int .i64 (gridP r q).1, .int .i64 (gridP r q).2], .int .i64 0]) ∧ Below w2.heap.size w2 w' from fun w2 hb => rHeightsIn_in r b off cap q w2 hr hq (Nat.lt_of_lt_of_le hbw3 hb.size) (hfc.below hbw3 hb) hg)
          have HS := Lib.hid HS3.out
          generalize insideP q.x1 q.x2 a0 = px at *
          generalize insideP q.y1 q.y2 a1 = py at *
          generalize (gridP r q).1 = lo at *
          generalize (gridP r q).2 = hi at *
          clear hr hq hg hh hfc j1 j2 j3 j4 l1 l2
          obtain ⟨wd, hwd⟩ : ∃ wd : World, wd = wc := ⟨_, rfl⟩
          subst hwd
          go_wp2_with (first | (go_at_call 41; refine (rCheckRelief_e r _ cap _ HCK.out (by omega) (HS3.out.below (by (repeat' (first | with_reducible exact Below.refl _ _ | (with_reducible refine below_later_of ?_ ?_ _) | (with_reducible refine Below.alloc ?_ ?_ _) | (with_reducible refine Below.setCell ?_ ?_ _) | (with_reducible refine Below.drew ?_) | (simp; done) | (simp; omega) | omega))))).mono ?_; rintro e w' ⟨rfl, hb⟩; obtain ⟨pp, rfl⟩ := later_of_below hb; clear hb) | (go_at_call 61; refine (rBoxErr q _ HBE.out).mono ?_; rintro e w' ⟨rfl, hb⟩; obtain ⟨pp, rfl⟩ := later_of_below hb; clear hb) | (go_at_call 67; refine (HRI.out _ (by (repeat' (first | with_reducible exact Below.refl _ _ | (with_reducible refine below_later_of ?_ ?_ _) | (with_reducible refine Below.alloc ?_ ?_ _) | (with_reducible refine Below.setCell ?_ ?_ _) | (with_reducible refine Below.drew ?_) | (simp; done) | (simp; omega) | omega)))).mono ?_; rintro e w' ⟨rfl, hb⟩; obtain ⟨pp, rfl⟩ := later_of_below hb; clear hb))
          go_cut [9, 10] from 50 to 70 (fun X Y wx => X = .int .i64 h ∧ Y = .int .i64 0 ∧ TwoBlk wx B5 lo hi ∧ Below wd.heap.size wd wx)
          case first =>
            go_region_held3 (fun w' => w'.cell? ⟨w.heap.size, 0, none⟩ = some (.int .i64 r.x) ∧ w'.cell? ⟨w.heap.size, 1, none⟩ = some (.int .i64 r.y) ∧ w'.cell? ⟨w.heap.size, 2, none⟩ = some (.int .i64 r.cell) ∧ w'.cell? ⟨w.heap.size, 3, none⟩ = some (.int .i64 r.rows) ∧ w'.cell? ⟨w.heap.size, 4, none⟩ = some (.int .i64 r.cols) ∧ w'.cell? ⟨w.heap.size, 5, none⟩ = some (.slice (some ⟨b, off, none⟩) r.ds.length cap) ∧ w'.cell? ⟨w.heap.size + 1, 0, none⟩ = some (.int .i64 q.x1) ∧ w'.cell? ⟨w.heap.size + 1, 1, none⟩ = some (.int .i64 q.x2) ∧ w'.cell? ⟨w.heap.size + 1, 2, none⟩ = some (.int .i64 q.y1) ∧ w'.cell? ⟨w.heap.size + 1, 3, none⟩ = some (.int .i64 q.y2) ∧ w'.cell? ⟨w.heap.size + 1, 4, none⟩ = some (.int .i64 a0) ∧ w'.cell? ⟨w.heap.size + 1, 5, none⟩ = some (.int .i64 a1) ∧ w'.cell? ⟨w.heap.size + 1, 6, none⟩ = some (.int .i64 a2)) (exact HALL.out _ (HB.out.trans (below_mono_of hsz (by (repeat' (first | with_reducible exact Below.refl _ _ | (with_reducible refine below_later_of ?_ ?_ _) | (with_reducible refine Below.alloc ?_ ?_ _) | (with_reducible refine Below.setCell ?_ ?_ _) | (with_reducible refine Below.drew ?_) | (simp; done) | (simp; omega) | omega)))))) (first | (go_at_call 31; refine (copy_any r _ cap _ (by omega) (HS.out.below (by (repeat' (first | with_reducible exact Below.refl _ _ | (with_reducible refine below_later_of ?_ ?_ _) | (with_reducible refine Below.alloc ?_ ?_ _) | (with_reducible refine Below.setCell ?_ ?_ _) | (with_reducible refine Below.drew ?_) | (simp; done) | (simp; omega) | omega)))) HN.out).mono ?_; rintro e w' ⟨a', cap', rfl, hs2, hn2, hb⟩; have HS2 := Lib.hid hs2; have HN2 := Lib.hid hn2; clear hs2 hn2; obtain ⟨pp, rfl⟩ := later_of_below hb; clear hb) | (go_at_call 63; (with_reducible refine (HIN1.out _).mono ?_); rintro e w' ⟨rfl, hb⟩; obtain ⟨pp, rfl⟩ := later_of_below hb; clear hb) | (go_at_call 63; (with_reducible refine (HIN2.out _).mono ?_); rintro e w' ⟨rfl, hb⟩; obtain ⟨pp, rfl⟩ := later_of_below hb; clear hb) | (go_at_call 40; refine (heightAt_any r _ _ px py 0 _ (by omega) (HS2.out.below (by (repeat' (first | with_reducible exact Below.refl _ _ | (with_reducible refine below_later_of ?_ ?_ _) | (with_reducible refine Below.alloc ?_ ?_ _) | (with_reducible refine Below.setCell ?_ ?_ _) | (with_reducible refine Below.drew ?_) | (simp; done) | (simp; omega) | omega)))) HH.out).mono ?_; rintro e w' ⟨rfl, hb⟩; obtain ⟨pp, rfl⟩ := later_of_below hb; clear hb))
            all_goals
              go_wp2_with fail
              go_meet
              exact ⟨rfl, rfl, TwoBlk.below ⟨b0, b1⟩ hs5' (by (repeat' (first | with_reducible exact Below.refl _ _ | (with_reducible refine below_later_of ?_ ?_ _) | (with_reducible refine Below.alloc ?_ ?_ _) | (with_reducible refine Below.setCell ?_ ?_ _) | (with_reducible refine Below.drew ?_) | (simp; done) | (simp; omega) | omega))), (by (repeat' (first | with_reducible exact Below.refl _ _ | (with_reducible refine below_later_of ?_ ?_ _) | (with_reducible refine Below.alloc ?_ ?_ _) | (with_reducible refine Below.setCell ?_ ?_ _) | (with_reducible refine Below.drew ?_) | (simp; done) | (simp; omega) | omega)))⟩
          case rest =>
            obtain ⟨rfl, rfl, ⟨d0, d1⟩, hb⟩ := hcut
            have HBZ := Lib.hid (HBW.out.trans (hb.mono (by omega)))
            have hszz := hb.size
            clear hb
            go_wp2_with (first | (go_at_call 34; (with_reducible refine (bWithin h lo hi _ HW.out).mono ?_); rintro e w' ⟨rfl, rfl⟩))
            go_ret
            exact ⟨ret_bool (by simp), HBZ.out.trans (below_mono_of (show w.heap.size ≤ wc.heap.size by omega) (by (repeat' (first | with_reducible exact Below.refl _ _ | (with_reducible refine below_later_of ?_ ?_ _) | (with_reducible refine Below.alloc ?_ ?_ _) | (with_reducible refine Below.setCell ?_ ?_ _) | (with_reducible refine Below.drew ?_) | (simp; done) | (simp; omega) | omega))))⟩
      · obtain ⟨be, hbe⟩ : ∃ be, boxErrP q = be := ⟨_, rfl⟩
        have hf : first2 (relErrP feB r) (boxErrP q) = be := by unfold first2; rw [if_pos hr, hbe]
        rw [hbe] at hq
        rw [hf, if_neg hq] at HR'
        simp only [Prod.mk.injEq] at HR'
        obtain ⟨rfl, rfl, rfl⟩ := HR'
        have HBE := Lib.hid hbe
        have hz : (be == 0) = false := by simpa using hq
        have hz1 : (be != 0) = true := by simpa using hq
        clear hr hf hbe
        go_wp2_with (first | (go_at_call 41; refine (rCheckRelief_e r _ cap _ HCK.out (by omega) (HS3.out.below (by (repeat' (first | with_reducible exact Below.refl _ _ | (with_reducible refine below_later_of ?_ ?_ _) | (with_reducible refine Below.alloc ?_ ?_ _) | (with_reducible refine Below.setCell ?_ ?_ _) | (with_reducible refine Below.drew ?_) | (simp; done) | (simp; omega) | omega))))).mono ?_; rintro e w' ⟨rfl, hb⟩; obtain ⟨pp, rfl⟩ := later_of_below hb; clear hb) | (go_at_call 61; refine (rBoxErr q _ HBE.out).mono ?_; rintro e w' ⟨rfl, hb⟩; obtain ⟨pp, rfl⟩ := later_of_below hb; clear hb))
        (go_ret; exact ⟨ret_bool (by simp), HBW.out.trans (below_mono_of (show w.heap.size ≤ wc.heap.size by omega) (by (repeat' (first | with_reducible exact Below.refl _ _ | (with_reducible refine below_later_of ?_ ?_ _) | (with_reducible refine Below.alloc ?_ ?_ _) | (with_reducible refine Below.setCell ?_ ?_ _) | (with_reducible refine Below.drew ?_) | (simp; done) | (simp; omega) | omega))))⟩)
    · obtain ⟨ce, hce⟩ : ∃ ce, relErrP feB r = ce := ⟨_, rfl⟩
      have hf : first2 (relErrP feB r) (boxErrP q) = ce := by unfold first2; rw [if_neg hr, hce]
      rw [hce] at hr
      rw [hf, if_neg hr] at HR'
      simp only [Prod.mk.injEq] at HR'
      obtain ⟨rfl, rfl, rfl⟩ := HR'
      have HCK := Lib.hid hce
      have hz : (ce == 0) = false := by simpa using hr
      have hz1 : (ce != 0) = true := by simpa using hr
      clear hf hce
      go_wp2_with (first | (go_at_call 41; refine (rCheckRelief_e r _ cap _ HCK.out (by omega) (HS3.out.below (by (repeat' (first | with_reducible exact Below.refl _ _ | (with_reducible refine below_later_of ?_ ?_ _) | (with_reducible refine Below.alloc ?_ ?_ _) | (with_reducible refine Below.setCell ?_ ?_ _) | (with_reducible refine Below.drew ?_) | (simp; done) | (simp; omega) | omega))))).mono ?_; rintro e w' ⟨rfl, hb⟩; obtain ⟨pp, rfl⟩ := later_of_below hb; clear hb))
      (go_ret; exact ⟨ret_bool (by simp), HBW.out.trans (below_mono_of (show w.heap.size ≤ wc.heap.size by omega) (by (repeat' (first | with_reducible exact Below.refl _ _ | (with_reducible refine below_later_of ?_ ?_ _) | (with_reducible refine Below.alloc ?_ ?_ _) | (with_reducible refine Below.setCell ?_ ?_ _) | (with_reducible refine Below.drew ?_) | (simp; done) | (simp; omega) | omega))))⟩)
theorem gheights_any (r : Rel) (a : Option Addr) (cap : Nat) (q : Bx) (a0 a1 a2 : Int) (w : World) (hs : SrcAt w a r.ds) (hn : a = none → cap = 0) (i0 : I64 a0) (i1 : I64 a1) :
    Calls Try.prog 14 #[.agg #[.int .i64 r.x, .int .i64 r.y, .int .i64 r.cell, .int .i64 r.rows, .int .i64 r.cols, .slice a r.ds.length cap], .agg #[.int .i64 q.x1, .int .i64 q.x2, .int .i64 q.y1, .int .i64 q.y2, .int .i64 a0, .int .i64 a1, .int .i64 a2]] w fun e w' => e = .returned (.bool true) ∧ Below w.heap.size w w' := by
  by_cases hl : r.ds.length ≤ 80
  · exact gheights_few r a cap q a0 a1 a2 w hl hs hn i0 i1
  · exact gheights_many r a cap q a0 a1 a2 w hl
end Go.Proofs.Ythnfepfbkmafaaa
