/- Heights of a box: the reference's HeightsIn. -/
import Derived.Test.YthnfepfbkmafaaaV1
import Derived.Test.YthnfepfbkmafaaaS5
import Derived.Deep.CutRange
namespace Go.Proofs.Ythnfepfbkmafaaa
set_option linter.unusedVariables false
open Go.RowKit
/-- Heights of cells, as a contract of the reference that holds from a world on. -/
def HtR (w : World) (r : Rel) (b off cap : Nat) : Prop := ∀ (i j : Int) (w2 : World), 0 ≤ i → i < r.rows → 0 ≤ j → j < r.cols → Below w.heap.size w w2 → Calls Try.prog 113 #[.agg #[.int .i64 r.x, .int .i64 r.y, .int .i64 r.cell, .int .i64 r.rows, .int .i64 r.cols, .slice (some ⟨b, off, none⟩) r.ds.length cap], .int .i64 i, .int .i64 j] w2 fun e w' => e = .returned (.int .i64 (hAt r i j)) ∧ Below w2.heap.size w2 w'
theorem htR_any {w : World} {r : Rel} {b off cap : Nat} (hr : relErrP feB r = 0) (hbw : b < w.heap.size) (hf : FloatsAt w b off r.ds) : HtR w r b off cap := fun i j w2 hi1 hi2 hj1 hj2 hb => by
  have hk := heightOk hr (hasCellB_iff.2 ⟨⟨hi1, by omega⟩, hj1, by omega⟩) (hf.below hbw hb)
  exact rHeightOf r b off cap _ _ _ _ _ hk.hk hk.p1 hk.p2 hk.q1 hk.q2 hk.lt (Nat.lt_of_lt_of_le hbw hb.size) hk.cell hk.int
set_option maxRecDepth 20000 in
set_option maxHeartbeats 2000000 in
theorem rHeightsIn_out (r : Rel) (a : Option Addr) (cap : Nat) (q : Bx) (w : World) (o : r.Ok) (oq : q.Ok) (hg : inGridB r q = false) :
    Calls Try.prog 67 #[.agg #[.int .i64 r.x, .int .i64 r.y, .int .i64 r.cell, .int .i64 r.rows, .int .i64 r.cols, .slice a r.ds.length cap], .agg #[.int .i64 q.x1, .int .i64 q.x2, .int .i64 q.y1, .int .i64 q.y2]] w fun e w' => e = .returned (.tuple #[.agg #[.int .i64 0, .int .i64 0], .int .i64 12]) ∧ Below w.heap.size w w' := by
  have O := Lib.hid o
  obtain ⟨x1a, x1b, x2a, x2b, y1a, y1b, y2a, y2b, xo, yo⟩ := oq
  obtain ⟨-, -, -, -, -, -, r1, r2, l1, l2, -⟩ := o
  unfold inGridB at hg
  rcases (show hasCellB r (rowP r q.y1) (colP r q.x1) = false ∨ hasCellB r (rowP r q.y1) (colP r q.x1) = true by cases hasCellB r (rowP r q.y1) (colP r q.x1) <;> simp) with h1 | h1
  · have H1 := Lib.hid h1
    clear h1 hg
    go_enter Try.func67, Try.ntmps67
    go_wp2
    refine wp_region_calm (by kernel_rfl) (by kernel_rfl) ?_
    repeat (go_big_quiet_step (first | (go_at_call 111; exact calm_of (rRowOf r _ cap _ _ O.out (by omega) (by omega))) | (go_at_call 112; exact calm_of (rColOf r _ cap _ _ O.out (by omega) (by omega)))))
    refine wpQuiet_nil ?_
    rintro _ ⟨p1, rfl⟩
    go_wp2_with (first | (go_at_call 35; (with_reducible refine (rHasCell r _ cap (rowP r q.y1) (colP r q.x1) _ r1 r2 l1 l2 H1.out).mono ?_); rintro e w' ⟨rfl, hb⟩; obtain ⟨pp, rfl⟩ := later_of_below hb; clear hb))
    refine bodyPost_ret ?_ rfl ⟨rfl, (by (repeat' (first | with_reducible exact Below.refl _ _ | (with_reducible refine below_later_of ?_ ?_ _) | (with_reducible refine Below.alloc ?_ ?_ _) | (with_reducible refine Below.setCell ?_ ?_ _) | (with_reducible refine Below.drew ?_) | (simp; done) | (simp; omega) | omega)))⟩
    first | (simp [results, Try.results67, go_sem]; done) | simp [results, Try.results67, go_sem, ↓IntWalk.iteOmega]
  · rw [h1, Bool.true_and] at hg
    have H1 := Lib.hid h1
    have H2 := Lib.hid hg
    clear h1 hg
    go_enter Try.func67, Try.ntmps67
    go_wp2
    refine wp_region_calm (by kernel_rfl) (by kernel_rfl) ?_
    repeat (go_big_quiet_step (first | (go_at_call 111; exact calm_of (rRowOf r _ cap _ _ O.out (by omega) (by omega))) | (go_at_call 112; exact calm_of (rColOf r _ cap _ _ O.out (by omega) (by omega)))))
    refine wpQuiet_nil ?_
    rintro _ ⟨p1, rfl⟩
    go_wp2_with (first | (go_at_call 35; (with_reducible refine (rHasCell r _ cap (rowP r q.y1) (colP r q.x1) _ r1 r2 l1 l2 H1.out).mono ?_); rintro e w' ⟨rfl, hb⟩; obtain ⟨pp, rfl⟩ := later_of_below hb; clear hb) | (go_at_call 35; (with_reducible refine (rHasCell r _ cap (rowP r q.y2) (colP r q.x2) _ r1 r2 l1 l2 H2.out).mono ?_); rintro e w' ⟨rfl, hb⟩; obtain ⟨pp, rfl⟩ := later_of_below hb; clear hb))
    refine bodyPost_ret ?_ rfl ⟨rfl, (by (repeat' (first | with_reducible exact Below.refl _ _ | (with_reducible refine below_later_of ?_ ?_ _) | (with_reducible refine Below.alloc ?_ ?_ _) | (with_reducible refine Below.setCell ?_ ?_ _) | (with_reducible refine Below.drew ?_) | (simp; done) | (simp; omega) | omega)))⟩
    first | (simp [results, Try.results67, go_sem]; done) | simp [results, Try.results67, go_sem, ↓IntWalk.iteOmega]
set_option maxRecDepth 20000 in
set_option maxHeartbeats 8000000 in
theorem rHeightsIn_in (r : Rel) (b off cap : Nat) (q : Bx) (w : World) (hr : relErrP feB r = 0) (hq : boxErrP q = 0) (hbw : b < w.heap.size) (hf : FloatsAt w b off r.ds) (hg : inGridB r q = true) :
    Calls Try.prog 67 #[.agg #[.int .i64 r.x, .int .i64 r.y, .int .i64 r.cell, .int .i64 r.rows, .int .i64 r.cols, .slice (some ⟨b, off, none⟩) r.ds.length cap], .agg #[.int .i64 q.x1, .int .i64 q.x2, .int .i64 q.y1, .int .i64 q.y2]] w fun e w' => e = .returned (.tuple #[.agg #[.int .i64 (gridP r q).1, .int .i64 (gridP r q).2], .int .i64 0]) ∧ Below w.heap.size w w' := by
  have o := (relErrP_ok hr).1
  have O := Lib.hid o
  have HT := Lib.hid (htR_any (cap := cap) hr hbw hf)
  obtain ⟨x1a, x1b, x2a, x2b, y1a, y1b, y2a, y2b, xo, yo⟩ := boxErrP_ok hq
  unfold inGridB at hg
  rw [Bool.and_eq_true] at hg
  obtain ⟨h1, h2⟩ := hg
  have H1 := Lib.hid h1
  have H2 := Lib.hid h2
  obtain ⟨⟨u1, u2⟩, u3, u4⟩ := hasCellB_iff.1 h1
  obtain ⟨⟨v1, v2⟩, v3, v4⟩ := hasCellB_iff.1 h2
  have m1 : rowP r q.y1 ≤ rowP r q.y2 := div_mono (by omega) o.c1
  have m2 : colP r q.x1 ≤ colP r q.x2 := div_mono (by omega) o.c1
  obtain ⟨-, -, -, -, -, -, r1, r2, l1, l2, -⟩ := o
  obtain ⟨nr, hnr⟩ : ∃ nr : Nat, nrowP r q = nr := ⟨_, rfl⟩
  obtain ⟨nc, hnc⟩ : ∃ nc : Nat, ncolP r q = nc := ⟨_, rfl⟩
  have hnr1 : rowP r q.y1 + (nr : Int) = rowP r q.y2 + 1 := by rw [← hnr]; unfold nrowP; omega
  have hnc1 : colP r q.x1 + (nc : Int) = colP r q.x2 + 1 := by rw [← hnc]; unfold ncolP; omega
  have HGP := Lib.hid (show gridP r q = rngGrid r (rowP r q.y1) (colP r q.x1) nc nr by unfold gridP; rw [hnr, hnc])
  clear hr hq hf h1 h2 hnr hnc
  generalize gridP r q = gp at HGP ⊢
  go_enter Try.func67, Try.ntmps67
  go_wp2
  refine wp_region_calm (by kernel_rfl) (by kernel_rfl) ?_
  repeat (go_big_quiet_step (first | (go_at_call 111; exact calm_of (rRowOf r _ cap _ _ O.out (by omega) (by omega))) | (go_at_call 112; exact calm_of (rColOf r _ cap _ _ O.out (by omega) (by omega)))))
  refine wpQuiet_nil ?_
  rintro _ ⟨p1, rfl⟩
  go_wp2_with (first | (go_at_call 35; (with_reducible refine (rHasCell r _ cap (rowP r q.y1) (colP r q.x1) _ r1 r2 l1 l2 H1.out).mono ?_); rintro e w' ⟨rfl, hb⟩; obtain ⟨p2, rfl⟩ := later_of_below hb; clear hb) | (go_at_call 35; (with_reducible refine (rHasCell r _ cap (rowP r q.y2) (colP r q.x2) _ r1 r2 l1 l2 H2.out).mono ?_); rintro e w' ⟨rfl, hb⟩; obtain ⟨p3, rfl⟩ := later_of_below hb; clear hb) | (go_at_call 113; refine (HT.out _ _ _ (by omega) (by omega) (by omega) (by omega) (by (repeat' (first | with_reducible exact Below.refl _ _ | (with_reducible refine below_later_of ?_ ?_ _) | (with_reducible refine Below.alloc ?_ ?_ _) | (with_reducible refine Below.setCell ?_ ?_ _) | (with_reducible refine Below.drew ?_) | (simp; done) | (simp; omega) | omega)))).mono ?_; rintro e w' ⟨rfl, hb⟩; obtain ⟨p4, rfl⟩ := later_of_below hb; clear hb))
  generalize rowP r q.y1 = bt at *
  generalize rowP r q.y2 = tp at *
  generalize colP r q.x1 = lf at *
  generalize colP r q.x2 = rt at *
  obtain ⟨B12, hB⟩ : ∃ B12, B12 = w.heap.size + 1 + 1 + 1 + p1.os.size + p2.os.size + p3.os.size + p4.os.size := ⟨_, rfl⟩
  have hsz1 : w.heap.size + 1 + 1 < B12 := by rw [hB]; omega
  refine wp_world (fun W => RelBlk W w.heap.size r (some ⟨b, off, none⟩) cap ∧ (W.cell? ⟨w.heap.size + 1 + 1, 0, none⟩ = some (.int .i64 0) ∧ W.cell? ⟨w.heap.size + 1 + 1, 1, none⟩ = some (.int .i64 0) ∧ W.frozen? ⟨w.heap.size + 1 + 1, 0, none⟩ = false ∧ W.frozen? ⟨w.heap.size + 1 + 1, 1, none⟩ = false) ∧ TwoBlk W B12 (hAt r bt lf) (hAt r bt lf) ∧ (W.frozen? ⟨B12, 0, none⟩ = false ∧ W.frozen? ⟨B12, 1, none⟩ = false) ∧ Below w.heap.size w W ∧ B12 < W.heap.size) ⟨⟨(by (first | (simp [go_sem]; done) | simp [go_sem, ↓IntWalk.iteOmega])), (by (first | (simp [go_sem]; done) | simp [go_sem, ↓IntWalk.iteOmega])), (by (first | (simp [go_sem]; done) | simp [go_sem, ↓IntWalk.iteOmega])), (by (first | (simp [go_sem]; done) | simp [go_sem, ↓IntWalk.iteOmega])), (by (first | (simp [go_sem]; done) | simp [go_sem, ↓IntWalk.iteOmega])), (by (first | (simp [go_sem]; done) | simp [go_sem, ↓IntWalk.iteOmega]))⟩, ⟨(by (first | (simp [go_sem]; done) | simp [go_sem, ↓IntWalk.iteOmega])), (by (first | (simp [go_sem]; done) | simp [go_sem, ↓IntWalk.iteOmega])), (by (first | (simp [go_sem]; done) | simp [go_sem, ↓IntWalk.iteOmega])), (by (first | (simp [go_sem]; done) | simp [go_sem, ↓IntWalk.iteOmega]))⟩, by rw [hB]; exact ⟨(by (first | (simp [go_sem]; done) | simp [go_sem, ↓IntWalk.iteOmega])), (by (first | (simp [go_sem]; done) | simp [go_sem, ↓IntWalk.iteOmega]))⟩, by rw [hB]; exact ⟨(by (first | (simp [go_sem]; done) | simp [go_sem, ↓IntWalk.iteOmega])), (by (first | (simp [go_sem]; done) | simp [go_sem, ↓IntWalk.iteOmega]))⟩, (by (repeat' (first | with_reducible exact Below.refl _ _ | (with_reducible refine below_later_of ?_ ?_ _) | (with_reducible refine Below.alloc ?_ ?_ _) | (with_reducible refine Below.setCell ?_ ?_ _) | (with_reducible refine Below.drew ?_) | (simp; done) | (simp; omega) | omega))), by rw [hB]; (simp <;> omega)⟩ ?_
  rintro W2 ⟨kk, rr, cc, ff, hb, hs5⟩
  rw [← hB]
  clear hB
  have HK := Lib.hid kk
  have RR := Lib.hid rr
  have CC := Lib.hid cc
  have FZ := Lib.hid ff
  have HBW := Lib.hid hb
  have RB := Lib.hid (show rngGrid r bt lf nc 0 = (hAt r bt lf, hAt r bt lf) from rfl)
  clear kk rr cc ff hb
  go_loopw [12] (fun i wr => ∃ n : Nat, n ≤ nr ∧ i = .int .i64 (bt + n) ∧ TwoBlk wr B12 (rngGrid r bt lf nc n).1 (rngGrid r bt lf nc n).2 ∧ (wr.frozen? ⟨B12, 0, none⟩ = false ∧ wr.frozen? ⟨B12, 1, none⟩ = false) ∧ Below B12 W2 wr) (fun i _ => (tp + 1 - intOf i).toNat)
  case atStart => exact ⟨0, Nat.zero_le _, by simp, CC.out, FZ.out, Below.refl _ _⟩
  case round =>
    obtain ⟨n, hn, rfl, cc, ff, hnx⟩ := hrel
    have CC := Lib.hid cc
    have FF := Lib.hid ff
    have HX := Lib.hid hnx
    have hszo := hnx.size
    clear cc ff hnx
    by_cases hlt : n < nr
    · have hle : bt + (n : Int) ≤ tp := by omega
      have hd1 : decide (bt + (n : Int) ≤ tp) = true := by simp; omega
      have RN := Lib.hid (show rngGrid r bt lf nc (n + 1) = rngRow r (bt + n) lf (rngGrid r bt lf nc n) nc from rfl)
      have R0 := Lib.hid (show rngRow r (bt + n) lf (rngGrid r bt lf nc n) 0 = rngGrid r bt lf nc n from rfl)
      have RS := Lib.hid (show ∀ m : Nat, rngRow r (bt + n) lf (rngGrid r bt lf nc n) (m + 1) = (min (rngRow r (bt + n) lf (rngGrid r bt lf nc n) m).1 (hAt r (bt + n) (lf + m)), max (rngRow r (bt + n) lf (rngGrid r bt lf nc n) m).2 (hAt r (bt + n) (lf + m))) from fun m => rfl)
      obtain ⟨wo, hwo⟩ : ∃ wo : World, wo = wr := ⟨_, rfl⟩
      subst hwo
      go_wp2
      go_loopw [13] (fun i wr => ∃ m : Nat, m ≤ nc ∧ i = .int .i64 (lf + m) ∧ TwoBlk wr B12 (rngRow r (bt + n) lf (rngGrid r bt lf nc n) m).1 (rngRow r (bt + n) lf (rngGrid r bt lf nc n) m).2 ∧ (wr.frozen? ⟨B12, 0, none⟩ = false ∧ wr.frozen? ⟨B12, 1, none⟩ = false) ∧ Below B12 W2 wr) (fun i _ => (rt + 1 - intOf i).toNat)
      case atStart => exact ⟨0, Nat.zero_le _, by simp, by rw [R0.out]; exact CC.out, FF.out, HX.out⟩
      case round =>
        obtain ⟨m, hm, rfl, cc, ff, hnx⟩ := hrel
        obtain ⟨k0, k1, k2, k3, k4, k5⟩ := HK.out.below (show w.heap.size < B12 by omega) hnx
        have HXI := Lib.hid hnx
        have hszi := hnx.size
        have hlw : B12 < wr.heap.size := by omega
        by_cases hlm : m < nc
        · have hd2 : decide (lf + (m : Int) ≤ rt) = true := by simp; omega
          have RM := Lib.hid (RS.out m)
          have HBI := Lib.hid (show Below w.heap.size w wr from HBW.out.trans (hnx.mono (by omega)))
          have HHT := Lib.hid (show ∀ w2, Below wr.heap.size wr w2 → Calls Try.prog 113 #[.agg #[.int .i64 r.x, .int .i64 r.y, .int .i64 r.cell, .int .i64 r.rows, .int .i64 r.cols, .slice (some ⟨b, off, none⟩) r.ds.length cap], .int .i64 (bt + n), .int .i64 (lf + m)] w2 fun e w' => e = .returned (.int .i64 (hAt r (bt + n) (lf + m))) ∧ Below w2.heap.size w2 w' from fun w2 hb2 => HT.out _ _ _ (by omega) (by omega) (by omega) (by omega) (HBI.out.trans (hb2.mono HBI.out.size)))
          obtain ⟨c0, c1⟩ := cc
          obtain ⟨f0, f1⟩ := ff
          generalize (rngRow r (bt + n) lf (rngGrid r bt lf nc n) m) = st at *
          obtain ⟨s0, s1⟩ := st
          generalize hAt r (bt + n) (lf + m) = hh at *
          clear hnx
          go_wp2_with (first | (go_at_call 113; refine (HHT.out _ (by (repeat' (first | with_reducible exact Below.refl _ _ | (with_reducible refine below_later_of ?_ ?_ _) | (with_reducible refine Below.alloc ?_ ?_ _) | (with_reducible refine Below.setCell ?_ ?_ _) | (with_reducible refine Below.drew ?_) | (simp; done) | (simp; omega) | omega)))).mono ?_; rintro e w' ⟨rfl, hb⟩; obtain ⟨pp, rfl⟩ := later_of_below hb; clear hb))
          go_roundw
          case rel => exact ⟨m + 1, by omega, by first | go_num | (congr 1; omega), by rw [RM.out]; exact ⟨(by (first | (simp [go_sem, c0]; done) | simp [go_sem, c0, ↓IntWalk.iteOmega])), (by (first | (simp [go_sem, c1]; done) | simp [go_sem, c1, ↓IntWalk.iteOmega]))⟩, ⟨(by (first | (simp [go_sem, f0]; done) | simp [go_sem, f0, ↓IntWalk.iteOmega])), (by (first | (simp [go_sem, f1]; done) | simp [go_sem, f1, ↓IntWalk.iteOmega]))⟩, HXI.out.trans (by (repeat' (first | with_reducible exact Below.refl _ _ | (with_reducible refine below_later_of ?_ ?_ _) | (with_reducible refine Below.alloc ?_ ?_ _) | (with_reducible refine Below.setCell ?_ ?_ _) | (with_reducible refine Below.drew ?_) | (simp; done) | (simp; omega) | omega)))⟩
          case measure => simp [intOf]; omega
        · obtain rfl : m = nc := by omega
          have hd2 : decide (lf + (m : Int) ≤ rt) = false := by simp; omega
          clear hnx
          go_wp2
          go_roundw
          case rel => exact ⟨n + 1, by omega, by first | go_num | (congr 1; omega), by rw [RN.out]; exact cc, ff, HXI.out⟩
          case measure => simp [intOf]; omega
    · obtain rfl : n = nr := by omega
      have hd1 : decide (bt + (n : Int) ≤ tp) = false := by simp; omega
      obtain ⟨r0, r1', r2', r3'⟩ := RR.out
      have hxx := HX.out
      have q0 := (hxx.cell (p := ⟨w.heap.size + 1 + 1, 0, none⟩) hsz1).trans r0
      have q1 := (hxx.cell (p := ⟨w.heap.size + 1 + 1, 1, none⟩) hsz1).trans r1'
      have q2 := (hxx.frozen (p := ⟨w.heap.size + 1 + 1, 0, none⟩) hsz1).trans r2'
      have q3 := (hxx.frozen (p := ⟨w.heap.size + 1 + 1, 1, none⟩) hsz1).trans r3'
      have HBE := Lib.hid (show Below w.heap.size w wr from HBW.out.trans (hxx.mono (by omega)))
      obtain ⟨c0, c1⟩ := CC.out
      have hl := HBE.out.size
      obtain ⟨⟨s0, s1⟩, hst⟩ : ∃ st, rngGrid r bt lf nc n = st := ⟨_, rfl⟩
      have hgp : gp = (s0, s1) := HGP.out.trans hst
      rw [hst] at c0 c1
      subst hgp
      have hlw : B12 < wr.heap.size := by omega
      clear hxx r0 r1' r2' r3' hst
      go_wp2
      refine bodyPost_ret ?_ rfl ⟨rfl, (HBE.out.setCell (show w.heap.size ≤ w.heap.size + 1 + 1 by omega) _).setCell (show w.heap.size ≤ w.heap.size + 1 + 1 by omega) _⟩
      (first | (simp [results, Try.results67, go_sem, q0, q1]; done) | simp [results, Try.results67, go_sem, q0, q1, ↓IntWalk.iteOmega])
end Go.Proofs.Ythnfepfbkmafaaa
