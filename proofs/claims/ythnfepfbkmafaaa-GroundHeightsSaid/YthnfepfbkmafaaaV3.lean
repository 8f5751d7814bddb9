/- Heights of a box: the program's HeightsIn, where the box lies in the relief. -/
import Derived.Test.YthnfepfbkmafaaaV2
import Derived.Test.YthnfepfbkmafaaaI2
import Derived.Test.YthnfepfbkmafaaaS5
import Derived.Deep.CutRange
namespace Go.Proofs.Ythnfepfbkmafaaa
set_option linter.unusedVariables false
open Go.RowKit
/-- Heights of cells, as a contract that holds from a world on. -/
def HtP (w : World) (r : Rel) (b off cap : Nat) : Prop := ∀ (i j : Int) (w2 : World), 0 ≤ i → i < r.rows → 0 ≤ j → j < r.cols → Below w.heap.size w w2 → Calls Try.prog 107 #[.agg #[.int .i64 r.x, .int .i64 r.y, .int .i64 r.cell, .int .i64 r.rows, .int .i64 r.cols, .slice (some ⟨b, off, none⟩) r.ds.length cap], .int .i64 i, .int .i64 j] w2 fun e w' => e = .returned (.int .i64 (hAt r i j)) ∧ Below w2.heap.size w2 w'
theorem htP_any {w : World} {r : Rel} {b off cap : Nat} (hr : relErrP feB r = 0) (hbw : b < w.heap.size) (hf : FloatsAt w b off r.ds) : HtP w r b off cap := fun i j w2 hi1 hi2 hj1 hj2 hb => by
  have hk := heightOk hr (hasCellB_iff.2 ⟨⟨hi1, by omega⟩, hj1, by omega⟩) (hf.below hbw hb)
  exact height_any r b off cap _ _ _ _ _ hk.hk hk.p1 hk.p2 hk.q1 hk.q2 hk.lt (Nat.lt_of_lt_of_le hbw hb.size) hk.cell hk.int
set_option maxRecDepth 20000 in
set_option maxHeartbeats 8000000 in
theorem heightsIn_in (r : Rel) (b off cap : Nat) (q : Bx) (w : World) (hl : r.ds.length ≤ 1000000000) (hr : relErrP feB r = 0) (hq : boxErrP q = 0) (hbw : b < w.heap.size) (hf : FloatsAt w b off r.ds) (hg : inGridB r q = true) :
    Calls Try.prog 66 #[.agg #[.int .i64 r.x, .int .i64 r.y, .int .i64 r.cell, .int .i64 r.rows, .int .i64 r.cols, .slice (some ⟨b, off, none⟩) r.ds.length cap], .agg #[.int .i64 q.x1, .int .i64 q.x2, .int .i64 q.y1, .int .i64 q.y2]] w fun e w' => e = .returned (.tuple #[.agg #[.int .i64 (gridP r q).1, .int .i64 (gridP r q).2], .int .i64 0]) ∧ Below w.heap.size w w' := by
  have HL := Lib.hid hl
  have HA := Lib.hid (show SrcAt w (some ⟨b, off, none⟩) r.ds from fun _ => ⟨b, off, rfl, hbw, hf⟩)
  have HE := Lib.hid (show first2 (relErrP feB r) (boxErrP q) = 0 by unfold first2; rw [hr, hq]; rfl)
  have o := (relErrP_ok hr).1
  have O := Lib.hid o
  have HT := Lib.hid (htP_any (cap := cap) hr hbw hf)
  obtain ⟨x1a, x1b, x2a, x2b, y1a, y1b, y2a, y2b, xo, yo⟩ := boxErrP_ok hq
  unfold inGridB at hg
  rw [Bool.and_eq_true] at hg
  obtain ⟨h1, h2⟩ := hg
  have H1 := Lib.hid h1
  have H2 := Lib.hid h2
  obtain ⟨⟨u1, u2⟩, u3, u4⟩ := hasCellB_iff.1 h1
  obtain ⟨⟨v1, v2⟩, v3, v4⟩ := hasCellB_iff.1 h2
  have m1 : rowP r q.y1 ≤ rowP r q.y2 := div_mono (by omega) o.c1
  have m2 : colP r q.x1 ≤ colP r q.x2 := div_mono (by omega) o.c1
  obtain ⟨-, -, -, -, -, -, r1, r2, l1, l2, -⟩ := o
  obtain ⟨nr, hnr⟩ : ∃ nr : Nat, nrowP r q = nr := ⟨_, rfl⟩
  obtain ⟨nc, hnc⟩ : ∃ nc : Nat, ncolP r q = nc := ⟨_, rfl⟩
  have hnr1 : rowP r q.y1 + (nr : Int) = rowP r q.y2 + 1 := by rw [← hnr]; unfold nrowP; omega
  have hnc1 : colP r q.x1 + (nc : Int) = colP r q.x2 + 1 := by rw [← hnc]; unfold ncolP; omega
  have HGP := Lib.hid (show gridP r q = rngGrid r (rowP r q.y1) (colP r q.x1) nc nr by unfold gridP; rw [hnr, hnc])
  clear hl hr hq hf h1 h2 hnr hnc
  generalize gridP r q = gp at HGP ⊢
  go_enter Try.func66, Try.ntmps66
  go_wp2
  go_region_held3 (fun w' => w'.cell? ⟨w.heap.size, 0, none⟩ = some (.int .i64 r.x) ∧ w'.cell? ⟨w.heap.size, 1, none⟩ = some (.int .i64 r.y) ∧ w'.cell? ⟨w.heap.size, 2, none⟩ = some (.int .i64 r.cell) ∧ w'.cell? ⟨w.heap.size, 3, none⟩ = some (.int .i64 r.rows) ∧ w'.cell? ⟨w.heap.size, 4, none⟩ = some (.int .i64 r.cols) ∧ w'.cell? ⟨w.heap.size, 5, none⟩ = some (.slice (some ⟨b, off, none⟩) r.ds.length cap) ∧ w'.cell? ⟨w.heap.size + 1, 0, none⟩ = some (.int .i64 q.x1) ∧ w'.cell? ⟨w.heap.size + 1, 1, none⟩ = some (.int .i64 q.x2) ∧ w'.cell? ⟨w.heap.size + 1, 2, none⟩ = some (.int .i64 q.y1) ∧ w'.cell? ⟨w.heap.size + 1, 3, none⟩ = some (.int .i64 q.y2)) (first | ((first | (simp [go_sem]; done) | simp [go_sem, ↓IntWalk.iteOmega]); done)) (first | (go_at_call 42; refine (checkRelief_any feB r _ cap _ HL.out (fun k _ => flErr_any _) (HA.out.below' (by (repeat' (first | with_reducible exact Below.refl _ _ | (with_reducible refine below_later_of ?_ ?_ _) | (with_reducible refine Below.alloc ?_ ?_ _) | (with_reducible refine Below.setCell ?_ ?_ _) | (with_reducible refine Below.drew ?_) | (simp; done) | (simp; omega) | omega))))).mono ?_; rintro e w' ⟨rfl, hb⟩; obtain ⟨p1, rfl⟩ := later_of_below hb; clear hb) | (go_at_call 128; refine (check_any q _ rfl).mono ?_; rintro e w' ⟨rfl, hb⟩; obtain ⟨p2, rfl⟩ := later_of_below hb; clear hb) | (go_at_call 105; refine (first_e _ _ _ _ HE.out (by (first | (simp [go_sem]; done) | simp [go_sem, ↓IntWalk.iteOmega])) (by (first | (simp [go_sem]; done) | simp [go_sem, ↓IntWalk.iteOmega]))).mono ?_; rintro e w' ⟨rfl, rfl⟩))
  go_wp2_with (first | (go_at_call 106; refine (cell_any r _ cap _ _ _ O.out (by omega) (by omega) (by omega) (by omega)).mono ?_; rintro e w' ⟨rfl, hb⟩; obtain ⟨pp, rfl⟩ := later_of_below hb; clear hb) | (go_at_call 98; (with_reducible refine (has_cell r _ cap (rowP r q.y1) (colP r q.x1) _ r1 r2 l1 l2 H1.out).mono ?_); rintro e w' ⟨rfl, hb⟩; obtain ⟨pp, rfl⟩ := later_of_below hb; clear hb) | (go_at_call 98; (with_reducible refine (has_cell r _ cap (rowP r q.y2) (colP r q.x2) _ r1 r2 l1 l2 H2.out).mono ?_); rintro e w' ⟨rfl, hb⟩; obtain ⟨pp, rfl⟩ := later_of_below hb; clear hb))
  generalize rowP r q.y1 = bt at *
  generalize rowP r q.y2 = tp at *
  generalize colP r q.x1 = lf at *
  generalize colP r q.x2 = rt at *
  have hsz1 : w.heap.size + 1 + 1 + 1 ≤ w.heap.size + 1 + 1 + 1 + p1.os.size + p2.os.size := by omega
  obtain ⟨B6, hB6⟩ : ∃ B6, B6 = w.heap.size + 1 + 1 + 1 + p1.os.size + p2.os.size := ⟨_, rfl⟩
  refine wp_world (fun W => RelBlk W (B6 + 1) r (some ⟨b, off, none⟩) cap ∧ (W.cell? ⟨w.heap.size + 1 + 1, 0, none⟩ = some (.int .i64 0) ∧ W.cell? ⟨w.heap.size + 1 + 1, 1, none⟩ = some (.int .i64 0) ∧ W.frozen? ⟨w.heap.size + 1 + 1, 0, none⟩ = false ∧ W.frozen? ⟨w.heap.size + 1 + 1, 1, none⟩ = false) ∧ Below w.heap.size w W ∧ B6 + 1 < W.heap.size) ⟨by rw [hB6]; exact ⟨(by (first | (simp [go_sem]; done) | simp [go_sem, ↓IntWalk.iteOmega])), (by (first | (simp [go_sem]; done) | simp [go_sem, ↓IntWalk.iteOmega])), (by (first | (simp [go_sem]; done) | simp [go_sem, ↓IntWalk.iteOmega])), (by (first | (simp [go_sem]; done) | simp [go_sem, ↓IntWalk.iteOmega])), (by (first | (simp [go_sem]; done) | simp [go_sem, ↓IntWalk.iteOmega])), (by (first | (simp [go_sem]; done) | simp [go_sem, ↓IntWalk.iteOmega]))⟩, ⟨(by (first | (simp [go_sem]; done) | simp [go_sem, ↓IntWalk.iteOmega])), (by (first | (simp [go_sem]; done) | simp [go_sem, ↓IntWalk.iteOmega])), (by (first | (simp [go_sem]; done) | simp [go_sem, ↓IntWalk.iteOmega])), (by (first | (simp [go_sem]; done) | simp [go_sem, ↓IntWalk.iteOmega]))⟩, (by (repeat' (first | with_reducible exact Below.refl _ _ | (with_reducible refine below_later_of ?_ ?_ _) | (with_reducible refine Below.alloc ?_ ?_ _) | (with_reducible refine Below.setCell ?_ ?_ _) | (with_reducible refine Below.drew ?_) | (simp; done) | (simp; omega) | omega))), by rw [hB6]; simp; omega⟩ ?_
  rintro W2 ⟨kk, rr, hb, hs5⟩
  rw [← hB6] at hsz1 ⊢
  have HBB := Lib.hid hB6
  have KK := Lib.hid kk
  have HBW := Lib.hid hb
  have RR := Lib.hid rr
  clear hB6 hb rr
  obtain ⟨k0, k1, k2, k3, k4, k5⟩ := kk
  go_cut [12] from 62 to 70 (fun X wx => ∃ B12, X = .pointer (some ⟨B12, 0, none⟩) ∧ TwoBlk wx B12 (hAt r bt lf) (hAt r bt lf) ∧ wx.frozen? ⟨B12, 0, none⟩ = false ∧ wx.frozen? ⟨B12, 1, none⟩ = false ∧ W2.heap.size ≤ B12 ∧ B12 < wx.heap.size ∧ Below W2.heap.size W2 wx)
  case first =>
    go_region_held3 (fun w' => w'.cell? ⟨B6 + 1, 0, none⟩ = some (.int .i64 r.x) ∧ w'.cell? ⟨B6 + 1, 1, none⟩ = some (.int .i64 r.y) ∧ w'.cell? ⟨B6 + 1, 2, none⟩ = some (.int .i64 r.cell) ∧ w'.cell? ⟨B6 + 1, 3, none⟩ = some (.int .i64 r.rows) ∧ w'.cell? ⟨B6 + 1, 4, none⟩ = some (.int .i64 r.cols) ∧ w'.cell? ⟨B6 + 1, 5, none⟩ = some (.slice (some ⟨b, off, none⟩) r.ds.length cap)) (exact KK.out.below hs5 (by (repeat' (first | with_reducible exact Below.refl _ _ | (with_reducible refine below_later_of ?_ ?_ _) | (with_reducible refine Below.alloc ?_ ?_ _) | (with_reducible refine Below.setCell ?_ ?_ _) | (with_reducible refine Below.drew ?_) | (simp; done) | (simp; omega) | omega)))) (first | (go_at_call 107; refine (HT.out _ _ _ (by omega) (by omega) (by omega) (by omega) (HBW.out.trans (below_mono_of (show w.heap.size ≤ W2.heap.size by omega) (by (repeat' (first | with_reducible exact Below.refl _ _ | (with_reducible refine below_later_of ?_ ?_ _) | (with_reducible refine Below.alloc ?_ ?_ _) | (with_reducible refine Below.setCell ?_ ?_ _) | (with_reducible refine Below.drew ?_) | (simp; done) | (simp; omega) | omega)))))).mono ?_; rintro e w' ⟨rfl, hb⟩; obtain ⟨pp, rfl⟩ := later_of_below hb; clear hb))
    all_goals
      go_wp2_with fail
      go_meet
      exact ⟨_, rfl, ⟨(by (first | (simp [go_sem]; done) | simp [go_sem, ↓IntWalk.iteOmega])), (by (first | (simp [go_sem]; done) | simp [go_sem, ↓IntWalk.iteOmega]))⟩, (by (first | (simp [go_sem]; done) | simp [go_sem, ↓IntWalk.iteOmega])), (by (first | (simp [go_sem]; done) | simp [go_sem, ↓IntWalk.iteOmega])), by first | omega | (simp <;> omega), by (simp <;> omega), (by (repeat' (first | with_reducible exact Below.refl _ _ | (with_reducible refine below_later_of ?_ ?_ _) | (with_reducible refine Below.alloc ?_ ?_ _) | (with_reducible refine Below.setCell ?_ ?_ _) | (with_reducible refine Below.drew ?_) | (simp; done) | (simp; omega) | omega)))⟩
  case rest =>
    obtain ⟨B12, rfl, cc, fz0, fz1, hb12, hl12, hb⟩ := hcut
    have RB := Lib.hid (show rngGrid r bt lf nc 0 = (hAt r bt lf, hAt r bt lf) from rfl)
    have HXC := Lib.hid hb
    have hszc := hb.size
    have HK := Lib.hid (KK.out.below hs5 hb)
    clear k0 k1 k2 k3 k4 k5 hb
    obtain ⟨wd, hwd⟩ : ∃ wd : World, wd = wc := ⟨_, rfl⟩
    subst hwd
    have CC := Lib.hid cc
    have FZ := Lib.hid (And.intro fz0 fz1)
    clear cc fz0 fz1
    go_wp2
    go_loopw [13] (fun i wr => ∃ n : Nat, n ≤ nr ∧ i = .int .i64 (bt + n) ∧ TwoBlk wr B12 (rngGrid r bt lf nc n).1 (rngGrid r bt lf nc n).2 ∧ (wr.frozen? ⟨B12, 0, none⟩ = false ∧ wr.frozen? ⟨B12, 1, none⟩ = false) ∧ Below B12 wd wr) (fun i _ => (tp + 1 - intOf i).toNat)
    case atStart => exact ⟨0, Nat.zero_le _, by simp, CC.out, FZ.out, Below.refl _ _⟩
    case round =>
      obtain ⟨n, hn, rfl, cc, ff, hnx⟩ := hrel
      have CC := Lib.hid cc
      have FF := Lib.hid ff
      have HX := Lib.hid hnx
      have hszo := hnx.size
      clear cc ff hnx
      by_cases hlt : n < nr
      · have hle : bt + (n : Int) ≤ tp := by omega
        have hd1 : decide (bt + (n : Int) ≤ tp) = true := by simp; omega
        have RN := Lib.hid (show rngGrid r bt lf nc (n + 1) = rngRow r (bt + n) lf (rngGrid r bt lf nc n) nc from rfl)
        have R0 := Lib.hid (show rngRow r (bt + n) lf (rngGrid r bt lf nc n) 0 = rngGrid r bt lf nc n from rfl)
        have RS := Lib.hid (show ∀ m : Nat, rngRow r (bt + n) lf (rngGrid r bt lf nc n) (m + 1) = (min (rngRow r (bt + n) lf (rngGrid r bt lf nc n) m).1 (hAt r (bt + n) (lf + m)), max (rngRow r (bt + n) lf (rngGrid r bt lf nc n) m).2 (hAt r (bt + n) (lf + m))) from fun m => rfl)
        obtain ⟨wo, hwo⟩ : ∃ wo : World, wo = wr := ⟨_, rfl⟩
        subst hwo
        go_wp2
        go_loopw [14] (fun i wr => ∃ m : Nat, m ≤ nc ∧ i = .int .i64 (lf + m) ∧ TwoBlk wr B12 (rngRow r (bt + n) lf (rngGrid r bt lf nc n) m).1 (rngRow r (bt + n) lf (rngGrid r bt lf nc n) m).2 ∧ (wr.frozen? ⟨B12, 0, none⟩ = false ∧ wr.frozen? ⟨B12, 1, none⟩ = false) ∧ Below B12 wd wr) (fun i _ => (rt + 1 - intOf i).toNat)
        case atStart => exact ⟨0, Nat.zero_le _, by simp, by rw [R0.out]; exact CC.out, FF.out, HX.out⟩
        case round =>
          obtain ⟨m, hm, rfl, cc, ff, hnx⟩ := hrel
          obtain ⟨k0, k1, k2, k3, k4, k5⟩ := HK.out.below (show B6 + 1 < B12 by omega) hnx
          have HXI := Lib.hid hnx
          have hszi := hnx.size
          by_cases hlm : m < nc
          · have hd2 : decide (lf + (m : Int) ≤ rt) = true := by simp; omega
            have RM := Lib.hid (RS.out m)
            have HBI := Lib.hid (show Below w.heap.size w wr from HBW.out.trans ((HXC.out.trans (hnx.mono (by omega))).mono (by omega)))
            have HHT := Lib.hid (show ∀ w2, Below wr.heap.size wr w2 → Calls Try.prog 107 #[.agg #[.int .i64 r.x, .int .i64 r.y, .int .i64 r.cell, .int .i64 r.rows, .int .i64 r.cols, .slice (some ⟨b, off, none⟩) r.ds.length cap], .int .i64 (bt + n), .int .i64 (lf + m)] w2 fun e w' => e = .returned (.int .i64 (hAt r (bt + n) (lf + m))) ∧ Below w2.heap.size w2 w' from fun w2 hb2 => HT.out _ _ _ (by omega) (by omega) (by omega) (by omega) (HBI.out.trans (hb2.mono HBI.out.size)))
            obtain ⟨c0, c1⟩ := cc
            obtain ⟨f0, f1⟩ := ff
            generalize (rngRow r (bt + n) lf (rngGrid r bt lf nc n) m) = st at *
            obtain ⟨s0, s1⟩ := st
            generalize hAt r (bt + n) (lf + m) = hh at *
            have KB := Lib.hid (show ∀ w', Below wr.heap.size wr w' → RelBlk w' (B6 + 1) r (some ⟨b, off, none⟩) cap from fun w' hb' => RelBlk.below ⟨k0, k1, k2, k3, k4, k5⟩ (show B6 + 1 < wr.heap.size by omega) hb')
            clear hnx
            go_wp2_with fail
            have hlw : B12 < wr.heap.size := by omega
            refine wp_region_L 15 (fun w' => RelBlk w' (B6 + 1) r (some ⟨b, off, none⟩) cap) (fun w' => TwoBlk w' B12 s0 s1) (by kernel_rfl) ⟨k0, k1, k2, k3, k4, k5⟩ ⟨c0, c1⟩ (fun hO => ?_)
            refine anyL_take (i := 0) (v := ?_) rfl (by kernel_rfl) (fun _ _ _ h => h) (by rfl) ?_ hO (fun hO => ?_)
            rotate_left
            · rintro w' ⟨x0, x1, x2, x3, x4, x5⟩; go_simp; try with_reducible rfl
            try simp only [Act.put]
            refine anyL_load (i := 1) (v := ?_) rfl (by kernel_rfl) (fun _ _ _ h => h) (by rfl) ?_ hO (fun hO => ?_)
            rotate_left
            · rintro w' ⟨x0, x1⟩; go_simp; try with_reducible rfl
            try simp only [Act.put]
            refine anyL_take (i := 2) (v := ?_) rfl (by kernel_rfl) (fun _ _ _ h => h) (by rfl) ?_ hO (fun hO => ?_)
            rotate_left
            · rintro w' ⟨x0, x1, x2, x3, x4, x5⟩; go_simp; try with_reducible rfl
            try simp only [Act.put]
            refine anyL_take (i := 3) (v := ?_) rfl (by kernel_rfl) (fun _ _ _ h => h) (by rfl) ?_ hO (fun hO => ?_)
            rotate_left
            · rintro w' ⟨x0, x1, x2, x3, x4, x5⟩; go_simp; try with_reducible rfl
            try simp only [Act.put]
            refine anyL_take (i := 4) (v := ?_) rfl (by kernel_rfl) (fun _ _ _ h => h) (by rfl) ?_ hO (fun hO => ?_)
            rotate_left
            · rintro w' ⟨x0, x1, x2, x3, x4, x5⟩; go_simp; try with_reducible rfl
            try simp only [Act.put]
            refine anyL_take (i := 7) (v := ?_) rfl (by kernel_rfl) (fun _ _ _ h => h) (by rfl) ?_ hO (fun hO => ?_)
            rotate_left
            · rintro w' ⟨x0, x1, x2, x3, x4, x5⟩; go_simp; try with_reducible rfl
            try simp only [Act.put]
            refine anyL_load (i := 8) (v := ?_) rfl (by kernel_rfl) (fun _ _ _ h => h) (by rfl) ?_ hO (fun hO => ?_)
            rotate_left
            · rintro w' ⟨x0, x1⟩; go_simp; try with_reducible rfl
            try simp only [Act.put]
            refine anyL_take (i := 9) (v := ?_) rfl (by kernel_rfl) (fun _ _ _ h => h) (by rfl) ?_ hO (fun hO => ?_)
            rotate_left
            · rintro w' ⟨x0, x1, x2, x3, x4, x5⟩; go_simp; try with_reducible rfl
            try simp only [Act.put]
            refine anyL_take (i := 10) (v := ?_) rfl (by kernel_rfl) (fun _ _ _ h => h) (by rfl) ?_ hO (fun hO => ?_)
            rotate_left
            · rintro w' ⟨x0, x1, x2, x3, x4, x5⟩; go_simp; try with_reducible rfl
            try simp only [Act.put]
            refine anyL_take (i := 11) (v := ?_) rfl (by kernel_rfl) (fun _ _ _ h => h) (by rfl) ?_ hO (fun hO => ?_)
            rotate_left
            · rintro w' ⟨x0, x1, x2, x3, x4, x5⟩; go_simp; try with_reducible rfl
            try simp only [Act.put]
            refine anyL_one (i := 5) rfl (by kernel_rfl) (by rfl) (fun K hK => ?_)
            go_simp
            (go_at_call 107; refine (HHT.out _ (by (repeat' (first | with_reducible exact Below.refl _ _ | (with_reducible refine below_later_of ?_ ?_ _) | (with_reducible refine Below.alloc ?_ ?_ _) | (with_reducible refine Below.setCell ?_ ?_ _) | (with_reducible refine Below.drew ?_) | (simp; done) | (simp; omega) | omega)))).mono ?_; rintro e w' ⟨rfl, hb⟩; obtain ⟨pp, rfl⟩ := later_of_below hb; clear hb)
            refine hK.out _ _ ⟨KB.out _ (by (repeat' (first | with_reducible exact Below.refl _ _ | (with_reducible refine below_later_of ?_ ?_ _) | (with_reducible refine Below.alloc ?_ ?_ _) | (with_reducible refine Below.setCell ?_ ?_ _) | (with_reducible refine Below.drew ?_) | (simp; done) | (simp; omega) | omega))), fun _ => TwoBlk.below ⟨c0, c1⟩ (show B12 < wr.heap.size by omega) (by (repeat' (first | with_reducible exact Below.refl _ _ | (with_reducible refine below_later_of ?_ ?_ _) | (with_reducible refine Below.alloc ?_ ?_ _) | (with_reducible refine Below.setCell ?_ ?_ _) | (with_reducible refine Below.drew ?_) | (simp; done) | (simp; omega) | omega)))⟩ (fun hO => ?_)
            clear hK K
            try simp only [Act.put]
            refine anyL_take (i := 6) (v := ?_) rfl (by kernel_rfl) (fun _ _ _ h => h) (by rfl) ?_ hO (fun hO => ?_)
            rotate_left
            · rintro w' ⟨x0, x1, x2, x3, x4, x5⟩; go_simp; try with_reducible rfl
            try simp only [Act.put]
            refine anyL_take (i := 14) (v := ?_) rfl (by kernel_rfl) (fun _ _ _ h => h) (by rfl) ?_ hO (fun hO => ?_)
            rotate_left
            · rintro w' ⟨x0, x1, x2, x3, x4, x5⟩; go_simp; try with_reducible rfl
            try simp only [Act.put]
            refine anyL_one (i := 12) rfl (by kernel_rfl) (by rfl) (fun K hK => ?_)
            go_simp
            (go_at_call 107; refine (HHT.out _ (by (repeat' (first | with_reducible exact Below.refl _ _ | (with_reducible refine below_later_of ?_ ?_ _) | (with_reducible refine Below.alloc ?_ ?_ _) | (with_reducible refine Below.setCell ?_ ?_ _) | (with_reducible refine Below.drew ?_) | (simp; done) | (simp; omega) | omega)))).mono ?_; rintro e w' ⟨rfl, hb⟩; obtain ⟨pp, rfl⟩ := later_of_below hb; clear hb)
            refine hK.out _ _ ⟨KB.out _ (by (repeat' (first | with_reducible exact Below.refl _ _ | (with_reducible refine below_later_of ?_ ?_ _) | (with_reducible refine Below.alloc ?_ ?_ _) | (with_reducible refine Below.setCell ?_ ?_ _) | (with_reducible refine Below.drew ?_) | (simp; done) | (simp; omega) | omega))), fun _ => TwoBlk.below ⟨c0, c1⟩ (show B12 < wr.heap.size by omega) (by (repeat' (first | with_reducible exact Below.refl _ _ | (with_reducible refine below_later_of ?_ ?_ _) | (with_reducible refine Below.alloc ?_ ?_ _) | (with_reducible refine Below.setCell ?_ ?_ _) | (with_reducible refine Below.drew ?_) | (simp; done) | (simp; omega) | omega)))⟩ (fun hO => ?_)
            clear hK K
            try simp only [Act.put]
            refine anyL_take (i := 13) (v := ?_) rfl (by kernel_rfl) (fun _ _ _ h => h) (by rfl) ?_ hO (fun hO => ?_)
            rotate_left
            · rintro w' ⟨x0, x1, x2, x3, x4, x5⟩; go_simp; try with_reducible rfl
            try simp only [Act.put]
            refine anyL_one (i := 15) rfl (by kernel_rfl) (by rfl) (fun K hK => ?_)
            go_simp
            go_wp2_with fail
            refine hK.out _ _ ⟨RelBlk.below (KB.out _ (Below.refl _ _)) (show B6 + 1 < B12 by omega) (by (repeat' (first | with_reducible exact Below.refl _ _ | (with_reducible refine below_later_of ?_ ?_ _) | (with_reducible refine Below.alloc ?_ ?_ _) | (with_reducible refine Below.setCell ?_ ?_ _) | (with_reducible refine Below.drew ?_) | (simp; done) | (simp; omega) | omega))), fun h => absurd h (by decide)⟩ (fun hO => ?_)
            clear hK K
            try simp only [Act.put]
            refine anyL_take (i := 16) (v := ?_) rfl (by kernel_rfl) (fun _ _ _ h => h) (by rfl) ?_ hO (fun hO => ?_)
            rotate_left
            · rintro w' ⟨x0, x1, x2, x3, x4, x5⟩; go_simp; try with_reducible rfl
            try simp only [Act.put]
            refine anyL_one (i := 17) rfl (by kernel_rfl) (by rfl) (fun K hK => ?_)
            go_simp
            go_wp2_with fail
            refine hK.out _ _ ⟨RelBlk.below (KB.out _ (Below.refl _ _)) (show B6 + 1 < B12 by omega) (by (repeat' (first | with_reducible exact Below.refl _ _ | (with_reducible refine below_later_of ?_ ?_ _) | (with_reducible refine Below.alloc ?_ ?_ _) | (with_reducible refine Below.setCell ?_ ?_ _) | (with_reducible refine Below.drew ?_) | (simp; done) | (simp; omega) | omega))), fun h => absurd h (by decide)⟩ (fun hO => ?_)
            clear hK K
            try simp only [Act.put]
            refine anyL_done (by kernel_rfl) ?_ _
            go_wp2
            go_roundw
            case rel => exact ⟨m + 1, by omega, by first | go_num | (congr 1; omega), by rw [RM.out]; exact ⟨(by (first | (simp [go_sem, c0]; done) | simp [go_sem, c0, ↓IntWalk.iteOmega])), (by (first | (simp [go_sem, c1]; done) | simp [go_sem, c1, ↓IntWalk.iteOmega]))⟩, ⟨(by (first | (simp [go_sem, f0]; done) | simp [go_sem, f0, ↓IntWalk.iteOmega])), (by (first | (simp [go_sem, f1]; done) | simp [go_sem, f1, ↓IntWalk.iteOmega]))⟩, HXI.out.trans (by (repeat' (first | with_reducible exact Below.refl _ _ | (with_reducible refine below_later_of ?_ ?_ _) | (with_reducible refine Below.alloc ?_ ?_ _) | (with_reducible refine Below.setCell ?_ ?_ _) | (with_reducible refine Below.drew ?_) | (simp; done) | (simp; omega) | omega)))⟩
            case measure => simp [intOf]; omega
          · obtain rfl : m = nc := by omega
            have hd2 : decide (lf + (m : Int) ≤ rt) = false := by simp; omega
            clear hnx
            go_wp2
            go_roundw
            case rel => exact ⟨n + 1, by omega, by first | go_num | (congr 1; omega), by rw [RN.out]; exact cc, ff, HXI.out⟩
            case measure => simp [intOf]; omega
      · obtain rfl : n = nr := by omega
        have hd1 : decide (bt + (n : Int) ≤ tp) = false := by simp; omega
        obtain ⟨r0, r1', r2', r3'⟩ := RR.out
        have hxx := HXC.out.trans (HX.out.mono (show W2.heap.size ≤ B12 by omega))
        have q0 := (hxx.cell (p := ⟨w.heap.size + 1 + 1, 0, none⟩) (show w.heap.size + 1 + 1 < W2.heap.size by omega)).trans r0
        have q1 := (hxx.cell (p := ⟨w.heap.size + 1 + 1, 1, none⟩) (show w.heap.size + 1 + 1 < W2.heap.size by omega)).trans r1'
        have q2 := (hxx.frozen (p := ⟨w.heap.size + 1 + 1, 0, none⟩) (show w.heap.size + 1 + 1 < W2.heap.size by omega)).trans r2'
        have q3 := (hxx.frozen (p := ⟨w.heap.size + 1 + 1, 1, none⟩) (show w.heap.size + 1 + 1 < W2.heap.size by omega)).trans r3'
        have HBE := Lib.hid (show Below w.heap.size w wr from HBW.out.trans (hxx.mono (by omega)))
        obtain ⟨c0, c1⟩ := CC.out
        have hl := HBE.out.size
        obtain ⟨⟨s0, s1⟩, hst⟩ : ∃ st, rngGrid r bt lf nc n = st := ⟨_, rfl⟩
        have hgp : gp = (s0, s1) := HGP.out.trans hst
        rw [hst] at c0 c1
        subst hgp
        have hlw : B12 < wr.heap.size := by omega
        clear hxx r0 r1' r2' r3' hst
        go_wp2
        refine bodyPost_ret ?_ rfl ⟨rfl, (HBE.out.setCell (show w.heap.size ≤ w.heap.size + 1 + 1 by omega) _).setCell (show w.heap.size ≤ w.heap.size + 1 + 1 by omega) _⟩
        (first | (simp [results, Try.results66, go_sem, q0, q1]; done) | simp [results, Try.results66, go_sem, q0, q1, ↓IntWalk.iteOmega])
end Go.Proofs.Ythnfepfbkmafaaa
