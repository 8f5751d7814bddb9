/- Masks: the nearest cell that hides a cell, and the program's Blocker. -/
import Derived.Test.YtokpdmlmlkkekaaZM
import Derived.Deep.CutRange
import Derived.Deep.RegionHeld3
namespace Go.Proofs.Ytokpdmlmlkkekaa
set_option linter.unusedVariables false
open Go.RowKit
def hgP (r : Rel) (fi : Nat → Int) (row : Int) (c : Nat) : Int := fi (bitAt r.ds (idxP r row (c : Int)))
theorem px_coo {r : Rel} (o : r.Ok) {k : Int} (h1 : 0 ≤ k) (h2 : k < r.cols) : Coo (pxP r k) := by
  obtain ⟨u1, u2⟩ := cell_bd o h1 (show k ≤ 64 by have := o.l2; omega)
  have := o.x1; have := o.x2; have := o.c1; have := o.c2
  unfold pxP Coo; omega
/-- The nearest of the first m cells of a row that hides cell k; -1 if there is none. -/
def bestP (t : Trk) (r : Rel) (fi : Nat → Int) (row : Int) (k : Int) : Nat → Int
  | 0 => -1
  | m + 1 => if hidesP (soP t r m) (sdP t r fi row m) (soP t r k) (sdP t r fi row k) = true ∧ (bestP t r fi row k m < 0 ∨ soP t r m < soP t r (bestP t r fi row k m)) then (m : Int) else bestP t r fi row k m
theorem bestP_bd (t : Trk) (r : Rel) (fi : Nat → Int) (row : Int) (k : Int) : ∀ m, -1 ≤ bestP t r fi row k m ∧ bestP t r fi row k m < (m : Int)
  | 0 => by unfold bestP; omega
  | m + 1 => by
    have := bestP_bd t r fi row k m
    unfold bestP
    split <;> omega
theorem bestP_no {t : Trk} {r : Rel} {fi : Nat → Int} {row : Int} {k : Int} {m : Nat} (h : hidesP (soP t r m) (sdP t r fi row m) (soP t r k) (sdP t r fi row k) = false) : bestP t r fi row k (m + 1) = bestP t r fi row k m := by
  rw [bestP, if_neg (by rw [h]; simp)]
theorem bestP_first {t : Trk} {r : Rel} {fi : Nat → Int} {row : Int} {k : Int} {m : Nat} (h : hidesP (soP t r m) (sdP t r fi row m) (soP t r k) (sdP t r fi row k) = true) (h2 : bestP t r fi row k m < 0) : bestP t r fi row k (m + 1) = m := by
  rw [bestP, if_pos ⟨h, Or.inl h2⟩]
theorem bestP_less {t : Trk} {r : Rel} {fi : Nat → Int} {row : Int} {k : Int} {m : Nat} (h : hidesP (soP t r m) (sdP t r fi row m) (soP t r k) (sdP t r fi row k) = true) (h2 : soP t r m < soP t r (bestP t r fi row k m)) : bestP t r fi row k (m + 1) = m := by
  rw [bestP, if_pos ⟨h, Or.inr h2⟩]
theorem bestP_more {t : Trk} {r : Rel} {fi : Nat → Int} {row : Int} {k : Int} {m : Nat} (h1 : ¬ bestP t r fi row k m < 0) (h2 : ¬ soP t r m < soP t r (bestP t r fi row k m)) : bestP t r fi row k (m + 1) = bestP t r fi row k m := by
  rw [bestP, if_neg]
  rintro ⟨-, h | h⟩ <;> contradiction
/-- What Blocker returns. -/
noncomputable def blockP (fe fi : Nat → Int) (t : Trk) (r : Rel) (row col : Int) : Int × Int :=
  if viewErrP fe fi t r = 0 then (if hasCellB r row col then (if bestP t r fi row col r.cols.toNat < 0 then (0, 12) else (bestP t r fi row col r.cols.toNat, 0)) else (0, 6)) else (0, viewErrP fe fi t r)
set_option maxRecDepth 20000 in
set_option maxHeartbeats 1000000 in
theorem blocker_bad (fe fi : Nat → Int) (t : Trk) (r : Rel) (a : Option Addr) (cap : Nat) (row col : Int) (w : World) (h : RelAt fe fi w r a) {e0 : Int} (hm : blockP fe fi t r row col = (0, e0)) (hn : ¬ (viewErrP fe fi t r = 0 ∧ hasCellB r row col = true)) :
    Calls Try.prog 34 #[.agg #[.int .i64 t.sx, .int .i64 t.sy, .int .i64 t.sz, .int .i64 t.step, .int .i64 t.lines, .int .i64 t.near, .int .i64 t.bin, .int .i64 t.bins, .bool t.east], .agg #[.int .i64 r.x, .int .i64 r.y, .int .i64 r.cell, .int .i64 r.rows, .int .i64 r.cols, .slice a r.ds.length cap], .agg #[.int .i64 row, .int .i64 col]] w fun e w' => e = .returned (.tuple #[.int .i64 0, .int .i64 e0]) ∧ Below w.heap.size w w' := by
  have HR := Lib.hid h
  clear h
  by_cases hv : viewErrP fe fi t r = 0
  · have HE := Lib.hid hv
    have hh : hasCellB r row col = false := by
      cases hc : hasCellB r row col
      · rfl
      · exact absurd ⟨hv, hc⟩ hn
    unfold blockP at hm
    rw [if_pos hv, hh] at hm
    simp only [Bool.false_eq_true, if_false, Prod.mk.injEq, true_and] at hm
    subst hm
    have HH := Lib.hid hh
    obtain ⟨-, h1, -, -⟩ := viewErrP_ok hv
    obtain ⟨-, -, -, -, -, -, r1, r2, l1, l2, -⟩ := (relErrP_ok h1).1
    clear hv hh h1 hn
    go_enter Try.func34, Try.ntmps34
    go_wp2_with (first | (go_at_call 101; refine (viewOf_any fe fi t r _ cap _ (HR.out.below (by (repeat' (first | with_reducible exact Below.refl _ _ | (with_reducible refine below_later_of ?_ ?_ _) | (with_reducible refine Below.alloc ?_ ?_ _) | (with_reducible refine Below.setCell ?_ ?_ _) | (with_reducible refine Below.drew ?_) | (simp; done) | (simp; omega) | omega)))) HE.out).mono ?_; rintro e w' ⟨rfl, hb⟩; obtain ⟨pp, rfl⟩ := later_of_below hb; clear hb) | (go_at_call 104; refine (has_cell r _ cap _ _ _ (by omega) (by omega) (by omega) (by omega) HH.out).mono ?_; rintro e w' ⟨rfl, hb⟩; obtain ⟨pp, rfl⟩ := later_of_below hb; clear hb))
    go_ret2
    exact ⟨rfl, (by (repeat' (first | with_reducible exact Below.refl _ _ | (with_reducible refine below_later_of ?_ ?_ _) | (with_reducible refine Below.alloc ?_ ?_ _) | (with_reducible refine Below.setCell ?_ ?_ _) | (with_reducible refine Below.drew ?_) | (simp; done) | (simp; omega) | omega)))⟩
  · unfold blockP at hm
    rw [if_neg hv] at hm
    simp only [Prod.mk.injEq, true_and] at hm
    rw [hm] at hv
    have HE := Lib.hid hm
    clear hm hn
    go_enter Try.func34, Try.ntmps34
    go_wp2_with (first | (go_at_call 101; refine (viewOf_any fe fi t r _ cap _ (HR.out.below (by (repeat' (first | with_reducible exact Below.refl _ _ | (with_reducible refine below_later_of ?_ ?_ _) | (with_reducible refine Below.alloc ?_ ?_ _) | (with_reducible refine Below.setCell ?_ ?_ _) | (with_reducible refine Below.drew ?_) | (simp; done) | (simp; omega) | omega)))) HE.out).mono ?_; rintro e w' ⟨rfl, hb⟩; obtain ⟨pp, rfl⟩ := later_of_below hb; clear hb))
    go_ret2
    exact ⟨rfl, (by (repeat' (first | with_reducible exact Below.refl _ _ | (with_reducible refine below_later_of ?_ ?_ _) | (with_reducible refine Below.alloc ?_ ?_ _) | (with_reducible refine Below.setCell ?_ ?_ _) | (with_reducible refine Below.drew ?_) | (simp; done) | (simp; omega) | omega)))⟩
set_option maxRecDepth 20000 in
set_option maxHeartbeats 4000000 in
theorem blocker_ok (fe fi : Nat → Int) (t : Trk) (r : Rel) (a : Option Addr) (cap : Nat) (row col : Int) (w : World) (h : RelAt fe fi w r a) (hv : viewErrP fe fi t r = 0) (hh : hasCellB r row col = true) {x e0 : Int} (hm : blockP fe fi t r row col = (x, e0)) :
    Calls Try.prog 34 #[.agg #[.int .i64 t.sx, .int .i64 t.sy, .int .i64 t.sz, .int .i64 t.step, .int .i64 t.lines, .int .i64 t.near, .int .i64 t.bin, .int .i64 t.bins, .bool t.east], .agg #[.int .i64 r.x, .int .i64 r.y, .int .i64 r.cell, .int .i64 r.rows, .int .i64 r.cols, .slice a r.ds.length cap], .agg #[.int .i64 row, .int .i64 col]] w fun e w' => e = .returned (.tuple #[.int .i64 x, .int .i64 e0]) ∧ Below w.heap.size w w' := by
  have HR := Lib.hid h
  obtain ⟨h1, h2, -, -⟩ := viewErrP_ok hv
  obtain ⟨⟨hr1, hr2⟩, hc1, hc2⟩ := hasCellB_iff.1 hh
  obtain ⟨b, off, rfl, hbw, hfl⟩ := h.pos h2
  have ot := checkTrackP_ok h1
  have o := (relErrP_ok h2).1
  have hf := h.ints h2
  have HFI := Lib.hid hf
  have HFL := Lib.hid hfl
  have OT := Lib.hid ot
  have O := Lib.hid o
  have HSB := Lib.hid (fun (k : Nat) (hk : (k : Int) < r.cols) => so_bd ot o (show (0 : Int) ≤ k by omega) hk)
  have HDB := Lib.hid (fun (k : Nat) (hk : (k : Int) < r.cols) => sd_bd ot o hf (row := row) (by omega) (by omega) (show (0 : Int) ≤ k by omega) hk)
  have HE := Lib.hid hv
  have HH := Lib.hid hh
  unfold blockP at hm
  rw [if_pos hv, hh] at hm
  simp only [if_true] at hm
  obtain ⟨-, -, -, -, -, -, r1, r2, l1, l2, -⟩ := o
  obtain ⟨n, hn⟩ : ∃ n : Nat, r.cols.toNat = n := ⟨_, rfl⟩
  obtain ⟨k, hk⟩ : ∃ k : Nat, col = k := ⟨col.toNat, by omega⟩
  subst hk
  have hn1 : (n : Int) = r.cols := by omega
  have HN1 := Lib.hid hn1
  have HNN := Lib.hid hn
  have hkn : k < n := by omega
  have hnh : n ≤ 64 := by omega
  rw [hn] at hm
  have HM := Lib.hid hm
  have HBD := Lib.hid (bestP_bd t r fi row k)
  have B3 := Lib.hid (HSB.out k (by omega))
  have B4 := Lib.hid (HDB.out k (by omega))
  have HNO := Lib.hid (fun m => @bestP_no t r fi row k m)
  have HFI1 := Lib.hid (fun m => @bestP_first t r fi row k m)
  have HLE := Lib.hid (fun m => @bestP_less t r fi row k m)
  have HMO := Lib.hid (fun m => @bestP_more t r fi row k m)
  have HB0 := Lib.hid (show bestP t r fi row k 0 = -1 from rfl)
  clear h hv hh h1 h2 hfl hm hn hn1 ot hf
  go_enter Try.func34, Try.ntmps34
  go_wp2_with (first | (go_at_call 101; refine (viewOf_any fe fi t r _ cap _ (HR.out.below (by (repeat' (first | with_reducible exact Below.refl _ _ | (with_reducible refine below_later_of ?_ ?_ _) | (with_reducible refine Below.alloc ?_ ?_ _) | (with_reducible refine Below.setCell ?_ ?_ _) | (with_reducible refine Below.drew ?_) | (simp; done) | (simp; omega) | omega)))) HE.out).mono ?_; rintro e w' ⟨rfl, hb⟩; obtain ⟨pp, rfl⟩ := later_of_below hb; clear hb) | (go_at_call 104; refine (has_cell r _ cap _ _ _ (by omega) (by omega) (by omega) (by omega) HH.out).mono ?_; rintro e w' ⟨rfl, hb⟩; obtain ⟨pp, rfl⟩ := later_of_below hb; clear hb) | (go_at_call 105; refine (row_n t r fi b off cap row _ n HNN.out OT.out O.out HFI.out (by omega) (by omega) (by simp; omega) (HFL.out.below hbw (by (repeat' (first | with_reducible exact Below.refl _ _ | (with_reducible refine below_later_of ?_ ?_ _) | (with_reducible refine Below.alloc ?_ ?_ _) | (with_reducible refine Below.setCell ?_ ?_ _) | (with_reducible refine Below.drew ?_) | (simp; done) | (simp; omega) | omega))))).mono ?_; rintro e w2 ⟨g, c, rfl, hg1, hg2, hsi, hb2⟩))
  have hw2 : w.heap.size + 1 + 1 < w2.heap.size := by have := hb2.size; simp at this; omega
  have HQ1 := Lib.hid ((hb2.cell (p := ⟨w.heap.size + 1 + 1, 1, none⟩) (by simp; omega)).trans (by (first | (simp [go_sem]; done) | simp [go_sem, ↓IntWalk.iteOmega]) : _ = some (.int .i64 (k : Int))))
  have HSI := Lib.hid hsi
  have HBW := Lib.hid (show Below w.heap.size w w2 from (show Below w.heap.size w _ from (by (repeat' (first | with_reducible exact Below.refl _ _ | (with_reducible refine below_later_of ?_ ?_ _) | (with_reducible refine Below.alloc ?_ ?_ _) | (with_reducible refine Below.setCell ?_ ?_ _) | (with_reducible refine Below.drew ?_) | (simp; done) | (simp; omega) | omega)))).trans (hb2.mono (by simp; omega)))
  clear hsi hb2
  go_wp2
  go_loopw [11, 37] (fun bs i wr => ∃ m : Nat, m ≤ n ∧ i = .int .i64 m ∧ bs = .int .i64 (bestP t r fi row k m) ∧ Below w2.heap.size w2 wr) (fun _ i _ => n - (intOf i).toNat)
  case atStart => exact ⟨0, Nat.zero_le _, rfl, by rw [HB0.out], Below.refl _ _⟩
  case round =>
    obtain ⟨m, hmn, rfl, rfl, hnx⟩ := hrel
    have HX := Lib.hid hnx
    have hszi := hnx.size
    have hq1 := (hnx.cell (p := ⟨w.heap.size + 1 + 1, 1, none⟩) hw2).trans HQ1.out
    have hgr : g < wr.heap.size := by omega
    have HSW := HSI.out.below hg2 hnx
    by_cases hlt : m < n
    · obtain ⟨d1, d2⟩ := HSW m hlt
      obtain ⟨d3, d4⟩ := HSW k hkn
      have HSWH := Lib.hid HSW
      have B1 := Lib.hid (HSB.out m (by have := HN1.out; omega))
      have B2 := Lib.hid (HDB.out m (by have := HN1.out; omega))
      have H1 := Lib.hid (HNO.out m)
      have H2 := Lib.hid (HFI1.out m)
      have H3 := Lib.hid (HLE.out m)
      have H4 := Lib.hid (HMO.out m)
      obtain ⟨bd1, bd2⟩ := HBD.out m
      clear HSW hnx
      rcases (show hidesP (soP t r m) (sdP t r fi row m) (soP t r k) (sdP t r fi row k) = false ∨ hidesP (soP t r m) (sdP t r fi row m) (soP t r k) (sdP t r fi row k) = true by cases hidesP (soP t r m) (sdP t r fi row m) (soP t r k) (sdP t r fi row k) <;> simp) with hd | hd
      · have HBE := Lib.hid (H1.out hd)
        have HD := Lib.hid hd
        clear H1 H2 H3 H4 hd
        generalize bestP t r fi row k m = be at *
        generalize soP t r m = mo at *
        generalize sdP t r fi row m = md at *
        generalize soP t r k = ko at *
        generalize sdP t r fi row k = kd at *
        go_wp2
        refine wp_region_calm (by kernel_rfl) (by kernel_rfl) ?_
        repeat (go_big_quiet_step (first | (go_at_call 106; exact calm_of (by with_reducible exact hides_any _ _ _ _ _ B1.out B2.out B3.out B4.out HD.out))))
        refine wpQuiet_nil ?_
        rintro _ ⟨p1, rfl⟩
        go_wp2
        (go_roundw; (case rel => exact ⟨m + 1, by omega, by go_num, by rw [HBE.out], HX.out.trans (below_mono_of hszi (by (repeat' (first | with_reducible exact Below.refl _ _ | (with_reducible refine below_later_of ?_ ?_ _) | (with_reducible refine Below.alloc ?_ ?_ _) | (with_reducible refine Below.setCell ?_ ?_ _) | (with_reducible refine Below.drew ?_) | (simp; done) | (simp; omega) | omega))))⟩); (case measure => simp [intOf]; omega))
      · by_cases hn : bestP t r fi row k m < 0
        · have HBE := Lib.hid (H2.out hd hn)
          have HD := Lib.hid hd
          clear H1 H2 H3 H4 hd
          generalize bestP t r fi row k m = be at *
          generalize soP t r m = mo at *
          generalize sdP t r fi row m = md at *
          generalize soP t r k = ko at *
          generalize sdP t r fi row k = kd at *
          go_wp2
          refine wp_region_calm (by kernel_rfl) (by kernel_rfl) ?_
          repeat (go_big_quiet_step (first | (go_at_call 106; exact calm_of (by with_reducible exact hides_any _ _ _ _ _ B1.out B2.out B3.out B4.out HD.out))))
          refine wpQuiet_nil ?_
          rintro _ ⟨p1, rfl⟩
          go_wp2
          (go_roundw; (case rel => exact ⟨m + 1, by omega, by go_num, by rw [HBE.out], HX.out.trans (below_mono_of hszi (by (repeat' (first | with_reducible exact Below.refl _ _ | (with_reducible refine below_later_of ?_ ?_ _) | (with_reducible refine Below.alloc ?_ ?_ _) | (with_reducible refine Below.setCell ?_ ?_ _) | (with_reducible refine Below.drew ?_) | (simp; done) | (simp; omega) | omega))))⟩); (case measure => simp [intOf]; omega))
        · obtain ⟨j, hj⟩ : ∃ j : Nat, bestP t r fi row k m = j := ⟨(bestP t r fi row k m).toNat, by omega⟩
          obtain ⟨d5, d6⟩ := HSWH.out j (by omega)
          have HL2 := Lib.hid (show soP t r m < soP t r j → bestP t r fi row k (m + 1) = m from fun h => H3.out hd (by rw [hj]; exact h))
          have HL3 := Lib.hid (show ¬ soP t r m < soP t r j → bestP t r fi row k (m + 1) = j from fun h => (H4.out (by omega) (by rw [hj]; omega)).trans hj)
          have HD := Lib.hid hd
          have HJ := Lib.hid hj
          have hjn : j < n := by omega
          have hj0 : decide ((j : Int) < 0) = false := by simp
          clear H1 H2 H3 H4 hd hn
          rw [hj]
          clear hj bd1 bd2
          generalize soP t r m = mo at *
          generalize sdP t r fi row m = md at *
          generalize soP t r k = ko at *
          generalize sdP t r fi row k = kd at *
          generalize soP t r j = jo at *
          by_cases hlj : mo < jo
          · have HBE := Lib.hid (HL2.out hlj)
            go_wp2
            refine wp_region_calm (by kernel_rfl) (by kernel_rfl) ?_
            repeat (go_big_quiet_step (first | (go_at_call 106; exact calm_of (by with_reducible exact hides_any _ _ _ _ _ B1.out B2.out B3.out B4.out HD.out))))
            refine wpQuiet_nil ?_
            rintro _ ⟨p1, rfl⟩
            go_wp2
            (go_roundw; (case rel => exact ⟨m + 1, by omega, by go_num, by rw [HBE.out], HX.out.trans (below_mono_of hszi (by (repeat' (first | with_reducible exact Below.refl _ _ | (with_reducible refine below_later_of ?_ ?_ _) | (with_reducible refine Below.alloc ?_ ?_ _) | (with_reducible refine Below.setCell ?_ ?_ _) | (with_reducible refine Below.drew ?_) | (simp; done) | (simp; omega) | omega))))⟩); (case measure => simp [intOf]; omega))
          · have hlj' : decide (mo < jo) = false := by simpa using hlj
            have HBE := Lib.hid (HL3.out hlj)
            go_wp2
            refine wp_region_calm (by kernel_rfl) (by kernel_rfl) ?_
            repeat (go_big_quiet_step (first | (go_at_call 106; exact calm_of (by with_reducible exact hides_any _ _ _ _ _ B1.out B2.out B3.out B4.out HD.out))))
            refine wpQuiet_nil ?_
            rintro _ ⟨p1, rfl⟩
            go_wp2
            (go_roundw; (case rel => exact ⟨m + 1, by omega, by go_num, by rw [HBE.out], HX.out.trans (below_mono_of hszi (by (repeat' (first | with_reducible exact Below.refl _ _ | (with_reducible refine below_later_of ?_ ?_ _) | (with_reducible refine Below.alloc ?_ ?_ _) | (with_reducible refine Below.setCell ?_ ?_ _) | (with_reducible refine Below.drew ?_) | (simp; done) | (simp; omega) | omega))))⟩); (case measure => simp [intOf]; omega))
    · obtain rfl : m = n := by omega
      obtain ⟨bd1, bd2⟩ := HBD.out m
      obtain ⟨be, hbe⟩ : ∃ be, bestP t r fi row k m = be := ⟨_, rfl⟩
      have HM2 := Lib.hid (show (if be < 0 then ((0 : Int), (12 : Int)) else (be, 0)) = (x, e0) by rw [← hbe]; exact HM.out)
      rw [hbe] at bd1 bd2 ⊢
      clear hbe hnx HSW
      by_cases hn : be < 0
      · have h9 := HM2.out
        rw [if_pos hn] at h9
        simp only [Prod.mk.injEq] at h9
        obtain ⟨rfl, rfl⟩ := h9
        go_wp2
        go_ret2
        exact ⟨rfl, HBW.out.trans (HX.out.mono (by omega))⟩
      · have h9 := HM2.out
        rw [if_neg hn] at h9
        simp only [Prod.mk.injEq] at h9
        obtain ⟨rfl, rfl⟩ := h9
        have hn' : decide (be < 0) = false := by simpa using hn
        go_wp2
        go_ret2
        exact ⟨rfl, HBW.out.trans (HX.out.mono (by omega))⟩
theorem blocker_any (fe fi : Nat → Int) (t : Trk) (r : Rel) (a : Option Addr) (cap : Nat) (row col : Int) (w : World) (h : RelAt fe fi w r a) {x e0 : Int} (hm : blockP fe fi t r row col = (x, e0)) :
    Calls Try.prog 34 #[.agg #[.int .i64 t.sx, .int .i64 t.sy, .int .i64 t.sz, .int .i64 t.step, .int .i64 t.lines, .int .i64 t.near, .int .i64 t.bin, .int .i64 t.bins, .bool t.east], .agg #[.int .i64 r.x, .int .i64 r.y, .int .i64 r.cell, .int .i64 r.rows, .int .i64 r.cols, .slice a r.ds.length cap], .agg #[.int .i64 row, .int .i64 col]] w fun e w' => e = .returned (.tuple #[.int .i64 x, .int .i64 e0]) ∧ Below w.heap.size w w' := by
  by_cases hg : viewErrP fe fi t r = 0 ∧ hasCellB r row col = true
  · exact blocker_ok fe fi t r a cap row col w h hg.1 hg.2 hm
  · have hx : x = 0 := by
      unfold blockP at hm
      by_cases hv : viewErrP fe fi t r = 0
      · rw [if_pos hv, if_neg (fun hc => hg ⟨hv, hc⟩)] at hm
        exact (Prod.mk.inj hm).1.symm
      · rw [if_neg hv] at hm
        exact (Prod.mk.inj hm).1.symm
    subst hx
    exact blocker_bad fe fi t r a cap row col w h hm hg
end Go.Proofs.Ytokpdmlmlkkekaa
