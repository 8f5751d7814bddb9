/- The law TopBuildingsPlaced returns true. -/
import Derived.Test.YtokpdmlmlkkekaaE7
import Derived.RegionTactic
namespace Go.Proofs.Ytokpdmlmlkkekaa
set_option linter.unusedVariables false
open Go.RowKit
set_option maxRecDepth 20000 in
set_option maxHeartbeats 2000000 in
theorem tbp_short (t : Trk) (r : Rel) (a : Option Addr) (cap : Nat) (ps : List Plc) (pa : Option Addr) (pcap : Nat) (u v : Int) (w : World) (hs : SrcAt w a r.ds) (h : ¬ (r.ds.length ≤ 40 ∧ checkTrackP t = 0 ∧ relErrP feB r = 0)) :
    Calls Try.prog 17 #[.agg #[.int .i64 t.sx, .int .i64 t.sy, .int .i64 t.sz, .int .i64 t.step, .int .i64 t.lines, .int .i64 t.near, .int .i64 t.bin, .int .i64 t.bins, .bool t.east, .int .i64 r.x, .int .i64 r.y, .int .i64 r.cell, .int .i64 r.rows, .int .i64 r.cols, .slice a r.ds.length cap], .slice pa ps.length pcap, .agg #[.int .i64 u, .int .i64 v]] w fun e w' => e = .returned (.bool true) ∧ Below w.heap.size w w' := by
  have HS := Lib.hid hs
  clear hs
  go_enter Try.func17, Try.ntmps17
  go_wp2_with (first | (go_at_call 72; refine (grounded_any _).mono ?_; rintro e w' ⟨rfl, hb⟩; obtain ⟨p1, rfl⟩ := later_of_below hb; clear hb))
  go_cut [7, 8] from 26 to 29 (fun X Y wx => ∃ B7 B8, X = .pointer (some ⟨B7, 0, none⟩) ∧ Y = .pointer (some ⟨B8, 0, none⟩) ∧ TrkBlk wx B7 t ∧ RelBlk wx B8 r a cap ∧ TwoBlk wx (w.heap.size + 1) u v ∧ Below w.heap.size w wx ∧ B7 < wx.heap.size ∧ B8 < wx.heap.size ∧ w.heap.size + 1 < wx.heap.size)
  case first =>
    go_region
    all_goals
      go_wp2_with fail
      go_meet
      exact ⟨_, _, rfl, rfl, ⟨(by (first | (simp [go_sem]; done) | simp [go_sem, ↓IntWalk.iteOmega])), (by (first | (simp [go_sem]; done) | simp [go_sem, ↓IntWalk.iteOmega])), (by (first | (simp [go_sem]; done) | simp [go_sem, ↓IntWalk.iteOmega])), (by (first | (simp [go_sem]; done) | simp [go_sem, ↓IntWalk.iteOmega])), (by (first | (simp [go_sem]; done) | simp [go_sem, ↓IntWalk.iteOmega])), (by (first | (simp [go_sem]; done) | simp [go_sem, ↓IntWalk.iteOmega])), (by (first | (simp [go_sem]; done) | simp [go_sem, ↓IntWalk.iteOmega])), (by (first | (simp [go_sem]; done) | simp [go_sem, ↓IntWalk.iteOmega])), (by (first | (simp [go_sem]; done) | simp [go_sem, ↓IntWalk.iteOmega]))⟩, ⟨(by (first | (simp [go_sem]; done) | simp [go_sem, ↓IntWalk.iteOmega])), (by (first | (simp [go_sem]; done) | simp [go_sem, ↓IntWalk.iteOmega])), (by (first | (simp [go_sem]; done) | simp [go_sem, ↓IntWalk.iteOmega])), (by (first | (simp [go_sem]; done) | simp [go_sem, ↓IntWalk.iteOmega])), (by (first | (simp [go_sem]; done) | simp [go_sem, ↓IntWalk.iteOmega])), (by (first | (simp [go_sem]; done) | simp [go_sem, ↓IntWalk.iteOmega]))⟩, ⟨(by (first | (simp [go_sem]; done) | simp [go_sem, ↓IntWalk.iteOmega])), (by (first | (simp [go_sem]; done) | simp [go_sem, ↓IntWalk.iteOmega]))⟩, (by (repeat' (first | with_reducible exact Below.refl _ _ | (with_reducible refine below_later_of ?_ ?_ _) | (with_reducible refine Below.alloc ?_ ?_ _) | (with_reducible refine Below.setCell ?_ ?_ _) | (with_reducible refine Below.drew ?_) | (simp; done) | (simp; omega) | omega))), by (simp <;> omega), by (simp <;> omega), by (simp <;> omega)⟩
  case rest =>
    obtain ⟨B7, B8, rfl, rfl, ⟨t0, t1, t2, t3, t4, t5, t6, t7, t8⟩, ⟨k0, k1, k2, k3, k4, k5⟩, -, hb, h7, h8, h1⟩ := hcut
    have HB := Lib.hid hb
    have HS2 := Lib.hid (HS.out.below hb)
    have hsz := hb.size
    clear hb
    by_cases hl : r.ds.length ≤ 40
    · have hd : decide ((40 : Int) < (r.ds.length : Int)) = false := by simp; omega
      by_cases ht : checkTrackP t = 0
      · obtain ⟨e0, hr⟩ : ∃ e0, relErrP feB r = e0 := ⟨_, rfl⟩
        have hne : (e0 != 0) = true := by
          have : e0 ≠ 0 := fun e => h ⟨hl, ht, by rw [hr, e]⟩
          simpa using this
        have HT := Lib.hid ht
        have HCK := Lib.hid hr
        clear ht hr h
        go_wp2_with (first | (go_at_call 20; refine (rCheckTrack t _ HT.out).mono ?_; rintro e w' ⟨rfl, hb⟩; obtain ⟨p2, rfl⟩ := later_of_below hb; clear hb) | (go_at_call 43; refine (rCheckRelief_e r _ cap _ HCK.out (by omega) (HS2.out.below (by (repeat' (first | with_reducible exact Below.refl _ _ | (with_reducible refine below_later_of ?_ ?_ _) | (with_reducible refine Below.alloc ?_ ?_ _) | (with_reducible refine Below.setCell ?_ ?_ _) | (with_reducible refine Below.drew ?_) | (simp; done) | (simp; omega) | omega))))).mono ?_; rintro e w' ⟨rfl, hb⟩; obtain ⟨p3, rfl⟩ := later_of_below hb; clear hb))
        go_ret
        exact ⟨rfl, HB.out.trans (below_mono_of hsz (by (repeat' (first | with_reducible exact Below.refl _ _ | (with_reducible refine below_later_of ?_ ?_ _) | (with_reducible refine Below.alloc ?_ ?_ _) | (with_reducible refine Below.setCell ?_ ?_ _) | (with_reducible refine Below.drew ?_) | (simp; done) | (simp; omega) | omega))))⟩
      · obtain ⟨e0, hv⟩ : ∃ e0, checkTrackP t = e0 := ⟨_, rfl⟩
        rw [hv] at ht
        have hne : (e0 != 0) = true := by simpa using ht
        have HT := Lib.hid hv
        clear ht hv h
        go_wp2_with (first | (go_at_call 20; refine (rCheckTrack t _ HT.out).mono ?_; rintro e w' ⟨rfl, hb⟩; obtain ⟨p2, rfl⟩ := later_of_below hb; clear hb))
        go_ret
        exact ⟨rfl, HB.out.trans (below_mono_of hsz (by (repeat' (first | with_reducible exact Below.refl _ _ | (with_reducible refine below_later_of ?_ ?_ _) | (with_reducible refine Below.alloc ?_ ?_ _) | (with_reducible refine Below.setCell ?_ ?_ _) | (with_reducible refine Below.drew ?_) | (simp; done) | (simp; omega) | omega))))⟩
    · have hd : decide ((40 : Int) < (r.ds.length : Int)) = true := by simp; omega
      clear h
      go_wp2
      go_ret
      exact ⟨rfl, HB.out.trans (below_mono_of hsz (by (repeat' (first | with_reducible exact Below.refl _ _ | (with_reducible refine below_later_of ?_ ?_ _) | (with_reducible refine Below.alloc ?_ ?_ _) | (with_reducible refine Below.setCell ?_ ?_ _) | (with_reducible refine Below.drew ?_) | (simp; done) | (simp; omega) | omega))))⟩
set_option maxRecDepth 20000 in
set_option maxHeartbeats 16000000 in
theorem tbp_long (t : Trk) (r : Rel) (b off cap : Nat) (ps : List Plc) (pa : Option Addr) (pcap : Nat) (u v : Int) (w : World) (hl : r.ds.length ≤ 40) (ht : checkTrackP t = 0) (hr : relErrP feB r = 0) (hbw : b < w.heap.size) (hc : FloatsAt w b off r.ds)
    (hps : PlSrc w pa ps) (hwf : Wf2 ps) :
    Calls Try.prog 17 #[.agg #[.int .i64 t.sx, .int .i64 t.sy, .int .i64 t.sz, .int .i64 t.step, .int .i64 t.lines, .int .i64 t.near, .int .i64 t.bin, .int .i64 t.bins, .bool t.east, .int .i64 r.x, .int .i64 r.y, .int .i64 r.cell, .int .i64 r.rows, .int .i64 r.cols, .slice (some ⟨b, off, none⟩) r.ds.length cap], .slice pa ps.length pcap, .agg #[.int .i64 u, .int .i64 v]] w fun e w' => e = .returned (.bool true) ∧ Below w.heap.size w w' := by
  have hd : decide ((40 : Int) < (r.ds.length : Int)) = false := by simp; omega
  have HFI := Lib.hid (flInts_any hr)
  have HFC := Lib.hid hc
  have HPS := Lib.hid hps
  have HWF := Lib.hid hwf
  have HT := Lib.hid ht
  have HCK := Lib.hid hr
  have HN := Lib.hid (show (some (⟨b, off, none⟩ : Addr)) = none → cap = 0 from fun h => by cases h)
  have hpos := rel_pos hr
  obtain ⟨-, -, -, -, -, -, -, -, -, tl1, tl2, -, -, -, -, tb1, tb2⟩ := checkTrackP_ok ht
  have O := Lib.hid (relErrP_ok hr).1
  have HS := Lib.hid (show SrcAt w (some ⟨b, off, none⟩) r.ds from fun _ => ⟨b, off, rfl, hbw, hc⟩)
  clear ht hr hc hps hwf
  go_enter Try.func17, Try.ntmps17
  go_wp2_with (first | (go_at_call 72; refine (grounded_any _).mono ?_; rintro e w' ⟨rfl, hb⟩; obtain ⟨p1, rfl⟩ := later_of_below hb; clear hb))
  go_cut [7, 8] from 26 to 29 (fun X Y wx => ∃ B7 B8, X = .pointer (some ⟨B7, 0, none⟩) ∧ Y = .pointer (some ⟨B8, 0, none⟩) ∧ TrkBlk wx B7 t ∧ RelBlk wx B8 r (some ⟨b, off, none⟩) cap ∧ TwoBlk wx (w.heap.size + 1) u v ∧ Below w.heap.size w wx ∧ B7 < wx.heap.size ∧ B8 < wx.heap.size ∧ w.heap.size + 1 < wx.heap.size)
  case first =>
    go_region
    all_goals
      go_wp2_with fail
      go_meet
      exact ⟨_, _, rfl, rfl, ⟨(by (first | (simp [go_sem]; done) | simp [go_sem, ↓IntWalk.iteOmega])), (by (first | (simp [go_sem]; done) | simp [go_sem, ↓IntWalk.iteOmega])), (by (first | (simp [go_sem]; done) | simp [go_sem, ↓IntWalk.iteOmega])), (by (first | (simp [go_sem]; done) | simp [go_sem, ↓IntWalk.iteOmega])), (by (first | (simp [go_sem]; done) | simp [go_sem, ↓IntWalk.iteOmega])), (by (first | (simp [go_sem]; done) | simp [go_sem, ↓IntWalk.iteOmega])), (by (first | (simp [go_sem]; done) | simp [go_sem, ↓IntWalk.iteOmega])), (by (first | (simp [go_sem]; done) | simp [go_sem, ↓IntWalk.iteOmega])), (by (first | (simp [go_sem]; done) | simp [go_sem, ↓IntWalk.iteOmega]))⟩, ⟨(by (first | (simp [go_sem]; done) | simp [go_sem, ↓IntWalk.iteOmega])), (by (first | (simp [go_sem]; done) | simp [go_sem, ↓IntWalk.iteOmega])), (by (first | (simp [go_sem]; done) | simp [go_sem, ↓IntWalk.iteOmega])), (by (first | (simp [go_sem]; done) | simp [go_sem, ↓IntWalk.iteOmega])), (by (first | (simp [go_sem]; done) | simp [go_sem, ↓IntWalk.iteOmega])), (by (first | (simp [go_sem]; done) | simp [go_sem, ↓IntWalk.iteOmega]))⟩, ⟨(by (first | (simp [go_sem]; done) | simp [go_sem, ↓IntWalk.iteOmega])), (by (first | (simp [go_sem]; done) | simp [go_sem, ↓IntWalk.iteOmega]))⟩, (by (repeat' (first | with_reducible exact Below.refl _ _ | (with_reducible refine below_later_of ?_ ?_ _) | (with_reducible refine Below.alloc ?_ ?_ _) | (with_reducible refine Below.setCell ?_ ?_ _) | (with_reducible refine Below.drew ?_) | (simp; done) | (simp; omega) | omega))), by (simp <;> omega), by (simp <;> omega), by (simp <;> omega)⟩
  case rest =>
    obtain ⟨B7, B8, rfl, rfl, tt, kk, xx, hb, h7, h8, h1⟩ := hcut
    have TT := Lib.hid tt
    have KK := Lib.hid kk
    have XX := Lib.hid xx
    have HB := Lib.hid hb
    have HS2 := Lib.hid (HS.out.below hb)
    have HFC2 := Lib.hid (HFC.out.below hbw hb)
    have HPS2 := Lib.hid (HPS.out.below hb)
    have hsz := hb.size
    have hbw2 : b < wc.heap.size := by omega
    clear hb tt kk xx
    obtain ⟨W2, hW2⟩ : ∃ W2 : World, W2 = wc := ⟨_, rfl⟩
    subst hW2
    obtain ⟨t0, t1, t2, t3, t4, t5, t6, t7, t8⟩ := TT.out
    obtain ⟨k0, k1, k2, k3, k4, k5⟩ := KK.out
    obtain ⟨e0, he⟩ : ∃ e0, viewErrP feB intB t r = e0 := ⟨_, rfl⟩
    by_cases he0 : e0 = 0
    · subst he0
      have HE := Lib.hid he
      by_cases hl2 : ps.length ≤ 10
      · have hd2 : decide ((10 : Int) < (ps.length : Int)) = false := by simp; omega
        obtain ⟨e1, hpe⟩ : ∃ e1, checkPolygonP ps = e1 := ⟨_, rfl⟩
        have HPE := Lib.hid hpe
        by_cases he1 : e1 = 0
        · subst he1
          obtain ⟨lo, hlo⟩ : ∃ lo, (hiLo r r.ds.length).1 = lo := ⟨_, rfl⟩
          obtain ⟨hi, hhi⟩ : ∃ hi, (hiLo r r.ds.length).2 = hi := ⟨_, rfl⟩
          have HLO := Lib.hid hlo
          have HHI := Lib.hid hhi
          clear hpe he hlo hhi
          go_wp2_with (first | (go_at_call 20; refine (rCheckTrack t _ HT.out).mono ?_; rintro e w' ⟨rfl, hb⟩; obtain ⟨p2, rfl⟩ := later_of_below hb; clear hb) | (go_at_call 43; refine (rCheckRelief_e r _ cap _ HCK.out (by omega) (HS2.out.below (by (repeat' (first | with_reducible exact Below.refl _ _ | (with_reducible refine below_later_of ?_ ?_ _) | (with_reducible refine Below.alloc ?_ ?_ _) | (with_reducible refine Below.setCell ?_ ?_ _) | (with_reducible refine Below.drew ?_) | (simp; done) | (simp; omega) | omega))))).mono ?_; rintro e w' ⟨rfl, hb⟩; obtain ⟨p3, rfl⟩ := later_of_below hb; clear hb) | (go_at_call 73; refine (rViewErr feB t r intB b off cap _ HT.out HCK.out HFI.out (by simp; omega) (HFC2.out.below hbw2 (by (repeat' (first | with_reducible exact Below.refl _ _ | (with_reducible refine below_later_of ?_ ?_ _) | (with_reducible refine Below.alloc ?_ ?_ _) | (with_reducible refine Below.setCell ?_ ?_ _) | (with_reducible refine Below.drew ?_) | (simp; done) | (simp; omega) | omega)))) HE.out).mono ?_; rintro e w' ⟨rfl, hb⟩; obtain ⟨p4, rfl⟩ := later_of_below hb; clear hb) | (go_at_call 52; refine (checkPolygon_t ps pa pcap _ (by omega) (HPS2.out.below (by (repeat' (first | with_reducible exact Below.refl _ _ | (with_reducible refine below_later_of ?_ ?_ _) | (with_reducible refine Below.alloc ?_ ?_ _) | (with_reducible refine Below.setCell ?_ ?_ _) | (with_reducible refine Below.drew ?_) | (simp; done) | (simp; omega) | omega)))) HPE.out).mono ?_; rintro e w' ⟨rfl, hb⟩; obtain ⟨p5, rfl⟩ := later_of_below hb; clear hb))
          obtain ⟨x0, x1⟩ := XX.out
          go_cut [9] from 61 to 67 (fun X wx => ∃ B9, X = .pointer (some ⟨B9, 0, none⟩) ∧ IntsAt4 wx B9 u v lo hi ∧ Below W2.heap.size W2 wx ∧ B9 < wx.heap.size)
          case first =>
            go_region_held3 (fun w' => w'.cell? ⟨B8, 0, none⟩ = some (.int .i64 r.x) ∧ w'.cell? ⟨B8, 1, none⟩ = some (.int .i64 r.y) ∧ w'.cell? ⟨B8, 2, none⟩ = some (.int .i64 r.cell) ∧ w'.cell? ⟨B8, 3, none⟩ = some (.int .i64 r.rows) ∧ w'.cell? ⟨B8, 4, none⟩ = some (.int .i64 r.cols) ∧ w'.cell? ⟨B8, 5, none⟩ = some (.slice (some ⟨b, off, none⟩) r.ds.length cap) ∧ w'.cell? ⟨w.heap.size + 1, 0, none⟩ = some (.int .i64 u) ∧ w'.cell? ⟨w.heap.size + 1, 1, none⟩ = some (.int .i64 v)) (first | ((first | (simp [go_sem, k0, k1, k2, k3, k4, k5, x0, x1]; done) | simp [go_sem, k0, k1, k2, k3, k4, k5, x0, x1, ↓IntWalk.iteOmega]); done)) (first | (go_at_call 74; refine (heights_t r b off cap _ HLO.out HHI.out (by omega) (by omega) HFI.out (by simp; omega) (HFC2.out.below hbw2 (by (repeat' (first | with_reducible exact Below.refl _ _ | (with_reducible refine below_later_of ?_ ?_ _) | (with_reducible refine Below.alloc ?_ ?_ _) | (with_reducible refine Below.setCell ?_ ?_ _) | (with_reducible refine Below.drew ?_) | (simp; done) | (simp; omega) | omega))))).mono ?_; rintro e w' ⟨rfl, hb⟩; obtain ⟨p6, rfl⟩ := later_of_below hb; clear hb))
            all_goals
              go_wp2_with fail
              go_meet
              exact ⟨_, rfl, ⟨(by (first | (simp [go_sem]; done) | simp [go_sem, ↓IntWalk.iteOmega])), (by (first | (simp [go_sem]; done) | simp [go_sem, ↓IntWalk.iteOmega])), (by (first | (simp [go_sem]; done) | simp [go_sem, ↓IntWalk.iteOmega])), (by (first | (simp [go_sem]; done) | simp [go_sem, ↓IntWalk.iteOmega]))⟩, (by (repeat' (first | with_reducible exact Below.refl _ _ | (with_reducible refine below_later_of ?_ ?_ _) | (with_reducible refine Below.alloc ?_ ?_ _) | (with_reducible refine Below.setCell ?_ ?_ _) | (with_reducible refine Below.drew ?_) | (simp; done) | (simp; omega) | omega))), by (simp <;> omega)⟩
          case rest =>
            obtain ⟨B9, rfl, qq, hb3, h9⟩ := hcut
            have hsz3 := hb3.size
            have TT3 := Lib.hid (TT.out.below h7 hb3)
            have KK3 := Lib.hid (KK.out.below h8 hb3)
            have XX3 := Lib.hid (XX.out.below h1 hb3)
            have QQ3 := Lib.hid qq
            have HB3 := Lib.hid (HB.out.trans (hb3.mono hsz))
            have HS3 := Lib.hid (HS.out.below HB3.out)
            have HFC3 := Lib.hid (HFC2.out.below hbw2 hb3)
            have HPS3 := Lib.hid (HPS2.out.below hb3)
            clear qq hb3 t0 t1 t2 t3 t4 t5 t6 t7 t8 k0 k1 k2 k3 k4 k5 x0 x1 TT KK XX HB HS2 HFC2 HPS2
            obtain ⟨W3, hW3⟩ : ∃ W3 : World, W3 = wc := ⟨_, rfl⟩
            subst hW3
            obtain ⟨t0, t1, t2, t3, t4, t5, t6, t7, t8⟩ := TT3.out
            obtain ⟨k0, k1, k2, k3, k4, k5⟩ := KK3.out
            obtain ⟨x0, x1⟩ := XX3.out
            obtain ⟨q0, q1, q2, q3⟩ := QQ3.out
            have hs3 : w.heap.size ≤ W3.heap.size := by omega
            obtain ⟨e2, hpx⟩ : ∃ e2, checkPixelP t ⟨u, v, lo, hi⟩ = e2 := ⟨_, rfl⟩
            have HPX := Lib.hid hpx
            by_cases he2 : e2 = 0
            · subst he2
              obtain ⟨N, hN⟩ : ∃ N, plN t r 0 u v = N := ⟨_, rfl⟩
              have hpn : N ≤ 40 := by rw [← hN]; unfold plN; rw [if_pos rfl]; exact cnGrid_few O.out hl
              have HPN := Lib.hid hN
              have HPC := Lib.hid (fun n (hn : n < N) => placed_cell (n := n) HE.out HLO.out HHI.out hpx (by rw [hN]; exact hn))
              clear hpx hN
              go_wp2_with (first | (go_at_call 21; refine (pixelErr_t t _ _ _ _ _ HPX.out (by omega) (by omega) (by omega) (by omega)).mono ?_; rintro e w' ⟨rfl, hb⟩; obtain ⟨p7, rfl⟩ := later_of_below hb; clear hb))
              go_cut [10, 11] from 72 to 79 (fun X Y wx => ∃ q1 c1, X = .slice q1 N c1 ∧ Y = .int .i64 0 ∧ PairsV wx q1 N (plZ t r u v) ∧ Below W3.heap.size W3 wx)
              case first =>
                go_region_held3 (fun w' => w'.cell? ⟨B7, 0, none⟩ = some (.int .i64 t.sx) ∧ w'.cell? ⟨B7, 1, none⟩ = some (.int .i64 t.sy) ∧ w'.cell? ⟨B7, 2, none⟩ = some (.int .i64 t.sz) ∧ w'.cell? ⟨B7, 3, none⟩ = some (.int .i64 t.step) ∧ w'.cell? ⟨B7, 4, none⟩ = some (.int .i64 t.lines) ∧ w'.cell? ⟨B7, 5, none⟩ = some (.int .i64 t.near) ∧ w'.cell? ⟨B7, 6, none⟩ = some (.int .i64 t.bin) ∧ w'.cell? ⟨B7, 7, none⟩ = some (.int .i64 t.bins) ∧ w'.cell? ⟨B7, 8, none⟩ = some (.bool t.east) ∧ w'.cell? ⟨B8, 0, none⟩ = some (.int .i64 r.x) ∧ w'.cell? ⟨B8, 1, none⟩ = some (.int .i64 r.y) ∧ w'.cell? ⟨B8, 2, none⟩ = some (.int .i64 r.cell) ∧ w'.cell? ⟨B8, 3, none⟩ = some (.int .i64 r.rows) ∧ w'.cell? ⟨B8, 4, none⟩ = some (.int .i64 r.cols) ∧ w'.cell? ⟨B8, 5, none⟩ = some (.slice (some ⟨b, off, none⟩) r.ds.length cap) ∧ w'.cell? ⟨w.heap.size + 1, 0, none⟩ = some (.int .i64 u) ∧ w'.cell? ⟨w.heap.size + 1, 1, none⟩ = some (.int .i64 v)) (first | ((first | (simp [go_sem, t0, t1, t2, t3, t4, t5, t6, t7, t8, k0, k1, k2, k3, k4, k5, x0, x1]; done) | simp [go_sem, t0, t1, t2, t3, t4, t5, t6, t7, t8, k0, k1, k2, k3, k4, k5, x0, x1, ↓IntWalk.iteOmega]); done)) (first | (go_at_call 33; refine (copy_any r (some ⟨b, off, none⟩) cap _ (by omega) (HS3.out.below (by (repeat' (first | with_reducible exact Below.refl _ _ | (with_reducible refine below_later_of ?_ ?_ _) | (with_reducible refine Below.alloc ?_ ?_ _) | (with_reducible refine Below.setCell ?_ ?_ _) | (with_reducible refine Below.drew ?_) | (simp; done) | (simp; omega) | omega)))) HN.out).mono ?_; rintro e w' ⟨a', cap', rfl, hs2, hn2, hb⟩; have HSC := Lib.hid hs2; have HN2 := Lib.hid hn2; clear hs2 hn2; obtain ⟨pp, rfl⟩ := later_of_below hb; clear hb) | (go_at_call 59; refine (placed_v t r _ _ u v _ (relAt_any (by omega) (HSC.out.below' (by (repeat' (first | with_reducible exact Below.refl _ _ | (with_reducible refine below_later_of ?_ ?_ _) | (with_reducible refine Below.alloc ?_ ?_ _) | (with_reducible refine Below.setCell ?_ ?_ _) | (with_reducible refine Below.drew ?_) | (simp; done) | (simp; omega) | omega))))) HE.out HPN.out).mono ?_; rintro e w' ⟨q1, c1, rfl, hv1, hb⟩; have HV1 := Lib.hid hv1; clear hv1; obtain ⟨pp, rfl⟩ := later_of_below hb; clear hb))
                all_goals
                  go_wp2_with fail
                  go_meet
                  exact ⟨_, _, rfl, rfl, HV1.out.below (by (repeat' (first | with_reducible exact Below.refl _ _ | (with_reducible refine below_later_of ?_ ?_ _) | (with_reducible refine Below.alloc ?_ ?_ _) | (with_reducible refine Below.setCell ?_ ?_ _) | (with_reducible refine Below.drew ?_) | (simp; done) | (simp; omega) | omega))), (by (repeat' (first | with_reducible exact Below.refl _ _ | (with_reducible refine below_later_of ?_ ?_ _) | (with_reducible refine Below.alloc ?_ ?_ _) | (with_reducible refine Below.setCell ?_ ?_ _) | (with_reducible refine Below.drew ?_) | (simp; done) | (simp; omega) | omega)))⟩
              case rest =>
                obtain ⟨a1, c1, rfl, rfl, hv1, hb4⟩ := hcut
                have hsz4 := hb4.size
                have TT4 := Lib.hid (TT3.out.below (show B7 < W3.heap.size by omega) hb4)
                have KK4 := Lib.hid (KK3.out.below (show B8 < W3.heap.size by omega) hb4)
                have QQ4 := Lib.hid (QQ3.out.below h9 hb4)
                have HB4 := Lib.hid (HB3.out.trans (hb4.mono hs3))
                have HFC4 := Lib.hid (HFC3.out.below (show b < W3.heap.size by omega) hb4)
                have HPS4 := Lib.hid (HPS3.out.below hb4)
                have HV4 := Lib.hid hv1
                clear hv1 hb4 t0 t1 t2 t3 t4 t5 t6 t7 t8 k0 k1 k2 k3 k4 k5 x0 x1 q0 q1 q2 q3 TT3 KK3 XX3 QQ3 HB3 HS3 HFC3 HPS3
                obtain ⟨W4, hW4⟩ : ∃ W4 : World, W4 = wc := ⟨_, rfl⟩
                subst hW4
                obtain ⟨t0, t1, t2, t3, t4, t5, t6, t7, t8⟩ := TT4.out
                obtain ⟨q0, q1, q2, q3⟩ := QQ4.out
                have hs4 : w.heap.size ≤ W4.heap.size := by omega
                obtain ⟨bx0, bx1, bx2, bx3, f, hbo⟩ : ∃ a b c d e, boxOfP t ⟨u, v, lo, hi⟩ = ⟨a, b, c, d, e⟩ := ⟨_, _, _, _, _, rfl⟩
                have HBO := Lib.hid hbo
                by_cases hf : f = 0
                · subst hf
                  clear hbo
                  obtain ⟨e3, hbe⟩ : ∃ e3, boxErrP ⟨bx0, bx1, bx2, bx3⟩ = e3 := ⟨_, rfl⟩
                  have HBE := Lib.hid hbe
                  by_cases he3 : e3 = 0
                  · subst he3
                    clear hbe
                    go_wp2_with (first | (go_at_call 19; refine (boxOf_t t _ _ _ _ _ HBO.out).mono ?_; rintro e w' ⟨rfl, hb⟩; obtain ⟨p8, rfl⟩ := later_of_below hb; clear hb) | (go_at_call 63; refine (boxErr_t _ _ _ _ _ HBE.out).mono ?_; rintro e w' ⟨rfl, hb⟩; obtain ⟨p9, rfl⟩ := later_of_below hb; clear hb))
                    have hpl3 := poly_len HPE.out
                    obtain ⟨pb, poff, rfl, hpb, hpo⟩ := HPS4.out (by omega)
                    obtain ⟨B12, hB12⟩ : ∃ B12, B12 = W4.heap.size + p8.os.size := ⟨_, rfl⟩
                    refine wp_worldT (fun W => IntsAt4 W B12 bx0 bx1 bx2 bx3 ∧ Below W4.heap.size W4 W ∧ B12 < W.heap.size) ⟨by subst hB12; exact ⟨(by (first | (simp [go_sem]; done) | simp [go_sem, ↓IntWalk.iteOmega])), (by (first | (simp [go_sem]; done) | simp [go_sem, ↓IntWalk.iteOmega])), (by (first | (simp [go_sem]; done) | simp [go_sem, ↓IntWalk.iteOmega])), (by (first | (simp [go_sem]; done) | simp [go_sem, ↓IntWalk.iteOmega]))⟩, (by (repeat' (first | with_reducible exact Below.refl _ _ | (with_reducible refine below_later_of ?_ ?_ _) | (with_reducible refine Below.alloc ?_ ?_ _) | (with_reducible refine Below.setCell ?_ ?_ _) | (with_reducible refine Below.drew ?_) | (simp; done) | (simp; omega) | omega))), by subst hB12; (simp <;> omega)⟩ ?_
                    rw [← hB12]
                    clear hB12 t0 t1 t2 t3 t4 t5 t6 t7 t8 q0 q1 q2 q3
                    rintro W5 ⟨bb5, hb5, h12⟩
                    have hsz5 := hb5.size
                    have KK5 := Lib.hid (KK4.out.below (show B8 < W4.heap.size by omega) hb5)
                    have HB5 := Lib.hid (HB4.out.trans (hb5.mono hs4))
                    have HFC5 := Lib.hid (HFC4.out.below (show b < W4.heap.size by omega) hb5)
                    have HPO5 := Lib.hid (hpo.below hpb hb5)
                    have HV5 := Lib.hid (HV4.out.below hb5)
                    have BB5 := Lib.hid bb5
                    have hpb5 : pb < W5.heap.size := by omega
                    obtain ⟨c0, d1, d2, d3⟩ := bb5
                    clear hb5 hpo KK4 HB4 HFC4 HPS4 HV4 TT4 QQ4
                    obtain ⟨nb, hnb⟩ : ∃ nb, boxInVal ps ⟨bx0, bx1, bx2, bx3⟩ = nb := ⟨_, rfl⟩
                    have HNB := Lib.hid hnb
                    have HBI := Lib.hid (show boxInErr ps ⟨bx0, bx1, bx2, bx3⟩ = 0 by unfold boxInErr first2; rw [HPE.out, if_pos rfl]; exact HBE.out)
                    clear hnb
                    go_cut [14, 15] from 108 to 115 (fun X Y wx => X = .int .i64 nb ∧ Y = .int .i64 0 ∧ Below W5.heap.size W5 wx)
                    case first =>
                      go_region_held3 (fun w' => w'.cell? ⟨B12, 0, none⟩ = some (.int .i64 bx0) ∧ w'.cell? ⟨B12, 1, none⟩ = some (.int .i64 bx1) ∧ w'.cell? ⟨B12, 2, none⟩ = some (.int .i64 bx2) ∧ w'.cell? ⟨B12, 3, none⟩ = some (.int .i64 bx3)) (first | ((first | (simp [go_sem, c0, d1, d2, d3]; done) | simp [go_sem, c0, d1, d2, d3, ↓IntWalk.iteOmega]); done)) (first | (go_at_call 70; refine (boxInside_t ps _ _ _ _ _ _ (HV.out.below (by (repeat' (first | with_reducible exact Below.refl _ _ | (with_reducible refine below_later_of ?_ ?_ _) | (with_reducible refine Below.alloc ?_ ?_ _) | (with_reducible refine Below.setCell ?_ ?_ _) | (with_reducible refine Below.drew ?_) | (simp; done) | (simp; omega) | omega)))) HNB.out HBI.out).mono ?_; rintro e w' ⟨rfl, hb⟩; obtain ⟨pp, rfl⟩ := later_of_below hb; clear hb) | (refine step_places rfl _ _ rfl rfl rfl (by first | rfl | simp) ps pb poff pcap rfl (by omega) HWF.out (by first | omega | (simp <;> omega)) (HPO5.out.below hpb5 (by (repeat' (first | with_reducible exact Below.refl _ _ | (with_reducible refine below_later_of ?_ ?_ _) | (with_reducible refine Below.alloc ?_ ?_ _) | (with_reducible refine Below.setCell ?_ ?_ _) | (with_reducible refine Below.drew ?_) | (simp; done) | (simp; omega) | omega)))) ?_; intro v' p hv'; have HV := Lib.hid hv'; clear hv'))
                      all_goals
                        go_wp2_with fail
                        go_meet
                        exact ⟨rfl, rfl, (by (repeat' (first | with_reducible exact Below.refl _ _ | (with_reducible refine below_later_of ?_ ?_ _) | (with_reducible refine Below.alloc ?_ ?_ _) | (with_reducible refine Below.setCell ?_ ?_ _) | (with_reducible refine Below.drew ?_) | (simp; done) | (simp; omega) | omega)))⟩
                    case rest =>
                      obtain ⟨rfl, rfl, hb6⟩ := hcut
                      have hsz6 := hb6.size
                      have KK6 := Lib.hid (KK5.out.below (show B8 < W5.heap.size by omega) hb6)
                      have BB6 := Lib.hid (BB5.out.below h12 hb6)
                      have HB6 := Lib.hid (HB5.out.trans (hb6.mono (show w.heap.size ≤ W5.heap.size by omega)))
                      have HFC6 := Lib.hid (HFC5.out.below (show b < W5.heap.size by omega) hb6)
                      have HPO6 := Lib.hid (HPO5.out.below hpb5 hb6)
                      have HV6 := Lib.hid (HV5.out.below hb6)
                      clear hb6 c0 d1 d2 d3 KK5 BB5 HB5 HFC5 HPO5 HV5
                      obtain ⟨W6, hW6⟩ : ∃ W6 : World, W6 = wc := ⟨_, rfl⟩
                      subst hW6
                      obtain ⟨c0, d1, d2, d3⟩ := BB6.out
                      obtain ⟨NT, l, bo, ny, hE, tf⟩ := tiles_t HBE.out
                      have TF := Lib.hid tf
                      have hnt := tf.few
                      obtain ⟨fB, hfB⟩ : ∃ fB : Int → Int → Nat → Bool, fB = fun X Y j => foundB hE l bo ny X Y j := ⟨_, rfl⟩
                      have FZ := Lib.hid (show ∀ X Y, fB X Y 0 = (hE != 0) from fun X Y => by rw [hfB]; exact foundB_zero _ _ _ _ _ _)
                      have FS := Lib.hid (show ∀ X Y j, fB X Y (j + 1) = (fB X Y j || (txP l ny j == X && tyP bo ny j == Y)) from fun X Y j => by rw [hfB]; exact foundB_succ _ _ _ _ _ _ _)
                      have FH := Lib.hid (show ∀ x y, bx0 ≤ x → x ≤ bx1 → bx2 ≤ y → y ≤ bx3 → fB (x / 100) (y / 100) NT = true from fun x y h1 h2 h3 h4 => by rw [hfB]; exact tf.hit x y h1 h2 h3 h4)
                      clear hfB
                      rcases tf.err with h08 | h08
                      all_goals
                        subst h08
                        clear tf
                        go_wp2_with (first | (go_at_call 62; refine (TF.out.run _).mono ?_; rintro e w' ⟨ga, c3, rfl, htl, hb⟩; have HTL := Lib.hid htl; clear htl; obtain ⟨p10, rfl⟩ := later_of_below hb; clear hb))
                        refine wp_worldT (fun W => (0 < NT → ∃ g, ga = some ⟨g, 0, none⟩ ∧ g < W.heap.size ∧ TilesAt W g l bo ny NT) ∧ Below W6.heap.size W6 W) ⟨HTL.out, (by (repeat' (first | with_reducible exact Below.refl _ _ | (with_reducible refine below_later_of ?_ ?_ _) | (with_reducible refine Below.alloc ?_ ?_ _) | (with_reducible refine Below.setCell ?_ ?_ _) | (with_reducible refine Below.drew ?_) | (simp; done) | (simp; omega) | omega)))⟩ ?_
                        clear HTL c0 d1 d2 d3
                        rintro W7 ⟨htl, hb7⟩
                        have hsz7 := hb7.size
                        have KK7 := Lib.hid (KK6.out.below (show B8 < W6.heap.size by omega) hb7)
                        have HB7 := Lib.hid (HB6.out.trans (hb7.mono (show w.heap.size ≤ W6.heap.size by omega)))
                        have HFC7 := Lib.hid (HFC6.out.below (show b < W6.heap.size by omega) hb7)
                        have HPO7 := Lib.hid (HPO6.out.below (show pb < W6.heap.size by omega) hb7)
                        have HV7 := Lib.hid (HV6.out.below hb7)
                        have HTL := Lib.hid htl
                        have hs7 : w.heap.size ≤ W7.heap.size := by omega
                        clear htl hb7
                        go_loopw [18] (fun i wr => ∃ m : Nat, m ≤ N ∧ i = .int .i64 m ∧ Below W7.heap.size W7 wr) (fun i _ => N - (intOf i).toNat)
                        case atStart => exact ⟨0, Nat.zero_le _, rfl, Below.refl _ _⟩
                        case round =>
                          obtain ⟨m, hm, rfl, hnx⟩ := hrel
                          have HX := Lib.hid hnx
                          have hszr := hnx.size
                          by_cases hlm : m < N
                          · have hdm : decide ((m : Int) < (N : Int)) = true := by simp; omega
                            have hdm2 : decide ((m : Int) < 50) = true := by simp; omega
                            obtain ⟨i, k, z1, z2, hi, hk, e0, e1, e2, e3, hbo2, g1, g2, g3, g4⟩ := HPC.out m hlm
                            rw [HBO.out] at hbo2
                            simp only [BoxE.mk.injEq, and_true] at hbo2
                            obtain ⟨e4, e5, e6, e7⟩ := hbo2
                            rw [← e4] at g1
                            rw [← e5] at g2
                            rw [← e6] at g3
                            rw [← e7] at g4
                            clear e4 e5 e6 e7 e0 e1 e2 e3
                            obtain ⟨g, rfl, hg, hcl⟩ := HV7.out (show 0 < N by omega)
                            have cc0 := (hnx.cell (p := ⟨g, m * 2, none⟩) hg).trans (hcl m hlm).1
                            have cc1 := (hnx.cell (p := ⟨g, m * 2 + 1, none⟩) hg).trans (hcl m hlm).2
                            rw [z1] at cc0
                            rw [z2] at cc1
                            have o := O.out
                            obtain ⟨-, -, -, hil⟩ := idx_lt o (Int.natCast_nonneg i) hi (Int.natCast_nonneg k) hk
                            have HHC := Lib.hid (show hasCellB r i k = true from hasCellB_iff.2 ⟨⟨Int.natCast_nonneg i, by omega⟩, Int.natCast_nonneg k, by omega⟩)
                            obtain ⟨⟨or1, or2⟩, ol1, ol2⟩ : (1 ≤ r.rows ∧ r.rows ≤ 64) ∧ 1 ≤ r.cols ∧ r.cols ≤ 64 := ⟨⟨o.r1, o.r2⟩, o.l1, o.l2⟩
                            obtain ⟨x, hx⟩ : ∃ x, pxP r k = x := ⟨_, rfl⟩
                            obtain ⟨y, hy⟩ : ∃ y, pyP r i = y := ⟨_, rfl⟩
                            obtain ⟨z, hz⟩ : ∃ z, intB (bitAt r.ds (idxP r i k)) = z := ⟨_, rfl⟩
                            have HPT := Lib.hid (show ∀ w2, Below wr.heap.size wr w2 → Calls Try.prog 75 #[.agg #[.int .i64 r.x, .int .i64 r.y, .int .i64 r.cell, .int .i64 r.rows, .int .i64 r.cols, .slice (some ⟨b, off, none⟩) r.ds.length cap], .int .i64 (i : Int), .int .i64 (k : Int)] w2 fun e w' => e = .returned (.agg #[.int .i64 x, .int .i64 y, .int .i64 z]) ∧ Below w2.heap.size w2 w' from fun w2 hb2 => by
                              rw [← hx, ← hy, ← hz]
                              exact rPoint r b off cap i k _ w2 o (Int.natCast_nonneg i) hi (Int.natCast_nonneg k) hk (Nat.lt_of_lt_of_le (show b < wr.heap.size by omega) hb2.size) ((HFC7.out.below (show b < W7.heap.size by omega) hnx).below (show b < wr.heap.size by omega) hb2) (HFI.out _ hil).1)
                            rw [hx] at g1 g2
                            rw [hy] at g3 g4
                            have HPOr := Lib.hid (HPO7.out.below (show pb < W7.heap.size by omega) hnx)
                            obtain ⟨k0, k1, k2, k3, k4, k5⟩ := KK7.out.below (show B8 < W7.heap.size by omega) hnx
                            clear hcl z1 z2 hx hy hz hil hnx o
                            go_wp2
                            refine wp_region_calm (by kernel_rfl) (by kernel_rfl) ?_
                            repeat (go_big_quiet_step (first | (go_at_call 37; exact calm_of (rHasCell r (some ⟨b, off, none⟩) cap _ _ _ (by omega) (by omega) (by omega) (by omega) HHC.out))))
                            refine wpQuiet_nil ?_
                            rintro _ ⟨pc, rfl⟩
                            go_wp2
                            go_cut [19] from 154 to 165 (fun X wx => ∃ B19, X = .pointer (some ⟨B19, 0, none⟩) ∧ TriBlk wx B19 x y z ∧ Below wr.heap.size wr wx ∧ B19 < wx.heap.size)
                            case first =>
                              go_region_held3 (fun w' => w'.cell? ⟨B8, 0, none⟩ = some (.int .i64 r.x) ∧ w'.cell? ⟨B8, 1, none⟩ = some (.int .i64 r.y) ∧ w'.cell? ⟨B8, 2, none⟩ = some (.int .i64 r.cell) ∧ w'.cell? ⟨B8, 3, none⟩ = some (.int .i64 r.rows) ∧ w'.cell? ⟨B8, 4, none⟩ = some (.int .i64 r.cols) ∧ w'.cell? ⟨B8, 5, none⟩ = some (.slice (some ⟨b, off, none⟩) r.ds.length cap) ∧ w'.cell? ⟨g, m * 2, none⟩ = some (.int .i64 (i : Int)) ∧ w'.cell? ⟨g, m * 2 + 1, none⟩ = some (.int .i64 (k : Int))) (first | ((first | (simp [go_sem, k0, k1, k2, k3, k4, k5, cc0, cc1]; done) | simp [go_sem, k0, k1, k2, k3, k4, k5, cc0, cc1, ↓IntWalk.iteOmega]); done)) (first | (go_at_call 75; refine (HPT.out _ (by (repeat' (first | with_reducible exact Below.refl _ _ | (with_reducible refine below_later_of ?_ ?_ _) | (with_reducible refine Below.alloc ?_ ?_ _) | (with_reducible refine Below.setCell ?_ ?_ _) | (with_reducible refine Below.drew ?_) | (simp; done) | (simp; omega) | omega)))).mono ?_; rintro e w' ⟨rfl, hb⟩; obtain ⟨p11, rfl⟩ := later_of_below hb; clear hb))
                              all_goals
                                go_wp2_with fail
                                go_meet
                                exact ⟨_, rfl, ⟨(by (first | (simp [go_sem]; done) | simp [go_sem, ↓IntWalk.iteOmega])), (by (first | (simp [go_sem]; done) | simp [go_sem, ↓IntWalk.iteOmega])), (by (first | (simp [go_sem]; done) | simp [go_sem, ↓IntWalk.iteOmega]))⟩, (by (repeat' (first | with_reducible exact Below.refl _ _ | (with_reducible refine below_later_of ?_ ?_ _) | (with_reducible refine Below.alloc ?_ ?_ _) | (with_reducible refine Below.setCell ?_ ?_ _) | (with_reducible refine Below.drew ?_) | (simp; done) | (simp; omega) | omega))), by (simp <;> omega)⟩
                            case rest =>
                              obtain ⟨B19, rfl, pp8, hb8, h19⟩ := hcut
                              have hsz8 := hb8.size
                              have PP8 := Lib.hid pp8
                              have HX8 := Lib.hid (HX.out.trans (hb8.mono hszr))
                              have HPO8 := Lib.hid (HPOr.out.below (show pb < wr.heap.size by omega) hb8)
                              clear pp8 hb8 k0 k1 k2 k3 k4 k5 cc0 cc1 HPOr
                              obtain ⟨W8, hW8⟩ : ∃ W8 : World, W8 = wc := ⟨_, rfl⟩
                              subst hW8
                              obtain ⟨y0, y1, y2⟩ := PP8.out
                              have hs8 : W7.heap.size ≤ W8.heap.size := by omega
                              rcases (show placeB x y z = false ∨ placeB x y z = true by cases placeB x y z <;> simp) with hp | hp
                              · have HP := Lib.hid hp
                                clear hp
                                go_wp2_with (first | (go_at_call 45; refine (rIsPlace x y z _ HP.out).mono ?_; rintro e w' ⟨rfl, hb⟩; obtain ⟨p12, rfl⟩ := later_of_below hb; clear hb))
                                go_roundw
                                case rel => exact ⟨m + 1, by omega, by go_num, HX8.out.trans (below_mono_of hs8 (by (repeat' (first | with_reducible exact Below.refl _ _ | (with_reducible refine below_later_of ?_ ?_ _) | (with_reducible refine Below.alloc ?_ ?_ _) | (with_reducible refine Below.setCell ?_ ?_ _) | (with_reducible refine Below.drew ?_) | (simp; done) | (simp; omega) | omega))))⟩
                                case measure => simp [intOf]; omega
                              · have HP := Lib.hid hp
                                obtain ⟨⟨px1, px2⟩, ⟨py1, py2⟩, -⟩ := placeB_iff.1 hp
                                obtain ⟨hie, hiv⟩ := inside_same HPE.out hp
                                obtain ⟨iv, hivv⟩ : ∃ iv, insideValP ps x y 0 = iv := ⟨_, rfl⟩
                                rw [hivv] at hiv
                                have HIV := Lib.hid hiv
                                have HIE := Lib.hid hie
                                obtain ⟨-, -, htri⟩ := boxIn_place HPE.out HBE.out g1 g2 g3 g4 HNB.out hivv
                                have HTRI := Lib.hid htri
                                clear hp hie hiv hivv htri
                                go_wp2_with (first | (go_at_call 45; refine (rIsPlace x y z _ HP.out).mono ?_; rintro e w' ⟨rfl, hb⟩; obtain ⟨p12, rfl⟩ := later_of_below hb; clear hb))
                                go_cut [20, 21] from 169 to 176 (fun X Y wx => X = .bool iv ∧ Y = .int .i64 0 ∧ Below W8.heap.size W8 wx)
                                case first =>
                                  go_region_held3 (fun w' => w'.cell? ⟨B19, 0, none⟩ = some (.int .i64 x) ∧ w'.cell? ⟨B19, 1, none⟩ = some (.int .i64 y) ∧ w'.cell? ⟨B19, 2, none⟩ = some (.int .i64 z)) (first | ((first | (simp [go_sem, y0, y1, y2]; done) | simp [go_sem, y0, y1, y2, ↓IntWalk.iteOmega]); done)) (first | (go_at_call 49; refine (Inside_any ps _ x y z _ (HV.out.below (by (repeat' (first | with_reducible exact Below.refl _ _ | (with_reducible refine below_later_of ?_ ?_ _) | (with_reducible refine Below.alloc ?_ ?_ _) | (with_reducible refine Below.setCell ?_ ?_ _) | (with_reducible refine Below.drew ?_) | (simp; done) | (simp; omega) | omega)))) HIV.out HIE.out).mono ?_; rintro e w' ⟨rfl, hb⟩; obtain ⟨pp, rfl⟩ := later_of_below hb; clear hb) | (refine step_places rfl _ _ rfl rfl rfl (by first | rfl | simp) ps pb poff pcap rfl (by omega) HWF.out (by first | omega | (simp <;> omega)) (HPO8.out.below (show pb < W8.heap.size by omega) (by (repeat' (first | with_reducible exact Below.refl _ _ | (with_reducible refine below_later_of ?_ ?_ _) | (with_reducible refine Below.alloc ?_ ?_ _) | (with_reducible refine Below.setCell ?_ ?_ _) | (with_reducible refine Below.drew ?_) | (simp; done) | (simp; omega) | omega)))) ?_; intro v' p hv'; have HV := Lib.hid hv'; clear hv'))
                                  all_goals
                                    go_wp2_with fail
                                    go_meet
                                    exact ⟨rfl, rfl, (by (repeat' (first | with_reducible exact Below.refl _ _ | (with_reducible refine below_later_of ?_ ?_ _) | (with_reducible refine Below.alloc ?_ ?_ _) | (with_reducible refine Below.setCell ?_ ?_ _) | (with_reducible refine Below.drew ?_) | (simp; done) | (simp; omega) | omega)))⟩
                                case rest =>
                                  obtain ⟨rfl, rfl, hb9⟩ := hcut
                                  have hsz9 := hb9.size
                                  have HX9 := Lib.hid (HX8.out.trans (hb9.mono hs8))
                                  have PP9 := Lib.hid (PP8.out.below h19 hb9)
                                  clear hb9 y0 y1 y2
                                  obtain ⟨W9, hW9⟩ : ∃ W9 : World, W9 = wc := ⟨_, rfl⟩
                                  subst hW9
                                  go_upto_region 27 with (fail)
                                  go_cut [193] from 177 to 193 (fun X wx => X = .bool false ∧ Below W9.heap.size W9 wx)
                                  case first =>
                                    rcases HTRI.out with ⟨hn2, hv2⟩ | hn2 | ⟨hn2, hv2⟩
                                    · subst hn2 hv2
                                      go_wp2_with fail
                                      go_meet
                                      exact ⟨rfl, (by (repeat' (first | with_reducible exact Below.refl _ _ | (with_reducible refine below_later_of ?_ ?_ _) | (with_reducible refine Below.alloc ?_ ?_ _) | (with_reducible refine Below.setCell ?_ ?_ _) | (with_reducible refine Below.drew ?_) | (simp; done) | (simp; omega) | omega)))⟩
                                    · subst hn2
                                      go_wp2_with fail
                                      go_meet
                                      exact ⟨rfl, (by (repeat' (first | with_reducible exact Below.refl _ _ | (with_reducible refine below_later_of ?_ ?_ _) | (with_reducible refine Below.alloc ?_ ?_ _) | (with_reducible refine Below.setCell ?_ ?_ _) | (with_reducible refine Below.drew ?_) | (simp; done) | (simp; omega) | omega)))⟩
                                    · subst hn2 hv2
                                      go_wp2_with fail
                                      go_meet
                                      exact ⟨rfl, (by (repeat' (first | with_reducible exact Below.refl _ _ | (with_reducible refine below_later_of ?_ ?_ _) | (with_reducible refine Below.alloc ?_ ?_ _) | (with_reducible refine Below.setCell ?_ ?_ _) | (with_reducible refine Below.drew ?_) | (simp; done) | (simp; omega) | omega)))⟩
                                  case rest =>
                                    obtain ⟨rfl, hb10⟩ := hcut
                                    have hsz10 := hb10.size
                                    have HX10 := Lib.hid (HX9.out.trans (hb10.mono (show W7.heap.size ≤ W9.heap.size by omega)))
                                    have PP10 := Lib.hid (PP9.out.below (show B19 < W9.heap.size by omega) hb10)
                                    clear hb10
                                    obtain ⟨W10, hW10⟩ : ∃ W10 : World, W10 = wc := ⟨_, rfl⟩
                                    subst hW10
                                    have hs10 : W7.heap.size ≤ W10.heap.size := by omega
                                    go_wp2
                                    go_loopw [22, 23] (fun f i wi => ∃ j : Nat, j ≤ NT ∧ i = .int .i64 j ∧ f = .bool (fB (x / 100) (y / 100) j) ∧ Below W10.heap.size W10 wi) (fun _ i _ => NT - (intOf i).toNat)
                                    case atStart => exact ⟨0, Nat.zero_le _, rfl, by rw [FZ.out]; rfl, Below.refl _ _⟩
                                    case round =>
                                      obtain ⟨j, hj, rfl, rfl, hnx2⟩ := hrel
                                      have HX2 := Lib.hid hnx2
                                      have hszi := hnx2.size
                                      by_cases hlj : j < NT
                                      · have hdj : decide ((j : Int) < (NT : Int)) = true := by simp; omega
                                        have hdj2 : decide ((j : Int) < 500) = true := by simp; omega
                                        obtain ⟨tg, rfl, htg, htl⟩ := HTL.out (show 0 < NT by omega)
                                        have tc0 := (hnx2.cell (p := ⟨tg, j * 2, none⟩) (show tg < W10.heap.size by omega)).trans ((HX10.out.cell (p := ⟨tg, j * 2, none⟩) htg).trans (htl j hlj).1)
                                        have tc1 := (hnx2.cell (p := ⟨tg, j * 2 + 1, none⟩) (show tg < W10.heap.size by omega)).trans ((HX10.out.cell (p := ⟨tg, j * 2 + 1, none⟩) htg).trans (htl j hlj).2)
                                        obtain ⟨y0, y1, y2⟩ := PP10.out.below (show B19 < W10.heap.size by omega) hnx2
                                        have HFS := Lib.hid (FS.out (x / 100) (y / 100) j)
                                        generalize fB (x / 100) (y / 100) j = fb at HFS ⊢
                                        clear hnx2 htl
                                        cases fb
                                        · go_wp2
                                          refine wp_region_calm (by kernel_rfl) (by kernel_rfl) ?_
                                          repeat (go_big_quiet_step (first | (go_at_call 57; exact calm_same (bFloor _ _ _ (by omega) (by omega) (by omega) (by omega)))))
                                          refine wpQuiet_nil ?_
                                          rintro _ ⟨pf, rfl⟩
                                          go_wp2
                                          go_roundw
                                          case rel => exact ⟨j + 1, by omega, by go_num, by rw [HFS.out]; first | rfl | simp, HX2.out.trans (below_mono_of hszi (by (repeat' (first | with_reducible exact Below.refl _ _ | (with_reducible refine below_later_of ?_ ?_ _) | (with_reducible refine Below.alloc ?_ ?_ _) | (with_reducible refine Below.setCell ?_ ?_ _) | (with_reducible refine Below.drew ?_) | (simp; done) | (simp; omega) | omega))))⟩
                                          case measure => simp [intOf]; omega
                                        · go_wp2
                                          refine wp_region_calm (by kernel_rfl) (by kernel_rfl) ?_
                                          repeat (go_big_quiet_step (first | (go_at_call 57; exact calm_same (bFloor _ _ _ (by omega) (by omega) (by omega) (by omega)))))
                                          refine wpQuiet_nil ?_
                                          rintro _ ⟨pf, rfl⟩
                                          go_wp2
                                          go_roundw
                                          case rel => exact ⟨j + 1, by omega, by go_num, by rw [HFS.out]; first | rfl | simp, HX2.out.trans (below_mono_of hszi (by (repeat' (first | with_reducible exact Below.refl _ _ | (with_reducible refine below_later_of ?_ ?_ _) | (with_reducible refine Below.alloc ?_ ?_ _) | (with_reducible refine Below.setCell ?_ ?_ _) | (with_reducible refine Below.drew ?_) | (simp; done) | (simp; omega) | omega))))⟩
                                          case measure => simp [intOf]; omega
                                      · obtain rfl : j = NT := by omega
                                        have hdj : decide ((j : Int) < (j : Int)) = false := by simp
                                        have hfh := FH.out x y g1 g2 g3 g4
                                        clear hnx2
                                        go_wp2
                                        go_roundw
                                        case rel => exact ⟨m + 1, by omega, by go_num, HX10.out.trans (HX2.out.mono hs10)⟩
                                        case measure => simp [intOf]; omega
                          · obtain rfl : m = N := by omega
                            have hdm : decide ((m : Int) < (m : Int)) = false := by simp
                            clear hnx
                            go_wp2
                            go_ret
                            exact ⟨rfl, HB7.out.trans (HX.out.mono hs7)⟩
                  · have hne : (e3 != 0) = true := by simpa using he3
                    clear hbe he3
                    go_wp2_with (first | (go_at_call 19; refine (boxOf_t t _ _ _ _ _ HBO.out).mono ?_; rintro e w' ⟨rfl, hb⟩; obtain ⟨p8, rfl⟩ := later_of_below hb; clear hb) | (go_at_call 63; refine (boxErr_t _ _ _ _ _ HBE.out).mono ?_; rintro e w' ⟨rfl, hb⟩; obtain ⟨p9, rfl⟩ := later_of_below hb; clear hb))
                    go_ret
                    exact ⟨rfl, HB4.out.trans (below_mono_of hs4 (by (repeat' (first | with_reducible exact Below.refl _ _ | (with_reducible refine below_later_of ?_ ?_ _) | (with_reducible refine Below.alloc ?_ ?_ _) | (with_reducible refine Below.setCell ?_ ?_ _) | (with_reducible refine Below.drew ?_) | (simp; done) | (simp; omega) | omega))))⟩
                · have h12 := boxOfP_none HT.out HPX.out hbo hf
                  subst h12
                  have hN0 : N = 0 := by
                    rcases Nat.eq_zero_or_pos N with h | h
                    · exact h
                    · obtain ⟨_, _, _, _, _, _, a, b, c, d, hbo2, _⟩ := HPC.out 0 h
                      rw [hbo] at hbo2
                      simp only [BoxE.mk.injEq] at hbo2
                      omega
                  subst hN0
                  clear hbo hf
                  go_wp2_with (first | (go_at_call 19; refine (boxOf_t t _ _ _ _ _ HBO.out).mono ?_; rintro e w' ⟨rfl, hb⟩; obtain ⟨p8, rfl⟩ := later_of_below hb; clear hb))
                  go_ret
                  exact ⟨rfl, HB4.out.trans (below_mono_of hs4 (by (repeat' (first | with_reducible exact Below.refl _ _ | (with_reducible refine below_later_of ?_ ?_ _) | (with_reducible refine Below.alloc ?_ ?_ _) | (with_reducible refine Below.setCell ?_ ?_ _) | (with_reducible refine Below.drew ?_) | (simp; done) | (simp; omega) | omega))))⟩
            · have hne : (e2 != 0) = true := by simpa using he2
              clear hpx he2
              go_wp2_with (first | (go_at_call 21; refine (pixelErr_t t _ _ _ _ _ HPX.out (by omega) (by omega) (by omega) (by omega)).mono ?_; rintro e w' ⟨rfl, hb⟩; obtain ⟨p7, rfl⟩ := later_of_below hb; clear hb))
              go_ret
              exact ⟨rfl, HB3.out.trans (below_mono_of hs3 (by (repeat' (first | with_reducible exact Below.refl _ _ | (with_reducible refine below_later_of ?_ ?_ _) | (with_reducible refine Below.alloc ?_ ?_ _) | (with_reducible refine Below.setCell ?_ ?_ _) | (with_reducible refine Below.drew ?_) | (simp; done) | (simp; omega) | omega))))⟩
        · have hne : (e1 != 0) = true := by simpa using he1
          clear hpe he1 he
          go_wp2_with (first | (go_at_call 20; refine (rCheckTrack t _ HT.out).mono ?_; rintro e w' ⟨rfl, hb⟩; obtain ⟨p2, rfl⟩ := later_of_below hb; clear hb) | (go_at_call 43; refine (rCheckRelief_e r _ cap _ HCK.out (by omega) (HS2.out.below (by (repeat' (first | with_reducible exact Below.refl _ _ | (with_reducible refine below_later_of ?_ ?_ _) | (with_reducible refine Below.alloc ?_ ?_ _) | (with_reducible refine Below.setCell ?_ ?_ _) | (with_reducible refine Below.drew ?_) | (simp; done) | (simp; omega) | omega))))).mono ?_; rintro e w' ⟨rfl, hb⟩; obtain ⟨p3, rfl⟩ := later_of_below hb; clear hb) | (go_at_call 73; refine (rViewErr feB t r intB b off cap _ HT.out HCK.out HFI.out (by simp; omega) (HFC2.out.below hbw2 (by (repeat' (first | with_reducible exact Below.refl _ _ | (with_reducible refine below_later_of ?_ ?_ _) | (with_reducible refine Below.alloc ?_ ?_ _) | (with_reducible refine Below.setCell ?_ ?_ _) | (with_reducible refine Below.drew ?_) | (simp; done) | (simp; omega) | omega)))) HE.out).mono ?_; rintro e w' ⟨rfl, hb⟩; obtain ⟨p4, rfl⟩ := later_of_below hb; clear hb) | (go_at_call 52; refine (checkPolygon_t ps pa pcap _ (by omega) (HPS2.out.below (by (repeat' (first | with_reducible exact Below.refl _ _ | (with_reducible refine below_later_of ?_ ?_ _) | (with_reducible refine Below.alloc ?_ ?_ _) | (with_reducible refine Below.setCell ?_ ?_ _) | (with_reducible refine Below.drew ?_) | (simp; done) | (simp; omega) | omega)))) HPE.out).mono ?_; rintro e w' ⟨rfl, hb⟩; obtain ⟨p5, rfl⟩ := later_of_below hb; clear hb))
          go_ret
          exact ⟨rfl, HB.out.trans (below_mono_of hsz (by (repeat' (first | with_reducible exact Below.refl _ _ | (with_reducible refine below_later_of ?_ ?_ _) | (with_reducible refine Below.alloc ?_ ?_ _) | (with_reducible refine Below.setCell ?_ ?_ _) | (with_reducible refine Below.drew ?_) | (simp; done) | (simp; omega) | omega))))⟩
      · have hd2 : decide ((10 : Int) < (ps.length : Int)) = true := by simp; omega
        clear he
        go_wp2_with (first | (go_at_call 20; refine (rCheckTrack t _ HT.out).mono ?_; rintro e w' ⟨rfl, hb⟩; obtain ⟨p2, rfl⟩ := later_of_below hb; clear hb) | (go_at_call 43; refine (rCheckRelief_e r _ cap _ HCK.out (by omega) (HS2.out.below (by (repeat' (first | with_reducible exact Below.refl _ _ | (with_reducible refine below_later_of ?_ ?_ _) | (with_reducible refine Below.alloc ?_ ?_ _) | (with_reducible refine Below.setCell ?_ ?_ _) | (with_reducible refine Below.drew ?_) | (simp; done) | (simp; omega) | omega))))).mono ?_; rintro e w' ⟨rfl, hb⟩; obtain ⟨p3, rfl⟩ := later_of_below hb; clear hb) | (go_at_call 73; refine (rViewErr feB t r intB b off cap _ HT.out HCK.out HFI.out (by simp; omega) (HFC2.out.below hbw2 (by (repeat' (first | with_reducible exact Below.refl _ _ | (with_reducible refine below_later_of ?_ ?_ _) | (with_reducible refine Below.alloc ?_ ?_ _) | (with_reducible refine Below.setCell ?_ ?_ _) | (with_reducible refine Below.drew ?_) | (simp; done) | (simp; omega) | omega)))) HE.out).mono ?_; rintro e w' ⟨rfl, hb⟩; obtain ⟨p4, rfl⟩ := later_of_below hb; clear hb))
        go_ret
        exact ⟨rfl, HB.out.trans (below_mono_of hsz (by (repeat' (first | with_reducible exact Below.refl _ _ | (with_reducible refine below_later_of ?_ ?_ _) | (with_reducible refine Below.alloc ?_ ?_ _) | (with_reducible refine Below.setCell ?_ ?_ _) | (with_reducible refine Below.drew ?_) | (simp; done) | (simp; omega) | omega))))⟩
    · have hne : (e0 != 0) = true := by simpa using he0
      have HE := Lib.hid he
      clear he he0
      go_wp2_with (first | (go_at_call 20; refine (rCheckTrack t _ HT.out).mono ?_; rintro e w' ⟨rfl, hb⟩; obtain ⟨p2, rfl⟩ := later_of_below hb; clear hb) | (go_at_call 43; refine (rCheckRelief_e r _ cap _ HCK.out (by omega) (HS2.out.below (by (repeat' (first | with_reducible exact Below.refl _ _ | (with_reducible refine below_later_of ?_ ?_ _) | (with_reducible refine Below.alloc ?_ ?_ _) | (with_reducible refine Below.setCell ?_ ?_ _) | (with_reducible refine Below.drew ?_) | (simp; done) | (simp; omega) | omega))))).mono ?_; rintro e w' ⟨rfl, hb⟩; obtain ⟨p3, rfl⟩ := later_of_below hb; clear hb) | (go_at_call 73; refine (rViewErr feB t r intB b off cap _ HT.out HCK.out HFI.out (by simp; omega) (HFC2.out.below hbw2 (by (repeat' (first | with_reducible exact Below.refl _ _ | (with_reducible refine below_later_of ?_ ?_ _) | (with_reducible refine Below.alloc ?_ ?_ _) | (with_reducible refine Below.setCell ?_ ?_ _) | (with_reducible refine Below.drew ?_) | (simp; done) | (simp; omega) | omega)))) HE.out).mono ?_; rintro e w' ⟨rfl, hb⟩; obtain ⟨p4, rfl⟩ := later_of_below hb; clear hb))
      go_ret
      exact ⟨rfl, HB.out.trans (below_mono_of hsz (by (repeat' (first | with_reducible exact Below.refl _ _ | (with_reducible refine below_later_of ?_ ?_ _) | (with_reducible refine Below.alloc ?_ ?_ _) | (with_reducible refine Below.setCell ?_ ?_ _) | (with_reducible refine Below.drew ?_) | (simp; done) | (simp; omega) | omega))))⟩
end Go.Proofs.Ytokpdmlmlkkekaa
