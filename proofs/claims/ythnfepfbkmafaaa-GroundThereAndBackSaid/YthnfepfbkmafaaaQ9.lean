/- The law GroundThereAndBack returns true. -/
import Derived.Test.YthnfepfbkmafaaaQ6
import Derived.Test.YthnfepfbkmafaaaQ8
import Derived.Test.YthnfepfbkmafaaaB1
import Derived.Deep.CutRange
namespace Go.Proofs.Ythnfepfbkmafaaa
set_option linter.unusedVariables false
open Go.RowKit
theorem rPixelErr_x (t : Trk) (a b lo hi : Int) (w : World) {e0 : Int} (he : checkPixelP t ⟨a, b, lo, hi⟩ = e0) (l1 : 1 ≤ t.lines) (l2 : t.lines ≤ 10000) (n1 : 1 ≤ t.bins) (n2 : t.bins ≤ 100000) :
    Calls Try.prog 19 #[.agg #[.int .i64 t.sx, .int .i64 t.sy, .int .i64 t.sz, .int .i64 t.step, .int .i64 t.lines, .int .i64 t.near, .int .i64 t.bin, .int .i64 t.bins, .bool t.east], .agg #[.int .i64 a, .int .i64 b, .int .i64 lo, .int .i64 hi]] w fun e w' => e = .returned (.int .i64 e0) ∧ Below w.heap.size w w' := rPixelErr t ⟨a, b, lo, hi⟩ w he l1 l2 n1 n2
theorem boxOf_x (t : Trk) (a b lo hi : Int) (w : World) {x1 x2 y1 y2 e0 : Int} (h : boxOfP t ⟨a, b, lo, hi⟩ = ⟨x1, x2, y1, y2, e0⟩) :
    Calls Try.prog 17 #[.agg #[.int .i64 t.sx, .int .i64 t.sy, .int .i64 t.sz, .int .i64 t.step, .int .i64 t.lines, .int .i64 t.near, .int .i64 t.bin, .int .i64 t.bins, .bool t.east], .agg #[.int .i64 a, .int .i64 b, .int .i64 lo, .int .i64 hi]] w fun e w' => e = .returned (.tuple #[.agg #[.int .i64 x1, .int .i64 x2, .int .i64 y1, .int .i64 y2], .int .i64 e0]) ∧ Below w.heap.size w w' := boxOf_e t ⟨a, b, lo, hi⟩ w h
theorem rBoxErr_x (x1 x2 y1 y2 : Int) (w : World) {e0 : Int} (he : boxErrP ⟨x1, x2, y1, y2⟩ = e0) :
    Calls Try.prog 61 #[.agg #[.int .i64 x1, .int .i64 x2, .int .i64 y1, .int .i64 y2]] w fun e w' => e = .returned (.int .i64 e0) ∧ Below w.heap.size w w' := rBoxErr ⟨x1, x2, y1, y2⟩ w he
theorem inPixel_x (t : Trk) (a b lo hi x1 x2 y1 y2 : Int) (w : World) (ht : checkTrackP t = 0) (hp : checkPixelP t ⟨a, b, lo, hi⟩ = 0) (hb : boxErrP ⟨x1, x2, y1, y2⟩ = 0) {n : Int} (hn : inPixelP t ⟨a, b, lo, hi⟩ ⟨x1, x2, y1, y2⟩ = n) :
    Calls Try.prog 64 #[.agg #[.int .i64 t.sx, .int .i64 t.sy, .int .i64 t.sz, .int .i64 t.step, .int .i64 t.lines, .int .i64 t.near, .int .i64 t.bin, .int .i64 t.bins, .bool t.east], .agg #[.int .i64 a, .int .i64 b, .int .i64 lo, .int .i64 hi], .agg #[.int .i64 x1, .int .i64 x2, .int .i64 y1, .int .i64 y2]] w fun e w' => e = .returned (.tuple #[.int .i64 n, .int .i64 0]) ∧ Below w.heap.size w w' := inPixel_e t ⟨a, b, lo, hi⟩ ⟨x1, x2, y1, y2⟩ w ht hp hb hn
set_option maxRecDepth 20000 in
set_option maxHeartbeats 4000000 in
theorem gback_any (t : Trk) (x y z c0 c1 c2 c3 : Int) (w : World) (i0 : -9223372036854775808 ≤ c0 ∧ c0 ≤ 9223372036854775807) (i1 : -9223372036854775808 ≤ c1 ∧ c1 ≤ 9223372036854775807) (i2 : -9223372036854775808 ≤ c2 ∧ c2 ≤ 9223372036854775807) (i3 : -9223372036854775808 ≤ c3 ∧ c3 ≤ 9223372036854775807) :
    Calls Try.prog 12 #[.agg #[.int .i64 t.sx, .int .i64 t.sy, .int .i64 t.sz, .int .i64 t.step, .int .i64 t.lines, .int .i64 t.near, .int .i64 t.bin, .int .i64 t.bins, .bool t.east], .agg #[.int .i64 x, .int .i64 y, .int .i64 z], .agg #[.int .i64 c0, .int .i64 c1, .int .i64 c2, .int .i64 c3]] w fun e w' => e = .returned (.bool true) ∧ Below w.heap.size w w' := by
  obtain ⟨i01, i02⟩ := i0
  obtain ⟨i11, i12⟩ := i1
  obtain ⟨i21, i22⟩ := i2
  obtain ⟨i31, i32⟩ := i3
  obtain ⟨a, b, pe, ho⟩ : ∃ a b pe, pixelOfP t x y z = (a, b, pe) := ⟨_, _, _, rfl⟩
  by_cases he : pe = 0
  · subst he
    have s := pixelOfP_ok ho
    have ht := s.trk
    have HO := Lib.hid ho
    have HT := Lib.hid ht
    have hpl := placeB_iff.1 s.plc
    obtain ⟨⟨x1, x2⟩, ⟨y1, y2⟩, ⟨z1, z2⟩⟩ := hpl
    obtain ⟨-, -, -, -, -, -, -, -, -, l1, l2, -, -, -, -, n1, n2⟩ := checkTrackP_ok ht
    obtain ⟨ep, hp⟩ : ∃ ep, checkPixelP t ⟨a, b, z - c0 % 50, z + c1 % 50⟩ = ep := ⟨_, rfl⟩
    by_cases hep : ep = 0
    · subst hep
      obtain ⟨bx1, bx2, by1, by2, hbo, g1, g2, g3, g4⟩ := back (q := ⟨a, b, z - c0 % 50, z + c1 % 50⟩) s hp (by simp only; omega) (by simp only; omega)
      have HBO := Lib.hid hbo
      have HW1 := Lib.hid (show inR bx1 bx2 x = true from inR_iff.2 ⟨g1, g2⟩)
      have HW2 := Lib.hid (show inR by1 by2 y = true from inR_iff.2 ⟨g3, g4⟩)
      obtain ⟨eb, hb⟩ : ∃ eb, boxErrP ⟨x - c2 % 30, x + c3 % 30, y - c3 % 30, y + c2 % 30⟩ = eb := ⟨_, rfl⟩
      have hnn : eb = 0 → inPixelP t ⟨a, b, z - c0 % 50, z + c1 % 50⟩ ⟨x - c2 % 30, x + c3 % 30, y - c3 % 30, y + c2 % 30⟩ ≠ 0 := fun h0 =>
        own_not_no ht (checkPixelP_ok hp) (boxErrP_ok (hb.trans h0)) (by simp only; omega) (by simp only; omega) (by simp only; omega) (by simp only; omega) (by simp only; omega) (by simp only; omega) ho
      obtain ⟨n, hn⟩ : ∃ n, inPixelP t ⟨a, b, z - c0 % 50, z + c1 % 50⟩ ⟨x - c2 % 30, x + c3 % 30, y - c3 % 30, y + c2 % 30⟩ = n := ⟨_, rfl⟩
      rw [hn] at hnn
      have HP := Lib.hid hp
      have HB := Lib.hid hb
      have HN := Lib.hid hn
      have HNN := Lib.hid hnn
      clear ho ht hp hbo hb hn hnn s g1 g2 g3 g4
      go_enter Try.func12, Try.ntmps12
      go_wp2_with (first | (go_at_call 16; refine (awake_any _).mono ?_; rintro e w' ⟨rfl, hb⟩; obtain ⟨pw, rfl⟩ := later_of_below hb; clear hb) | (go_at_call 23; refine (pixelOf_f t x y z _ HO.out).mono ?_; rintro e w' ⟨rfl, hb⟩; obtain ⟨pq, rfl⟩ := later_of_below hb; clear hb))
      refine wp_region_calm (by kernel_rfl) (by kernel_rfl) ?_
      repeat (go_big_quiet_step (first | (go_at_call 54; exact calm_same (bMod _ _ _ (by omega) (by omega) (by omega) (by omega)))))
      refine wpQuiet_nil ?_
      rintro _ ⟨p1, rfl⟩
      go_wp2_with (first | (go_at_call 18; refine (rCheckTrack t _ HT.out).mono ?_; rintro e w' ⟨rfl, hb⟩; obtain ⟨pp, rfl⟩ := later_of_below hb; clear hb) | (go_at_call 19; refine (rPixelErr_x t _ _ _ _ _ HP.out (by omega) (by omega) (by omega) (by omega)).mono ?_; rintro e w' ⟨rfl, hb⟩; obtain ⟨pp, rfl⟩ := later_of_below hb; clear hb) | (go_at_call 17; refine (boxOf_x t _ _ _ _ _ HBO.out).mono ?_; rintro e w' ⟨rfl, hb⟩; obtain ⟨pp, rfl⟩ := later_of_below hb; clear hb) | (go_at_call 34; (with_reducible refine (bWithin x _ _ _ HW1.out).mono ?_); rintro e w' ⟨rfl, rfl⟩) | (go_at_call 34; (with_reducible refine (bWithin y _ _ _ HW2.out).mono ?_); rintro e w' ⟨rfl, rfl⟩))
      obtain ⟨B11, hB11⟩ : ∃ B11, B11 = w.heap.size + 1 + 1 + 1 + pw.os.size + pq.os.size + 1 + p1.os.size := ⟨_, rfl⟩
      rw [← hB11]
      have HB11 := Lib.hid hB11
      clear hB11
      go_cut [14] from 94 to 120 (fun X wx => ∃ B14, X = .pointer (some ⟨B14, 0, none⟩) ∧ TrackAt wx w.heap.size t ∧ IntsAt4 wx B11 a b (z - c0 % 50) (z + c1 % 50) ∧ IntsAt4 wx B14 (x - c2 % 30) (x + c3 % 30) (y - c3 % 30) (y + c2 % 30) ∧ Below w.heap.size w wx ∧ w.heap.size < wx.heap.size ∧ B11 < wx.heap.size ∧ B14 < wx.heap.size)
      case first =>
        go_region_held3 (fun w' => w'.cell? ⟨w.heap.size + 1, 0, none⟩ = some (.int .i64 x) ∧ w'.cell? ⟨w.heap.size + 1, 1, none⟩ = some (.int .i64 y) ∧ w'.cell? ⟨w.heap.size + 1 + 1, 2, none⟩ = some (.int .i64 c2) ∧ w'.cell? ⟨w.heap.size + 1 + 1, 3, none⟩ = some (.int .i64 c3)) (first | ((first | (simp [go_sem]; done) | simp [go_sem, ↓IntWalk.iteOmega]); done)) (first | (go_at_call 54; refine (bMod _ _ _ (by omega) (by omega) (by omega) (by omega)).mono ?_; rintro e w' ⟨rfl, rfl⟩))
        all_goals
          go_wp2_with fail
          go_meet
          refine ⟨_, rfl, ⟨(by (first | (simp [go_sem]; done) | simp [go_sem, ↓IntWalk.iteOmega])), (by (first | (simp [go_sem]; done) | simp [go_sem, ↓IntWalk.iteOmega])), (by (first | (simp [go_sem]; done) | simp [go_sem, ↓IntWalk.iteOmega])), (by (first | (simp [go_sem]; done) | simp [go_sem, ↓IntWalk.iteOmega])), (by (first | (simp [go_sem]; done) | simp [go_sem, ↓IntWalk.iteOmega])), (by (first | (simp [go_sem]; done) | simp [go_sem, ↓IntWalk.iteOmega])), (by (first | (simp [go_sem]; done) | simp [go_sem, ↓IntWalk.iteOmega])), (by (first | (simp [go_sem]; done) | simp [go_sem, ↓IntWalk.iteOmega])), (by (first | (simp [go_sem]; done) | simp [go_sem, ↓IntWalk.iteOmega]))⟩, ⟨?_, ?_, ?_, ?_⟩, ⟨?_, ?_, ?_, ?_⟩, (by (repeat' (first | with_reducible exact Below.refl _ _ | (with_reducible refine below_later_of ?_ ?_ _) | (with_reducible refine Below.alloc ?_ ?_ _) | (with_reducible refine Below.setCell ?_ ?_ _) | (with_reducible refine Below.drew ?_) | (simp; done) | (simp; omega) | omega))), by (simp <;> omega), by rw [HB11.out]; (simp <;> omega), by (simp <;> omega)⟩
          all_goals (try rw [HB11.out])
          all_goals ((first | (simp [go_sem]; done) | simp [go_sem, ↓IntWalk.iteOmega]) <;> exact IntWalk.i64_in _ (by omega))
      case rest =>
        obtain ⟨B14, rfl, ⟨k0, k1, k2, k3, k4, k5, k6, k7, k8⟩, ⟨f0, f1, f2, f3⟩, ⟨g0, g1, g2, g3⟩, hb9, hs9, hs11, hs14⟩ := hcut
        have HB9 := Lib.hid hb9
        clear hb9 HB11
        by_cases heb : eb = 0
        · subst heb
          have hnz := HNN.out rfl
          have hz : (n == 0) = false := by simpa using hnz
          have hz2 : (n != 0) = true := by simpa using hnz
          clear hnz
          go_wp2_with (first | (go_at_call 61; refine (rBoxErr_x _ _ _ _ _ HB.out).mono ?_; rintro e w' ⟨rfl, hb⟩; obtain ⟨pp, rfl⟩ := later_of_below hb; clear hb) | (go_at_call 64; refine (inPixel_x t _ _ _ _ _ _ _ _ _ HT.out HP.out HB.out HN.out).mono ?_; rintro e w' ⟨rfl, hb⟩; obtain ⟨pp, rfl⟩ := later_of_below hb; clear hb))
          go_ret
          exact ⟨ret_bool (by simp), HB9.out.trans (below_mono_of (show w.heap.size ≤ wc.heap.size by omega) (by (repeat' (first | with_reducible exact Below.refl _ _ | (with_reducible refine below_later_of ?_ ?_ _) | (with_reducible refine Below.alloc ?_ ?_ _) | (with_reducible refine Below.setCell ?_ ?_ _) | (with_reducible refine Below.drew ?_) | (simp; done) | (simp; omega) | omega))))⟩
        · have hz : (eb != 0) = true := by simpa using heb
          clear heb
          go_wp2_with (first | (go_at_call 61; refine (rBoxErr_x _ _ _ _ _ HB.out).mono ?_; rintro e w' ⟨rfl, hb⟩; obtain ⟨pp, rfl⟩ := later_of_below hb; clear hb))
          go_ret
          exact ⟨ret_bool (by simp), HB9.out.trans (below_mono_of (show w.heap.size ≤ wc.heap.size by omega) (by (repeat' (first | with_reducible exact Below.refl _ _ | (with_reducible refine below_later_of ?_ ?_ _) | (with_reducible refine Below.alloc ?_ ?_ _) | (with_reducible refine Below.setCell ?_ ?_ _) | (with_reducible refine Below.drew ?_) | (simp; done) | (simp; omega) | omega))))⟩
    · have HP := Lib.hid hp
      have hz : (ep != 0) = true := by simpa using hep
      clear ho ht hp s
      go_enter Try.func12, Try.ntmps12
      go_wp2_with (first | (go_at_call 16; refine (awake_any _).mono ?_; rintro e w' ⟨rfl, hb⟩; obtain ⟨pw, rfl⟩ := later_of_below hb; clear hb) | (go_at_call 23; refine (pixelOf_f t x y z _ HO.out).mono ?_; rintro e w' ⟨rfl, hb⟩; obtain ⟨pq, rfl⟩ := later_of_below hb; clear hb))
      refine wp_region_calm (by kernel_rfl) (by kernel_rfl) ?_
      repeat (go_big_quiet_step (first | (go_at_call 54; exact calm_same (bMod _ _ _ (by omega) (by omega) (by omega) (by omega)))))
      refine wpQuiet_nil ?_
      rintro _ ⟨p1, rfl⟩
      go_wp2_with (first | (go_at_call 18; refine (rCheckTrack t _ HT.out).mono ?_; rintro e w' ⟨rfl, hb⟩; obtain ⟨pp, rfl⟩ := later_of_below hb; clear hb) | (go_at_call 19; refine (rPixelErr_x t _ _ _ _ _ HP.out (by omega) (by omega) (by omega) (by omega)).mono ?_; rintro e w' ⟨rfl, hb⟩; obtain ⟨pp, rfl⟩ := later_of_below hb; clear hb))
      go_ret
      exact ⟨ret_bool (by simp), (by (repeat' (first | with_reducible exact Below.refl _ _ | (with_reducible refine below_later_of ?_ ?_ _) | (with_reducible refine Below.alloc ?_ ?_ _) | (with_reducible refine Below.setCell ?_ ?_ _) | (with_reducible refine Below.drew ?_) | (simp; done) | (simp; omega) | omega)))⟩
  · obtain ⟨rfl, rfl⟩ := pixelOfP_err ho he
    have HO := Lib.hid ho
    have hz : (pe != 0) = true := by simpa using he
    clear ho
    go_enter Try.func12, Try.ntmps12
    go_wp2_with (first | (go_at_call 16; refine (awake_any _).mono ?_; rintro e w' ⟨rfl, hb⟩; obtain ⟨pw, rfl⟩ := later_of_below hb; clear hb) | (go_at_call 23; refine (pixelOf_f t x y z _ HO.out).mono ?_; rintro e w' ⟨rfl, hb⟩; obtain ⟨pq, rfl⟩ := later_of_below hb; clear hb))
    go_ret
    exact ⟨ret_bool (by simp), (by (repeat' (first | with_reducible exact Below.refl _ _ | (with_reducible refine below_later_of ?_ ?_ _) | (with_reducible refine Below.alloc ?_ ?_ _) | (with_reducible refine Below.setCell ?_ ?_ _) | (with_reducible refine Below.drew ?_) | (simp; done) | (simp; omega) | omega)))⟩
end Go.Proofs.Ythnfepfbkmafaaa
