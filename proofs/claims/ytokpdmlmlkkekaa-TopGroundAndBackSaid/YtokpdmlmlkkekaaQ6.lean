/- The law GroundInPixel returns true. -/
import Derived.Test.YtokpdmlmlkkekaaQ4
import Derived.Test.YtokpdmlmlkkekaaQ5
import Derived.Test.YtokpdmlmlkkekaaZW
namespace Go.Proofs.Ytokpdmlmlkkekaa
set_option linter.unusedVariables false
open Go.RowKit
theorem pixelOf_f (t : Trk) (x y z : Int) (w : World) {a b e0 : Int} (h : pixelOfP t x y z = (a, b, e0)) :
    Calls Try.prog 25 #[.agg #[.int .i64 t.sx, .int .i64 t.sy, .int .i64 t.sz, .int .i64 t.step, .int .i64 t.lines, .int .i64 t.near, .int .i64 t.bin, .int .i64 t.bins, .bool t.east], .agg #[.int .i64 x, .int .i64 y, .int .i64 z]] w fun e w' => e = .returned (.tuple #[.agg #[.int .i64 a, .int .i64 b], .int .i64 e0]) ∧ Below w.heap.size w w' := by
  have := pixelOf_any t x y z w
  rwa [h] at this
theorem inPixel_e (t : Trk) (q : Pix) (b : Bx) (w : World) (ht : checkTrackP t = 0) (hp : checkPixelP t q = 0) (hb : boxErrP b = 0) {n : Int} (hn : inPixelP t q b = n) :
    Calls Try.prog 66 #[.agg #[.int .i64 t.sx, .int .i64 t.sy, .int .i64 t.sz, .int .i64 t.step, .int .i64 t.lines, .int .i64 t.near, .int .i64 t.bin, .int .i64 t.bins, .bool t.east], .agg #[.int .i64 q.line, .int .i64 q.bin, .int .i64 q.lo, .int .i64 q.hi], .agg #[.int .i64 b.x1, .int .i64 b.x2, .int .i64 b.y1, .int .i64 b.y2]] w fun e w' => e = .returned (.tuple #[.int .i64 n, .int .i64 0]) ∧ Below w.heap.size w w' := by
  subst hn; exact inPixel_ok t q b w ht hp hb
theorem rInPixel_e (t : Trk) (q : Pix) (b : Bx) (w : World) (ht : checkTrackP t = 0) (hp : checkPixelP t q = 0) (hb : boxErrP b = 0) {n : Int} (hn : inPixelP t q b = n) :
    Calls Try.prog 67 #[.agg #[.int .i64 t.sx, .int .i64 t.sy, .int .i64 t.sz, .int .i64 t.step, .int .i64 t.lines, .int .i64 t.near, .int .i64 t.bin, .int .i64 t.bins, .bool t.east], .agg #[.int .i64 q.line, .int .i64 q.bin, .int .i64 q.lo, .int .i64 q.hi], .agg #[.int .i64 b.x1, .int .i64 b.x2, .int .i64 b.y1, .int .i64 b.y2]] w fun e w' => e = .returned (.int .i64 n) ∧ Below w.heap.size w w' := by
  subst hn; exact rInPixel t q b w (checkTrackP_ok ht) (checkPixelP_ok hp) (boxErrP_ok hb)
def IntsAt3 (w : World) (B : Nat) (a b c : Int) : Prop := w.cell? ⟨B, 0, none⟩ = some (.int .i64 a) ∧ w.cell? ⟨B, 1, none⟩ = some (.int .i64 b) ∧ w.cell? ⟨B, 2, none⟩ = some (.int .i64 c)
def IntsAt7 (w : World) (B : Nat) (a b c d e f g : Int) : Prop := w.cell? ⟨B, 0, none⟩ = some (.int .i64 a) ∧ w.cell? ⟨B, 1, none⟩ = some (.int .i64 b) ∧ w.cell? ⟨B, 2, none⟩ = some (.int .i64 c) ∧ w.cell? ⟨B, 3, none⟩ = some (.int .i64 d) ∧ w.cell? ⟨B, 4, none⟩ = some (.int .i64 e) ∧ w.cell? ⟨B, 5, none⟩ = some (.int .i64 f) ∧ w.cell? ⟨B, 6, none⟩ = some (.int .i64 g)
set_option maxRecDepth 20000 in
set_option maxHeartbeats 4000000 in
theorem ginPixel_bad (t : Trk) (q : Pix) (b : Bx) (a0 a1 a2 : Int) (w : World) {e0 : Int} (he : inPixelErrP t q b = e0) (hz : e0 ≠ 0) :
    Calls Try.prog 13 #[.agg #[.int .i64 t.sx, .int .i64 t.sy, .int .i64 t.sz, .int .i64 t.step, .int .i64 t.lines, .int .i64 t.near, .int .i64 t.bin, .int .i64 t.bins, .bool t.east], .agg #[.int .i64 q.line, .int .i64 q.bin, .int .i64 q.lo, .int .i64 q.hi], .agg #[.int .i64 b.x1, .int .i64 b.x2, .int .i64 b.y1, .int .i64 b.y2, .int .i64 a0, .int .i64 a1, .int .i64 a2]] w fun e w' => e = .returned (.bool true) ∧ Below w.heap.size w w' := by
  have HE := Lib.hid he
  unfold inPixelErrP at he
  by_cases ht : checkTrackP t = 0
  · rw [if_pos ht] at he
    obtain ⟨-, -, -, -, -, -, -, -, -, l1, l2, -, -, -, -, n1, n2⟩ := checkTrackP_ok ht
    have HT := Lib.hid ht
    unfold first2 at he
    by_cases hp : checkPixelP t q = 0
    · rw [if_pos hp] at he
      have HP := Lib.hid hp
      have HB := Lib.hid he
      clear ht hp he
      go_enter Try.func13, Try.ntmps13
      go_wp2_with (first | (go_at_call 18; refine (awake_any _).mono ?_; rintro e w' ⟨rfl, hb⟩; obtain ⟨pp, rfl⟩ := later_of_below hb; clear hb) | (go_at_call 66; refine (inPixel_bad t q b _ HE.out hz).mono ?_; rintro e w' ⟨rfl, hb⟩; obtain ⟨pp, rfl⟩ := later_of_below hb; clear hb) | (go_at_call 20; refine (rCheckTrack t _ HT.out).mono ?_; rintro e w' ⟨rfl, hb⟩; obtain ⟨pp, rfl⟩ := later_of_below hb; clear hb) | (go_at_call 21; refine (rPixelErr t q _ HP.out (by omega) (by omega) (by omega) (by omega)).mono ?_; rintro e w' ⟨rfl, hb⟩; obtain ⟨pp, rfl⟩ := later_of_below hb; clear hb) | (go_at_call 63; refine (rBoxErr b _ HB.out).mono ?_; rintro e w' ⟨rfl, hb⟩; obtain ⟨pp, rfl⟩ := later_of_below hb; clear hb))
      go_ret
      exact ⟨ret_bool (by simp), (by (repeat' (first | with_reducible exact Below.refl _ _ | (with_reducible refine below_later_of ?_ ?_ _) | (with_reducible refine Below.alloc ?_ ?_ _) | (with_reducible refine Below.setCell ?_ ?_ _) | (with_reducible refine Below.drew ?_) | (simp; done) | (simp; omega) | omega)))⟩
    · rw [if_neg hp] at he
      have HP := Lib.hid he
      clear ht hp he
      go_enter Try.func13, Try.ntmps13
      go_wp2_with (first | (go_at_call 18; refine (awake_any _).mono ?_; rintro e w' ⟨rfl, hb⟩; obtain ⟨pp, rfl⟩ := later_of_below hb; clear hb) | (go_at_call 66; refine (inPixel_bad t q b _ HE.out hz).mono ?_; rintro e w' ⟨rfl, hb⟩; obtain ⟨pp, rfl⟩ := later_of_below hb; clear hb) | (go_at_call 20; refine (rCheckTrack t _ HT.out).mono ?_; rintro e w' ⟨rfl, hb⟩; obtain ⟨pp, rfl⟩ := later_of_below hb; clear hb) | (go_at_call 21; refine (rPixelErr t q _ HP.out (by omega) (by omega) (by omega) (by omega)).mono ?_; rintro e w' ⟨rfl, hb⟩; obtain ⟨pp, rfl⟩ := later_of_below hb; clear hb))
      go_ret
      exact ⟨ret_bool (by simp), (by (repeat' (first | with_reducible exact Below.refl _ _ | (with_reducible refine below_later_of ?_ ?_ _) | (with_reducible refine Below.alloc ?_ ?_ _) | (with_reducible refine Below.setCell ?_ ?_ _) | (with_reducible refine Below.drew ?_) | (simp; done) | (simp; omega) | omega)))⟩
  · rw [if_neg ht] at he
    have HT := Lib.hid he
    clear ht he
    go_enter Try.func13, Try.ntmps13
    go_wp2_with (first | (go_at_call 18; refine (awake_any _).mono ?_; rintro e w' ⟨rfl, hb⟩; obtain ⟨pp, rfl⟩ := later_of_below hb; clear hb) | (go_at_call 66; refine (inPixel_bad t q b _ HE.out hz).mono ?_; rintro e w' ⟨rfl, hb⟩; obtain ⟨pp, rfl⟩ := later_of_below hb; clear hb) | (go_at_call 20; refine (rCheckTrack t _ HT.out).mono ?_; rintro e w' ⟨rfl, hb⟩; obtain ⟨pp, rfl⟩ := later_of_below hb; clear hb))
    go_ret
    exact ⟨ret_bool (by simp), (by (repeat' (first | with_reducible exact Below.refl _ _ | (with_reducible refine below_later_of ?_ ?_ _) | (with_reducible refine Below.alloc ?_ ?_ _) | (with_reducible refine Below.setCell ?_ ?_ _) | (with_reducible refine Below.drew ?_) | (simp; done) | (simp; omega) | omega)))⟩
set_option maxRecDepth 20000 in
set_option maxHeartbeats 4000000 in
theorem ginPixel_ok (t : Trk) (q : Pix) (b : Bx) (a0 a1 a2 : Int) (w : World) (ht : checkTrackP t = 0) (hp : checkPixelP t q = 0) (hb : boxErrP b = 0) (i0 : -9223372036854775808 ≤ a0 ∧ a0 ≤ 9223372036854775807) (i1 : -9223372036854775808 ≤ a1 ∧ a1 ≤ 9223372036854775807) (i2 : -9223372036854775808 ≤ a2 ∧ a2 ≤ 9223372036854775807) :
    Calls Try.prog 13 #[.agg #[.int .i64 t.sx, .int .i64 t.sy, .int .i64 t.sz, .int .i64 t.step, .int .i64 t.lines, .int .i64 t.near, .int .i64 t.bin, .int .i64 t.bins, .bool t.east], .agg #[.int .i64 q.line, .int .i64 q.bin, .int .i64 q.lo, .int .i64 q.hi], .agg #[.int .i64 b.x1, .int .i64 b.x2, .int .i64 b.y1, .int .i64 b.y2, .int .i64 a0, .int .i64 a1, .int .i64 a2]] w fun e w' => e = .returned (.bool true) ∧ Below w.heap.size w w' := by
  obtain ⟨i01, i02⟩ := i0
  obtain ⟨i11, i12⟩ := i1
  obtain ⟨i21, i22⟩ := i2
  have op := checkPixelP_ok hp
  have ob := boxErrP_ok hb
  have ot := checkTrackP_ok ht
  have hyes := fun x y z h1 h2 h3 h4 h5 h6 hn => @yes_own t q b x y z ht op ob h1 h2 h3 h4 h5 h6 hn
  have hno := fun x y z h1 h2 h3 h4 h5 h6 hn => @own_not_no t q b x y z ht op ob h1 h2 h3 h4 h5 h6 hn
  obtain ⟨-, -, -, -, -, -, -, -, -, l1, l2, -, -, -, -, n1, n2⟩ := ot
  obtain ⟨-, -, -, -, lo1, lo2, hi1, hi2, hord, -⟩ := op
  obtain ⟨x1a, x1b, x2a, x2b, y1a, y1b, y2a, y2b, xo, yo⟩ := ob
  obtain ⟨j1, j2⟩ := insideP_bd2 (n := a0) xo
  obtain ⟨j3, j4⟩ := insideP_bd2 (n := a1) yo
  obtain ⟨j5, j6⟩ := insideP_bd2 (n := a2) hord
  obtain ⟨pa, pb, pe, ho⟩ : ∃ pa pb pe, pixelOfP t (insideP b.x1 b.x2 a0) (insideP b.y1 b.y2 a1) (insideP q.lo q.hi a2) = (pa, pb, pe) := ⟨_, _, _, rfl⟩
  obtain ⟨n, hn⟩ : ∃ n, inPixelP t q b = n := ⟨_, rfl⟩
  have hfin : (n = 2 ∧ pa = q.line ∧ pb = q.bin ∧ pe = 0) ∨ n = 1 ∨ (n = 0 ∧ ¬ (pa = q.line ∧ pb = q.bin ∧ pe = 0)) := by
    rcases inPixelP_range t q b with h | h | h
    · refine Or.inr (Or.inr ⟨by rw [← hn, h], fun ⟨e1, e2, e3⟩ => ?_⟩)
      subst e1 e2 e3
      exact hno _ _ _ j1 j2 j3 j4 j5 j6 ho h
    · exact Or.inr (Or.inl (by rw [← hn, h]))
    · have := hyes _ _ _ j1 j2 j3 j4 j5 j6 h
      rw [ho] at this
      simp only [Prod.mk.injEq] at this
      exact Or.inl ⟨by rw [← hn, h], this.1, this.2.1, this.2.2⟩
  have HT := Lib.hid ht
  have HP := Lib.hid hp
  have HB := Lib.hid hb
  have HN := Lib.hid hn
  have HO := Lib.hid ho
  have HF := Lib.hid hfin
  have HI1 := Lib.hid (show insideP b.x1 b.x2 a0 = insideP b.x1 b.x2 a0 from rfl)
  clear ht hp hb hn ho hfin hyes hno
  go_enter Try.func13, Try.ntmps13
  go_wp2_with (first | (go_at_call 18; refine (awake_any _).mono ?_; rintro e w' ⟨rfl, hb⟩; obtain ⟨pp, rfl⟩ := later_of_below hb; clear hb) | (go_at_call 66; refine (inPixel_e t q b _ HT.out HP.out HB.out HN.out).mono ?_; rintro e w' ⟨rfl, hb⟩; obtain ⟨pp, rfl⟩ := later_of_below hb; clear hb) | (go_at_call 20; refine (rCheckTrack t _ HT.out).mono ?_; rintro e w' ⟨rfl, hb⟩; obtain ⟨pp, rfl⟩ := later_of_below hb; clear hb) | (go_at_call 21; refine (rPixelErr t q _ HP.out (by omega) (by omega) (by omega) (by omega)).mono ?_; rintro e w' ⟨rfl, hb⟩; obtain ⟨pp, rfl⟩ := later_of_below hb; clear hb) | (go_at_call 63; refine (rBoxErr b _ HB.out).mono ?_; rintro e w' ⟨rfl, hb⟩; obtain ⟨pp, rfl⟩ := later_of_below hb; clear hb) | (go_at_call 67; refine (rInPixel_e t q b _ HT.out HP.out HB.out HN.out).mono ?_; rintro e w' ⟨rfl, hb⟩; obtain ⟨pp, rfl⟩ := later_of_below hb; clear hb))
  go_cut [10] from 56 to 76 (fun x wx => ∃ B10, x = .pointer (some ⟨B10, 0, none⟩) ∧ TrackAt wx w.heap.size t ∧ IntsAt4 wx (w.heap.size + 1) q.line q.bin q.lo q.hi ∧ IntsAt3 wx B10 (insideP b.x1 b.x2 a0) (insideP b.y1 b.y2 a1) (insideP q.lo q.hi a2) ∧ Below w.heap.size w wx ∧ w.heap.size + 1 < wx.heap.size ∧ B10 < wx.heap.size)
  case first =>
    go_region_held3 (fun w' => w'.cell? ⟨w.heap.size + 1 + 1, 0, none⟩ = some (.int .i64 b.x1) ∧ w'.cell? ⟨w.heap.size + 1 + 1, 1, none⟩ = some (.int .i64 b.x2) ∧ w'.cell? ⟨w.heap.size + 1 + 1, 2, none⟩ = some (.int .i64 b.y1) ∧ w'.cell? ⟨w.heap.size + 1 + 1, 3, none⟩ = some (.int .i64 b.y2) ∧ w'.cell? ⟨w.heap.size + 1 + 1, 4, none⟩ = some (.int .i64 a0) ∧ w'.cell? ⟨w.heap.size + 1 + 1, 5, none⟩ = some (.int .i64 a1) ∧ w'.cell? ⟨w.heap.size + 1 + 1, 6, none⟩ = some (.int .i64 a2) ∧ w'.cell? ⟨w.heap.size + 1, 2, none⟩ = some (.int .i64 q.lo) ∧ w'.cell? ⟨w.heap.size + 1, 3, none⟩ = some (.int .i64 q.hi)) (first | ((first | (simp [go_sem]; done) | simp [go_sem, ↓IntWalk.iteOmega]); done)) (first | (go_at_call 65; refine (lInside _ _ _ _ (by omega) (by omega) (by omega) (by omega) (by omega)).mono ?_; rintro e w' ⟨rfl, hb⟩; obtain ⟨pp, rfl⟩ := later_of_below hb; clear hb))
    all_goals
      go_wp2_with fail
      go_meet
      exact ⟨_, rfl, ⟨(by (first | (simp [go_sem]; done) | simp [go_sem, ↓IntWalk.iteOmega])), (by (first | (simp [go_sem]; done) | simp [go_sem, ↓IntWalk.iteOmega])), (by (first | (simp [go_sem]; done) | simp [go_sem, ↓IntWalk.iteOmega])), (by (first | (simp [go_sem]; done) | simp [go_sem, ↓IntWalk.iteOmega])), (by (first | (simp [go_sem]; done) | simp [go_sem, ↓IntWalk.iteOmega])), (by (first | (simp [go_sem]; done) | simp [go_sem, ↓IntWalk.iteOmega])), (by (first | (simp [go_sem]; done) | simp [go_sem, ↓IntWalk.iteOmega])), (by (first | (simp [go_sem]; done) | simp [go_sem, ↓IntWalk.iteOmega])), (by (first | (simp [go_sem]; done) | simp [go_sem, ↓IntWalk.iteOmega]))⟩, ⟨(by (first | (simp [go_sem]; done) | simp [go_sem, ↓IntWalk.iteOmega])), (by (first | (simp [go_sem]; done) | simp [go_sem, ↓IntWalk.iteOmega])), (by (first | (simp [go_sem]; done) | simp [go_sem, ↓IntWalk.iteOmega])), (by (first | (simp [go_sem]; done) | simp [go_sem, ↓IntWalk.iteOmega]))⟩, ⟨(by (first | (simp [go_sem]; done) | simp [go_sem, ↓IntWalk.iteOmega])), (by (first | (simp [go_sem]; done) | simp [go_sem, ↓IntWalk.iteOmega])), (by (first | (simp [go_sem]; done) | simp [go_sem, ↓IntWalk.iteOmega]))⟩, (by (repeat' (first | with_reducible exact Below.refl _ _ | (with_reducible refine below_later_of ?_ ?_ _) | (with_reducible refine Below.alloc ?_ ?_ _) | (with_reducible refine Below.setCell ?_ ?_ _) | (with_reducible refine Below.drew ?_) | (simp; done) | (simp; omega) | omega))), by (simp <;> omega), by (simp <;> omega)⟩
  case rest =>
    obtain ⟨B10, rfl, kk, jj, ii, hb9, hs9, hs10⟩ := hcut
    obtain ⟨k0, k1, k2, k3, k4, k5, k6, k7, k8⟩ := kk
    obtain ⟨f0, f1, f2, f3⟩ := jj
    obtain ⟨g0, g1, g2⟩ := ii
    have HB9 := Lib.hid hb9
    clear hb9
    clear j1 j2 j3 j4 j5 j6
    have HO2 := Lib.hid (fun w => pixelOf_f t _ _ _ w HO.out)
    generalize insideP b.x1 b.x2 a0 = x at *
    generalize insideP b.y1 b.y2 a1 = y at *
    generalize insideP q.lo q.hi a2 = z at *
    rcases HF.out with ⟨rfl, rfl, rfl, rfl⟩ | rfl | ⟨rfl, hne⟩
    · clear HF
      go_wp2_with (first | (go_at_call 25; refine (HO2.out _).mono ?_; rintro e w' ⟨rfl, hb⟩; obtain ⟨pp, rfl⟩ := later_of_below hb; clear hb))
      go_ret
      exact ⟨ret_bool (by simp), HB9.out.trans (below_mono_of (show w.heap.size ≤ wc.heap.size by omega) (by (repeat' (first | with_reducible exact Below.refl _ _ | (with_reducible refine below_later_of ?_ ?_ _) | (with_reducible refine Below.alloc ?_ ?_ _) | (with_reducible refine Below.setCell ?_ ?_ _) | (with_reducible refine Below.drew ?_) | (simp; done) | (simp; omega) | omega))))⟩
    · clear HF
      by_cases he : pe = 0
      · subst he
        go_wp2_with (first | (go_at_call 25; refine (HO2.out _).mono ?_; rintro e w' ⟨rfl, hb⟩; obtain ⟨pp, rfl⟩ := later_of_below hb; clear hb))
        go_ret
        exact ⟨ret_bool (by simp), HB9.out.trans (below_mono_of (show w.heap.size ≤ wc.heap.size by omega) (by (repeat' (first | with_reducible exact Below.refl _ _ | (with_reducible refine below_later_of ?_ ?_ _) | (with_reducible refine Below.alloc ?_ ?_ _) | (with_reducible refine Below.setCell ?_ ?_ _) | (with_reducible refine Below.drew ?_) | (simp; done) | (simp; omega) | omega))))⟩
      · have hz : (pe == 0) = false := by simpa using he
        clear he
        go_wp2_with (first | (go_at_call 25; refine (HO2.out _).mono ?_; rintro e w' ⟨rfl, hb⟩; obtain ⟨pp, rfl⟩ := later_of_below hb; clear hb))
        go_ret
        exact ⟨ret_bool (by simp), HB9.out.trans (below_mono_of (show w.heap.size ≤ wc.heap.size by omega) (by (repeat' (first | with_reducible exact Below.refl _ _ | (with_reducible refine below_later_of ?_ ?_ _) | (with_reducible refine Below.alloc ?_ ?_ _) | (with_reducible refine Below.setCell ?_ ?_ _) | (with_reducible refine Below.drew ?_) | (simp; done) | (simp; omega) | omega))))⟩
    · clear HF
      by_cases he : pe = 0
      · subst he
        have hc : ((pa == q.line) && (pb == q.bin)) = false := by
          rw [Bool.eq_false_iff]
          intro h
          simp only [Bool.and_eq_true, beq_iff_eq] at h
          exact hne ⟨h.1, h.2, rfl⟩
        clear hne
        go_wp2_with (first | (go_at_call 25; refine (HO2.out _).mono ?_; rintro e w' ⟨rfl, hb⟩; obtain ⟨pp, rfl⟩ := later_of_below hb; clear hb))
        go_ret
        exact ⟨ret_bool (by simp), HB9.out.trans (below_mono_of (show w.heap.size ≤ wc.heap.size by omega) (by (repeat' (first | with_reducible exact Below.refl _ _ | (with_reducible refine below_later_of ?_ ?_ _) | (with_reducible refine Below.alloc ?_ ?_ _) | (with_reducible refine Below.setCell ?_ ?_ _) | (with_reducible refine Below.drew ?_) | (simp; done) | (simp; omega) | omega))))⟩
      · have hz : (pe == 0) = false := by simpa using he
        clear he hne
        go_wp2_with (first | (go_at_call 25; refine (HO2.out _).mono ?_; rintro e w' ⟨rfl, hb⟩; obtain ⟨pp, rfl⟩ := later_of_below hb; clear hb))
        go_ret
        exact ⟨ret_bool (by simp), HB9.out.trans (below_mono_of (show w.heap.size ≤ wc.heap.size by omega) (by (repeat' (first | with_reducible exact Below.refl _ _ | (with_reducible refine below_later_of ?_ ?_ _) | (with_reducible refine Below.alloc ?_ ?_ _) | (with_reducible refine Below.setCell ?_ ?_ _) | (with_reducible refine Below.drew ?_) | (simp; done) | (simp; omega) | omega))))⟩
theorem ginPixel_any (t : Trk) (q : Pix) (b : Bx) (a0 a1 a2 : Int) (w : World) (i0 : -9223372036854775808 ≤ a0 ∧ a0 ≤ 9223372036854775807) (i1 : -9223372036854775808 ≤ a1 ∧ a1 ≤ 9223372036854775807) (i2 : -9223372036854775808 ≤ a2 ∧ a2 ≤ 9223372036854775807) :
    Calls Try.prog 13 #[.agg #[.int .i64 t.sx, .int .i64 t.sy, .int .i64 t.sz, .int .i64 t.step, .int .i64 t.lines, .int .i64 t.near, .int .i64 t.bin, .int .i64 t.bins, .bool t.east], .agg #[.int .i64 q.line, .int .i64 q.bin, .int .i64 q.lo, .int .i64 q.hi], .agg #[.int .i64 b.x1, .int .i64 b.x2, .int .i64 b.y1, .int .i64 b.y2, .int .i64 a0, .int .i64 a1, .int .i64 a2]] w fun e w' => e = .returned (.bool true) ∧ Below w.heap.size w w' := by
  by_cases h : inPixelErrP t q b = 0
  · unfold inPixelErrP at h
    split at h
    · rename_i ht
      unfold first2 at h
      split at h
      · rename_i hp; exact ginPixel_ok t q b a0 a1 a2 w ht hp h i0 i1 i2
      · contradiction
    · contradiction
  · exact ginPixel_bad t q b a0 a1 a2 w rfl h
end Go.Proofs.Ytokpdmlmlkkekaa
