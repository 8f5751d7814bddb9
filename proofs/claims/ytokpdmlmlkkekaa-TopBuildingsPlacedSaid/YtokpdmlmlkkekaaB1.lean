/- The laws GroundBoxes and GroundPixels: each returns true. -/
import Derived.Test.YtokpdmlmlkkekaaZW
namespace Go.Proofs.Ytokpdmlmlkkekaa
set_option linter.unusedVariables false
open Go.RowKit
theorem boxOf_e (t : Trk) (q : Pix) (w : World) {a b c d e0 : Int} (h : boxOfP t q = ⟨a, b, c, d, e0⟩) :
    Calls Try.prog 19 #[.agg #[.int .i64 t.sx, .int .i64 t.sy, .int .i64 t.sz, .int .i64 t.step, .int .i64 t.lines, .int .i64 t.near, .int .i64 t.bin, .int .i64 t.bins, .bool t.east], .agg #[.int .i64 q.line, .int .i64 q.bin, .int .i64 q.lo, .int .i64 q.hi]] w fun e w' => e = .returned (.tuple #[.agg #[.int .i64 a, .int .i64 b, .int .i64 c, .int .i64 d], .int .i64 e0]) ∧ Below w.heap.size w w' := by
  have := boxOf_any t q w
  rwa [h] at this
theorem rBoxOf_e (t : Trk) (q : Pix) (w : World) (h0 : checkTrackP t = 0) (hq : checkPixelP t q = 0) {a b c d e0 : Int} (h : boxOfP t q = ⟨a, b, c, d, e0⟩) :
    Calls Try.prog 22 #[.agg #[.int .i64 t.sx, .int .i64 t.sy, .int .i64 t.sz, .int .i64 t.step, .int .i64 t.lines, .int .i64 t.near, .int .i64 t.bin, .int .i64 t.bins, .bool t.east], .agg #[.int .i64 q.line, .int .i64 q.bin, .int .i64 q.lo, .int .i64 q.hi]] w fun e w' => e = .returned (.tuple #[.agg #[.int .i64 a, .int .i64 b, .int .i64 c, .int .i64 d], .int .i64 e0]) ∧ Below w.heap.size w w' := by
  have := rBoxOf t q w h0 hq
  rwa [h] at this
set_option maxRecDepth 20000 in
set_option maxHeartbeats 2000000 in
theorem boxes_any (t : Trk) (q : Pix) (w : World) : Calls Try.prog 3 #[.agg #[.int .i64 t.sx, .int .i64 t.sy, .int .i64 t.sz, .int .i64 t.step, .int .i64 t.lines, .int .i64 t.near, .int .i64 t.bin, .int .i64 t.bins, .bool t.east], .agg #[.int .i64 q.line, .int .i64 q.bin, .int .i64 q.lo, .int .i64 q.hi]] w fun e w' => e = .returned (.bool true) ∧ Below w.heap.size w w' := by
  by_cases h : checkTrackP t = 0
  · have HT := Lib.hid h
    obtain ⟨-, -, -, -, -, -, -, -, -, l1, l2, -, -, -, -, n1, n2⟩ := checkTrackP_ok h
    by_cases hp : checkPixelP t q = 0
    · have HP := Lib.hid hp
      obtain ⟨a, b, c, d, e0, hb⟩ : ∃ a b c d e0, boxOfP t q = ⟨a, b, c, d, e0⟩ := ⟨_, _, _, _, _, rfl⟩
      have HB := Lib.hid hb
      clear h hp hb
      go_enter Try.func3, Try.ntmps3
      go_wp2_with (first | (go_at_call 18; refine (awake_any _).mono ?_; rintro e w' ⟨rfl, hb⟩; obtain ⟨pp, rfl⟩ := later_of_below hb; clear hb) | (go_at_call 19; refine (boxOf_e t q _ HB.out).mono ?_; rintro e w' ⟨rfl, hb⟩; obtain ⟨pp, rfl⟩ := later_of_below hb; clear hb) | (go_at_call 20; refine (rCheckTrack t _ HT.out).mono ?_; rintro e w' ⟨rfl, hb⟩; obtain ⟨pp, rfl⟩ := later_of_below hb; clear hb) | (go_at_call 21; refine (rPixelErr t q _ HP.out (by omega) (by omega) (by omega) (by omega)).mono ?_; rintro e w' ⟨rfl, hb⟩; obtain ⟨pp, rfl⟩ := later_of_below hb; clear hb) | (go_at_call 22; refine (rBoxOf_e t q _ HT.out HP.out HB.out).mono ?_; rintro e w' ⟨rfl, hb⟩; obtain ⟨pp, rfl⟩ := later_of_below hb; clear hb))
      go_ret
      exact ⟨ret_bool (by simp), (by (repeat' (first | with_reducible exact Below.refl _ _ | (with_reducible refine below_later_of ?_ ?_ _) | (with_reducible refine Below.alloc ?_ ?_ _) | (with_reducible refine Below.setCell ?_ ?_ _) | (with_reducible refine Below.drew ?_) | (simp; done) | (simp; omega) | omega)))⟩
    · obtain ⟨e0, he⟩ : ∃ e0, checkPixelP t q = e0 := ⟨_, rfl⟩
      have hb : boxOfP t q = ⟨0, 0, 0, 0, e0⟩ := by unfold boxOfP; rw [if_pos h, if_neg hp, he]
      rw [he] at hp
      have HB := Lib.hid hb
      have HP := Lib.hid he
      have hz : (e0 == 0) = false := by simpa using hp
      clear h hb he
      go_enter Try.func3, Try.ntmps3
      go_wp2_with (first | (go_at_call 18; refine (awake_any _).mono ?_; rintro e w' ⟨rfl, hb⟩; obtain ⟨pp, rfl⟩ := later_of_below hb; clear hb) | (go_at_call 19; refine (boxOf_e t q _ HB.out).mono ?_; rintro e w' ⟨rfl, hb⟩; obtain ⟨pp, rfl⟩ := later_of_below hb; clear hb) | (go_at_call 20; refine (rCheckTrack t _ HT.out).mono ?_; rintro e w' ⟨rfl, hb⟩; obtain ⟨pp, rfl⟩ := later_of_below hb; clear hb) | (go_at_call 21; refine (rPixelErr t q _ HP.out (by omega) (by omega) (by omega) (by omega)).mono ?_; rintro e w' ⟨rfl, hb⟩; obtain ⟨pp, rfl⟩ := later_of_below hb; clear hb))
      go_ret
      exact ⟨ret_bool (by simp), (by (repeat' (first | with_reducible exact Below.refl _ _ | (with_reducible refine below_later_of ?_ ?_ _) | (with_reducible refine Below.alloc ?_ ?_ _) | (with_reducible refine Below.setCell ?_ ?_ _) | (with_reducible refine Below.drew ?_) | (simp; done) | (simp; omega) | omega)))⟩
  · obtain ⟨e0, he⟩ : ∃ e0, checkTrackP t = e0 := ⟨_, rfl⟩
    have hb : boxOfP t q = ⟨0, 0, 0, 0, e0⟩ := by unfold boxOfP; rw [if_neg h, he]
    rw [he] at h
    have HB := Lib.hid hb
    have HT := Lib.hid he
    have hz : (e0 == 0) = false := by simpa using h
    clear hb he
    go_enter Try.func3, Try.ntmps3
    go_wp2_with (first | (go_at_call 18; refine (awake_any _).mono ?_; rintro e w' ⟨rfl, hb⟩; obtain ⟨pp, rfl⟩ := later_of_below hb; clear hb) | (go_at_call 19; refine (boxOf_e t q _ HB.out).mono ?_; rintro e w' ⟨rfl, hb⟩; obtain ⟨pp, rfl⟩ := later_of_below hb; clear hb) | (go_at_call 20; refine (rCheckTrack t _ HT.out).mono ?_; rintro e w' ⟨rfl, hb⟩; obtain ⟨pp, rfl⟩ := later_of_below hb; clear hb))
    go_ret
    exact ⟨ret_bool (by simp), (by (repeat' (first | with_reducible exact Below.refl _ _ | (with_reducible refine below_later_of ?_ ?_ _) | (with_reducible refine Below.alloc ?_ ?_ _) | (with_reducible refine Below.setCell ?_ ?_ _) | (with_reducible refine Below.drew ?_) | (simp; done) | (simp; omega) | omega)))⟩
end Go.Proofs.Ytokpdmlmlkkekaa
