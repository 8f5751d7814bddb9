/- The law GroundPixels returns true. -/
import Derived.Test.YthnfepfbkmafaaaB1
namespace Go.Proofs.Ythnfepfbkmafaaa
set_option linter.unusedVariables false
open Go.RowKit
theorem lineOf_e (t : Trk) (x y z : Int) (w : World) {l e0 : Int} (h : lineOfP t x y z = (l, e0)) :
    Calls Try.prog 21 #[.agg #[.int .i64 t.sx, .int .i64 t.sy, .int .i64 t.sz, .int .i64 t.step, .int .i64 t.lines, .int .i64 t.near, .int .i64 t.bin, .int .i64 t.bins, .bool t.east], .agg #[.int .i64 x, .int .i64 y, .int .i64 z]] w fun e w' => e = .returned (.tuple #[.int .i64 l, .int .i64 e0]) ∧ Below w.heap.size w w' := by
  have := lineOf_any t x y z w
  rwa [h] at this
theorem slantOf_e (t : Trk) (x y z : Int) (w : World) {a b e0 : Int} (h : slantOfP t x y z = (a, b, e0)) :
    Calls Try.prog 22 #[.agg #[.int .i64 t.sx, .int .i64 t.sy, .int .i64 t.sz, .int .i64 t.step, .int .i64 t.lines, .int .i64 t.near, .int .i64 t.bin, .int .i64 t.bins, .bool t.east], .agg #[.int .i64 x, .int .i64 y, .int .i64 z]] w fun e w' => e = .returned (.tuple #[.agg #[.int .i64 a, .int .i64 b], .int .i64 e0]) ∧ Below w.heap.size w w' := by
  have := slantOf_any t x y z w
  rwa [h] at this
theorem pixelOf_e (t : Trk) (x y z : Int) (w : World) {a b e0 : Int} (h : pixelOfP t x y z = (a, b, e0)) :
    Calls Try.prog 23 #[.agg #[.int .i64 t.sx, .int .i64 t.sy, .int .i64 t.sz, .int .i64 t.step, .int .i64 t.lines, .int .i64 t.near, .int .i64 t.bin, .int .i64 t.bins, .bool t.east], .agg #[.int .i64 x, .int .i64 y, .int .i64 z]] w fun e w' => e = .returned (.tuple #[.agg #[.int .i64 a, .int .i64 b], .int .i64 e0]) ∧ Below w.heap.size w w' := by
  have := pixelOf_any t x y z w
  rwa [h] at this
theorem rLineOf_e (t : Trk) (x y z : Int) (w : World) (h0 : seenP t x y z = 0) {l e0 : Int} (h : lineOfP t x y z = (l, e0)) :
    Calls Try.prog 26 #[.agg #[.int .i64 t.sx, .int .i64 t.sy, .int .i64 t.sz, .int .i64 t.step, .int .i64 t.lines, .int .i64 t.near, .int .i64 t.bin, .int .i64 t.bins, .bool t.east], .agg #[.int .i64 x, .int .i64 y, .int .i64 z]] w fun e w' => e = .returned (.tuple #[.int .i64 l, .int .i64 e0]) ∧ Below w.heap.size w w' := by
  have := rLineOf t x y z w h0
  rwa [h] at this
theorem rSlantOf_e (t : Trk) (x y z : Int) (w : World) (h0 : seenP t x y z = 0) {a b e0 : Int} (h : slantOfP t x y z = (a, b, e0)) :
    Calls Try.prog 28 #[.agg #[.int .i64 t.sx, .int .i64 t.sy, .int .i64 t.sz, .int .i64 t.step, .int .i64 t.lines, .int .i64 t.near, .int .i64 t.bin, .int .i64 t.bins, .bool t.east], .agg #[.int .i64 x, .int .i64 y, .int .i64 z]] w fun e w' => e = .returned (.agg #[.int .i64 a, .int .i64 b]) ∧ Below w.heap.size w w' := by
  have := rSlantOf t x y z w h0
  rwa [h] at this
theorem rPixelOf_e (t : Trk) (x y z : Int) (w : World) (h0 : seenP t x y z = 0) {a b e0 : Int} (h : pixelOfP t x y z = (a, b, e0)) :
    Calls Try.prog 27 #[.agg #[.int .i64 t.sx, .int .i64 t.sy, .int .i64 t.sz, .int .i64 t.step, .int .i64 t.lines, .int .i64 t.near, .int .i64 t.bin, .int .i64 t.bins, .bool t.east], .agg #[.int .i64 x, .int .i64 y, .int .i64 z]] w fun e w' => e = .returned (.tuple #[.agg #[.int .i64 a, .int .i64 b], .int .i64 e0]) ∧ Below w.heap.size w w' := by
  have := rPixelOf t x y z w h0
  rwa [h] at this
set_option maxRecDepth 20000 in
set_option maxHeartbeats 2000000 in
theorem pixels_any (t : Trk) (x y z : Int) (w : World) : Calls Try.prog 4 #[.agg #[.int .i64 t.sx, .int .i64 t.sy, .int .i64 t.sz, .int .i64 t.step, .int .i64 t.lines, .int .i64 t.near, .int .i64 t.bin, .int .i64 t.bins, .bool t.east], .agg #[.int .i64 x, .int .i64 y, .int .i64 z]] w fun e w' => e = .returned (.bool true) ∧ Below w.heap.size w w' := by
  obtain ⟨ct, hct⟩ : ∃ ct, checkTrackP t = ct := ⟨_, rfl⟩
  have HC := Lib.hid hct
  clear hct
  by_cases h : seenP t x y z = 0
  · obtain ⟨l, le, hl⟩ : ∃ l le, lineOfP t x y z = (l, le) := ⟨_, _, rfl⟩
    obtain ⟨s1, s2, hs⟩ : ∃ s1 s2, slantOfP t x y z = (s1, s2, 0) := ⟨_, _, by unfold slantOfP; rw [if_pos h]⟩
    obtain ⟨p1, p2, pe, hp⟩ : ∃ p1 p2 pe, pixelOfP t x y z = (p1, p2, pe) := ⟨_, _, _, rfl⟩
    have HL := Lib.hid hl
    have HS := Lib.hid hs
    have HP := Lib.hid hp
    have HE := Lib.hid h
    clear hl hs hp h
    go_enter Try.func4, Try.ntmps4
    go_wp2_with (first | (go_at_call 16; refine (awake_any _).mono ?_; rintro e w' ⟨rfl, hb⟩; obtain ⟨pp, rfl⟩ := later_of_below hb; clear hb) | (go_at_call 21; refine (lineOf_e t x y z _ HL.out).mono ?_; rintro e w' ⟨rfl, hb⟩; obtain ⟨pp, rfl⟩ := later_of_below hb; clear hb) | (go_at_call 22; refine (slantOf_e t x y z _ HS.out).mono ?_; rintro e w' ⟨rfl, hb⟩; obtain ⟨pp, rfl⟩ := later_of_below hb; clear hb) | (go_at_call 23; refine (pixelOf_e t x y z _ HP.out).mono ?_; rintro e w' ⟨rfl, hb⟩; obtain ⟨pp, rfl⟩ := later_of_below hb; clear hb))
    refine wp_region_calm (by kernel_rfl) (by kernel_rfl) ?_
    repeat (go_big_quiet_step (first | (go_at_call 24; exact calm_of (checkTrack_e t _ HC.out)) | (go_at_call 18; exact calm_of (rCheckTrack t _ HC.out))))
    refine wpQuiet_nil ?_
    rintro _ ⟨q1, rfl⟩
    go_wp2_with (first | (go_at_call 25; refine (lPlaceErr t x y z _ HE.out).mono ?_; rintro e w' ⟨rfl, hb⟩; obtain ⟨pp, rfl⟩ := later_of_below hb; clear hb) | (go_at_call 26; refine (rLineOf_e t x y z _ HE.out HL.out).mono ?_; rintro e w' ⟨rfl, hb⟩; obtain ⟨pp, rfl⟩ := later_of_below hb; clear hb) | (go_at_call 27; refine (rPixelOf_e t x y z _ HE.out HP.out).mono ?_; rintro e w' ⟨rfl, hb⟩; obtain ⟨pp, rfl⟩ := later_of_below hb; clear hb))
    refine wp_region_calm (by kernel_rfl) (by kernel_rfl) ?_
    repeat (go_big_quiet_step (first | (go_at_call 28; exact calm_of (rSlantOf_e t x y z _ HE.out HS.out))))
    refine wpQuiet_nil ?_
    rintro _ ⟨q2, rfl⟩
    go_wp2
    go_ret
    exact ⟨ret_bool (by simp), (by (repeat' (first | with_reducible exact Below.refl _ _ | (with_reducible refine below_later_of ?_ ?_ _) | (with_reducible refine Below.alloc ?_ ?_ _) | (with_reducible refine Below.setCell ?_ ?_ _) | (with_reducible refine Below.drew ?_) | (simp; done) | (simp; omega) | omega)))⟩
  · obtain ⟨e0, he⟩ : ∃ e0, seenP t x y z = e0 := ⟨_, rfl⟩
    have hl : lineOfP t x y z = (0, e0) := by unfold lineOfP; rw [if_neg h, he]
    have hs : slantOfP t x y z = (0, 0, e0) := by unfold slantOfP; rw [if_neg h, he]
    have hp : pixelOfP t x y z = (0, 0, e0) := by unfold pixelOfP; rw [if_neg h, he]
    rw [he] at h
    have hz : (e0 != 0) = true := by simpa using h
    have HL := Lib.hid hl
    have HS := Lib.hid hs
    have HP := Lib.hid hp
    have HE := Lib.hid he
    clear hl hs hp he
    go_enter Try.func4, Try.ntmps4
    go_wp2_with (first | (go_at_call 16; refine (awake_any _).mono ?_; rintro e w' ⟨rfl, hb⟩; obtain ⟨pp, rfl⟩ := later_of_below hb; clear hb) | (go_at_call 21; refine (lineOf_e t x y z _ HL.out).mono ?_; rintro e w' ⟨rfl, hb⟩; obtain ⟨pp, rfl⟩ := later_of_below hb; clear hb) | (go_at_call 22; refine (slantOf_e t x y z _ HS.out).mono ?_; rintro e w' ⟨rfl, hb⟩; obtain ⟨pp, rfl⟩ := later_of_below hb; clear hb) | (go_at_call 23; refine (pixelOf_e t x y z _ HP.out).mono ?_; rintro e w' ⟨rfl, hb⟩; obtain ⟨pp, rfl⟩ := later_of_below hb; clear hb))
    refine wp_region_calm (by kernel_rfl) (by kernel_rfl) ?_
    repeat (go_big_quiet_step (first | (go_at_call 24; exact calm_of (checkTrack_e t _ HC.out)) | (go_at_call 18; exact calm_of (rCheckTrack t _ HC.out))))
    refine wpQuiet_nil ?_
    rintro _ ⟨q1, rfl⟩
    go_wp2_with (first | (go_at_call 25; refine (lPlaceErr t x y z _ HE.out).mono ?_; rintro e w' ⟨rfl, hb⟩; obtain ⟨pp, rfl⟩ := later_of_below hb; clear hb))
    go_ret
    exact ⟨ret_bool (by simp), (by (repeat' (first | with_reducible exact Below.refl _ _ | (with_reducible refine below_later_of ?_ ?_ _) | (with_reducible refine Below.alloc ?_ ?_ _) | (with_reducible refine Below.setCell ?_ ?_ _) | (with_reducible refine Below.drew ?_) | (simp; done) | (simp; omega) | omega)))⟩
end Go.Proofs.Ythnfepfbkmafaaa
