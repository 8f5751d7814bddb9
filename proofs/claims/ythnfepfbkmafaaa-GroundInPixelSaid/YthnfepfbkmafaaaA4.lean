import Derived.Test.YthnfepfbkmafaaaA3
namespace Go.Proofs.Ythnfepfbkmafaaa
set_option linter.unusedVariables false
open Go.RowKit

set_option maxHeartbeats 2000000 in
theorem checkTrack_any (t : Trk) (w : World) :
    Calls Try.prog 24 #[.agg #[.int .i64 t.sx, .int .i64 t.sy, .int .i64 t.sz, .int .i64 t.step, .int .i64 t.lines, .int .i64 t.near, .int .i64 t.bin, .int .i64 t.bins, .bool t.east]] w fun e w' => e = .returned (.int .i64 (checkTrackP t)) ∧ Below w.heap.size w w' := by
  cases hp : placeB t.sx t.sy t.sz
  · have hc : checkPlaceP t.sx t.sy t.sz = 2 := by unfold checkPlaceP; rw [hp]; rfl
    go_enter Try.func24, Try.ntmps24
    go_wp2_with (go_at_call 89; refine (checkPlace_any _ _ _ _).mono ?_; rintro e w' ⟨rfl, hb⟩; obtain ⟨pp, rfl⟩ := later_of_below hb; clear hb)
    go_ret
    exact ⟨ret_int (by unfold checkTrackP; rw [hp]; rfl), (by (repeat' (first | with_reducible exact Below.refl _ _ | (with_reducible refine below_later_of ?_ ?_ _) | (with_reducible refine Below.alloc ?_ ?_ _) | (with_reducible refine Below.setCell ?_ ?_ _) | (with_reducible refine Below.drew ?_) | (simp; done) | (simp; omega) | omega)))⟩
  · have hc : checkPlaceP t.sx t.sy t.sz = 0 := by unfold checkPlaceP; rw [hp]; rfl
    cases hz : (t.step == 0)
    · have hz' : ¬ t.step = 0 := by simpa using hz
      have HZ := Lib.hid hz'
      clear hz'
      cases h1 : inR (-1000) 1000 t.step
      · have HF := Lib.hid (show checkTrackP t = 2 by unfold checkTrackP; rw [hp, if_pos rfl, if_neg HZ.out, h1]; rfl)
        have H1 := Lib.hid h1
        clear h1
        (go_enter Try.func24, Try.ntmps24; go_wp2_with (first | (go_at_call 89; refine (checkPlace_any _ _ _ _).mono ?_; rintro e w' ⟨rfl, hb⟩; obtain ⟨pp, rfl⟩ := later_of_below hb; clear hb) | (go_at_call 90; first | ((with_reducible refine (all1 (-1000) 1000 t.step _ _ _ H1.out (by go_simp)).mono ?_); rintro e w' ⟨rfl, rfl⟩) | ((with_reducible refine (all1 1 10000 t.lines _ _ _ H2.out (by go_simp)).mono ?_); rintro e w' ⟨rfl, rfl⟩) | ((with_reducible refine (all1 0 100000000 t.near _ _ _ H3.out (by go_simp)).mono ?_); rintro e w' ⟨rfl, rfl⟩) | ((with_reducible refine (all1 1 1000 t.bin _ _ _ H4.out (by go_simp)).mono ?_); rintro e w' ⟨rfl, rfl⟩) | ((with_reducible refine (all1 1 100000 t.bins _ _ _ H5.out (by go_simp)).mono ?_); rintro e w' ⟨rfl, rfl⟩))); go_ret; exact ⟨ret_int HF.out.symm, (by (repeat' (first | with_reducible exact Below.refl _ _ | (with_reducible refine below_later_of ?_ ?_ _) | (with_reducible refine Below.alloc ?_ ?_ _) | (with_reducible refine Below.setCell ?_ ?_ _) | (with_reducible refine Below.drew ?_) | (simp; done) | (simp; omega) | omega)))⟩)
      · cases h2 : inR 1 10000 t.lines
        · have HF := Lib.hid (show checkTrackP t = 2 by unfold checkTrackP; rw [hp, if_pos rfl, if_neg HZ.out, h1, h2]; rfl)
          have H1 := Lib.hid h1
          have H2 := Lib.hid h2
          clear h1 h2
          (go_enter Try.func24, Try.ntmps24; go_wp2_with (first | (go_at_call 89; refine (checkPlace_any _ _ _ _).mono ?_; rintro e w' ⟨rfl, hb⟩; obtain ⟨pp, rfl⟩ := later_of_below hb; clear hb) | (go_at_call 90; first | ((with_reducible refine (all1 (-1000) 1000 t.step _ _ _ H1.out (by go_simp)).mono ?_); rintro e w' ⟨rfl, rfl⟩) | ((with_reducible refine (all1 1 10000 t.lines _ _ _ H2.out (by go_simp)).mono ?_); rintro e w' ⟨rfl, rfl⟩) | ((with_reducible refine (all1 0 100000000 t.near _ _ _ H3.out (by go_simp)).mono ?_); rintro e w' ⟨rfl, rfl⟩) | ((with_reducible refine (all1 1 1000 t.bin _ _ _ H4.out (by go_simp)).mono ?_); rintro e w' ⟨rfl, rfl⟩) | ((with_reducible refine (all1 1 100000 t.bins _ _ _ H5.out (by go_simp)).mono ?_); rintro e w' ⟨rfl, rfl⟩))); go_ret; exact ⟨ret_int HF.out.symm, (by (repeat' (first | with_reducible exact Below.refl _ _ | (with_reducible refine below_later_of ?_ ?_ _) | (with_reducible refine Below.alloc ?_ ?_ _) | (with_reducible refine Below.setCell ?_ ?_ _) | (with_reducible refine Below.drew ?_) | (simp; done) | (simp; omega) | omega)))⟩)
        · cases h3 : inR 0 100000000 t.near
          · have HF := Lib.hid (show checkTrackP t = 2 by unfold checkTrackP; rw [hp, if_pos rfl, if_neg HZ.out, h1, h2, h3]; rfl)
            have H1 := Lib.hid h1
            have H2 := Lib.hid h2
            have H3 := Lib.hid h3
            clear h1 h2 h3
            (go_enter Try.func24, Try.ntmps24; go_wp2_with (first | (go_at_call 89; refine (checkPlace_any _ _ _ _).mono ?_; rintro e w' ⟨rfl, hb⟩; obtain ⟨pp, rfl⟩ := later_of_below hb; clear hb) | (go_at_call 90; first | ((with_reducible refine (all1 (-1000) 1000 t.step _ _ _ H1.out (by go_simp)).mono ?_); rintro e w' ⟨rfl, rfl⟩) | ((with_reducible refine (all1 1 10000 t.lines _ _ _ H2.out (by go_simp)).mono ?_); rintro e w' ⟨rfl, rfl⟩) | ((with_reducible refine (all1 0 100000000 t.near _ _ _ H3.out (by go_simp)).mono ?_); rintro e w' ⟨rfl, rfl⟩) | ((with_reducible refine (all1 1 1000 t.bin _ _ _ H4.out (by go_simp)).mono ?_); rintro e w' ⟨rfl, rfl⟩) | ((with_reducible refine (all1 1 100000 t.bins _ _ _ H5.out (by go_simp)).mono ?_); rintro e w' ⟨rfl, rfl⟩))); go_ret; exact ⟨ret_int HF.out.symm, (by (repeat' (first | with_reducible exact Below.refl _ _ | (with_reducible refine below_later_of ?_ ?_ _) | (with_reducible refine Below.alloc ?_ ?_ _) | (with_reducible refine Below.setCell ?_ ?_ _) | (with_reducible refine Below.drew ?_) | (simp; done) | (simp; omega) | omega)))⟩)
          · cases h4 : inR 1 1000 t.bin
            · have HF := Lib.hid (show checkTrackP t = 2 by unfold checkTrackP; rw [hp, if_pos rfl, if_neg HZ.out, h1, h2, h3, h4]; rfl)
              have H1 := Lib.hid h1
              have H2 := Lib.hid h2
              have H3 := Lib.hid h3
              have H4 := Lib.hid h4
              clear h1 h2 h3 h4
              (go_enter Try.func24, Try.ntmps24; go_wp2_with (first | (go_at_call 89; refine (checkPlace_any _ _ _ _).mono ?_; rintro e w' ⟨rfl, hb⟩; obtain ⟨pp, rfl⟩ := later_of_below hb; clear hb) | (go_at_call 90; first | ((with_reducible refine (all1 (-1000) 1000 t.step _ _ _ H1.out (by go_simp)).mono ?_); rintro e w' ⟨rfl, rfl⟩) | ((with_reducible refine (all1 1 10000 t.lines _ _ _ H2.out (by go_simp)).mono ?_); rintro e w' ⟨rfl, rfl⟩) | ((with_reducible refine (all1 0 100000000 t.near _ _ _ H3.out (by go_simp)).mono ?_); rintro e w' ⟨rfl, rfl⟩) | ((with_reducible refine (all1 1 1000 t.bin _ _ _ H4.out (by go_simp)).mono ?_); rintro e w' ⟨rfl, rfl⟩) | ((with_reducible refine (all1 1 100000 t.bins _ _ _ H5.out (by go_simp)).mono ?_); rintro e w' ⟨rfl, rfl⟩))); go_ret; exact ⟨ret_int HF.out.symm, (by (repeat' (first | with_reducible exact Below.refl _ _ | (with_reducible refine below_later_of ?_ ?_ _) | (with_reducible refine Below.alloc ?_ ?_ _) | (with_reducible refine Below.setCell ?_ ?_ _) | (with_reducible refine Below.drew ?_) | (simp; done) | (simp; omega) | omega)))⟩)
            · cases h5 : inR 1 100000 t.bins
              · have HF := Lib.hid (show checkTrackP t = 2 by unfold checkTrackP; rw [hp, if_pos rfl, if_neg HZ.out, h1, h2, h3, h4, h5]; rfl)
                have H1 := Lib.hid h1
                have H2 := Lib.hid h2
                have H3 := Lib.hid h3
                have H4 := Lib.hid h4
                have H5 := Lib.hid h5
                clear h1 h2 h3 h4 h5
                (go_enter Try.func24, Try.ntmps24; go_wp2_with (first | (go_at_call 89; refine (checkPlace_any _ _ _ _).mono ?_; rintro e w' ⟨rfl, hb⟩; obtain ⟨pp, rfl⟩ := later_of_below hb; clear hb) | (go_at_call 90; first | ((with_reducible refine (all1 (-1000) 1000 t.step _ _ _ H1.out (by go_simp)).mono ?_); rintro e w' ⟨rfl, rfl⟩) | ((with_reducible refine (all1 1 10000 t.lines _ _ _ H2.out (by go_simp)).mono ?_); rintro e w' ⟨rfl, rfl⟩) | ((with_reducible refine (all1 0 100000000 t.near _ _ _ H3.out (by go_simp)).mono ?_); rintro e w' ⟨rfl, rfl⟩) | ((with_reducible refine (all1 1 1000 t.bin _ _ _ H4.out (by go_simp)).mono ?_); rintro e w' ⟨rfl, rfl⟩) | ((with_reducible refine (all1 1 100000 t.bins _ _ _ H5.out (by go_simp)).mono ?_); rintro e w' ⟨rfl, rfl⟩))); go_ret; exact ⟨ret_int HF.out.symm, (by (repeat' (first | with_reducible exact Below.refl _ _ | (with_reducible refine below_later_of ?_ ?_ _) | (with_reducible refine Below.alloc ?_ ?_ _) | (with_reducible refine Below.setCell ?_ ?_ _) | (with_reducible refine Below.drew ?_) | (simp; done) | (simp; omega) | omega)))⟩)
              · have HF := Lib.hid (show checkTrackP t = 0 by unfold checkTrackP; rw [hp, if_pos rfl, if_neg HZ.out, h1, h2, h3, h4, h5]; rfl)
                have H1 := Lib.hid h1
                have H2 := Lib.hid h2
                have H3 := Lib.hid h3
                have H4 := Lib.hid h4
                have H5 := Lib.hid h5
                clear h1 h2 h3 h4 h5
                (go_enter Try.func24, Try.ntmps24; go_wp2_with (first | (go_at_call 89; refine (checkPlace_any _ _ _ _).mono ?_; rintro e w' ⟨rfl, hb⟩; obtain ⟨pp, rfl⟩ := later_of_below hb; clear hb) | (go_at_call 90; first | ((with_reducible refine (all1 (-1000) 1000 t.step _ _ _ H1.out (by go_simp)).mono ?_); rintro e w' ⟨rfl, rfl⟩) | ((with_reducible refine (all1 1 10000 t.lines _ _ _ H2.out (by go_simp)).mono ?_); rintro e w' ⟨rfl, rfl⟩) | ((with_reducible refine (all1 0 100000000 t.near _ _ _ H3.out (by go_simp)).mono ?_); rintro e w' ⟨rfl, rfl⟩) | ((with_reducible refine (all1 1 1000 t.bin _ _ _ H4.out (by go_simp)).mono ?_); rintro e w' ⟨rfl, rfl⟩) | ((with_reducible refine (all1 1 100000 t.bins _ _ _ H5.out (by go_simp)).mono ?_); rintro e w' ⟨rfl, rfl⟩))); go_ret; exact ⟨ret_int HF.out.symm, (by (repeat' (first | with_reducible exact Below.refl _ _ | (with_reducible refine below_later_of ?_ ?_ _) | (with_reducible refine Below.alloc ?_ ?_ _) | (with_reducible refine Below.setCell ?_ ?_ _) | (with_reducible refine Below.drew ?_) | (simp; done) | (simp; omega) | omega)))⟩)
    · go_enter Try.func24, Try.ntmps24
      go_wp2_with (go_at_call 89; refine (checkPlace_any _ _ _ _).mono ?_; rintro e w' ⟨rfl, hb⟩; obtain ⟨pp, rfl⟩ := later_of_below hb; clear hb)
      go_ret
      exact ⟨ret_int (by unfold checkTrackP; rw [hp, if_pos rfl, if_pos (by simpa using hz)]), (by (repeat' (first | with_reducible exact Below.refl _ _ | (with_reducible refine below_later_of ?_ ?_ _) | (with_reducible refine Below.alloc ?_ ?_ _) | (with_reducible refine Below.setCell ?_ ?_ _) | (with_reducible refine Below.drew ?_) | (simp; done) | (simp; omega) | omega)))⟩

set_option maxHeartbeats 400000 in
theorem line_any (t : Trk) (y : Int) (w : World) (o : t.Ok) (h3 : -1000000000 ≤ y) (h4 : y ≤ 1000000000) :
    Calls Try.prog 84 #[.agg #[.int .i64 t.sx, .int .i64 t.sy, .int .i64 t.sz, .int .i64 t.step, .int .i64 t.lines, .int .i64 t.near, .int .i64 t.bin, .int .i64 t.bins, .bool t.east], .int .i64 y] w fun e w' => e = .returned (.int .i64 (lineP t y)) ∧ Below w.heap.size w w' := by
  obtain ⟨h_sx1, h_sx2, h_sy1, h_sy2, h_sz1, h_sz2, h_st0, h_st1, h_st2, -, -, -, -, -, -, -, -⟩ := o
  go_enter Try.func84, Try.ntmps84
  go_wp2_with (go_at_call 129; refine (floor_any _ _ _ (by omega) (by omega) (by omega) (by omega) (by omega)).mono ?_; rintro e w' ⟨rfl, rfl⟩)
  go_ret
  exact ⟨rfl, (by (repeat' (first | with_reducible exact Below.refl _ _ | (with_reducible refine below_later_of ?_ ?_ _) | (with_reducible refine Below.alloc ?_ ?_ _) | (with_reducible refine Below.setCell ?_ ?_ _) | (with_reducible refine Below.drew ?_) | (simp; done) | (simp; omega) | omega)))⟩

end Go.Proofs.Ythnfepfbkmafaaa
