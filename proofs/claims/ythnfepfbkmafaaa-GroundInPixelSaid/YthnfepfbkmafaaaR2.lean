import Derived.Test.YthnfepfbkmafaaaR1
namespace Go.Proofs.Ythnfepfbkmafaaa
set_option linter.unusedVariables false
open Go.RowKit
theorem rIsPlace1 (n : Int) (w : World) {c : Bool} (hc : inR (-100000000) 100000000 n = c) :
    Calls Try.prog 108 #[.int .i64 n] w fun e w' => e = .returned (.bool c) ∧ w = w' := by
  have H1 := Lib.hid hc
  clear hc
  go_enter Try.func108, Try.ntmps108
  go_wp2_with (first | (go_at_call 34; (with_reducible refine (bWithin _ _ _ _ H1.out).mono ?_); rintro e w' ⟨rfl, rfl⟩))
  go_ret
  exact ⟨rfl, rfl⟩
theorem rIsHeight (n : Int) (w : World) {c : Bool} (hc : inR (-100000) 100000 n = c) :
    Calls Try.prog 79 #[.int .i64 n] w fun e w' => e = .returned (.bool c) ∧ w = w' := by
  have H1 := Lib.hid hc
  clear hc
  go_enter Try.func79, Try.ntmps79
  go_wp2_with (first | (go_at_call 34; (with_reducible refine (bWithin _ _ _ _ H1.out).mono ?_); rintro e w' ⟨rfl, rfl⟩))
  go_ret
  exact ⟨rfl, rfl⟩
set_option maxHeartbeats 1000000 in
theorem rIsPlace (x y z : Int) (w : World) {c : Bool} (hc : placeB x y z = c) :
    Calls Try.prog 43 #[.agg #[.int .i64 x, .int .i64 y, .int .i64 z]] w fun e w' => e = .returned (.bool c) ∧ Below w.heap.size w w' := by
  subst hc
  cases h1 : inR (-100000000) 100000000 x
  · have HF := Lib.hid (show placeB x y z = false by unfold placeB; rw [h1]; rfl)
    have H1 := Lib.hid h1
    clear h1
    go_enter Try.func43, Try.ntmps43
    go_wp2_with (first | (go_at_call 108; (with_reducible refine (rIsPlace1 _ _ H1.out).mono ?_); rintro e w' ⟨rfl, rfl⟩))
    go_ret
    exact ⟨ret_bool HF.out.symm, (by (repeat' (first | with_reducible exact Below.refl _ _ | (with_reducible refine below_later_of ?_ ?_ _) | (with_reducible refine Below.alloc ?_ ?_ _) | (with_reducible refine Below.setCell ?_ ?_ _) | (with_reducible refine Below.drew ?_) | (simp; done) | (simp; omega) | omega)))⟩
  · cases h2 : inR (-100000000) 100000000 y
    · have HF := Lib.hid (show placeB x y z = false by unfold placeB; rw [h1, h2]; rfl)
      have H1 := Lib.hid h1
      have H2 := Lib.hid h2
      clear h1 h2
      go_enter Try.func43, Try.ntmps43
      go_wp2_with (first | (go_at_call 108; (with_reducible refine (rIsPlace1 _ _ H1.out).mono ?_); rintro e w' ⟨rfl, rfl⟩) | (go_at_call 108; (with_reducible refine (rIsPlace1 _ _ H2.out).mono ?_); rintro e w' ⟨rfl, rfl⟩))
      go_ret
      exact ⟨ret_bool HF.out.symm, (by (repeat' (first | with_reducible exact Below.refl _ _ | (with_reducible refine below_later_of ?_ ?_ _) | (with_reducible refine Below.alloc ?_ ?_ _) | (with_reducible refine Below.setCell ?_ ?_ _) | (with_reducible refine Below.drew ?_) | (simp; done) | (simp; omega) | omega)))⟩
    · obtain ⟨c, h3⟩ : ∃ c, inR (-100000000) 100000000 z = c := ⟨_, rfl⟩
      have HF := Lib.hid (show placeB x y z = c by unfold placeB; rw [h1, h2, h3]; rfl)
      have H1 := Lib.hid h1
      have H2 := Lib.hid h2
      have H3 := Lib.hid h3
      clear h1 h2 h3
      go_enter Try.func43, Try.ntmps43
      go_wp2_with (first | (go_at_call 108; (with_reducible refine (rIsPlace1 _ _ H1.out).mono ?_); rintro e w' ⟨rfl, rfl⟩) | (go_at_call 108; (with_reducible refine (rIsPlace1 _ _ H2.out).mono ?_); rintro e w' ⟨rfl, rfl⟩) | (go_at_call 108; (with_reducible refine (rIsPlace1 _ _ H3.out).mono ?_); rintro e w' ⟨rfl, rfl⟩))
      go_ret
      exact ⟨ret_bool HF.out.symm, (by (repeat' (first | with_reducible exact Below.refl _ _ | (with_reducible refine below_later_of ?_ ?_ _) | (with_reducible refine Below.alloc ?_ ?_ _) | (with_reducible refine Below.setCell ?_ ?_ _) | (with_reducible refine Below.drew ?_) | (simp; done) | (simp; omega) | omega)))⟩
set_option maxHeartbeats 2000000 in
theorem rCheckTrack (t : Trk) (w : World) {e0 : Int} (he : checkTrackP t = e0) :
    Calls Try.prog 18 #[.agg #[.int .i64 t.sx, .int .i64 t.sy, .int .i64 t.sz, .int .i64 t.step, .int .i64 t.lines, .int .i64 t.near, .int .i64 t.bin, .int .i64 t.bins, .bool t.east]] w fun e w' => e = .returned (.int .i64 e0) ∧ Below w.heap.size w w' := by
  subst he
  cases hp : placeB t.sx t.sy t.sz
  · have HF := Lib.hid (show checkTrackP t = 2 by unfold checkTrackP; rw [hp]; rfl)
    have H0 := Lib.hid hp
    clear hp
    go_enter Try.func18, Try.ntmps18
    go_wp2_with (first | (go_at_call 43; (with_reducible refine (rIsPlace _ _ _ _ H0.out).mono ?_); rintro e w' ⟨rfl, hb⟩; obtain ⟨pp, rfl⟩ := later_of_below hb; clear hb))
    go_ret
    exact ⟨ret_int HF.out.symm, (by (repeat' (first | with_reducible exact Below.refl _ _ | (with_reducible refine below_later_of ?_ ?_ _) | (with_reducible refine Below.alloc ?_ ?_ _) | (with_reducible refine Below.setCell ?_ ?_ _) | (with_reducible refine Below.drew ?_) | (simp; done) | (simp; omega) | omega)))⟩
  · by_cases hz : t.step = 0
    · have HF := Lib.hid (show checkTrackP t = 11 by unfold checkTrackP; rw [hp, if_pos rfl, if_pos hz])
      have H0 := Lib.hid hp
      clear hp
      go_enter Try.func18, Try.ntmps18
      go_wp2_with (first | (go_at_call 43; (with_reducible refine (rIsPlace _ _ _ _ H0.out).mono ?_); rintro e w' ⟨rfl, hb⟩; obtain ⟨pp, rfl⟩ := later_of_below hb; clear hb))
      go_ret
      exact ⟨ret_int HF.out.symm, (by (repeat' (first | with_reducible exact Below.refl _ _ | (with_reducible refine below_later_of ?_ ?_ _) | (with_reducible refine Below.alloc ?_ ?_ _) | (with_reducible refine Below.setCell ?_ ?_ _) | (with_reducible refine Below.drew ?_) | (simp; done) | (simp; omega) | omega)))⟩
    · cases h1 : inR (-1000) 1000 t.step
      · have HF := Lib.hid (show checkTrackP t = 2 by unfold checkTrackP; rw [hp, if_pos rfl, if_neg hz, h1]; rfl)
        have H0 := Lib.hid hp
        have H1 := Lib.hid h1
        clear hp h1
        go_enter Try.func18, Try.ntmps18
        go_wp2_with (first | (go_at_call 43; (with_reducible refine (rIsPlace _ _ _ _ H0.out).mono ?_); rintro e w' ⟨rfl, hb⟩; obtain ⟨pp, rfl⟩ := later_of_below hb; clear hb) | (go_at_call 34; (with_reducible refine (bWithin _ _ _ _ H1.out).mono ?_); rintro e w' ⟨rfl, rfl⟩))
        go_ret
        exact ⟨ret_int HF.out.symm, (by (repeat' (first | with_reducible exact Below.refl _ _ | (with_reducible refine below_later_of ?_ ?_ _) | (with_reducible refine Below.alloc ?_ ?_ _) | (with_reducible refine Below.setCell ?_ ?_ _) | (with_reducible refine Below.drew ?_) | (simp; done) | (simp; omega) | omega)))⟩
      · cases h2 : inR 1 10000 t.lines
        · have HF := Lib.hid (show checkTrackP t = 2 by unfold checkTrackP; rw [hp, if_pos rfl, if_neg hz, h1, h2]; rfl)
          have H0 := Lib.hid hp
          have H1 := Lib.hid h1
          have H2 := Lib.hid h2
          clear hp h1 h2
          go_enter Try.func18, Try.ntmps18
          go_wp2_with (first | (go_at_call 43; (with_reducible refine (rIsPlace _ _ _ _ H0.out).mono ?_); rintro e w' ⟨rfl, hb⟩; obtain ⟨pp, rfl⟩ := later_of_below hb; clear hb) | (go_at_call 34; (with_reducible refine (bWithin _ _ _ _ H1.out).mono ?_); rintro e w' ⟨rfl, rfl⟩) | (go_at_call 34; (with_reducible refine (bWithin _ _ _ _ H2.out).mono ?_); rintro e w' ⟨rfl, rfl⟩))
          go_ret
          exact ⟨ret_int HF.out.symm, (by (repeat' (first | with_reducible exact Below.refl _ _ | (with_reducible refine below_later_of ?_ ?_ _) | (with_reducible refine Below.alloc ?_ ?_ _) | (with_reducible refine Below.setCell ?_ ?_ _) | (with_reducible refine Below.drew ?_) | (simp; done) | (simp; omega) | omega)))⟩
        · cases h3 : inR 0 100000000 t.near
          · have HF := Lib.hid (show checkTrackP t = 2 by unfold checkTrackP; rw [hp, if_pos rfl, if_neg hz, h1, h2, h3]; rfl)
            have H0 := Lib.hid hp
            have H1 := Lib.hid h1
            have H2 := Lib.hid h2
            have H3 := Lib.hid h3
            clear hp h1 h2 h3
            go_enter Try.func18, Try.ntmps18
            go_wp2_with (first | (go_at_call 43; (with_reducible refine (rIsPlace _ _ _ _ H0.out).mono ?_); rintro e w' ⟨rfl, hb⟩; obtain ⟨pp, rfl⟩ := later_of_below hb; clear hb) | (go_at_call 34; (with_reducible refine (bWithin _ _ _ _ H1.out).mono ?_); rintro e w' ⟨rfl, rfl⟩) | (go_at_call 34; (with_reducible refine (bWithin _ _ _ _ H2.out).mono ?_); rintro e w' ⟨rfl, rfl⟩) | (go_at_call 34; (with_reducible refine (bWithin _ _ _ _ H3.out).mono ?_); rintro e w' ⟨rfl, rfl⟩))
            go_ret
            exact ⟨ret_int HF.out.symm, (by (repeat' (first | with_reducible exact Below.refl _ _ | (with_reducible refine below_later_of ?_ ?_ _) | (with_reducible refine Below.alloc ?_ ?_ _) | (with_reducible refine Below.setCell ?_ ?_ _) | (with_reducible refine Below.drew ?_) | (simp; done) | (simp; omega) | omega)))⟩
          · cases h4 : inR 1 1000 t.bin
            · have HF := Lib.hid (show checkTrackP t = 2 by unfold checkTrackP; rw [hp, if_pos rfl, if_neg hz, h1, h2, h3, h4]; rfl)
              have H0 := Lib.hid hp
              have H1 := Lib.hid h1
              have H2 := Lib.hid h2
              have H3 := Lib.hid h3
              have H4 := Lib.hid h4
              clear hp h1 h2 h3 h4
              go_enter Try.func18, Try.ntmps18
              go_wp2_with (first | (go_at_call 43; (with_reducible refine (rIsPlace _ _ _ _ H0.out).mono ?_); rintro e w' ⟨rfl, hb⟩; obtain ⟨pp, rfl⟩ := later_of_below hb; clear hb) | (go_at_call 34; (with_reducible refine (bWithin _ _ _ _ H1.out).mono ?_); rintro e w' ⟨rfl, rfl⟩) | (go_at_call 34; (with_reducible refine (bWithin _ _ _ _ H2.out).mono ?_); rintro e w' ⟨rfl, rfl⟩) | (go_at_call 34; (with_reducible refine (bWithin _ _ _ _ H3.out).mono ?_); rintro e w' ⟨rfl, rfl⟩) | (go_at_call 34; (with_reducible refine (bWithin _ _ _ _ H4.out).mono ?_); rintro e w' ⟨rfl, rfl⟩))
              go_ret
              exact ⟨ret_int HF.out.symm, (by (repeat' (first | with_reducible exact Below.refl _ _ | (with_reducible refine below_later_of ?_ ?_ _) | (with_reducible refine Below.alloc ?_ ?_ _) | (with_reducible refine Below.setCell ?_ ?_ _) | (with_reducible refine Below.drew ?_) | (simp; done) | (simp; omega) | omega)))⟩
            · cases h5 : inR 1 100000 t.bins
              · have HF := Lib.hid (show checkTrackP t = 2 by unfold checkTrackP; rw [hp, if_pos rfl, if_neg hz, h1, h2, h3, h4, h5]; rfl)
                have H0 := Lib.hid hp
                have H1 := Lib.hid h1
                have H2 := Lib.hid h2
                have H3 := Lib.hid h3
                have H4 := Lib.hid h4
                have H5 := Lib.hid h5
                clear hp h1 h2 h3 h4 h5
                go_enter Try.func18, Try.ntmps18
                go_wp2_with (first | (go_at_call 43; (with_reducible refine (rIsPlace _ _ _ _ H0.out).mono ?_); rintro e w' ⟨rfl, hb⟩; obtain ⟨pp, rfl⟩ := later_of_below hb; clear hb) | (go_at_call 34; (with_reducible refine (bWithin _ _ _ _ H1.out).mono ?_); rintro e w' ⟨rfl, rfl⟩) | (go_at_call 34; (with_reducible refine (bWithin _ _ _ _ H2.out).mono ?_); rintro e w' ⟨rfl, rfl⟩) | (go_at_call 34; (with_reducible refine (bWithin _ _ _ _ H3.out).mono ?_); rintro e w' ⟨rfl, rfl⟩) | (go_at_call 34; (with_reducible refine (bWithin _ _ _ _ H4.out).mono ?_); rintro e w' ⟨rfl, rfl⟩) | (go_at_call 34; (with_reducible refine (bWithin _ _ _ _ H5.out).mono ?_); rintro e w' ⟨rfl, rfl⟩))
                go_ret
                exact ⟨ret_int HF.out.symm, (by (repeat' (first | with_reducible exact Below.refl _ _ | (with_reducible refine below_later_of ?_ ?_ _) | (with_reducible refine Below.alloc ?_ ?_ _) | (with_reducible refine Below.setCell ?_ ?_ _) | (with_reducible refine Below.drew ?_) | (simp; done) | (simp; omega) | omega)))⟩
              · have HF := Lib.hid (show checkTrackP t = 0 by unfold checkTrackP; rw [hp, if_pos rfl, if_neg hz, h1, h2, h3, h4, h5]; rfl)
                have H0 := Lib.hid hp
                have H1 := Lib.hid h1
                have H2 := Lib.hid h2
                have H3 := Lib.hid h3
                have H4 := Lib.hid h4
                have H5 := Lib.hid h5
                clear hp h1 h2 h3 h4 h5
                go_enter Try.func18, Try.ntmps18
                go_wp2_with (first | (go_at_call 43; (with_reducible refine (rIsPlace _ _ _ _ H0.out).mono ?_); rintro e w' ⟨rfl, hb⟩; obtain ⟨pp, rfl⟩ := later_of_below hb; clear hb) | (go_at_call 34; (with_reducible refine (bWithin _ _ _ _ H1.out).mono ?_); rintro e w' ⟨rfl, rfl⟩) | (go_at_call 34; (with_reducible refine (bWithin _ _ _ _ H2.out).mono ?_); rintro e w' ⟨rfl, rfl⟩) | (go_at_call 34; (with_reducible refine (bWithin _ _ _ _ H3.out).mono ?_); rintro e w' ⟨rfl, rfl⟩) | (go_at_call 34; (with_reducible refine (bWithin _ _ _ _ H4.out).mono ?_); rintro e w' ⟨rfl, rfl⟩) | (go_at_call 34; (with_reducible refine (bWithin _ _ _ _ H5.out).mono ?_); rintro e w' ⟨rfl, rfl⟩))
                go_ret
                exact ⟨ret_int HF.out.symm, (by (repeat' (first | with_reducible exact Below.refl _ _ | (with_reducible refine below_later_of ?_ ?_ _) | (with_reducible refine Below.alloc ?_ ?_ _) | (with_reducible refine Below.setCell ?_ ?_ _) | (with_reducible refine Below.drew ?_) | (simp; done) | (simp; omega) | omega)))⟩
set_option maxHeartbeats 2000000 in
theorem rPixelErr (t : Trk) (q : Pix) (w : World) {e0 : Int} (he : checkPixelP t q = e0) (l1 : 1 ≤ t.lines) (l2 : t.lines ≤ 10000) (n1 : 1 ≤ t.bins) (n2 : t.bins ≤ 100000) :
    Calls Try.prog 19 #[.agg #[.int .i64 t.sx, .int .i64 t.sy, .int .i64 t.sz, .int .i64 t.step, .int .i64 t.lines, .int .i64 t.near, .int .i64 t.bin, .int .i64 t.bins, .bool t.east], .agg #[.int .i64 q.line, .int .i64 q.bin, .int .i64 q.lo, .int .i64 q.hi]] w fun e w' => e = .returned (.int .i64 e0) ∧ Below w.heap.size w w' := by
  subst he
  cases h1 : inR 0 (t.lines - 1) q.line
  · have HF := Lib.hid (show checkPixelP t q = 2 by unfold checkPixelP; rw [h1]; rfl)
    have H1 := Lib.hid h1
    clear h1
    go_enter Try.func19, Try.ntmps19
    go_wp2_with (first | (go_at_call 34; (with_reducible refine (bWithin _ _ _ _ H1.out).mono ?_); rintro e w' ⟨rfl, rfl⟩))
    go_ret
    exact ⟨ret_int HF.out.symm, (by (repeat' (first | with_reducible exact Below.refl _ _ | (with_reducible refine below_later_of ?_ ?_ _) | (with_reducible refine Below.alloc ?_ ?_ _) | (with_reducible refine Below.setCell ?_ ?_ _) | (with_reducible refine Below.drew ?_) | (simp; done) | (simp; omega) | omega)))⟩
  · cases h2 : inR 0 (t.bins - 1) q.bin
    · have HF := Lib.hid (show checkPixelP t q = 2 by unfold checkPixelP; rw [h1, h2]; rfl)
      have H1 := Lib.hid h1
      have H2 := Lib.hid h2
      clear h1 h2
      go_enter Try.func19, Try.ntmps19
      go_wp2_with (first | (go_at_call 34; (with_reducible refine (bWithin _ _ _ _ H1.out).mono ?_); rintro e w' ⟨rfl, rfl⟩) | (go_at_call 34; (with_reducible refine (bWithin _ _ _ _ H2.out).mono ?_); rintro e w' ⟨rfl, rfl⟩))
      go_ret
      exact ⟨ret_int HF.out.symm, (by (repeat' (first | with_reducible exact Below.refl _ _ | (with_reducible refine below_later_of ?_ ?_ _) | (with_reducible refine Below.alloc ?_ ?_ _) | (with_reducible refine Below.setCell ?_ ?_ _) | (with_reducible refine Below.drew ?_) | (simp; done) | (simp; omega) | omega)))⟩
    · cases h3 : inR (-100000) 100000 q.lo
      · have HF := Lib.hid (show checkPixelP t q = 2 by unfold checkPixelP heightsB; rw [h1, h2, h3]; rfl)
        have H1 := Lib.hid h1
        have H2 := Lib.hid h2
        have H3 := Lib.hid h3
        clear h1 h2 h3
        go_enter Try.func19, Try.ntmps19
        go_wp2_with (first | (go_at_call 34; (with_reducible refine (bWithin _ _ _ _ H1.out).mono ?_); rintro e w' ⟨rfl, rfl⟩) | (go_at_call 34; (with_reducible refine (bWithin _ _ _ _ H2.out).mono ?_); rintro e w' ⟨rfl, rfl⟩) | (go_at_call 79; (with_reducible refine (rIsHeight _ _ H3.out).mono ?_); rintro e w' ⟨rfl, rfl⟩))
        go_ret
        exact ⟨ret_int HF.out.symm, (by (repeat' (first | with_reducible exact Below.refl _ _ | (with_reducible refine below_later_of ?_ ?_ _) | (with_reducible refine Below.alloc ?_ ?_ _) | (with_reducible refine Below.setCell ?_ ?_ _) | (with_reducible refine Below.drew ?_) | (simp; done) | (simp; omega) | omega)))⟩
      · cases h4 : inR (-100000) 100000 q.hi
        · have HF := Lib.hid (show checkPixelP t q = 2 by unfold checkPixelP heightsB; rw [h1, h2, h3, h4]; rfl)
          have H1 := Lib.hid h1
          have H2 := Lib.hid h2
          have H3 := Lib.hid h3
          have H4 := Lib.hid h4
          clear h1 h2 h3 h4
          go_enter Try.func19, Try.ntmps19
          go_wp2_with (first | (go_at_call 34; (with_reducible refine (bWithin _ _ _ _ H1.out).mono ?_); rintro e w' ⟨rfl, rfl⟩) | (go_at_call 34; (with_reducible refine (bWithin _ _ _ _ H2.out).mono ?_); rintro e w' ⟨rfl, rfl⟩) | (go_at_call 79; (with_reducible refine (rIsHeight _ _ H3.out).mono ?_); rintro e w' ⟨rfl, rfl⟩) | (go_at_call 79; (with_reducible refine (rIsHeight _ _ H4.out).mono ?_); rintro e w' ⟨rfl, rfl⟩))
          go_ret
          exact ⟨ret_int HF.out.symm, (by (repeat' (first | with_reducible exact Below.refl _ _ | (with_reducible refine below_later_of ?_ ?_ _) | (with_reducible refine Below.alloc ?_ ?_ _) | (with_reducible refine Below.setCell ?_ ?_ _) | (with_reducible refine Below.drew ?_) | (simp; done) | (simp; omega) | omega)))⟩
        · have HF := Lib.hid (show checkPixelP t q = if q.hi < q.lo then 9 else if t.sz ≤ q.hi then 26 else 0 by unfold checkPixelP heightsB; rw [h1, h2, h3, h4]; rfl)
          have H1 := Lib.hid h1
          have H2 := Lib.hid h2
          have H3 := Lib.hid h3
          have H4 := Lib.hid h4
          clear h1 h2 h3 h4
          by_cases h5 : q.hi < q.lo
          · have HG := Lib.hid (show checkPixelP t q = 9 by rw [HF.out, if_pos h5])
            clear HF
            go_enter Try.func19, Try.ntmps19
            go_wp2_with (first | (go_at_call 34; (with_reducible refine (bWithin _ _ _ _ H1.out).mono ?_); rintro e w' ⟨rfl, rfl⟩) | (go_at_call 34; (with_reducible refine (bWithin _ _ _ _ H2.out).mono ?_); rintro e w' ⟨rfl, rfl⟩) | (go_at_call 79; (with_reducible refine (rIsHeight _ _ H3.out).mono ?_); rintro e w' ⟨rfl, rfl⟩) | (go_at_call 79; (with_reducible refine (rIsHeight _ _ H4.out).mono ?_); rintro e w' ⟨rfl, rfl⟩))
            go_ret
            exact ⟨ret_int HG.out.symm, (by (repeat' (first | with_reducible exact Below.refl _ _ | (with_reducible refine below_later_of ?_ ?_ _) | (with_reducible refine Below.alloc ?_ ?_ _) | (with_reducible refine Below.setCell ?_ ?_ _) | (with_reducible refine Below.drew ?_) | (simp; done) | (simp; omega) | omega)))⟩
          · by_cases h6 : t.sz ≤ q.hi
            · have HG := Lib.hid (show checkPixelP t q = 26 by rw [HF.out, if_neg h5, if_pos h6])
              clear HF
              go_enter Try.func19, Try.ntmps19
              go_wp2_with (first | (go_at_call 34; (with_reducible refine (bWithin _ _ _ _ H1.out).mono ?_); rintro e w' ⟨rfl, rfl⟩) | (go_at_call 34; (with_reducible refine (bWithin _ _ _ _ H2.out).mono ?_); rintro e w' ⟨rfl, rfl⟩) | (go_at_call 79; (with_reducible refine (rIsHeight _ _ H3.out).mono ?_); rintro e w' ⟨rfl, rfl⟩) | (go_at_call 79; (with_reducible refine (rIsHeight _ _ H4.out).mono ?_); rintro e w' ⟨rfl, rfl⟩))
              go_ret
              exact ⟨ret_int HG.out.symm, (by (repeat' (first | with_reducible exact Below.refl _ _ | (with_reducible refine below_later_of ?_ ?_ _) | (with_reducible refine Below.alloc ?_ ?_ _) | (with_reducible refine Below.setCell ?_ ?_ _) | (with_reducible refine Below.drew ?_) | (simp; done) | (simp; omega) | omega)))⟩
            · have HG := Lib.hid (show checkPixelP t q = 0 by rw [HF.out, if_neg h5, if_neg h6])
              clear HF
              go_enter Try.func19, Try.ntmps19
              go_wp2_with (first | (go_at_call 34; (with_reducible refine (bWithin _ _ _ _ H1.out).mono ?_); rintro e w' ⟨rfl, rfl⟩) | (go_at_call 34; (with_reducible refine (bWithin _ _ _ _ H2.out).mono ?_); rintro e w' ⟨rfl, rfl⟩) | (go_at_call 79; (with_reducible refine (rIsHeight _ _ H3.out).mono ?_); rintro e w' ⟨rfl, rfl⟩) | (go_at_call 79; (with_reducible refine (rIsHeight _ _ H4.out).mono ?_); rintro e w' ⟨rfl, rfl⟩))
              go_ret
              exact ⟨ret_int HG.out.symm, (by (repeat' (first | with_reducible exact Below.refl _ _ | (with_reducible refine below_later_of ?_ ?_ _) | (with_reducible refine Below.alloc ?_ ?_ _) | (with_reducible refine Below.setCell ?_ ?_ _) | (with_reducible refine Below.drew ?_) | (simp; done) | (simp; omega) | omega)))⟩
end Go.Proofs.Ythnfepfbkmafaaa
