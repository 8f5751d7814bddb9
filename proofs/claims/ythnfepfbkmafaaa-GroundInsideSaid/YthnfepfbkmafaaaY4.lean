/- Polygons: the reference's meet and fold. -/
import Derived.Test.YthnfepfbkmafaaaY3
namespace Go.Proofs.Ythnfepfbkmafaaa
set_option linter.unusedVariables false
open Go.RowKit
theorem bool_two (b : Bool) : b = false ∨ b = true := by cases b <;> simp
theorem turn_prod {a b : Int} (ha : a = -1 ∨ a = 0 ∨ a = 1) (hb : b = -1 ∨ b = 0 ∨ b = 1) : -1 ≤ a * b ∧ a * b ≤ 1 := by
  rcases ha with rfl | rfl | rfl <;> rcases hb with rfl | rfl | rfl <;> decide
set_option maxHeartbeats 4000000 in
theorem rMeet (s o : Sd) (z1 z2 z3 z4 : Int) (w : World) (hs : s.Fit) (ho : o.Fit) {c : Bool} (hc : meetR s o = c) :
    Calls Try.prog 120 #[.agg #[.int .i64 s.x1, .int .i64 s.y1, .int .i64 z1], .agg #[.int .i64 s.x2, .int .i64 s.y2, .int .i64 z2], .agg #[.int .i64 o.x1, .int .i64 o.y1, .int .i64 z3], .agg #[.int .i64 o.x2, .int .i64 o.y2, .int .i64 z4]] w fun e w' => e = .returned (.bool c) ∧ Below w.heap.size w w' := by
  subst hc
  have HS := Lib.hid hs
  have HO := Lib.hid ho
  have I1 := Lib.hid hs.1
  have I2 := Lib.hid hs.2.1
  have I3 := Lib.hid hs.2.2.1
  have I4 := Lib.hid hs.2.2.2
  have J1 := Lib.hid ho.1
  have J2 := Lib.hid ho.2.1
  have J3 := Lib.hid ho.2.2.1
  have J4 := Lib.hid ho.2.2.2
  clear hs ho
  rcases bool_two (onP s o.x1 o.y1) with h1 | h1
  · have H1 := Lib.hid h1
    rcases bool_two (onP s o.x2 o.y2) with h2 | h2
    · have H2 := Lib.hid h2
      rcases bool_two (onP o s.x1 s.y1) with h3 | h3
      · have H3 := Lib.hid h3
        rcases bool_two (onP o s.x2 s.y2) with h4 | h4
        · have H4 := Lib.hid h4
          obtain ⟨t1, e1⟩ : ∃ t, turnP s o.x1 o.y1 = t := ⟨_, rfl⟩
          obtain ⟨t2, e2⟩ : ∃ t, turnP s o.x2 o.y2 = t := ⟨_, rfl⟩
          obtain ⟨t3, e3⟩ : ∃ t, turnP o s.x1 s.y1 = t := ⟨_, rfl⟩
          obtain ⟨t4, e4⟩ : ∃ t, turnP o s.x2 s.y2 = t := ⟨_, rfl⟩
          have HT := Lib.hid (show meetR s o = (decide (t1 * t2 < 0) && decide (t3 * t4 < 0)) by unfold meetR; rw [h1, h2, h3, h4, e1, e2, e3, e4]; rfl)
          obtain ⟨m1, m2⟩ := turn_prod (turn_vals s o.x1 o.y1) (turn_vals s o.x2 o.y2)
          obtain ⟨n1, n2⟩ := turn_prod (turn_vals o s.x1 s.y1) (turn_vals o s.x2 s.y2)
          rw [e1, e2] at m1 m2
          rw [e3, e4] at n1 n2
          have T1 := Lib.hid e1
          have T2 := Lib.hid e2
          have T3 := Lib.hid e3
          have T4 := Lib.hid e4
          clear h1 h2 h3 h4 e1 e2 e3 e4
          by_cases hp : t1 * t2 < 0
          · have HQ := Lib.hid (show meetR s o = decide (t3 * t4 < 0) by rw [HT.out, decide_eq_true hp]; rfl)
            go_enter Try.func120, Try.ntmps120
            go_wp2_with (first | (go_at_call 125; (with_reducible refine (rOn s _ _ o.x1 o.y1 _ _ HS.out J1.out J2.out H1.out).mono ?_); rintro e w' ⟨rfl, hb⟩; obtain ⟨pp, rfl⟩ := later_of_below hb; clear hb) | (go_at_call 125; (with_reducible refine (rOn s _ _ o.x2 o.y2 _ _ HS.out J3.out J4.out H2.out).mono ?_); rintro e w' ⟨rfl, hb⟩; obtain ⟨pp, rfl⟩ := later_of_below hb; clear hb) | (go_at_call 125; (with_reducible refine (rOn o _ _ s.x1 s.y1 _ _ HO.out I1.out I2.out H3.out).mono ?_); rintro e w' ⟨rfl, hb⟩; obtain ⟨pp, rfl⟩ := later_of_below hb; clear hb) | (go_at_call 125; (with_reducible refine (rOn o _ _ s.x2 s.y2 _ _ HO.out I3.out I4.out H4.out).mono ?_); rintro e w' ⟨rfl, hb⟩; obtain ⟨pp, rfl⟩ := later_of_below hb; clear hb))
            refine wp_region_calm (by kernel_rfl) (by kernel_rfl) ?_
            repeat (go_big_quiet_step (first | (go_at_call 142; exact calm_of (by with_reducible exact rTurn s _ _ o.x1 o.y1 _ _ HS.out J1.out J2.out T1.out)) | (go_at_call 142; exact calm_of (by with_reducible exact rTurn s _ _ o.x2 o.y2 _ _ HS.out J3.out J4.out T2.out)) | (go_at_call 142; exact calm_of (by with_reducible exact rTurn o _ _ s.x1 s.y1 _ _ HO.out I1.out I2.out T3.out)) | (go_at_call 142; exact calm_of (by with_reducible exact rTurn o _ _ s.x2 s.y2 _ _ HO.out I3.out I4.out T4.out))))
            refine wpQuiet_nil ?_
            rintro _ ⟨p1, rfl⟩
            go_wp2
            go_ret
            exact ⟨ret_bool HQ.out.symm, (by (repeat' (first | with_reducible exact Below.refl _ _ | (with_reducible refine below_later_of ?_ ?_ _) | (with_reducible refine Below.alloc ?_ ?_ _) | (with_reducible refine Below.setCell ?_ ?_ _) | (with_reducible refine Below.drew ?_) | (simp; done) | (simp; omega) | omega)))⟩
          · have hp' : decide (t1 * t2 < 0) = false := by simpa using hp
            have HQ := Lib.hid (show meetR s o = false by rw [HT.out, hp']; rfl)
            go_enter Try.func120, Try.ntmps120
            go_wp2_with (first | (go_at_call 125; (with_reducible refine (rOn s _ _ o.x1 o.y1 _ _ HS.out J1.out J2.out H1.out).mono ?_); rintro e w' ⟨rfl, hb⟩; obtain ⟨pp, rfl⟩ := later_of_below hb; clear hb) | (go_at_call 125; (with_reducible refine (rOn s _ _ o.x2 o.y2 _ _ HS.out J3.out J4.out H2.out).mono ?_); rintro e w' ⟨rfl, hb⟩; obtain ⟨pp, rfl⟩ := later_of_below hb; clear hb) | (go_at_call 125; (with_reducible refine (rOn o _ _ s.x1 s.y1 _ _ HO.out I1.out I2.out H3.out).mono ?_); rintro e w' ⟨rfl, hb⟩; obtain ⟨pp, rfl⟩ := later_of_below hb; clear hb) | (go_at_call 125; (with_reducible refine (rOn o _ _ s.x2 s.y2 _ _ HO.out I3.out I4.out H4.out).mono ?_); rintro e w' ⟨rfl, hb⟩; obtain ⟨pp, rfl⟩ := later_of_below hb; clear hb))
            refine wp_region_calm (by kernel_rfl) (by kernel_rfl) ?_
            repeat (go_big_quiet_step (first | (go_at_call 142; exact calm_of (by with_reducible exact rTurn s _ _ o.x1 o.y1 _ _ HS.out J1.out J2.out T1.out)) | (go_at_call 142; exact calm_of (by with_reducible exact rTurn s _ _ o.x2 o.y2 _ _ HS.out J3.out J4.out T2.out)) | (go_at_call 142; exact calm_of (by with_reducible exact rTurn o _ _ s.x1 s.y1 _ _ HO.out I1.out I2.out T3.out)) | (go_at_call 142; exact calm_of (by with_reducible exact rTurn o _ _ s.x2 s.y2 _ _ HO.out I3.out I4.out T4.out))))
            refine wpQuiet_nil ?_
            rintro _ ⟨p1, rfl⟩
            go_wp2
            go_ret
            exact ⟨ret_bool HQ.out.symm, (by (repeat' (first | with_reducible exact Below.refl _ _ | (with_reducible refine below_later_of ?_ ?_ _) | (with_reducible refine Below.alloc ?_ ?_ _) | (with_reducible refine Below.setCell ?_ ?_ _) | (with_reducible refine Below.drew ?_) | (simp; done) | (simp; omega) | omega)))⟩
        · have H4 := Lib.hid h4
          have HQ := Lib.hid (show meetR s o = true by unfold meetR; rw [h1, h2, h3, h4]; rfl)
          clear h1 h2 h3 h4
          go_enter Try.func120, Try.ntmps120
          go_wp2_with (first | (go_at_call 125; (with_reducible refine (rOn s _ _ o.x1 o.y1 _ _ HS.out J1.out J2.out H1.out).mono ?_); rintro e w' ⟨rfl, hb⟩; obtain ⟨pp, rfl⟩ := later_of_below hb; clear hb) | (go_at_call 125; (with_reducible refine (rOn s _ _ o.x2 o.y2 _ _ HS.out J3.out J4.out H2.out).mono ?_); rintro e w' ⟨rfl, hb⟩; obtain ⟨pp, rfl⟩ := later_of_below hb; clear hb) | (go_at_call 125; (with_reducible refine (rOn o _ _ s.x1 s.y1 _ _ HO.out I1.out I2.out H3.out).mono ?_); rintro e w' ⟨rfl, hb⟩; obtain ⟨pp, rfl⟩ := later_of_below hb; clear hb) | (go_at_call 125; (with_reducible refine (rOn o _ _ s.x2 s.y2 _ _ HO.out I3.out I4.out H4.out).mono ?_); rintro e w' ⟨rfl, hb⟩; obtain ⟨pp, rfl⟩ := later_of_below hb; clear hb))
          go_ret
          exact ⟨ret_bool HQ.out.symm, (by (repeat' (first | with_reducible exact Below.refl _ _ | (with_reducible refine below_later_of ?_ ?_ _) | (with_reducible refine Below.alloc ?_ ?_ _) | (with_reducible refine Below.setCell ?_ ?_ _) | (with_reducible refine Below.drew ?_) | (simp; done) | (simp; omega) | omega)))⟩
      · have H3 := Lib.hid h3
        have HQ := Lib.hid (show meetR s o = true by unfold meetR; rw [h1, h2, h3]; rfl)
        clear h1 h2 h3
        go_enter Try.func120, Try.ntmps120
        go_wp2_with (first | (go_at_call 125; (with_reducible refine (rOn s _ _ o.x1 o.y1 _ _ HS.out J1.out J2.out H1.out).mono ?_); rintro e w' ⟨rfl, hb⟩; obtain ⟨pp, rfl⟩ := later_of_below hb; clear hb) | (go_at_call 125; (with_reducible refine (rOn s _ _ o.x2 o.y2 _ _ HS.out J3.out J4.out H2.out).mono ?_); rintro e w' ⟨rfl, hb⟩; obtain ⟨pp, rfl⟩ := later_of_below hb; clear hb) | (go_at_call 125; (with_reducible refine (rOn o _ _ s.x1 s.y1 _ _ HO.out I1.out I2.out H3.out).mono ?_); rintro e w' ⟨rfl, hb⟩; obtain ⟨pp, rfl⟩ := later_of_below hb; clear hb))
        go_ret
        exact ⟨ret_bool HQ.out.symm, (by (repeat' (first | with_reducible exact Below.refl _ _ | (with_reducible refine below_later_of ?_ ?_ _) | (with_reducible refine Below.alloc ?_ ?_ _) | (with_reducible refine Below.setCell ?_ ?_ _) | (with_reducible refine Below.drew ?_) | (simp; done) | (simp; omega) | omega)))⟩
    · have H2 := Lib.hid h2
      have HQ := Lib.hid (show meetR s o = true by unfold meetR; rw [h1, h2]; rfl)
      clear h1 h2
      go_enter Try.func120, Try.ntmps120
      go_wp2_with (first | (go_at_call 125; (with_reducible refine (rOn s _ _ o.x1 o.y1 _ _ HS.out J1.out J2.out H1.out).mono ?_); rintro e w' ⟨rfl, hb⟩; obtain ⟨pp, rfl⟩ := later_of_below hb; clear hb) | (go_at_call 125; (with_reducible refine (rOn s _ _ o.x2 o.y2 _ _ HS.out J3.out J4.out H2.out).mono ?_); rintro e w' ⟨rfl, hb⟩; obtain ⟨pp, rfl⟩ := later_of_below hb; clear hb))
      go_ret
      exact ⟨ret_bool HQ.out.symm, (by (repeat' (first | with_reducible exact Below.refl _ _ | (with_reducible refine below_later_of ?_ ?_ _) | (with_reducible refine Below.alloc ?_ ?_ _) | (with_reducible refine Below.setCell ?_ ?_ _) | (with_reducible refine Below.drew ?_) | (simp; done) | (simp; omega) | omega)))⟩
  · have H1 := Lib.hid h1
    have HQ := Lib.hid (show meetR s o = true by unfold meetR; rw [h1]; rfl)
    clear h1
    go_enter Try.func120, Try.ntmps120
    go_wp2_with (first | (go_at_call 125; (with_reducible refine (rOn s _ _ o.x1 o.y1 _ _ HS.out J1.out J2.out H1.out).mono ?_); rintro e w' ⟨rfl, hb⟩; obtain ⟨pp, rfl⟩ := later_of_below hb; clear hb))
    go_ret
    exact ⟨ret_bool HQ.out.symm, (by (repeat' (first | with_reducible exact Below.refl _ _ | (with_reducible refine below_later_of ?_ ?_ _) | (with_reducible refine Below.alloc ?_ ?_ _) | (with_reducible refine Below.setCell ?_ ?_ _) | (with_reducible refine Below.drew ?_) | (simp; done) | (simp; omega) | omega)))⟩
set_option maxHeartbeats 1000000 in
theorem rFold (x y a b c d z1 z2 z3 : Int) (w : World) (hx : Mid x) (hy : Mid y) (ha : Mid a) (hb : Mid b) (hc1 : Mid c) (hd : Mid d) {f : Bool} (hf : foldP x y a b c d = f) :
    Calls Try.prog 119 #[.agg #[.int .i64 x, .int .i64 y, .int .i64 z1], .agg #[.int .i64 a, .int .i64 b, .int .i64 z2], .agg #[.int .i64 c, .int .i64 d, .int .i64 z3]] w fun e w' => e = .returned (.bool f) ∧ Below w.heap.size w w' := by
  subst hf
  have HF := Lib.hid (show (Sd.mk x y a b).Fit from ⟨hx, hy, ha, hb⟩)
  have HC1 := Lib.hid hc1
  have HC2 := Lib.hid hd
  obtain ⟨n, hn⟩ : ∃ n, crossP ⟨x, y, a, b⟩ c d = n := ⟨_, rfl⟩
  have HC := Lib.hid hn
  obtain ⟨p1, p2⟩ := mid_prod ha hx hc1 hx
  obtain ⟨q1, q2⟩ := mid_prod hb hy hd hy
  obtain ⟨x1, x2⟩ := hx
  obtain ⟨y1, y2⟩ := hy
  obtain ⟨a1, a2⟩ := ha
  obtain ⟨b1, b2⟩ := hb
  obtain ⟨c1, c2⟩ := hc1
  obtain ⟨d1, d2⟩ := hd
  by_cases h0 : n = 0
  · subst h0
    have HT := Lib.hid (show foldP x y a b c d = decide (0 < (a - x) * (c - x) + (b - y) * (d - y)) by unfold foldP; rw [hn]; rfl)
    clear hn
    go_enter Try.func119, Try.ntmps119
    go_wp2_with (first | (go_at_call 123; refine (rCross ⟨x, y, a, b⟩ _ _ c d _ _ HF.out HC1.out HC2.out HC.out).mono ?_; rintro e w' ⟨rfl, hb⟩; obtain ⟨pp, rfl⟩ := later_of_below hb; clear hb))
    go_ret
    exact ⟨ret_bool HT.out.symm, (by (repeat' (first | with_reducible exact Below.refl _ _ | (with_reducible refine below_later_of ?_ ?_ _) | (with_reducible refine Below.alloc ?_ ?_ _) | (with_reducible refine Below.setCell ?_ ?_ _) | (with_reducible refine Below.drew ?_) | (simp; done) | (simp; omega) | omega)))⟩
  · have h1 : (n == 0) = false := by simpa using h0
    have HT := Lib.hid (show foldP x y a b c d = false by unfold foldP; rw [hn, decide_eq_false h0]; rfl)
    clear hn
    go_enter Try.func119, Try.ntmps119
    go_wp2_with (first | (go_at_call 123; refine (rCross ⟨x, y, a, b⟩ _ _ c d _ _ HF.out HC1.out HC2.out HC.out).mono ?_; rintro e w' ⟨rfl, hb⟩; obtain ⟨pp, rfl⟩ := later_of_below hb; clear hb))
    go_ret
    exact ⟨ret_bool HT.out.symm, (by (repeat' (first | with_reducible exact Below.refl _ _ | (with_reducible refine below_later_of ?_ ?_ _) | (with_reducible refine Below.alloc ?_ ?_ _) | (with_reducible refine Below.setCell ?_ ?_ _) | (with_reducible refine Below.drew ?_) | (simp; done) | (simp; omega) | omega)))⟩
end Go.Proofs.Ythnfepfbkmafaaa
