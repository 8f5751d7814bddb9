import Derived.Test.YthnfepfbkmafaaaG1
namespace Go.Proofs.Ythnfepfbkmafaaa
set_option linter.unusedVariables false
open Go.RowKit
set_option maxHeartbeats 4000000 in
theorem meets_any (s o : Sd) (w : World) (hs : s.Fit) (ho : o.Fit) {c : Bool} (hr : meetsP s o = c) :
    Calls Try.prog 122 #[.agg #[.int .i64 s.x1, .int .i64 s.y1, .int .i64 s.x2, .int .i64 s.y2], .agg #[.int .i64 o.x1, .int .i64 o.y1, .int .i64 o.x2, .int .i64 o.y2]] w fun e w' => e = .returned (.bool c) ∧ Below w.heap.size w w' := by
  subst hr
  have HS := Lib.hid hs
  have HO := Lib.hid ho
  obtain ⟨s1, s2, s3, s4⟩ := hs
  obtain ⟨o1, o2, o3, o4⟩ := ho
  rcases (show hasP s o.x1 o.y1 = false ∨ hasP s o.x1 o.y1 = true by cases hasP s o.x1 o.y1 <;> simp) with h1 | h1
  · rcases (show hasP s o.x2 o.y2 = false ∨ hasP s o.x2 o.y2 = true by cases hasP s o.x2 o.y2 <;> simp) with h2 | h2
    · rcases (show hasP o s.x1 s.y1 = false ∨ hasP o s.x1 s.y1 = true by cases hasP o s.x1 s.y1 <;> simp) with h3 | h3
      · rcases (show hasP o s.x2 s.y2 = false ∨ hasP o s.x2 s.y2 = true by cases hasP o s.x2 s.y2 <;> simp) with h4 | h4
        · obtain ⟨t1, e1⟩ : ∃ t1, turnP s o.x1 o.y1 = t1 := ⟨_, rfl⟩
          obtain ⟨t2, e2⟩ : ∃ t2, turnP s o.x2 o.y2 = t2 := ⟨_, rfl⟩
          obtain ⟨t3, e3⟩ : ∃ t3, turnP o s.x1 s.y1 = t3 := ⟨_, rfl⟩
          obtain ⟨t4, e4⟩ : ∃ t4, turnP o s.x2 s.y2 = t4 := ⟨_, rfl⟩
          have HF := Lib.hid (show meetsP s o = (decide (t1 ≠ t2) && decide (t3 ≠ t4)) by unfold meetsP; rw [h1, h2, h3, h4, e1, e2, e3, e4]; rfl)
          have H1 := Lib.hid h1
          have T1 := Lib.hid e1
          have H2 := Lib.hid h2
          have T2 := Lib.hid e2
          have H3 := Lib.hid h3
          have T3 := Lib.hid e3
          have H4 := Lib.hid h4
          have T4 := Lib.hid e4
          clear h1 h2 h3 h4 e1 e2 e3 e4
          by_cases ht : t1 = t2
          · have hd : (t1 != t2) = false := by simpa using ht
            have HG := Lib.hid (show meetsP s o = false by rw [HF.out, decide_eq_false (by simpa using ht)]; rfl)
            clear HF
            go_enter Try.func122, Try.ntmps122
            go_wp2_with (first | (go_at_call 121; (with_reducible refine (has_any s o.x1 o.y1 _ HS.out (by assumption) (by assumption) H1.out).mono ?_); rintro e w' ⟨rfl, hb⟩; obtain ⟨pp, rfl⟩ := later_of_below hb; clear hb) | (go_at_call 121; (with_reducible refine (has_any s o.x2 o.y2 _ HS.out (by assumption) (by assumption) H2.out).mono ?_); rintro e w' ⟨rfl, hb⟩; obtain ⟨pp, rfl⟩ := later_of_below hb; clear hb) | (go_at_call 121; (with_reducible refine (has_any o s.x1 s.y1 _ HO.out (by assumption) (by assumption) H3.out).mono ?_); rintro e w' ⟨rfl, hb⟩; obtain ⟨pp, rfl⟩ := later_of_below hb; clear hb) | (go_at_call 121; (with_reducible refine (has_any o s.x2 s.y2 _ HO.out (by assumption) (by assumption) H4.out).mono ?_); rintro e w' ⟨rfl, hb⟩; obtain ⟨pp, rfl⟩ := later_of_below hb; clear hb))
            refine wp_region_calm (by kernel_rfl) (by kernel_rfl) ?_
            repeat (go_big_quiet_step (first | (go_at_call 141; with_reducible exact calm_of (turn_any s o.x1 o.y1 _ HS.out (by assumption) (by assumption) T1.out)) | (go_at_call 141; with_reducible exact calm_of (turn_any s o.x2 o.y2 _ HS.out (by assumption) (by assumption) T2.out)) | (go_at_call 141; with_reducible exact calm_of (turn_any o s.x1 s.y1 _ HO.out (by assumption) (by assumption) T3.out)) | (go_at_call 141; with_reducible exact calm_of (turn_any o s.x2 s.y2 _ HO.out (by assumption) (by assumption) T4.out))))
            refine wpQuiet_nil ?_
            rintro _ ⟨p1, rfl⟩
            go_wp2
            go_ret
            exact ⟨ret_bool HG.out.symm, (by (repeat' (first | with_reducible exact Below.refl _ _ | (with_reducible refine below_later_of ?_ ?_ _) | (with_reducible refine Below.alloc ?_ ?_ _) | (with_reducible refine Below.setCell ?_ ?_ _) | (with_reducible refine Below.drew ?_) | (simp; done) | (simp; omega) | omega)))⟩
          · have hd : (t1 != t2) = true := by simpa using ht
            have HG := Lib.hid (show meetsP s o = (t3 != t4) by rw [HF.out, decide_eq_true ht, Bool.true_and]; by_cases h : t3 = t4 <;> simp [h])
            clear HF
            go_enter Try.func122, Try.ntmps122
            go_wp2_with (first | (go_at_call 121; (with_reducible refine (has_any s o.x1 o.y1 _ HS.out (by assumption) (by assumption) H1.out).mono ?_); rintro e w' ⟨rfl, hb⟩; obtain ⟨pp, rfl⟩ := later_of_below hb; clear hb) | (go_at_call 121; (with_reducible refine (has_any s o.x2 o.y2 _ HS.out (by assumption) (by assumption) H2.out).mono ?_); rintro e w' ⟨rfl, hb⟩; obtain ⟨pp, rfl⟩ := later_of_below hb; clear hb) | (go_at_call 121; (with_reducible refine (has_any o s.x1 s.y1 _ HO.out (by assumption) (by assumption) H3.out).mono ?_); rintro e w' ⟨rfl, hb⟩; obtain ⟨pp, rfl⟩ := later_of_below hb; clear hb) | (go_at_call 121; (with_reducible refine (has_any o s.x2 s.y2 _ HO.out (by assumption) (by assumption) H4.out).mono ?_); rintro e w' ⟨rfl, hb⟩; obtain ⟨pp, rfl⟩ := later_of_below hb; clear hb))
            refine wp_region_calm (by kernel_rfl) (by kernel_rfl) ?_
            repeat (go_big_quiet_step (first | (go_at_call 141; with_reducible exact calm_of (turn_any s o.x1 o.y1 _ HS.out (by assumption) (by assumption) T1.out)) | (go_at_call 141; with_reducible exact calm_of (turn_any s o.x2 o.y2 _ HS.out (by assumption) (by assumption) T2.out)) | (go_at_call 141; with_reducible exact calm_of (turn_any o s.x1 s.y1 _ HO.out (by assumption) (by assumption) T3.out)) | (go_at_call 141; with_reducible exact calm_of (turn_any o s.x2 s.y2 _ HO.out (by assumption) (by assumption) T4.out))))
            refine wpQuiet_nil ?_
            rintro _ ⟨p1, rfl⟩
            go_wp2
            go_ret
            exact ⟨ret_bool HG.out.symm, (by (repeat' (first | with_reducible exact Below.refl _ _ | (with_reducible refine below_later_of ?_ ?_ _) | (with_reducible refine Below.alloc ?_ ?_ _) | (with_reducible refine Below.setCell ?_ ?_ _) | (with_reducible refine Below.drew ?_) | (simp; done) | (simp; omega) | omega)))⟩
        · have HF := Lib.hid (show meetsP s o = true by unfold meetsP; rw [h1, h2, h3, h4]; simp)
          have H1 := Lib.hid h1
          have H2 := Lib.hid h2
          have H3 := Lib.hid h3
          have H4 := Lib.hid h4
          clear h1 h2 h3 h4
          go_enter Try.func122, Try.ntmps122
          go_wp2_with (first | (go_at_call 121; (with_reducible refine (has_any s o.x1 o.y1 _ HS.out (by assumption) (by assumption) H1.out).mono ?_); rintro e w' ⟨rfl, hb⟩; obtain ⟨pp, rfl⟩ := later_of_below hb; clear hb) | (go_at_call 121; (with_reducible refine (has_any s o.x2 o.y2 _ HS.out (by assumption) (by assumption) H2.out).mono ?_); rintro e w' ⟨rfl, hb⟩; obtain ⟨pp, rfl⟩ := later_of_below hb; clear hb) | (go_at_call 121; (with_reducible refine (has_any o s.x1 s.y1 _ HO.out (by assumption) (by assumption) H3.out).mono ?_); rintro e w' ⟨rfl, hb⟩; obtain ⟨pp, rfl⟩ := later_of_below hb; clear hb) | (go_at_call 121; (with_reducible refine (has_any o s.x2 s.y2 _ HO.out (by assumption) (by assumption) H4.out).mono ?_); rintro e w' ⟨rfl, hb⟩; obtain ⟨pp, rfl⟩ := later_of_below hb; clear hb))
          go_ret
          exact ⟨ret_bool HF.out.symm, (by (repeat' (first | with_reducible exact Below.refl _ _ | (with_reducible refine below_later_of ?_ ?_ _) | (with_reducible refine Below.alloc ?_ ?_ _) | (with_reducible refine Below.setCell ?_ ?_ _) | (with_reducible refine Below.drew ?_) | (simp; done) | (simp; omega) | omega)))⟩
      · have HF := Lib.hid (show meetsP s o = true by unfold meetsP; rw [h1, h2, h3]; simp)
        have H1 := Lib.hid h1
        have H2 := Lib.hid h2
        have H3 := Lib.hid h3
        clear h1 h2 h3
        go_enter Try.func122, Try.ntmps122
        go_wp2_with (first | (go_at_call 121; (with_reducible refine (has_any s o.x1 o.y1 _ HS.out (by assumption) (by assumption) H1.out).mono ?_); rintro e w' ⟨rfl, hb⟩; obtain ⟨pp, rfl⟩ := later_of_below hb; clear hb) | (go_at_call 121; (with_reducible refine (has_any s o.x2 o.y2 _ HS.out (by assumption) (by assumption) H2.out).mono ?_); rintro e w' ⟨rfl, hb⟩; obtain ⟨pp, rfl⟩ := later_of_below hb; clear hb) | (go_at_call 121; (with_reducible refine (has_any o s.x1 s.y1 _ HO.out (by assumption) (by assumption) H3.out).mono ?_); rintro e w' ⟨rfl, hb⟩; obtain ⟨pp, rfl⟩ := later_of_below hb; clear hb))
        go_ret
        exact ⟨ret_bool HF.out.symm, (by (repeat' (first | with_reducible exact Below.refl _ _ | (with_reducible refine below_later_of ?_ ?_ _) | (with_reducible refine Below.alloc ?_ ?_ _) | (with_reducible refine Below.setCell ?_ ?_ _) | (with_reducible refine Below.drew ?_) | (simp; done) | (simp; omega) | omega)))⟩
    · have HF := Lib.hid (show meetsP s o = true by unfold meetsP; rw [h1, h2]; simp)
      have H1 := Lib.hid h1
      have H2 := Lib.hid h2
      clear h1 h2
      go_enter Try.func122, Try.ntmps122
      go_wp2_with (first | (go_at_call 121; (with_reducible refine (has_any s o.x1 o.y1 _ HS.out (by assumption) (by assumption) H1.out).mono ?_); rintro e w' ⟨rfl, hb⟩; obtain ⟨pp, rfl⟩ := later_of_below hb; clear hb) | (go_at_call 121; (with_reducible refine (has_any s o.x2 o.y2 _ HS.out (by assumption) (by assumption) H2.out).mono ?_); rintro e w' ⟨rfl, hb⟩; obtain ⟨pp, rfl⟩ := later_of_below hb; clear hb))
      go_ret
      exact ⟨ret_bool HF.out.symm, (by (repeat' (first | with_reducible exact Below.refl _ _ | (with_reducible refine below_later_of ?_ ?_ _) | (with_reducible refine Below.alloc ?_ ?_ _) | (with_reducible refine Below.setCell ?_ ?_ _) | (with_reducible refine Below.drew ?_) | (simp; done) | (simp; omega) | omega)))⟩
  · have HF := Lib.hid (show meetsP s o = true by unfold meetsP; rw [h1]; simp)
    have H1 := Lib.hid h1
    clear h1
    go_enter Try.func122, Try.ntmps122
    go_wp2_with (first | (go_at_call 121; (with_reducible refine (has_any s o.x1 o.y1 _ HS.out (by assumption) (by assumption) H1.out).mono ?_); rintro e w' ⟨rfl, hb⟩; obtain ⟨pp, rfl⟩ := later_of_below hb; clear hb))
    go_ret
    exact ⟨ret_bool HF.out.symm, (by (repeat' (first | with_reducible exact Below.refl _ _ | (with_reducible refine below_later_of ?_ ?_ _) | (with_reducible refine Below.alloc ?_ ?_ _) | (with_reducible refine Below.setCell ?_ ?_ _) | (with_reducible refine Below.drew ?_) | (simp; done) | (simp; omega) | omega)))⟩
end Go.Proofs.Ythnfepfbkmafaaa
