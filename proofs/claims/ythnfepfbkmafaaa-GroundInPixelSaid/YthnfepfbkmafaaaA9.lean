import Derived.Test.YthnfepfbkmafaaaA8
import Derived.Test.YthnfepfbkmafaaaL2
namespace Go.Proofs.Ythnfepfbkmafaaa
set_option linter.unusedVariables false
open Go.RowKit
theorem checkTrack_e (t : Trk) (w : World) {e0 : Int} (h : checkTrackP t = e0) :
    Calls Try.prog 24 #[.agg #[.int .i64 t.sx, .int .i64 t.sy, .int .i64 t.sz, .int .i64 t.step, .int .i64 t.lines, .int .i64 t.near, .int .i64 t.bin, .int .i64 t.bins, .bool t.east]] w fun e w' => e = .returned (.int .i64 e0) ∧ Below w.heap.size w w' := by subst h; exact checkTrack_any t w
theorem checkPixel_e (t : Trk) (q : Pix) (w : World) {e0 : Int} (h : checkPixelP t q = e0) (l1 : 1 ≤ t.lines) (l2 : t.lines ≤ 10000) (n1 : 1 ≤ t.bins) (n2 : t.bins ≤ 100000) :
    Calls Try.prog 73 #[.agg #[.int .i64 t.sx, .int .i64 t.sy, .int .i64 t.sz, .int .i64 t.step, .int .i64 t.lines, .int .i64 t.near, .int .i64 t.bin, .int .i64 t.bins, .bool t.east], .agg #[.int .i64 q.line, .int .i64 q.bin, .int .i64 q.lo, .int .i64 q.hi]] w fun e w' => e = .returned (.int .i64 e0) ∧ Below w.heap.size w w' := by subst h; exact checkPixel_any t q w l1 l2 n1 n2
set_option maxHeartbeats 4000000 in
theorem boxOf_any (t : Trk) (q : Pix) (w : World) :
    Calls Try.prog 17 #[.agg #[.int .i64 t.sx, .int .i64 t.sy, .int .i64 t.sz, .int .i64 t.step, .int .i64 t.lines, .int .i64 t.near, .int .i64 t.bin, .int .i64 t.bins, .bool t.east], .agg #[.int .i64 q.line, .int .i64 q.bin, .int .i64 q.lo, .int .i64 q.hi]] w fun e w' => e = .returned (.tuple #[.agg #[.int .i64 (boxOfP t q).x1, .int .i64 (boxOfP t q).x2, .int .i64 (boxOfP t q).y1, .int .i64 (boxOfP t q).y2], .int .i64 (boxOfP t q).err]) ∧ Below w.heap.size w w' := by
  by_cases h : checkTrackP t = 0
  · have HE := Lib.hid h
    have o := checkTrackP_ok h
    have O := Lib.hid o
    obtain ⟨h_sx1, h_sx2, h_sy1, h_sy2, h_sz1, h_sz2, -, -, -, l1, l2, h_ne1, h_ne2, h_bi1, h_bi2, n1, n2⟩ := o
    by_cases hq : checkPixelP t q = 0
    · have HQ := Lib.hid hq
      have p := checkPixelP_ok hq
      have BB := box_bd O.out p
      obtain ⟨b1, b2, b3, b4, b5, b6, b7, b8, b9, b10⟩ := BB
      obtain ⟨q1, q2, q3, q4, q5, q6, q7, q8, q9, q10⟩ := p
      have e1 : leastP t q = (t.near + t.bin * q.bin) * (t.near + t.bin * q.bin) - depthP t q.lo * depthP t q.lo := rfl
      have e2 : mostP t q = (t.near + t.bin * q.bin + t.bin) * (t.near + t.bin * q.bin + t.bin) - 1 - depthP t q.hi * depthP t q.hi := rfl
      by_cases hm : mostP t q < 0
      · have HF : boxOfP t q = ⟨0, 0, 0, 0, 12⟩ := by unfold boxOfP; rw [if_pos h, if_pos hq, if_pos hm]
        rw [HF]
        rw [e2] at hm
        clear HF h hq e1 e2
        go_enter Try.func17, Try.ntmps17
        go_wp2_with (first | (go_at_call 24; refine (checkTrack_e t _ HE.out).mono ?_; rintro e w' ⟨rfl, hb⟩; obtain ⟨pp, rfl⟩ := later_of_below hb; clear hb) | (go_at_call 73; refine (checkPixel_e t q _ HQ.out (by omega) (by omega) (by omega) (by omega)).mono ?_; rintro e w' ⟨rfl, hb⟩; obtain ⟨pp, rfl⟩ := later_of_below hb; clear hb))
        refine wp_region_calm (by kernel_rfl) (by kernel_rfl) ?_
        repeat (go_big_quiet_step (first | (go_at_call 74; exact calm_of (depth_any t _ _ (by omega) (by omega) (by omega) (by omega)))))
        refine wpQuiet_nil ?_
        rintro _ ⟨p1, rfl⟩
        go_wp2
        refine wp_region_calm (by kernel_rfl) (by kernel_rfl) ?_
        repeat (go_big_quiet_step (fail))
        refine wpQuiet_nil ?_
        rintro _ ⟨p2, rfl⟩
        go_wp2
        refine bodyPost_ret ?_ rfl ⟨rfl, (by (repeat' (first | with_reducible exact Below.refl _ _ | (with_reducible refine below_later_of ?_ ?_ _) | (with_reducible refine Below.alloc ?_ ?_ _) | (with_reducible refine Below.setCell ?_ ?_ _) | (with_reducible refine Below.drew ?_) | (simp; done) | (simp; omega) | omega)))⟩
        first | (simp [results, Try.results17, go_sem]; done) | simp [results, Try.results17, go_sem, ↓IntWalk.iteOmega]
      · have r2 := rootP_spec (mostP t q) (by omega) (by omega)
        have r3 := rootP_le (mostP t q) (by omega) (by omega)
        have r4 := rootUpP_bd (max 1 (leastP t q)) (by omega) (by omega)
        obtain ⟨u, hu⟩ : ∃ u, rootUpP (max 1 (leastP t q)) = u := ⟨_, rfl⟩
        obtain ⟨v, hv⟩ : ∃ v, rootP (mostP t q) = v := ⟨_, rfl⟩
        have HU : ∀ w, Calls Try.prog 75 #[.int .i64 (max 1 ((t.near + t.bin * q.bin) * (t.near + t.bin * q.bin) - depthP t q.lo * depthP t q.lo))] w fun e w' => e = .returned (.int .i64 u) ∧ w = w' := by
          intro w; rw [← hu]; exact rootUp_any _ _ (by omega) (by omega)
        have HV : ∀ w, Calls Try.prog 76 #[.int .i64 ((t.near + t.bin * q.bin + t.bin) * (t.near + t.bin * q.bin + t.bin) - 1 - depthP t q.hi * depthP t q.hi)] w fun e w' => e = .returned (.int .i64 v) ∧ w = w' := by
          intro w; rw [← hv]; exact root_any _ _ (by omega) (by omega)
        rw [hv] at r2 r3
        rw [hu] at r4
        obtain ⟨r20, -, -⟩ := r2
        obtain ⟨r40, r41⟩ := r4
        by_cases hx : v < u
        · have HF : boxOfP t q = ⟨0, 0, 0, 0, 12⟩ := by unfold boxOfP; rw [if_pos h, if_pos hq, if_neg hm, hu, hv, if_pos hx]
          rw [HF]
          rw [e2] at hm
          clear HF h hq e1 e2 hu hv
          go_enter Try.func17, Try.ntmps17
          go_wp2_with (first | (go_at_call 24; refine (checkTrack_e t _ HE.out).mono ?_; rintro e w' ⟨rfl, hb⟩; obtain ⟨pp, rfl⟩ := later_of_below hb; clear hb) | (go_at_call 73; refine (checkPixel_e t q _ HQ.out (by omega) (by omega) (by omega) (by omega)).mono ?_; rintro e w' ⟨rfl, hb⟩; obtain ⟨pp, rfl⟩ := later_of_below hb; clear hb))
          refine wp_region_calm (by kernel_rfl) (by kernel_rfl) ?_
          repeat (go_big_quiet_step (first | (go_at_call 74; exact calm_of (depth_any t _ _ (by omega) (by omega) (by omega) (by omega)))))
          refine wpQuiet_nil ?_
          rintro _ ⟨p1, rfl⟩
          go_wp2
          refine wp_region_calm (by kernel_rfl) (by kernel_rfl) ?_
          repeat (go_big_quiet_step (fail))
          refine wpQuiet_nil ?_
          rintro _ ⟨p2, rfl⟩
          go_wp2_with (first | (go_at_call 75; refine (HU _).mono ?_; rintro e w' ⟨rfl, rfl⟩) | (go_at_call 76; refine (HV _).mono ?_; rintro e w' ⟨rfl, rfl⟩))
          refine bodyPost_ret ?_ rfl ⟨rfl, (by (repeat' (first | with_reducible exact Below.refl _ _ | (with_reducible refine below_later_of ?_ ?_ _) | (with_reducible refine Below.alloc ?_ ?_ _) | (with_reducible refine Below.setCell ?_ ?_ _) | (with_reducible refine Below.drew ?_) | (simp; done) | (simp; omega) | omega)))⟩
          first | (simp [results, Try.results17, go_sem]; done) | simp [results, Try.results17, go_sem, ↓IntWalk.iteOmega]
        · have HF : boxOfP t q = ⟨(columnsP t u v).1, (columnsP t u v).2, (rowsP t q.line).1, (rowsP t q.line).2, 0⟩ := by
            unfold boxOfP; rw [if_pos h, if_pos hq, if_neg hm, hu, hv, if_neg hx]
          rw [HF]
          rw [e2] at hm
          clear HF h hq e1 e2 hu hv
          go_enter Try.func17, Try.ntmps17
          go_wp2_with (first | (go_at_call 24; refine (checkTrack_e t _ HE.out).mono ?_; rintro e w' ⟨rfl, hb⟩; obtain ⟨pp, rfl⟩ := later_of_below hb; clear hb) | (go_at_call 73; refine (checkPixel_e t q _ HQ.out (by omega) (by omega) (by omega) (by omega)).mono ?_; rintro e w' ⟨rfl, hb⟩; obtain ⟨pp, rfl⟩ := later_of_below hb; clear hb))
          refine wp_region_calm (by kernel_rfl) (by kernel_rfl) ?_
          repeat (go_big_quiet_step (first | (go_at_call 74; exact calm_of (depth_any t _ _ (by omega) (by omega) (by omega) (by omega)))))
          refine wpQuiet_nil ?_
          rintro _ ⟨p1, rfl⟩
          go_wp2
          refine wp_region_calm (by kernel_rfl) (by kernel_rfl) ?_
          repeat (go_big_quiet_step (fail))
          refine wpQuiet_nil ?_
          rintro _ ⟨p2, rfl⟩
          go_wp2_with (first | (go_at_call 75; refine (HU _).mono ?_; rintro e w' ⟨rfl, rfl⟩) | (go_at_call 76; refine (HV _).mono ?_; rintro e w' ⟨rfl, rfl⟩))
          refine wp_region_calm_tail 8 (by kernel_rfl) (by kernel_rfl) ?_
          simp only [List.take_succ_cons, List.take_zero, List.drop_succ_cons, List.drop_zero]
          repeat (go_big_quiet_step (first | (go_at_call 77; exact calm_of (columns_any t _ _ _ (by omega) (by omega) (by omega) (by omega) (by omega) (by omega))) | (go_at_call 78; exact calm_of (rows_any t _ _ O.out (by omega) (by omega)))))
          refine wpQuiet_nil ?_
          rintro _ ⟨p3, rfl⟩
          go_wp2
          refine bodyPost_ret ?_ rfl ⟨rfl, (by (repeat' (first | with_reducible exact Below.refl _ _ | (with_reducible refine below_later_of ?_ ?_ _) | (with_reducible refine Below.alloc ?_ ?_ _) | (with_reducible refine Below.setCell ?_ ?_ _) | (with_reducible refine Below.drew ?_) | (simp; done) | (simp; omega) | omega)))⟩
          first | (simp [results, Try.results17, go_sem]; done) | simp [results, Try.results17, go_sem, ↓IntWalk.iteOmega]
    · obtain ⟨e0, he⟩ : ∃ e0, checkPixelP t q = e0 := ⟨_, rfl⟩
      have HF : boxOfP t q = ⟨0, 0, 0, 0, e0⟩ := by unfold boxOfP; rw [if_pos h, if_neg hq, he]
      rw [HF]
      rw [he] at hq
      have HQ := Lib.hid he
      clear HF he h
      go_enter Try.func17, Try.ntmps17
      go_wp2_with (first | (go_at_call 24; refine (checkTrack_e t _ HE.out).mono ?_; rintro e w' ⟨rfl, hb⟩; obtain ⟨pp, rfl⟩ := later_of_below hb; clear hb) | (go_at_call 73; refine (checkPixel_e t q _ HQ.out (by omega) (by omega) (by omega) (by omega)).mono ?_; rintro e w' ⟨rfl, hb⟩; obtain ⟨pp, rfl⟩ := later_of_below hb; clear hb))
      refine bodyPost_ret ?_ rfl ⟨rfl, (by (repeat' (first | with_reducible exact Below.refl _ _ | (with_reducible refine below_later_of ?_ ?_ _) | (with_reducible refine Below.alloc ?_ ?_ _) | (with_reducible refine Below.setCell ?_ ?_ _) | (with_reducible refine Below.drew ?_) | (simp; done) | (simp; omega) | omega)))⟩
      first | (simp [results, Try.results17, go_sem]; done) | simp [results, Try.results17, go_sem, ↓IntWalk.iteOmega]
  · obtain ⟨e0, he⟩ : ∃ e0, checkTrackP t = e0 := ⟨_, rfl⟩
    have HF : boxOfP t q = ⟨0, 0, 0, 0, e0⟩ := by unfold boxOfP; rw [if_neg h, he]
    rw [HF]
    rw [he] at h
    have HE := Lib.hid he
    clear HF he
    go_enter Try.func17, Try.ntmps17
    go_wp2_with (first | (go_at_call 24; refine (checkTrack_e t _ HE.out).mono ?_; rintro e w' ⟨rfl, hb⟩; obtain ⟨pp, rfl⟩ := later_of_below hb; clear hb))
    refine bodyPost_ret ?_ rfl ⟨rfl, (by (repeat' (first | with_reducible exact Below.refl _ _ | (with_reducible refine below_later_of ?_ ?_ _) | (with_reducible refine Below.alloc ?_ ?_ _) | (with_reducible refine Below.setCell ?_ ?_ _) | (with_reducible refine Below.drew ?_) | (simp; done) | (simp; omega) | omega)))⟩
    first | (simp [results, Try.results17, go_sem]; done) | simp [results, Try.results17, go_sem, ↓IntWalk.iteOmega]
end Go.Proofs.Ythnfepfbkmafaaa
