import Derived.Test.YthnfepfbkmafaaaR2
import Derived.Test.YthnfepfbkmafaaaR3
import Derived.Deep.RegionHeld3
namespace Go.Proofs.Ythnfepfbkmafaaa
set_option linter.unusedVariables false
open Go.RowKit
set_option maxHeartbeats 1000000 in
theorem lPlaceErr (t : Trk) (x y z : Int) (w : World) {e0 : Int} (he : seenP t x y z = e0) :
    Calls Try.prog 25 #[.agg #[.int .i64 t.sx, .int .i64 t.sy, .int .i64 t.sz, .int .i64 t.step, .int .i64 t.lines, .int .i64 t.near, .int .i64 t.bin, .int .i64 t.bins, .bool t.east], .agg #[.int .i64 x, .int .i64 y, .int .i64 z]] w fun e w' => e = .returned (.int .i64 e0) ∧ Below w.heap.size w w' := by
  subst he
  by_cases h : checkTrackP t = 0
  · have HT := Lib.hid h
    cases hp : placeB x y z
    · have HF := Lib.hid (show seenP t x y z = 2 by unfold seenP first2 checkPlaceP; rw [if_pos h, hp]; rfl)
      have H0 := Lib.hid hp
      clear h hp
      go_enter Try.func25, Try.ntmps25
      go_wp2_with (first | (go_at_call 18; (with_reducible refine (rCheckTrack t _ HT.out).mono ?_); rintro e w' ⟨rfl, hb⟩; obtain ⟨pp, rfl⟩ := later_of_below hb; clear hb) | (go_at_call 43; (with_reducible refine (rIsPlace _ _ _ _ H0.out).mono ?_); rintro e w' ⟨rfl, hb⟩; obtain ⟨pp, rfl⟩ := later_of_below hb; clear hb))
      go_ret
      exact ⟨ret_int HF.out.symm, (by (repeat' (first | with_reducible exact Below.refl _ _ | (with_reducible refine below_later_of ?_ ?_ _) | (with_reducible refine Below.alloc ?_ ?_ _) | (with_reducible refine Below.setCell ?_ ?_ _) | (with_reducible refine Below.drew ?_) | (simp; done) | (simp; omega) | omega)))⟩
    · have HF := Lib.hid (show seenP t x y z = 0 by unfold seenP first2 checkPlaceP; rw [if_pos h, hp]; rfl)
      have H0 := Lib.hid hp
      clear h hp
      go_enter Try.func25, Try.ntmps25
      go_wp2_with (first | (go_at_call 18; (with_reducible refine (rCheckTrack t _ HT.out).mono ?_); rintro e w' ⟨rfl, hb⟩; obtain ⟨pp, rfl⟩ := later_of_below hb; clear hb) | (go_at_call 43; (with_reducible refine (rIsPlace _ _ _ _ H0.out).mono ?_); rintro e w' ⟨rfl, hb⟩; obtain ⟨pp, rfl⟩ := later_of_below hb; clear hb))
      go_ret
      exact ⟨ret_int HF.out.symm, (by (repeat' (first | with_reducible exact Below.refl _ _ | (with_reducible refine below_later_of ?_ ?_ _) | (with_reducible refine Below.alloc ?_ ?_ _) | (with_reducible refine Below.setCell ?_ ?_ _) | (with_reducible refine Below.drew ?_) | (simp; done) | (simp; omega) | omega)))⟩
  · obtain ⟨e0, he⟩ : ∃ e0, checkTrackP t = e0 := ⟨_, rfl⟩
    have HF := Lib.hid (show seenP t x y z = e0 by unfold seenP first2; rw [if_neg h, he])
    rw [he] at h
    have HT := Lib.hid he
    clear he
    go_enter Try.func25, Try.ntmps25
    go_wp2_with (first | (go_at_call 18; (with_reducible refine (rCheckTrack t _ HT.out).mono ?_); rintro e w' ⟨rfl, hb⟩; obtain ⟨pp, rfl⟩ := later_of_below hb; clear hb))
    go_ret
    exact ⟨ret_int HF.out.symm, (by (repeat' (first | with_reducible exact Below.refl _ _ | (with_reducible refine below_later_of ?_ ?_ _) | (with_reducible refine Below.alloc ?_ ?_ _) | (with_reducible refine Below.setCell ?_ ?_ _) | (with_reducible refine Below.drew ?_) | (simp; done) | (simp; omega) | omega)))⟩
set_option maxHeartbeats 1000000 in
theorem rLineOf (t : Trk) (x y z : Int) (w : World) (h : seenP t x y z = 0) :
    Calls Try.prog 26 #[.agg #[.int .i64 t.sx, .int .i64 t.sy, .int .i64 t.sz, .int .i64 t.step, .int .i64 t.lines, .int .i64 t.near, .int .i64 t.bin, .int .i64 t.bins, .bool t.east], .agg #[.int .i64 x, .int .i64 y, .int .i64 z]] w fun e w' => e = .returned (.tuple #[.int .i64 (lineOfP t x y z).1, .int .i64 (lineOfP t x y z).2]) ∧ Below w.heap.size w w' := by
  obtain ⟨o, hp⟩ := seenP_ok h
  have O := Lib.hid o
  obtain ⟨h_sx1, h_sx2, h_sy1, h_sy2, h_sz1, h_sz2, -, -, -, l1, l2, h_ne1, h_ne2, h_bi1, h_bi2, -, -⟩ := o
  rw [placeB_iff] at hp
  obtain ⟨⟨x1, x2⟩, ⟨y1, y2⟩, z1, z2⟩ := hp
  cases h1 : inR 0 (t.lines - 1) (lineP t y)
  · have HF : lineOfP t x y z = (0, 12) := by unfold lineOfP; rw [if_pos h, h1]; rfl
    rw [HF]
    have H1 := Lib.hid h1
    clear h h1 HF
    go_enter Try.func26, Try.ntmps26
    go_wp2_with (first | (go_at_call 91; refine (rLineOf1 t _ _ O.out (by omega) (by omega)).mono ?_; rintro e w' ⟨rfl, hb⟩; obtain ⟨pp, rfl⟩ := later_of_below hb; clear hb) | (go_at_call 34; (with_reducible refine (bWithin _ _ _ _ H1.out).mono ?_); rintro e w' ⟨rfl, rfl⟩))
    refine bodyPost_ret ?_ rfl ⟨rfl, (by (repeat' (first | with_reducible exact Below.refl _ _ | (with_reducible refine below_later_of ?_ ?_ _) | (with_reducible refine Below.alloc ?_ ?_ _) | (with_reducible refine Below.setCell ?_ ?_ _) | (with_reducible refine Below.drew ?_) | (simp; done) | (simp; omega) | omega)))⟩
    first | (simp [results, Try.results26, go_sem]; done) | simp [results, Try.results26, go_sem, ↓IntWalk.iteOmega]
  · have HF : lineOfP t x y z = (lineP t y, 0) := by unfold lineOfP; rw [if_pos h, h1]; rfl
    rw [HF]
    have H1 := Lib.hid h1
    clear h h1 HF
    go_enter Try.func26, Try.ntmps26
    go_wp2_with (first | (go_at_call 91; refine (rLineOf1 t _ _ O.out (by omega) (by omega)).mono ?_; rintro e w' ⟨rfl, hb⟩; obtain ⟨pp, rfl⟩ := later_of_below hb; clear hb) | (go_at_call 34; (with_reducible refine (bWithin _ _ _ _ H1.out).mono ?_); rintro e w' ⟨rfl, rfl⟩))
    refine bodyPost_ret ?_ rfl ⟨rfl, (by (repeat' (first | with_reducible exact Below.refl _ _ | (with_reducible refine below_later_of ?_ ?_ _) | (with_reducible refine Below.alloc ?_ ?_ _) | (with_reducible refine Below.setCell ?_ ?_ _) | (with_reducible refine Below.drew ?_) | (simp; done) | (simp; omega) | omega)))⟩
    first | (simp [results, Try.results26, go_sem]; done) | simp [results, Try.results26, go_sem, ↓IntWalk.iteOmega]
set_option maxHeartbeats 1000000 in
theorem rSlantOf (t : Trk) (x y z : Int) (w : World) (h : seenP t x y z = 0) :
    Calls Try.prog 28 #[.agg #[.int .i64 t.sx, .int .i64 t.sy, .int .i64 t.sz, .int .i64 t.step, .int .i64 t.lines, .int .i64 t.near, .int .i64 t.bin, .int .i64 t.bins, .bool t.east], .agg #[.int .i64 x, .int .i64 y, .int .i64 z]] w fun e w' => e = .returned (.agg #[.int .i64 (slantOfP t x y z).1, .int .i64 (slantOfP t x y z).2.1]) ∧ Below w.heap.size w w' := by
  obtain ⟨o, hp⟩ := seenP_ok h
  obtain ⟨h_sx1, h_sx2, h_sy1, h_sy2, h_sz1, h_sz2, -, -, -, -, -, -, -, -, -, -, -⟩ := o
  rw [placeB_iff] at hp
  obtain ⟨⟨x1, x2⟩, ⟨y1, y2⟩, z1, z2⟩ := hp
  have HF : slantOfP t x y z = (rootP (squareP t x z), rootUpP (squareP t x z), 0) := by unfold slantOfP; rw [if_pos h]
  rw [HF]
  obtain ⟨s1, s2⟩ := squareP_bd t x z h_sx1 h_sx2 h_sz1 h_sz2 x1 x2 z1 z2
  clear HF h
  go_enter Try.func28, Try.ntmps28
  go_wp2_with (first | (go_at_call 94; refine (rSquare t _ _ _ _ (by omega) (by omega) (by omega) (by omega) (by omega) (by omega) (by omega) (by omega)).mono ?_; rintro e w' ⟨rfl, hb⟩; obtain ⟨pp, rfl⟩ := later_of_below hb; clear hb) | (go_at_call 82; refine (bRoot _ _ (by omega) (by omega)).mono ?_; rintro e w' ⟨rfl, rfl⟩) | (go_at_call 81; refine (rRootUp _ _ (by omega) (by omega)).mono ?_; rintro e w' ⟨rfl, rfl⟩))
  refine bodyPost_ret ?_ rfl ⟨rfl, (by (repeat' (first | with_reducible exact Below.refl _ _ | (with_reducible refine below_later_of ?_ ?_ _) | (with_reducible refine Below.alloc ?_ ?_ _) | (with_reducible refine Below.setCell ?_ ?_ _) | (with_reducible refine Below.drew ?_) | (simp; done) | (simp; omega) | omega)))⟩
  first | (simp [results, Try.results28, go_sem]; done) | simp [results, Try.results28, go_sem, ↓IntWalk.iteOmega]
set_option maxHeartbeats 2000000 in
theorem rPixelOf (t : Trk) (x y z : Int) (w : World) (h : seenP t x y z = 0) :
    Calls Try.prog 27 #[.agg #[.int .i64 t.sx, .int .i64 t.sy, .int .i64 t.sz, .int .i64 t.step, .int .i64 t.lines, .int .i64 t.near, .int .i64 t.bin, .int .i64 t.bins, .bool t.east], .agg #[.int .i64 x, .int .i64 y, .int .i64 z]] w fun e w' => e = .returned (.tuple #[.agg #[.int .i64 (pixelOfP t x y z).1, .int .i64 (pixelOfP t x y z).2.1], .int .i64 (pixelOfP t x y z).2.2]) ∧ Below w.heap.size w w' := by
  obtain ⟨o, hp⟩ := seenP_ok h
  have O := Lib.hid o
  obtain ⟨h_sx1, h_sx2, h_sy1, h_sy2, h_sz1, h_sz2, -, -, -, l1, l2, h_ne1, h_ne2, h_bi1, h_bi2, n1, n2⟩ := o
  rw [placeB_iff] at hp
  obtain ⟨⟨x1, x2⟩, ⟨y1, y2⟩, z1, z2⟩ := hp
  obtain ⟨s1, s2⟩ := squareP_bd t x z h_sx1 h_sx2 h_sz1 h_sz2 x1 x2 z1 z2
  have r1 := rootP_spec _ s1 (by omega)
  have r2 := rootP_le _ s1 (by omega)
  obtain ⟨r0, -, -⟩ := r1
  by_cases ho : offP t x ≤ 0
  · have HF : pixelOfP t x y z = (0, 0, 15) := by unfold pixelOfP; rw [if_pos h, if_pos ho]
    rw [HF]
    clear HF h
    go_enter Try.func27, Try.ntmps27
    go_wp2_with (first | (go_at_call 92; refine (rOff t _ _ (by omega) (by omega) (by omega) (by omega)).mono ?_; rintro e w' ⟨rfl, hb⟩; obtain ⟨pp, rfl⟩ := later_of_below hb; clear hb) | (go_at_call 80; refine (rDepth t _ _ (by omega) (by omega) (by omega) (by omega)).mono ?_; rintro e w' ⟨rfl, hb⟩; obtain ⟨pp, rfl⟩ := later_of_below hb; clear hb))
    refine bodyPost_ret ?_ rfl ⟨rfl, (by (repeat' (first | with_reducible exact Below.refl _ _ | (with_reducible refine below_later_of ?_ ?_ _) | (with_reducible refine Below.alloc ?_ ?_ _) | (with_reducible refine Below.setCell ?_ ?_ _) | (with_reducible refine Below.drew ?_) | (simp; done) | (simp; omega) | omega)))⟩
    first | (simp [results, Try.results27, go_sem]; done) | simp [results, Try.results27, go_sem, ↓IntWalk.iteOmega]
  · by_cases hd : depthP t z < 1
    · have HF : pixelOfP t x y z = (0, 0, 26) := by unfold pixelOfP; rw [if_pos h, if_neg ho, if_pos hd]
      rw [HF]
      clear HF h
      go_enter Try.func27, Try.ntmps27
      go_wp2_with (first | (go_at_call 92; refine (rOff t _ _ (by omega) (by omega) (by omega) (by omega)).mono ?_; rintro e w' ⟨rfl, hb⟩; obtain ⟨pp, rfl⟩ := later_of_below hb; clear hb) | (go_at_call 80; refine (rDepth t _ _ (by omega) (by omega) (by omega) (by omega)).mono ?_; rintro e w' ⟨rfl, hb⟩; obtain ⟨pp, rfl⟩ := later_of_below hb; clear hb))
      refine bodyPost_ret ?_ rfl ⟨rfl, (by (repeat' (first | with_reducible exact Below.refl _ _ | (with_reducible refine below_later_of ?_ ?_ _) | (with_reducible refine Below.alloc ?_ ?_ _) | (with_reducible refine Below.setCell ?_ ?_ _) | (with_reducible refine Below.drew ?_) | (simp; done) | (simp; omega) | omega)))⟩
      first | (simp [results, Try.results27, go_sem]; done) | simp [results, Try.results27, go_sem, ↓IntWalk.iteOmega]
    · cases h1 : inR 0 (t.lines - 1) (lineP t y)
      · have HF : pixelOfP t x y z = (0, 0, 12) := by unfold pixelOfP; rw [if_pos h, if_neg ho, if_neg hd, h1]; rfl
        rw [HF]
        have H1 := Lib.hid h1
        clear HF h h1
        go_enter Try.func27, Try.ntmps27
        go_wp2_with (first | (go_at_call 92; refine (rOff t _ _ (by omega) (by omega) (by omega) (by omega)).mono ?_; rintro e w' ⟨rfl, hb⟩; obtain ⟨pp, rfl⟩ := later_of_below hb; clear hb) | (go_at_call 80; refine (rDepth t _ _ (by omega) (by omega) (by omega) (by omega)).mono ?_; rintro e w' ⟨rfl, hb⟩; obtain ⟨pp, rfl⟩ := later_of_below hb; clear hb))
        go_region_held3 (fun w' => w'.cell? ⟨w.heap.size, 0, none⟩ = some (.int .i64 t.sx) ∧ w'.cell? ⟨w.heap.size, 1, none⟩ = some (.int .i64 t.sy) ∧ w'.cell? ⟨w.heap.size, 2, none⟩ = some (.int .i64 t.sz) ∧ w'.cell? ⟨w.heap.size, 3, none⟩ = some (.int .i64 t.step) ∧ w'.cell? ⟨w.heap.size, 4, none⟩ = some (.int .i64 t.lines) ∧ w'.cell? ⟨w.heap.size, 5, none⟩ = some (.int .i64 t.near) ∧ w'.cell? ⟨w.heap.size, 6, none⟩ = some (.int .i64 t.bin) ∧ w'.cell? ⟨w.heap.size, 7, none⟩ = some (.int .i64 t.bins) ∧ w'.cell? ⟨w.heap.size, 8, none⟩ = some (.bool t.east) ∧ w'.cell? ⟨w.heap.size + 1, 0, none⟩ = some (.int .i64 x) ∧ w'.cell? ⟨w.heap.size + 1, 1, none⟩ = some (.int .i64 y) ∧ w'.cell? ⟨w.heap.size + 1, 2, none⟩ = some (.int .i64 z)) (first | ((first | (simp [go_sem]; done) | simp [go_sem, ↓IntWalk.iteOmega]); done)) (first | (go_at_call 91; refine (rLineOf1 t _ _ O.out (by omega) (by omega)).mono ?_; rintro e w' ⟨rfl, hb⟩; obtain ⟨pp, rfl⟩ := later_of_below hb; clear hb) | (go_at_call 94; refine (rSquare t _ _ _ _ (by omega) (by omega) (by omega) (by omega) (by omega) (by omega) (by omega) (by omega)).mono ?_; rintro e w' ⟨rfl, hb⟩; obtain ⟨pp, rfl⟩ := later_of_below hb; clear hb) | (go_at_call 82; refine (bRoot _ _ (by omega) (by omega)).mono ?_; rintro e w' ⟨rfl, rfl⟩) | (go_at_call 93; refine (rBin t _ _ (by omega) (by omega) (by omega) (by omega) (by omega) (by omega)).mono ?_; rintro e w' ⟨rfl, hb⟩; obtain ⟨pp, rfl⟩ := later_of_below hb; clear hb))
        all_goals (go_wp2_with (first | (go_at_call 34; (with_reducible refine (bWithin _ _ _ _ H1.out).mono ?_); rintro e w' ⟨rfl, rfl⟩)))
        all_goals (refine bodyPost_ret ?_ rfl ⟨rfl, (by (repeat' (first | with_reducible exact Below.refl _ _ | (with_reducible refine below_later_of ?_ ?_ _) | (with_reducible refine Below.alloc ?_ ?_ _) | (with_reducible refine Below.setCell ?_ ?_ _) | (with_reducible refine Below.drew ?_) | (simp; done) | (simp; omega) | omega)))⟩; (first | (simp [results, Try.results27, go_sem]; done) | simp [results, Try.results27, go_sem, ↓IntWalk.iteOmega]))
      · cases h2 : inR 0 (t.bins - 1) (binP t (rootP (squareP t x z)))
        · have HF : pixelOfP t x y z = (0, 0, 12) := by unfold pixelOfP; rw [if_pos h, if_neg ho, if_neg hd, h1, h2]; rfl
          rw [HF]
          have H1 := Lib.hid h1
          have H2 := Lib.hid h2
          clear HF h h1 h2
          go_enter Try.func27, Try.ntmps27
          go_wp2_with (first | (go_at_call 92; refine (rOff t _ _ (by omega) (by omega) (by omega) (by omega)).mono ?_; rintro e w' ⟨rfl, hb⟩; obtain ⟨pp, rfl⟩ := later_of_below hb; clear hb) | (go_at_call 80; refine (rDepth t _ _ (by omega) (by omega) (by omega) (by omega)).mono ?_; rintro e w' ⟨rfl, hb⟩; obtain ⟨pp, rfl⟩ := later_of_below hb; clear hb))
          go_region_held3 (fun w' => w'.cell? ⟨w.heap.size, 0, none⟩ = some (.int .i64 t.sx) ∧ w'.cell? ⟨w.heap.size, 1, none⟩ = some (.int .i64 t.sy) ∧ w'.cell? ⟨w.heap.size, 2, none⟩ = some (.int .i64 t.sz) ∧ w'.cell? ⟨w.heap.size, 3, none⟩ = some (.int .i64 t.step) ∧ w'.cell? ⟨w.heap.size, 4, none⟩ = some (.int .i64 t.lines) ∧ w'.cell? ⟨w.heap.size, 5, none⟩ = some (.int .i64 t.near) ∧ w'.cell? ⟨w.heap.size, 6, none⟩ = some (.int .i64 t.bin) ∧ w'.cell? ⟨w.heap.size, 7, none⟩ = some (.int .i64 t.bins) ∧ w'.cell? ⟨w.heap.size, 8, none⟩ = some (.bool t.east) ∧ w'.cell? ⟨w.heap.size + 1, 0, none⟩ = some (.int .i64 x) ∧ w'.cell? ⟨w.heap.size + 1, 1, none⟩ = some (.int .i64 y) ∧ w'.cell? ⟨w.heap.size + 1, 2, none⟩ = some (.int .i64 z)) (first | ((first | (simp [go_sem]; done) | simp [go_sem, ↓IntWalk.iteOmega]); done)) (first | (go_at_call 91; refine (rLineOf1 t _ _ O.out (by omega) (by omega)).mono ?_; rintro e w' ⟨rfl, hb⟩; obtain ⟨pp, rfl⟩ := later_of_below hb; clear hb) | (go_at_call 94; refine (rSquare t _ _ _ _ (by omega) (by omega) (by omega) (by omega) (by omega) (by omega) (by omega) (by omega)).mono ?_; rintro e w' ⟨rfl, hb⟩; obtain ⟨pp, rfl⟩ := later_of_below hb; clear hb) | (go_at_call 82; refine (bRoot _ _ (by omega) (by omega)).mono ?_; rintro e w' ⟨rfl, rfl⟩) | (go_at_call 93; refine (rBin t _ _ (by omega) (by omega) (by omega) (by omega) (by omega) (by omega)).mono ?_; rintro e w' ⟨rfl, hb⟩; obtain ⟨pp, rfl⟩ := later_of_below hb; clear hb))
          all_goals (go_wp2_with (first | (go_at_call 34; (with_reducible refine (bWithin _ _ _ _ H1.out).mono ?_); rintro e w' ⟨rfl, rfl⟩) | (go_at_call 34; (with_reducible refine (bWithin _ _ _ _ H2.out).mono ?_); rintro e w' ⟨rfl, rfl⟩)))
          all_goals (refine bodyPost_ret ?_ rfl ⟨rfl, (by (repeat' (first | with_reducible exact Below.refl _ _ | (with_reducible refine below_later_of ?_ ?_ _) | (with_reducible refine Below.alloc ?_ ?_ _) | (with_reducible refine Below.setCell ?_ ?_ _) | (with_reducible refine Below.drew ?_) | (simp; done) | (simp; omega) | omega)))⟩; (first | (simp [results, Try.results27, go_sem]; done) | simp [results, Try.results27, go_sem, ↓IntWalk.iteOmega]))
        · have HF : pixelOfP t x y z = (lineP t y, binP t (rootP (squareP t x z)), 0) := by unfold pixelOfP; rw [if_pos h, if_neg ho, if_neg hd, h1, h2]; rfl
          rw [HF]
          have H1 := Lib.hid h1
          have H2 := Lib.hid h2
          clear HF h h1 h2
          go_enter Try.func27, Try.ntmps27
          go_wp2_with (first | (go_at_call 92; refine (rOff t _ _ (by omega) (by omega) (by omega) (by omega)).mono ?_; rintro e w' ⟨rfl, hb⟩; obtain ⟨pp, rfl⟩ := later_of_below hb; clear hb) | (go_at_call 80; refine (rDepth t _ _ (by omega) (by omega) (by omega) (by omega)).mono ?_; rintro e w' ⟨rfl, hb⟩; obtain ⟨pp, rfl⟩ := later_of_below hb; clear hb))
          go_region_held3 (fun w' => w'.cell? ⟨w.heap.size, 0, none⟩ = some (.int .i64 t.sx) ∧ w'.cell? ⟨w.heap.size, 1, none⟩ = some (.int .i64 t.sy) ∧ w'.cell? ⟨w.heap.size, 2, none⟩ = some (.int .i64 t.sz) ∧ w'.cell? ⟨w.heap.size, 3, none⟩ = some (.int .i64 t.step) ∧ w'.cell? ⟨w.heap.size, 4, none⟩ = some (.int .i64 t.lines) ∧ w'.cell? ⟨w.heap.size, 5, none⟩ = some (.int .i64 t.near) ∧ w'.cell? ⟨w.heap.size, 6, none⟩ = some (.int .i64 t.bin) ∧ w'.cell? ⟨w.heap.size, 7, none⟩ = some (.int .i64 t.bins) ∧ w'.cell? ⟨w.heap.size, 8, none⟩ = some (.bool t.east) ∧ w'.cell? ⟨w.heap.size + 1, 0, none⟩ = some (.int .i64 x) ∧ w'.cell? ⟨w.heap.size + 1, 1, none⟩ = some (.int .i64 y) ∧ w'.cell? ⟨w.heap.size + 1, 2, none⟩ = some (.int .i64 z)) (first | ((first | (simp [go_sem]; done) | simp [go_sem, ↓IntWalk.iteOmega]); done)) (first | (go_at_call 91; refine (rLineOf1 t _ _ O.out (by omega) (by omega)).mono ?_; rintro e w' ⟨rfl, hb⟩; obtain ⟨pp, rfl⟩ := later_of_below hb; clear hb) | (go_at_call 94; refine (rSquare t _ _ _ _ (by omega) (by omega) (by omega) (by omega) (by omega) (by omega) (by omega) (by omega)).mono ?_; rintro e w' ⟨rfl, hb⟩; obtain ⟨pp, rfl⟩ := later_of_below hb; clear hb) | (go_at_call 82; refine (bRoot _ _ (by omega) (by omega)).mono ?_; rintro e w' ⟨rfl, rfl⟩) | (go_at_call 93; refine (rBin t _ _ (by omega) (by omega) (by omega) (by omega) (by omega) (by omega)).mono ?_; rintro e w' ⟨rfl, hb⟩; obtain ⟨pp, rfl⟩ := later_of_below hb; clear hb))
          all_goals (go_wp2_with (first | (go_at_call 34; (with_reducible refine (bWithin _ _ _ _ H1.out).mono ?_); rintro e w' ⟨rfl, rfl⟩) | (go_at_call 34; (with_reducible refine (bWithin _ _ _ _ H2.out).mono ?_); rintro e w' ⟨rfl, rfl⟩)))
          all_goals (refine bodyPost_ret ?_ rfl ⟨rfl, (by (repeat' (first | with_reducible exact Below.refl _ _ | (with_reducible refine below_later_of ?_ ?_ _) | (with_reducible refine Below.alloc ?_ ?_ _) | (with_reducible refine Below.setCell ?_ ?_ _) | (with_reducible refine Below.drew ?_) | (simp; done) | (simp; omega) | omega)))⟩; (first | (simp [results, Try.results27, go_sem]; done) | simp [results, Try.results27, go_sem, ↓IntWalk.iteOmega]))
end Go.Proofs.Ythnfepfbkmafaaa
