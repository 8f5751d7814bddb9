import Derived.Test.YthnfepfbkmafaaaA6
import Derived.Test.YthnfepfbkmafaaaP3
namespace Go.Proofs.Ythnfepfbkmafaaa
set_option linter.unusedVariables false
open Go.RowKit
theorem seen_e (t : Trk) (x y z : Int) (w : World) {e0 : Int} (h : seenP t x y z = e0) :
    Calls Try.prog 83 #[.agg #[.int .i64 t.sx, .int .i64 t.sy, .int .i64 t.sz, .int .i64 t.step, .int .i64 t.lines, .int .i64 t.near, .int .i64 t.bin, .int .i64 t.bins, .bool t.east], .agg #[.int .i64 x, .int .i64 y, .int .i64 z]] w
      fun e w' => e = .returned (.tuple #[.agg #[.int .i64 t.sx, .int .i64 t.sy, .int .i64 t.sz, .int .i64 t.step, .int .i64 t.lines, .int .i64 t.near, .int .i64 t.bin, .int .i64 t.bins, .bool t.east], .int .i64 e0]) ∧ Below w.heap.size w w' := by
  subst h; exact seen_any t x y z w
theorem within_c (n lo hi : Int) (w : World) {c : Bool} (h : inR lo hi n = c) :
    Calls Try.prog 85 #[.int .i64 n, .int .i64 lo, .int .i64 hi] w fun e w' => e = .returned (.bool c) ∧ w = w' := by
  subst h; exact within_any n lo hi w
set_option maxHeartbeats 1000000 in
theorem lineOf_any (t : Trk) (x y z : Int) (w : World) :
    Calls Try.prog 21 #[.agg #[.int .i64 t.sx, .int .i64 t.sy, .int .i64 t.sz, .int .i64 t.step, .int .i64 t.lines, .int .i64 t.near, .int .i64 t.bin, .int .i64 t.bins, .bool t.east], .agg #[.int .i64 x, .int .i64 y, .int .i64 z]] w
      fun e w' => e = .returned (.tuple #[.int .i64 (lineOfP t x y z).1, .int .i64 (lineOfP t x y z).2]) ∧ Below w.heap.size w w' := by
  by_cases h : seenP t x y z = 0
  · have HE := Lib.hid h
    obtain ⟨o, hp⟩ := seenP_ok h
    have O := Lib.hid o
    obtain ⟨h_sx1, h_sx2, h_sy1, h_sy2, h_sz1, h_sz2, -, -, -, l1, l2, h_ne1, h_ne2, h_bi1, h_bi2, -, -⟩ := o
    rw [placeB_iff] at hp
    obtain ⟨⟨x1, x2⟩, ⟨y1, y2⟩, z1, z2⟩ := hp
    cases h1 : inR 0 (t.lines - 1) (lineP t y)
    · have HF : lineOfP t x y z = (0, 12) := by unfold lineOfP; rw [if_pos h, h1]; rfl
      rw [HF]
      have H1 := Lib.hid h1
      clear h h1 HF
      go_enter Try.func21, Try.ntmps21
      go_wp2_with (first | (go_at_call 83; refine (seen_e t x y z _ HE.out).mono ?_; rintro e w' ⟨rfl, hb⟩; obtain ⟨pp, rfl⟩ := later_of_below hb; clear hb) | (go_at_call 84; refine (line_any t _ _ O.out (by omega) (by omega)).mono ?_; rintro e w' ⟨rfl, hb⟩; obtain ⟨pp, rfl⟩ := later_of_below hb; clear hb) | (go_at_call 85; (with_reducible refine (within_c _ _ _ _ H1.out).mono ?_); rintro e w' ⟨rfl, rfl⟩))
      refine bodyPost_ret ?_ rfl ⟨rfl, (by (repeat' (first | with_reducible exact Below.refl _ _ | (with_reducible refine below_later_of ?_ ?_ _) | (with_reducible refine Below.alloc ?_ ?_ _) | (with_reducible refine Below.setCell ?_ ?_ _) | (with_reducible refine Below.drew ?_) | (simp; done) | (simp; omega) | omega)))⟩
      first | (simp [results, Try.results21, go_sem]; done) | simp [results, Try.results21, go_sem, ↓IntWalk.iteOmega]
    · have HF : lineOfP t x y z = (lineP t y, 0) := by unfold lineOfP; rw [if_pos h, h1]; rfl
      rw [HF]
      have H1 := Lib.hid h1
      clear h h1 HF
      go_enter Try.func21, Try.ntmps21
      go_wp2_with (first | (go_at_call 83; refine (seen_e t x y z _ HE.out).mono ?_; rintro e w' ⟨rfl, hb⟩; obtain ⟨pp, rfl⟩ := later_of_below hb; clear hb) | (go_at_call 84; refine (line_any t _ _ O.out (by omega) (by omega)).mono ?_; rintro e w' ⟨rfl, hb⟩; obtain ⟨pp, rfl⟩ := later_of_below hb; clear hb) | (go_at_call 85; (with_reducible refine (within_c _ _ _ _ H1.out).mono ?_); rintro e w' ⟨rfl, rfl⟩))
      refine bodyPost_ret ?_ rfl ⟨rfl, (by (repeat' (first | with_reducible exact Below.refl _ _ | (with_reducible refine below_later_of ?_ ?_ _) | (with_reducible refine Below.alloc ?_ ?_ _) | (with_reducible refine Below.setCell ?_ ?_ _) | (with_reducible refine Below.drew ?_) | (simp; done) | (simp; omega) | omega)))⟩
      first | (simp [results, Try.results21, go_sem]; done) | simp [results, Try.results21, go_sem, ↓IntWalk.iteOmega]
  · obtain ⟨e0, he⟩ : ∃ e0, seenP t x y z = e0 := ⟨_, rfl⟩
    have HF : lineOfP t x y z = (0, e0) := by unfold lineOfP; rw [if_neg h, he]
    rw [HF]
    rw [he] at h
    have HE := Lib.hid he
    clear HF he
    go_enter Try.func21, Try.ntmps21
    go_wp2_with (first | (go_at_call 83; refine (seen_e t x y z _ HE.out).mono ?_; rintro e w' ⟨rfl, hb⟩; obtain ⟨pp, rfl⟩ := later_of_below hb; clear hb))
    refine bodyPost_ret ?_ rfl ⟨rfl, (by (repeat' (first | with_reducible exact Below.refl _ _ | (with_reducible refine below_later_of ?_ ?_ _) | (with_reducible refine Below.alloc ?_ ?_ _) | (with_reducible refine Below.setCell ?_ ?_ _) | (with_reducible refine Below.drew ?_) | (simp; done) | (simp; omega) | omega)))⟩
    first | (simp [results, Try.results21, go_sem]; done) | simp [results, Try.results21, go_sem, ↓IntWalk.iteOmega]
set_option maxHeartbeats 1000000 in
theorem slantOf_any (t : Trk) (x y z : Int) (w : World) :
    Calls Try.prog 22 #[.agg #[.int .i64 t.sx, .int .i64 t.sy, .int .i64 t.sz, .int .i64 t.step, .int .i64 t.lines, .int .i64 t.near, .int .i64 t.bin, .int .i64 t.bins, .bool t.east], .agg #[.int .i64 x, .int .i64 y, .int .i64 z]] w
      fun e w' => e = .returned (.tuple #[.agg #[.int .i64 (slantOfP t x y z).1, .int .i64 (slantOfP t x y z).2.1], .int .i64 (slantOfP t x y z).2.2]) ∧ Below w.heap.size w w' := by
  by_cases h : seenP t x y z = 0
  · have HE := Lib.hid h
    obtain ⟨o, hp⟩ := seenP_ok h
    obtain ⟨h_sx1, h_sx2, h_sy1, h_sy2, h_sz1, h_sz2, -, -, -, -, -, -, -, -, -, -, -⟩ := o
    rw [placeB_iff] at hp
    obtain ⟨⟨x1, x2⟩, ⟨y1, y2⟩, z1, z2⟩ := hp
    have HF : slantOfP t x y z = (rootP (squareP t x z), rootUpP (squareP t x z), 0) := by unfold slantOfP; rw [if_pos h]
    rw [HF]
    obtain ⟨s1, s2⟩ := squareP_bd t x z h_sx1 h_sx2 h_sz1 h_sz2 x1 x2 z1 z2
    unfold squareP at s1 s2 ⊢
    clear HF h
    go_enter Try.func22, Try.ntmps22
    go_wp2_with (first | (go_at_call 83; refine (seen_e t x y z _ HE.out).mono ?_; rintro e w' ⟨rfl, hb⟩; obtain ⟨pp, rfl⟩ := later_of_below hb; clear hb) | (go_at_call 86; refine (square_any t _ _ _ _ (by omega) (by omega) (by omega) (by omega) (by omega) (by omega) (by omega) (by omega)).mono ?_; rintro e w' ⟨rfl, hb⟩; obtain ⟨pp, rfl⟩ := later_of_below hb; clear hb) | (go_at_call 76; refine (root_any _ _ (by omega) (by omega)).mono ?_; rintro e w' ⟨rfl, rfl⟩) | (go_at_call 75; refine (rootUp_any _ _ (by omega) (by omega)).mono ?_; rintro e w' ⟨rfl, rfl⟩))
    refine bodyPost_ret ?_ rfl ⟨rfl, (by (repeat' (first | with_reducible exact Below.refl _ _ | (with_reducible refine below_later_of ?_ ?_ _) | (with_reducible refine Below.alloc ?_ ?_ _) | (with_reducible refine Below.setCell ?_ ?_ _) | (with_reducible refine Below.drew ?_) | (simp; done) | (simp; omega) | omega)))⟩
    first | (simp [results, Try.results22, go_sem]; done) | simp [results, Try.results22, go_sem, ↓IntWalk.iteOmega]
  · obtain ⟨e0, he⟩ : ∃ e0, seenP t x y z = e0 := ⟨_, rfl⟩
    have HF : slantOfP t x y z = (0, 0, e0) := by unfold slantOfP; rw [if_neg h, he]
    rw [HF]
    rw [he] at h
    have HE := Lib.hid he
    clear HF he
    go_enter Try.func22, Try.ntmps22
    go_wp2_with (first | (go_at_call 83; refine (seen_e t x y z _ HE.out).mono ?_; rintro e w' ⟨rfl, hb⟩; obtain ⟨pp, rfl⟩ := later_of_below hb; clear hb))
    refine bodyPost_ret ?_ rfl ⟨rfl, (by (repeat' (first | with_reducible exact Below.refl _ _ | (with_reducible refine below_later_of ?_ ?_ _) | (with_reducible refine Below.alloc ?_ ?_ _) | (with_reducible refine Below.setCell ?_ ?_ _) | (with_reducible refine Below.drew ?_) | (simp; done) | (simp; omega) | omega)))⟩
    first | (simp [results, Try.results22, go_sem]; done) | simp [results, Try.results22, go_sem, ↓IntWalk.iteOmega]
set_option maxHeartbeats 2000000 in
theorem pixelOf_any (t : Trk) (x y z : Int) (w : World) :
    Calls Try.prog 23 #[.agg #[.int .i64 t.sx, .int .i64 t.sy, .int .i64 t.sz, .int .i64 t.step, .int .i64 t.lines, .int .i64 t.near, .int .i64 t.bin, .int .i64 t.bins, .bool t.east], .agg #[.int .i64 x, .int .i64 y, .int .i64 z]] w
      fun e w' => e = .returned (.tuple #[.agg #[.int .i64 (pixelOfP t x y z).1, .int .i64 (pixelOfP t x y z).2.1], .int .i64 (pixelOfP t x y z).2.2]) ∧ Below w.heap.size w w' := by
  by_cases h : seenP t x y z = 0
  · have HE := Lib.hid h
    obtain ⟨o, hp⟩ := seenP_ok h
    have O := Lib.hid o
    have HP := Lib.hid hp
    obtain ⟨h_sx1, h_sx2, h_sy1, h_sy2, h_sz1, h_sz2, -, -, -, l1, l2, h_ne1, h_ne2, h_bi1, h_bi2, n1, n2⟩ := o
    rw [placeB_iff] at hp
    obtain ⟨⟨x1, x2⟩, ⟨y1, y2⟩, z1, z2⟩ := hp
    by_cases ho : offP t x ≤ 0
    · have HF : pixelOfP t x y z = (0, 0, 15) := by unfold pixelOfP; rw [if_pos h, if_pos ho]
      rw [HF]
      clear HF h
      (go_enter Try.func23, Try.ntmps23; go_wp2_with (first | (go_at_call 83; refine (seen_e t x y z _ HE.out).mono ?_; rintro e w' ⟨rfl, hb⟩; obtain ⟨pp, rfl⟩ := later_of_below hb; clear hb) | (go_at_call 87; refine (pixel_any t x y z _ O.out HP.out).mono ?_; rintro e w' ⟨rfl, hb⟩; obtain ⟨pp, rfl⟩ := later_of_below hb; clear hb) | (go_at_call 88; refine (off_any t _ _ (by omega) (by omega) (by omega) (by omega)).mono ?_; rintro e w' ⟨rfl, hb⟩; obtain ⟨pp, rfl⟩ := later_of_below hb; clear hb) | (go_at_call 74; refine (depth_any t _ _ (by omega) (by omega) (by omega) (by omega)).mono ?_; rintro e w' ⟨rfl, hb⟩; obtain ⟨pp, rfl⟩ := later_of_below hb; clear hb) | (go_at_call 85; (with_reducible refine (within_c _ _ _ _ H1.out).mono ?_); rintro e w' ⟨rfl, rfl⟩) | (go_at_call 85; (with_reducible refine (within_c _ _ _ _ H2.out).mono ?_); rintro e w' ⟨rfl, rfl⟩)))
      refine bodyPost_ret ?_ rfl ⟨rfl, (by (repeat' (first | with_reducible exact Below.refl _ _ | (with_reducible refine below_later_of ?_ ?_ _) | (with_reducible refine Below.alloc ?_ ?_ _) | (with_reducible refine Below.setCell ?_ ?_ _) | (with_reducible refine Below.drew ?_) | (simp; done) | (simp; omega) | omega)))⟩
      first | (simp [results, Try.results23, go_sem]; done) | simp [results, Try.results23, go_sem, ↓IntWalk.iteOmega]
    · by_cases hd : depthP t z < 1
      · have HF : pixelOfP t x y z = (0, 0, 26) := by unfold pixelOfP; rw [if_pos h, if_neg ho, if_pos hd]
        rw [HF]
        clear HF h
        (go_enter Try.func23, Try.ntmps23; go_wp2_with (first | (go_at_call 83; refine (seen_e t x y z _ HE.out).mono ?_; rintro e w' ⟨rfl, hb⟩; obtain ⟨pp, rfl⟩ := later_of_below hb; clear hb) | (go_at_call 87; refine (pixel_any t x y z _ O.out HP.out).mono ?_; rintro e w' ⟨rfl, hb⟩; obtain ⟨pp, rfl⟩ := later_of_below hb; clear hb) | (go_at_call 88; refine (off_any t _ _ (by omega) (by omega) (by omega) (by omega)).mono ?_; rintro e w' ⟨rfl, hb⟩; obtain ⟨pp, rfl⟩ := later_of_below hb; clear hb) | (go_at_call 74; refine (depth_any t _ _ (by omega) (by omega) (by omega) (by omega)).mono ?_; rintro e w' ⟨rfl, hb⟩; obtain ⟨pp, rfl⟩ := later_of_below hb; clear hb) | (go_at_call 85; (with_reducible refine (within_c _ _ _ _ H1.out).mono ?_); rintro e w' ⟨rfl, rfl⟩) | (go_at_call 85; (with_reducible refine (within_c _ _ _ _ H2.out).mono ?_); rintro e w' ⟨rfl, rfl⟩)))
        refine bodyPost_ret ?_ rfl ⟨rfl, (by (repeat' (first | with_reducible exact Below.refl _ _ | (with_reducible refine below_later_of ?_ ?_ _) | (with_reducible refine Below.alloc ?_ ?_ _) | (with_reducible refine Below.setCell ?_ ?_ _) | (with_reducible refine Below.drew ?_) | (simp; done) | (simp; omega) | omega)))⟩
        first | (simp [results, Try.results23, go_sem]; done) | simp [results, Try.results23, go_sem, ↓IntWalk.iteOmega]
      · obtain ⟨a, ha⟩ : ∃ a, lineP t y = a := ⟨_, rfl⟩
        obtain ⟨b, hb⟩ : ∃ b, binP t (rootP (squareP t x z)) = b := ⟨_, rfl⟩
        have PX : ∀ w, Calls Try.prog 87 #[.agg #[.int .i64 t.sx, .int .i64 t.sy, .int .i64 t.sz, .int .i64 t.step, .int .i64 t.lines, .int .i64 t.near, .int .i64 t.bin, .int .i64 t.bins, .bool t.east], .agg #[.int .i64 x, .int .i64 y, .int .i64 z]] w fun e w' => e = .returned (.agg #[.int .i64 a, .int .i64 b]) ∧ Below w.heap.size w w' := by
          subst ha hb; exact fun w => pixel_any t x y z w O.out HP.out
        cases h1 : inR 0 (t.lines - 1) a
        · have HF : pixelOfP t x y z = (0, 0, 12) := by unfold pixelOfP; rw [if_pos h, if_neg ho, if_neg hd, ha, h1]; rfl
          rw [HF]
          have H1 := Lib.hid h1
          clear HF h h1 ha hb
          go_enter Try.func23, Try.ntmps23
          go_wp2_with (first | (go_at_call 83; refine (seen_e t x y z _ HE.out).mono ?_; rintro e w' ⟨rfl, hb⟩; obtain ⟨pp, rfl⟩ := later_of_below hb; clear hb) | (go_at_call 87; refine (PX _).mono ?_; rintro e w' ⟨rfl, hb⟩; obtain ⟨pp, rfl⟩ := later_of_below hb; clear hb) | (go_at_call 88; refine (off_any t _ _ (by omega) (by omega) (by omega) (by omega)).mono ?_; rintro e w' ⟨rfl, hb⟩; obtain ⟨pp, rfl⟩ := later_of_below hb; clear hb) | (go_at_call 74; refine (depth_any t _ _ (by omega) (by omega) (by omega) (by omega)).mono ?_; rintro e w' ⟨rfl, hb⟩; obtain ⟨pp, rfl⟩ := later_of_below hb; clear hb) | (go_at_call 85; (with_reducible refine (within_c _ _ _ _ H1.out).mono ?_); rintro e w' ⟨rfl, rfl⟩))
          refine bodyPost_ret ?_ rfl ⟨rfl, (by (repeat' (first | with_reducible exact Below.refl _ _ | (with_reducible refine below_later_of ?_ ?_ _) | (with_reducible refine Below.alloc ?_ ?_ _) | (with_reducible refine Below.setCell ?_ ?_ _) | (with_reducible refine Below.drew ?_) | (simp; done) | (simp; omega) | omega)))⟩
          first | (simp [results, Try.results23, go_sem]; done) | simp [results, Try.results23, go_sem, ↓IntWalk.iteOmega]
        · cases h2 : inR 0 (t.bins - 1) b
          · have HF : pixelOfP t x y z = (0, 0, 12) := by unfold pixelOfP; rw [if_pos h, if_neg ho, if_neg hd, ha, hb, h1, h2]; rfl
            rw [HF]
            have H1 := Lib.hid h1
            have H2 := Lib.hid h2
            clear HF h h1 h2 ha hb
            go_enter Try.func23, Try.ntmps23
            go_wp2_with (first | (go_at_call 83; refine (seen_e t x y z _ HE.out).mono ?_; rintro e w' ⟨rfl, hb⟩; obtain ⟨pp, rfl⟩ := later_of_below hb; clear hb) | (go_at_call 87; refine (PX _).mono ?_; rintro e w' ⟨rfl, hb⟩; obtain ⟨pp, rfl⟩ := later_of_below hb; clear hb) | (go_at_call 88; refine (off_any t _ _ (by omega) (by omega) (by omega) (by omega)).mono ?_; rintro e w' ⟨rfl, hb⟩; obtain ⟨pp, rfl⟩ := later_of_below hb; clear hb) | (go_at_call 74; refine (depth_any t _ _ (by omega) (by omega) (by omega) (by omega)).mono ?_; rintro e w' ⟨rfl, hb⟩; obtain ⟨pp, rfl⟩ := later_of_below hb; clear hb) | (go_at_call 85; (with_reducible refine (within_c _ _ _ _ H1.out).mono ?_); rintro e w' ⟨rfl, rfl⟩) | (go_at_call 85; (with_reducible refine (within_c _ _ _ _ H2.out).mono ?_); rintro e w' ⟨rfl, rfl⟩))
            refine bodyPost_ret ?_ rfl ⟨rfl, (by (repeat' (first | with_reducible exact Below.refl _ _ | (with_reducible refine below_later_of ?_ ?_ _) | (with_reducible refine Below.alloc ?_ ?_ _) | (with_reducible refine Below.setCell ?_ ?_ _) | (with_reducible refine Below.drew ?_) | (simp; done) | (simp; omega) | omega)))⟩
            first | (simp [results, Try.results23, go_sem]; done) | simp [results, Try.results23, go_sem, ↓IntWalk.iteOmega]
          · have HF : pixelOfP t x y z = (a, b, 0) := by unfold pixelOfP; rw [if_pos h, if_neg ho, if_neg hd, ha, hb, h1, h2]; rfl
            rw [HF]
            have H1 := Lib.hid h1
            have H2 := Lib.hid h2
            clear HF h h1 h2 ha hb
            go_enter Try.func23, Try.ntmps23
            go_wp2_with (first | (go_at_call 83; refine (seen_e t x y z _ HE.out).mono ?_; rintro e w' ⟨rfl, hb⟩; obtain ⟨pp, rfl⟩ := later_of_below hb; clear hb) | (go_at_call 87; refine (PX _).mono ?_; rintro e w' ⟨rfl, hb⟩; obtain ⟨pp, rfl⟩ := later_of_below hb; clear hb) | (go_at_call 88; refine (off_any t _ _ (by omega) (by omega) (by omega) (by omega)).mono ?_; rintro e w' ⟨rfl, hb⟩; obtain ⟨pp, rfl⟩ := later_of_below hb; clear hb) | (go_at_call 74; refine (depth_any t _ _ (by omega) (by omega) (by omega) (by omega)).mono ?_; rintro e w' ⟨rfl, hb⟩; obtain ⟨pp, rfl⟩ := later_of_below hb; clear hb) | (go_at_call 85; (with_reducible refine (within_c _ _ _ _ H1.out).mono ?_); rintro e w' ⟨rfl, rfl⟩) | (go_at_call 85; (with_reducible refine (within_c _ _ _ _ H2.out).mono ?_); rintro e w' ⟨rfl, rfl⟩))
            refine bodyPost_ret ?_ rfl ⟨rfl, (by (repeat' (first | with_reducible exact Below.refl _ _ | (with_reducible refine below_later_of ?_ ?_ _) | (with_reducible refine Below.alloc ?_ ?_ _) | (with_reducible refine Below.setCell ?_ ?_ _) | (with_reducible refine Below.drew ?_) | (simp; done) | (simp; omega) | omega)))⟩
            first | (simp [results, Try.results23, go_sem]; done) | simp [results, Try.results23, go_sem, ↓IntWalk.iteOmega]
  · obtain ⟨e0, he⟩ : ∃ e0, seenP t x y z = e0 := ⟨_, rfl⟩
    have HF : pixelOfP t x y z = (0, 0, e0) := by unfold pixelOfP; rw [if_neg h, he]
    rw [HF]
    rw [he] at h
    have HE := Lib.hid he
    clear HF he
    go_enter Try.func23, Try.ntmps23
    go_wp2_with (first | (go_at_call 83; refine (seen_e t x y z _ HE.out).mono ?_; rintro e w' ⟨rfl, hb⟩; obtain ⟨pp, rfl⟩ := later_of_below hb; clear hb))
    refine bodyPost_ret ?_ rfl ⟨rfl, (by (repeat' (first | with_reducible exact Below.refl _ _ | (with_reducible refine below_later_of ?_ ?_ _) | (with_reducible refine Below.alloc ?_ ?_ _) | (with_reducible refine Below.setCell ?_ ?_ _) | (with_reducible refine Below.drew ?_) | (simp; done) | (simp; omega) | omega)))⟩
    first | (simp [results, Try.results23, go_sem]; done) | simp [results, Try.results23, go_sem, ↓IntWalk.iteOmega]
end Go.Proofs.Ythnfepfbkmafaaa
