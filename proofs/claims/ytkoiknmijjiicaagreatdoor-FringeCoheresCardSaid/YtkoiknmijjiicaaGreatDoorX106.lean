/- Chapter 4: Coherence of the program at right images. -/
import Derived.Test.YtkoiknmijjiicaaGreatDoorX102
import Derived.Deep.CutRange
import Derived.Deep.RegionHeld3
namespace Go.Proofs.YtkoiknmijjiicaaGreatDoor
set_option linter.unusedVariables false
set_option linter.unusedSimpArgs false
open Go.RowKit Ieee Ntt
set_option maxRecDepth 20000 in
set_option maxHeartbeats 8000000 in
theorem coherence_ok (L S : Nat) (n cap : Nat) (f : Nat → Nat × Nat) (a : Option Addr) (n' cap' : Nat) (f' : Nat → Nat × Nat) (a' : Option Addr) (half : Nat) (w : World) (hl : n ≤ 100000) (hl' : n' ≤ 100000) (hd : DataAt w L S n f a) (hd' : DataAt w L S n' f' a') (he : cohE L S n f L S n' f' half = 0) :
    Calls Tryz.prog 8 #[.agg #[.int .i64 L, .int .i64 S, .slice a n cap], .agg #[.int .i64 L, .int .i64 S, .slice a' n' cap'], .int .i64 half] w (CoPost L S n (cohF (intfF (xB f) (yB f) (xB f') (yB f')) (partsF (xB f) (yB f)) (partsF (xB f') (yB f')) L S half) w) := by
  have HE1 := Lib.hid (show ∀ W, Below w.heap.size w W → _ from fun W hW => fImagesErr L S n cap f a L S n' cap' f' a' W hl hl' (hd.below hW) (hd'.below hW) rfl)
  have HE2 := Lib.hid (fun w => fWindowErr (half : Int) w rfl)
  have HF := Lib.hid (show first2 (pairE L S n f L S n' f') (winE half) = 0 from he)
  obtain ⟨e0, ew⟩ := first2_z (show first2 (pairE L S n f L S n' f') (winE half) = 0 from he)
  have hh : half ≤ 4 := by
    unfold winE at ew
    split at ew
    · rename_i h; have := (inE_iff.1 h); omega
    · exact absurd ew (by decide)
  obtain ⟨e1, e2, -, -⟩ := pairE_zero e0
  obtain ⟨s1, g1⟩ := imgE_zero e1
  obtain ⟨s2, g2⟩ := imgE_zero e2
  obtain ⟨⟨hL1, hL⟩, ⟨hS1, hS⟩, hn⟩ := sizeE_okU s1
  obtain ⟨-, -, hn'⟩ := sizeE_okU s2
  obtain rfl : n' = n := by omega
  have hnn : n' = L * S := by exact_mod_cast hn
  obtain ⟨b, off, rfl, hbw, hf⟩ := hd s1
  obtain ⟨b', off', rfl, hbw', hf'⟩ := hd' s2
  have hX : SmallS n' f (xB f) (yB f) 2047 := smallS_of (by decide) g1
  have hU : SmallS n' f' (xB f') (yB f') 2047 := smallS_of (by decide) g2
  have hL1 : 1 ≤ L := by omega
  have hL : L ≤ 64 := by omega
  have hS1 : 1 ≤ S := by omega
  have hS : S ≤ 64 := by omega
  have HN0 := Lib.hid (show 0 < n' by rw [hnn]; exact Nat.mul_pos (by omega) (by omega))
  have hn5 : n' ≤ 5000 := by have := Nat.mul_le_mul hL hS; omega
  have hP1 : SmallP n' (partsF (xB f) (yB f)) 2047 := fun k hk => by
    obtain ⟨-, h1, h2⟩ := hX k hk
    unfold partsF
    dsimp only
    omega
  have hP2 : SmallP n' (partsF (xB f') (yB f')) 2047 := fun k hk => by
    obtain ⟨-, h1, h2⟩ := hU k hk
    unfold partsF
    dsimp only
    omega
  have hP3 : SmallP n' (intfF (xB f) (yB f) (xB f') (yB f')) 8400000 := fun k hk => by
    have := intfF_bd (hX k hk).2 (hU k hk).2
    omega
  have hQ1 : SmallP n' (partsF (xB f) (yB f)) 1000000000 := fun k hk => by have := hP1 k hk; omega
  have hQ2 : SmallP n' (partsF (xB f') (yB f')) 1000000000 := fun k hk => by have := hP2 k hk; omega
  have HSA := Lib.hid (show ∀ W, Below w.heap.size w W → _ from fun W hW => fSamplesOf L S n' cap b off f (xB f) (yB f) W hnn hL1 hL hS1 hS (by have := hW.size; omega) (hf.below hbw hW) hX)
  have HSB := Lib.hid (show ∀ W, Below w.heap.size w W → _ from fun W hW => fSamplesOf L S n' cap' b' off' f' (xB f') (yB f') W hnn hL1 hL hS1 hS (by have := hW.size; omega) (hf'.below hbw' hW) hU)
  have HPR := Lib.hid (products_of (L := L) (S := S) hnn HN0.out hL1 hL hS1 hS hQ1 hQ2)
  have HMA := Lib.hid (coh_map (L := L) (S := S) hnn HN0.out hL hS1 hS half hh hP3 hP1 hP2)
  rw [show prodF (partsF (xB f) (yB f)) (partsF (xB f') (yB f')) = intfF (xB f) (yB f) (xB f') (yB f') from rfl] at HPR
  generalize intfF (xB f) (yB f) (xB f') (yB f') = FZ at *
  generalize partsF (xB f) (yB f) = FX at *
  generalize partsF (xB f') (yB f') = FY at *
  clear hd hd' he e0 e1 e2 ew s1 s2 g1 g2 hn hn' hnn hf hf' hX hU hP1 hP2 hP3 hQ1 hQ2
  generalize pairE L S n' f L S n' f' = y1 at *
  generalize winE (half : Int) = y2 at *
  generalize n' = n at *
  go_enter Tryz.func8, Tryz.ntmps8
  go_wp2
  refine wp_region_calm_tail 5 (by kernel_rfl) (by kernel_rfl) ?_
  simp only [List.take_succ_cons, List.take_zero, List.drop_succ_cons, List.drop_zero]
  repeat (go_big_quiet_step (first | (go_at_call 35; with_reducible exact calm_of (HE1.out _ (by (repeat' (first | with_reducible exact Below.refl _ _ | (with_reducible refine below_later_of ?_ ?_ _) | (with_reducible refine Below.alloc ?_ ?_ _) | (with_reducible refine Below.setCell ?_ ?_ _) | (with_reducible refine Below.drew ?_) | (simp; done) | (simp; omega) | omega))))) | (go_at_call 36; with_reducible exact calm_same (HE2.out _))))
  refine wpQuiet_nil ?_
  rintro _ ⟨pz, rfl⟩
  go_wp2_with (first | (go_at_call 34; refine (fFirst2 _ _ _ _ HF.out (by (first | (simp [go_sem]; done) | simp [go_sem, ↓IntWalk.iteOmega])) (by (first | (simp [go_sem]; done) | simp [go_sem, ↓IntWalk.iteOmega]))).mono ?_; rintro e w' ⟨rfl, rfl⟩))
  refine any_worldF (fun w' => (w'.cell? ⟨w.heap.size, 0, none⟩ = some (.int .i64 L) ∧ w'.cell? ⟨w.heap.size, 1, none⟩ = some (.int .i64 S) ∧ w'.cell? ⟨w.heap.size, 2, none⟩ = some (.slice (some ⟨b, off, none⟩) n cap) ∧ w'.cell? ⟨w.heap.size + 1, 0, none⟩ = some (.int .i64 L) ∧ w'.cell? ⟨w.heap.size + 1, 1, none⟩ = some (.int .i64 S) ∧ w'.cell? ⟨w.heap.size + 1, 2, none⟩ = some (.slice (some ⟨b', off', none⟩) n cap')) ∧ w'.cell? ⟨w.heap.size + 2, 0, none⟩ = some (.int .i64 half) ∧ Below w.heap.size w w' ∧ ((w'.cell? ⟨w.heap.size + 3, 0, none⟩ = some (.int .i64 0) ∧ w'.cell? ⟨w.heap.size + 3, 1, none⟩ = some (.int .i64 0) ∧ w'.cell? ⟨w.heap.size + 3, 2, none⟩ = some (.slice none 0 0)) ∧ w'.frozen? ⟨w.heap.size + 3, 0, none⟩ = false ∧ w'.frozen? ⟨w.heap.size + 3, 1, none⟩ = false ∧ w'.frozen? ⟨w.heap.size + 3, 2, none⟩ = false) ∧ w.heap.size + 3 < w'.heap.size) ⟨⟨(by (first | (simp [go_sem]; done) | simp [go_sem, ↓IntWalk.iteOmega])), (by (first | (simp [go_sem]; done) | simp [go_sem, ↓IntWalk.iteOmega])), (by (first | (simp [go_sem]; done) | simp [go_sem, ↓IntWalk.iteOmega])), (by (first | (simp [go_sem]; done) | simp [go_sem, ↓IntWalk.iteOmega])), (by (first | (simp [go_sem]; done) | simp [go_sem, ↓IntWalk.iteOmega])), (by (first | (simp [go_sem]; done) | simp [go_sem, ↓IntWalk.iteOmega]))⟩, (by (first | (simp [go_sem]; done) | simp [go_sem, ↓IntWalk.iteOmega])), (by (repeat' (first | with_reducible exact Below.refl _ _ | (with_reducible refine below_later_of ?_ ?_ _) | (with_reducible refine Below.alloc ?_ ?_ _) | (with_reducible refine Below.setCell ?_ ?_ _) | (with_reducible refine Below.drew ?_) | (simp; done) | (simp; omega) | omega))), ⟨⟨(by (first | (simp [go_sem]; done) | simp [go_sem, ↓IntWalk.iteOmega])), (by (first | (simp [go_sem]; done) | simp [go_sem, ↓IntWalk.iteOmega])), (by (first | (simp [go_sem]; done) | simp [go_sem, ↓IntWalk.iteOmega]))⟩, (by (first | (simp [go_sem]; done) | simp [go_sem, ↓IntWalk.iteOmega])), (by (first | (simp [go_sem]; done) | simp [go_sem, ↓IntWalk.iteOmega])), (by (first | (simp [go_sem]; done) | simp [go_sem, ↓IntWalk.iteOmega]))⟩, (by first | (simp; done) | (simp <;> omega))⟩ ?_
  rintro W1 ⟨⟨k0, k1, k2, k3, k4, k5⟩, kh, hb1, ⟨⟨r0, r1, r2⟩, f0, f1, f2⟩, hlt1⟩
  have HB1 := Lib.hid hb1
  have hs1 := hb1.size
  have HSA := Lib.hid (show ∀ W, Below W1.heap.size W1 W → _ from fun W hW => HSA.out W (HB1.out.trans (hW.mono hs1)))
  have HSB := Lib.hid (show ∀ W, Below W1.heap.size W1 W → _ from fun W hW => HSB.out W (HB1.out.trans (hW.mono hs1)))
  clear hb1
  go_wp2_with fail
  go_cut [9, 10] from 24 to 27 (fun X Y wx => ∃ B9 a1 c1 B10 a2 c2, X = .pointer (some ⟨B9, 0, none⟩) ∧ Y = .pointer (some ⟨B10, 0, none⟩) ∧ (wx.cell? ⟨B9, 0, none⟩ = some (.int .i64 L) ∧ wx.cell? ⟨B9, 1, none⟩ = some (.int .i64 S) ∧ wx.cell? ⟨B9, 2, none⟩ = some (.slice a1 n c1)) ∧ (wx.cell? ⟨B10, 0, none⟩ = some (.int .i64 L) ∧ wx.cell? ⟨B10, 1, none⟩ = some (.int .i64 S) ∧ wx.cell? ⟨B10, 2, none⟩ = some (.slice a2 n c2)) ∧ OwnPr 0 wx n FX a1 ∧ OwnPr 0 wx n FY a2 ∧ B9 < wx.heap.size ∧ B10 < wx.heap.size ∧ Below W1.heap.size W1 wx)
  case first =>
    go_region_held3 (fun w' => w'.cell? ⟨w.heap.size, 0, none⟩ = some (.int .i64 L) ∧ w'.cell? ⟨w.heap.size, 1, none⟩ = some (.int .i64 S) ∧ w'.cell? ⟨w.heap.size, 2, none⟩ = some (.slice (some ⟨b, off, none⟩) n cap) ∧ w'.cell? ⟨w.heap.size + 1, 0, none⟩ = some (.int .i64 L) ∧ w'.cell? ⟨w.heap.size + 1, 1, none⟩ = some (.int .i64 S) ∧ w'.cell? ⟨w.heap.size + 1, 2, none⟩ = some (.slice (some ⟨b', off', none⟩) n cap')) (exact kb_keep ⟨k0, k1, k2, k3, k4, k5⟩ hlt1 (by (repeat' (first | with_reducible exact Below.refl _ _ | (with_reducible refine below_later_of ?_ ?_ _) | (with_reducible refine Below.alloc ?_ ?_ _) | (with_reducible refine Below.setCell ?_ ?_ _) | (with_reducible refine Below.drew ?_) | (simp; done) | (simp; omega) | omega)))) (first | (go_at_call 37; (with_reducible refine (HSA.out _ (by (repeat' (first | with_reducible exact Below.refl _ _ | (with_reducible refine below_later_of ?_ ?_ _) | (with_reducible refine Below.alloc ?_ ?_ _) | (with_reducible refine Below.setCell ?_ ?_ _) | (with_reducible refine Below.drew ?_) | (simp; done) | (simp; omega) | omega)))).mono ?_); rintro e w' ⟨a1, c1, rfl, ho, -, hb⟩; have HO1 := Lib.hid ho; clear ho; obtain ⟨p1, rfl⟩ := later_of_below hb; clear hb) | (go_at_call 37; (with_reducible refine (HSB.out _ (by (repeat' (first | with_reducible exact Below.refl _ _ | (with_reducible refine below_later_of ?_ ?_ _) | (with_reducible refine Below.alloc ?_ ?_ _) | (with_reducible refine Below.setCell ?_ ?_ _) | (with_reducible refine Below.drew ?_) | (simp; done) | (simp; omega) | omega)))).mono ?_); rintro e w' ⟨a2, c2, rfl, ho, -, hb⟩; have HO2 := Lib.hid ho; clear ho; obtain ⟨p2, rfl⟩ := later_of_below hb; clear hb))
    all_goals
      rename_i hheld
      clear hheld
      go_wp2_with fail
      go_meet
      clear hh hL1 hL hS1 hS hbw hbw' HE1 HE2 HF HSA HSB HPR HMA hn5 hl hl' kh r0 r1 r2 f0 f1 f2 k0 k1 k2 k3 k4 k5 HB1 hs1 HN0
      refine ⟨_, a1, c1, _, a2, c2, rfl, rfl, ⟨(by (first | (simp [go_sem]; done) | simp [go_sem, ↓IntWalk.iteOmega])), (by (first | (simp [go_sem]; done) | simp [go_sem, ↓IntWalk.iteOmega])), (by (first | (simp [go_sem]; done) | simp [go_sem, ↓IntWalk.iteOmega]))⟩, ⟨(by (first | (simp [go_sem]; done) | simp [go_sem, ↓IntWalk.iteOmega])), (by (first | (simp [go_sem]; done) | simp [go_sem, ↓IntWalk.iteOmega])), (by (first | (simp [go_sem]; done) | simp [go_sem, ↓IntWalk.iteOmega]))⟩, ?_, ?_, (by (first | omega | (simp only [size_later, sz_alloc, sz_set, sz_drew]; omega))), (by (first | omega | (simp only [size_later, sz_alloc, sz_set, sz_drew]; omega))), (by (repeat' (first | with_reducible exact Below.refl _ _ | (with_reducible refine below_later_of ?_ ?_ _) | (with_reducible refine Below.alloc ?_ ?_ _) | (with_reducible refine Below.setCell ?_ ?_ _) | (with_reducible refine Below.drew ?_) | (simp; done) | (simp; omega) | omega)))⟩
      · refine OwnPr2.own (B := ?_) (C := ?_) ?_ ?_
        rotate_left 2
        · (repeat' (first | (with_reducible exact OwnPr2.of HO1.out) | (with_reducible exact OwnPr2.of HO2.out) | (with_reducible refine OwnPr2.set ?_ ?_ _) | (with_reducible refine OwnPr2.later ?_ ?_ _) | (with_reducible refine OwnPr2.alloc ?_ ?_ _) | (simp only [size_later, sz_alloc, sz_set, sz_drew]; omega) | omega))
        · (first | omega | (simp only [size_later, sz_alloc, sz_set, sz_drew]; omega))
      · refine OwnPr2.own (B := ?_) (C := ?_) ?_ ?_
        rotate_left 2
        · (repeat' (first | (with_reducible exact OwnPr2.of HO1.out) | (with_reducible exact OwnPr2.of HO2.out) | (with_reducible refine OwnPr2.set ?_ ?_ _) | (with_reducible refine OwnPr2.later ?_ ?_ _) | (with_reducible refine OwnPr2.alloc ?_ ?_ _) | (simp only [size_later, sz_alloc, sz_set, sz_drew]; omega) | omega))
        · (first | omega | (simp only [size_later, sz_alloc, sz_set, sz_drew]; omega))
  case rest =>
    obtain ⟨B9, a1, c1, B10, a2, c2, rfl, rfl, ⟨x0, x1, x2⟩, ⟨y0, y1, y2⟩, ho1, ho2, hB9, hB10, hb⟩ := hcut
    obtain ⟨W3, hW3⟩ : ∃ W3 : World, W3 = wc := ⟨_, rfl⟩
    subst hW3
    have hs3 := hb.size
    have HB3 := Lib.hid (HB1.out.trans (hb.mono hs1))
    have HO1 := Lib.hid ho1
    have HO2 := Lib.hid ho2
    replace k0 := (hb.cell (p := ⟨w.heap.size, 0, none⟩) (by simp; omega)).trans k0
    replace k1 := (hb.cell (p := ⟨w.heap.size, 1, none⟩) (by simp; omega)).trans k1
    replace k2 := (hb.cell (p := ⟨w.heap.size, 2, none⟩) (by simp; omega)).trans k2
    replace kh := (hb.cell (p := ⟨w.heap.size + 2, 0, none⟩) (by simp; omega)).trans kh
    replace r0 := (hb.cell (p := ⟨w.heap.size + 3, 0, none⟩) (by simp; omega)).trans r0
    replace r1 := (hb.cell (p := ⟨w.heap.size + 3, 1, none⟩) (by simp; omega)).trans r1
    replace r2 := (hb.cell (p := ⟨w.heap.size + 3, 2, none⟩) (by simp; omega)).trans r2
    replace f0 := (hb.frozen (p := ⟨w.heap.size + 3, 0, none⟩) (by simp; omega)).trans f0
    replace f1 := (hb.frozen (p := ⟨w.heap.size + 3, 1, none⟩) (by simp; omega)).trans f1
    replace f2 := (hb.frozen (p := ⟨w.heap.size + 3, 2, none⟩) (by simp; omega)).trans f2
    have hw3 : w.heap.size + 3 < W3.heap.size := by omega
    clear hb ho1 ho2 HSA HSB k3 k4 k5
    have k3 := True.intro
    have k4 := True.intro
    have k5 := True.intro
    go_wp2_with (first | (go_at_call 38; (with_reducible refine (HPR.out _ _ _ _ _ HO1.out (by (repeat' (first | with_reducible exact Below.refl _ _ | (with_reducible refine below_later_of ?_ ?_ _) | (with_reducible refine Below.alloc ?_ ?_ _) | (with_reducible refine Below.setCell ?_ ?_ _) | (with_reducible refine Below.drew ?_) | (simp; done) | (simp; omega) | omega))) HO2.out (by (repeat' (first | with_reducible exact Below.refl _ _ | (with_reducible refine below_later_of ?_ ?_ _) | (with_reducible refine Below.alloc ?_ ?_ _) | (with_reducible refine Below.setCell ?_ ?_ _) | (with_reducible refine Below.drew ?_) | (simp; done) | (simp; omega) | omega)))).mono ?_); rintro e w' ⟨a3, c3, rfl, ho, -, hb⟩; have HO3 := Lib.hid ho; clear ho; obtain ⟨p3, rfl⟩ := later_of_below hb; clear hb) | (go_at_call 39; (with_reducible refine (HMA.out _ _ _ _ c1 c2 c3 _ _ _ _ HO3.out (by (repeat' (first | with_reducible exact Below.refl _ _ | (with_reducible refine below_later_of ?_ ?_ _) | (with_reducible refine Below.alloc ?_ ?_ _) | (with_reducible refine Below.setCell ?_ ?_ _) | (with_reducible refine Below.drew ?_) | (simp; done) | (simp; omega) | omega))) HO1.out (by (repeat' (first | with_reducible exact Below.refl _ _ | (with_reducible refine below_later_of ?_ ?_ _) | (with_reducible refine Below.alloc ?_ ?_ _) | (with_reducible refine Below.setCell ?_ ?_ _) | (with_reducible refine Below.drew ?_) | (simp; done) | (simp; omega) | omega))) HO2.out (by (repeat' (first | with_reducible exact Below.refl _ _ | (with_reducible refine below_later_of ?_ ?_ _) | (with_reducible refine Below.alloc ?_ ?_ _) | (with_reducible refine Below.setCell ?_ ?_ _) | (with_reducible refine Below.drew ?_) | (simp; done) | (simp; omega) | omega))) (by (first | (simp [go_sem, k0, k1, k2, k3, k4, k5, kh, x0, x1, x2, y0, y1, y2]; done) | simp [go_sem, k0, k1, k2, k3, k4, k5, kh, x0, x1, x2, y0, y1, y2, ↓IntWalk.iteOmega])) (by (first | (simp [go_sem, k0, k1, k2, k3, k4, k5, kh, x0, x1, x2, y0, y1, y2]; done) | simp [go_sem, k0, k1, k2, k3, k4, k5, kh, x0, x1, x2, y0, y1, y2, ↓IntWalk.iteOmega])) (by (first | (simp [go_sem, k0, k1, k2, k3, k4, k5, kh, x0, x1, x2, y0, y1, y2]; done) | simp [go_sem, k0, k1, k2, k3, k4, k5, kh, x0, x1, x2, y0, y1, y2, ↓IntWalk.iteOmega])) (by (first | (simp [go_sem, k0, k1, k2, k3, k4, k5, kh, x0, x1, x2, y0, y1, y2]; done) | simp [go_sem, k0, k1, k2, k3, k4, k5, kh, x0, x1, x2, y0, y1, y2, ↓IntWalk.iteOmega])) (by (first | (simp [go_sem, k0, k1, k2, k3, k4, k5, kh, x0, x1, x2, y0, y1, y2]; done) | simp [go_sem, k0, k1, k2, k3, k4, k5, kh, x0, x1, x2, y0, y1, y2, ↓IntWalk.iteOmega])) (by (first | (simp [go_sem, k0, k1, k2, k3, k4, k5, kh, x0, x1, x2, y0, y1, y2]; done) | simp [go_sem, k0, k1, k2, k3, k4, k5, kh, x0, x1, x2, y0, y1, y2, ↓IntWalk.iteOmega])) (by (first | (simp [go_sem, k0, k1, k2, k3, k4, k5, kh, x0, x1, x2, y0, y1, y2]; done) | simp [go_sem, k0, k1, k2, k3, k4, k5, kh, x0, x1, x2, y0, y1, y2, ↓IntWalk.iteOmega])) (by (first | (simp [go_sem, k0, k1, k2, k3, k4, k5, kh, x0, x1, x2, y0, y1, y2]; done) | simp [go_sem, k0, k1, k2, k3, k4, k5, kh, x0, x1, x2, y0, y1, y2, ↓IntWalk.iteOmega])) (by (first | (simp [go_sem, k0, k1, k2, k3, k4, k5, kh, x0, x1, x2, y0, y1, y2]; done) | simp [go_sem, k0, k1, k2, k3, k4, k5, kh, x0, x1, x2, y0, y1, y2, ↓IntWalk.iteOmega])) (by (first | (simp [go_sem, k0, k1, k2, k3, k4, k5, kh, x0, x1, x2, y0, y1, y2]; done) | simp [go_sem, k0, k1, k2, k3, k4, k5, kh, x0, x1, x2, y0, y1, y2, ↓IntWalk.iteOmega]))).mono ?_); rintro e w' ⟨a4, c4, rfl, ho, hb⟩; have HO4 := Lib.hid ho; clear ho; obtain ⟨p4, rfl⟩ := later_of_below hb; clear hb))
    refine bodyPost_ret (v := .tuple #[.agg #[.int .i64 L, .int .i64 S, .slice a4 n c4], .int .i64 0]) ?_ rfl ⟨a4, c4, rfl, ?_, ?_⟩
    · first | (simp [results, Tryz.results8, go_sem]; done) | simp [results, Tryz.results8, go_sem, r0, r1, r2, ↓IntWalk.iteOmega]
    · exact OwnFV.mono (OwnFV.set (OwnFV.set (OwnFV.set (HO4.out.below (by (repeat' (first | with_reducible exact Below.refl _ _ | (with_reducible refine below_later_of ?_ ?_ _) | (with_reducible refine Below.alloc ?_ ?_ _) | (with_reducible refine Below.setCell ?_ ?_ _) | (with_reducible refine Below.drew ?_) | (simp; done) | (simp; omega) | omega)))) (by simp <;> omega) _) (by simp <;> omega) _) (by simp <;> omega) _) (by simp <;> omega)
    · refine Below.setCell (Below.setCell (Below.setCell (HB3.out.trans (below_mono_of HB3.out.size (by (repeat' (first | with_reducible exact Below.refl _ _ | (with_reducible refine below_later_of ?_ ?_ _) | (with_reducible refine Below.alloc ?_ ?_ _) | (with_reducible refine Below.setCell ?_ ?_ _) | (with_reducible refine Below.drew ?_) | (simp; done) | (simp; omega) | omega))))) ?_ _) ?_ _) ?_ _
      all_goals (first | (simp; done) | (simp <;> omega))
end Go.Proofs.YtkoiknmijjiicaaGreatDoor
