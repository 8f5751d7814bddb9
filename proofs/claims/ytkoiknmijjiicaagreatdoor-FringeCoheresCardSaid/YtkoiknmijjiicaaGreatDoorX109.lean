/- Chapter 4: the law FringeCoheres returns true. -/
import Derived.Test.YtkoiknmijjiicaaGreatDoorX108
import Derived.Test.YtkoiknmijjiicaaGreatDoorXP
import Derived.Deep.CutRange
import Derived.Deep.RegionHeld3
namespace Go.Proofs.YtkoiknmijjiicaaGreatDoor
set_option linter.unusedVariables false
set_option linter.unusedSimpArgs false
open Go.RowKit Ieee Ntt
theorem winE_val (half : Int) : winE half = if inE 0 4 half = true then 0 else 2 := by unfold winE; rfl
set_option maxRecDepth 20000 in
set_option maxHeartbeats 40000000 in
theorem coheres_any (x y : Scn) (half : Int) (w : World) (hx : x.At w) (hy : y.At w) (ht : Tab w) :
    Calls Tryz.prog 3 #[.agg #[.int .i64 x.L, .int .i64 x.S, .slice x.pa x.m x.pc, .slice x.ca x.mc x.cc], .agg #[.int .i64 y.L, .int .i64 y.S, .slice y.pa y.m y.pc, .slice y.ca y.mc y.cc], .int .i64 half] w fun e w' => e = .returned (.bool true) ∧ Below w.heap.size w w' := by
  have HT := Lib.hid ht
  clear ht
  rcases (show smallB x = false ∨ smallB x = true by cases smallB x <;> simp) with hq | hq
  · have HSX := Lib.hid (fun w => lSmall x w hq)
    clear hx hy hq
    go_enter Tryz.func3, Tryz.ntmps3
    go_wp2_with (first | (go_at_call 6; (with_reducible refine (awake4 _ (HT.out.below (by (repeat' (first | with_reducible exact Below.refl _ _ | (with_reducible refine below_later_of ?_ ?_ _) | (with_reducible refine Below.alloc ?_ ?_ _) | (with_reducible refine Below.setCell ?_ ?_ _) | (with_reducible refine Below.drew ?_) | (simp; done) | (simp; omega) | omega))))).mono ?_); rintro e w' ⟨rfl, hb⟩; obtain ⟨pp, rfl⟩ := later_of_below hb; clear hb) | (go_at_call 7; (with_reducible refine (HSX.out _).mono ?_); rintro e w' ⟨rfl, hb⟩; obtain ⟨pp2, rfl⟩ := later_of_below hb; clear hb))
    go_ret
    exact ⟨rfl, (by (repeat' (first | with_reducible exact Below.refl _ _ | (with_reducible refine below_later_of ?_ ?_ _) | (with_reducible refine Below.alloc ?_ ?_ _) | (with_reducible refine Below.setCell ?_ ?_ _) | (with_reducible refine Below.drew ?_) | (simp; done) | (simp; omega) | omega)))⟩
  · have HSX := Lib.hid (fun w => lSmall x w hq)
    obtain ⟨q1, q2⟩ := smallB_ok hq
    rcases (show smallB y = false ∨ smallB y = true by cases smallB y <;> simp) with hr | hr
    · have HSY := Lib.hid (fun w => lSmall y w hr)
      clear hx hy hq hr
      go_enter Tryz.func3, Tryz.ntmps3
      go_wp2_with (first | (go_at_call 6; (with_reducible refine (awake4 _ (HT.out.below (by (repeat' (first | with_reducible exact Below.refl _ _ | (with_reducible refine below_later_of ?_ ?_ _) | (with_reducible refine Below.alloc ?_ ?_ _) | (with_reducible refine Below.setCell ?_ ?_ _) | (with_reducible refine Below.drew ?_) | (simp; done) | (simp; omega) | omega))))).mono ?_); rintro e w' ⟨rfl, hb⟩; obtain ⟨pp, rfl⟩ := later_of_below hb; clear hb) | (go_at_call 7; (with_reducible refine (HSX.out _).mono ?_); rintro e w' ⟨rfl, hb⟩; obtain ⟨pp2, rfl⟩ := later_of_below hb; clear hb) | (go_at_call 7; (with_reducible refine (HSY.out _).mono ?_); rintro e w' ⟨rfl, hb⟩; obtain ⟨pp3, rfl⟩ := later_of_below hb; clear hb))
      go_ret
      exact ⟨rfl, (by (repeat' (first | with_reducible exact Below.refl _ _ | (with_reducible refine below_later_of ?_ ?_ _) | (with_reducible refine Below.alloc ?_ ?_ _) | (with_reducible refine Below.setCell ?_ ?_ _) | (with_reducible refine Below.drew ?_) | (simp; done) | (simp; omega) | omega)))⟩
    · have HSY := Lib.hid (fun w => lSmall y w hr)
      obtain ⟨r1, r2⟩ := smallB_ok hr
      have HIX0 := Lib.hid (show ∀ W, Below w.heap.size w W → _ from fun W hW => lImage x W (by omega) (hx.below hW))
      have HIY0 := Lib.hid (show ∀ W, Below w.heap.size w W → _ from fun W hW => lImage y W (by omega) (hy.below hW))
      obtain ⟨E0, hE0⟩ : ∃ E, scnE x y = E := ⟨_, rfl⟩
      obtain ⟨E, hE⟩ : ∃ E, cohE x.L x.S (x.m / 2) (smp x.p) y.L y.S (y.m / 2) (smp y.p) half = E := ⟨_, rfl⟩
      have hE1 : pairE x.L x.S (x.m / 2) (smp x.p) y.L y.S (y.m / 2) (smp y.p) = E0 := hE0
      have HE := Lib.hid hE
      have HE1 := Lib.hid hE1
      obtain ⟨ib, hib⟩ : ∃ ib, inE 0 4 half = ib := ⟨_, rfl⟩
      have hE2 : E = if E0 = 0 then (if ib = true then 0 else 2) else E0 := by
        rw [← hE]
        unfold cohE first2
        rw [hE1, winE_val, hib]
      have HIW := Lib.hid (fun w => rIsWindow half w hib)
      have HPA := Lib.hid (show ∀ W, Below w.heap.size w W → _ from fun W hW => lPair x y W (hx.below hW) (hy.below hW) (by omega) (by omega) hE0)
      obtain ⟨ds, hds⟩ : ∃ ds, cohD x.L x.S (x.m / 2) (smp x.p) (smp y.p) half = ds := ⟨_, rfl⟩
      have HDS := Lib.hid hds
      clear hq hr hE hE0 hE1 hx hy hds hib
      go_enter Tryz.func3, Tryz.ntmps3
      go_wp2_with (first | (go_at_call 6; (with_reducible refine (awake4 _ (HT.out.below (by (repeat' (first | with_reducible exact Below.refl _ _ | (with_reducible refine below_later_of ?_ ?_ _) | (with_reducible refine Below.alloc ?_ ?_ _) | (with_reducible refine Below.setCell ?_ ?_ _) | (with_reducible refine Below.drew ?_) | (simp; done) | (simp; omega) | omega))))).mono ?_); rintro e w' ⟨rfl, hb⟩; obtain ⟨pp, rfl⟩ := later_of_below hb; clear hb) | (go_at_call 7; (with_reducible refine (HSX.out _).mono ?_); rintro e w' ⟨rfl, hb⟩; obtain ⟨pp2, rfl⟩ := later_of_below hb; clear hb) | (go_at_call 7; (with_reducible refine (HSY.out _).mono ?_); rintro e w' ⟨rfl, hb⟩; obtain ⟨pp3, rfl⟩ := later_of_below hb; clear hb))
      refine any_worldF (fun w' => (w'.cell? ⟨w.heap.size, 0, none⟩ = some (.int .i64 x.L) ∧ w'.cell? ⟨w.heap.size, 1, none⟩ = some (.int .i64 x.S) ∧ w'.cell? ⟨w.heap.size, 2, none⟩ = some (.slice x.pa x.m x.pc) ∧ w'.cell? ⟨w.heap.size, 3, none⟩ = some (.slice x.ca x.mc x.cc)) ∧ (w'.cell? ⟨w.heap.size + 1, 0, none⟩ = some (.int .i64 y.L) ∧ w'.cell? ⟨w.heap.size + 1, 1, none⟩ = some (.int .i64 y.S) ∧ w'.cell? ⟨w.heap.size + 1, 2, none⟩ = some (.slice y.pa y.m y.pc) ∧ w'.cell? ⟨w.heap.size + 1, 3, none⟩ = some (.slice y.ca y.mc y.cc)) ∧ Below w.heap.size w w' ∧ w.heap.size + 1 < w'.heap.size) ⟨⟨(by (first | (simp [go_sem]; done) | simp [go_sem, ↓IntWalk.iteOmega])), (by (first | (simp [go_sem]; done) | simp [go_sem, ↓IntWalk.iteOmega])), (by (first | (simp [go_sem]; done) | simp [go_sem, ↓IntWalk.iteOmega])), (by (first | (simp [go_sem]; done) | simp [go_sem, ↓IntWalk.iteOmega]))⟩, ⟨(by (first | (simp [go_sem]; done) | simp [go_sem, ↓IntWalk.iteOmega])), (by (first | (simp [go_sem]; done) | simp [go_sem, ↓IntWalk.iteOmega])), (by (first | (simp [go_sem]; done) | simp [go_sem, ↓IntWalk.iteOmega])), (by (first | (simp [go_sem]; done) | simp [go_sem, ↓IntWalk.iteOmega]))⟩, (by (repeat' (first | with_reducible exact Below.refl _ _ | (with_reducible refine below_later_of ?_ ?_ _) | (with_reducible refine Below.alloc ?_ ?_ _) | (with_reducible refine Below.setCell ?_ ?_ _) | (with_reducible refine Below.drew ?_) | (simp; done) | (simp; omega) | omega))), by simp; omega⟩ ?_
      rintro W1 ⟨⟨k0, k1, k2, k3⟩, ⟨j0, j1, j2, j3⟩, hb1, hlt1⟩
      have HB1 := Lib.hid hb1
      have hs1 := hb1.size
      have HIX := Lib.hid (show ∀ W, Below W1.heap.size W1 W → _ from fun W hW => HIX0.out W (HB1.out.trans (hW.mono hs1)))
      have HIY := Lib.hid (show ∀ W, Below W1.heap.size W1 W → _ from fun W hW => HIY0.out W (HB1.out.trans (hW.mono hs1)))
      clear hb1
      have HE2 := Lib.hid hE2
      clear hE2
      go_wp2_with fail
      go_cut [7, 8] from 22 to 31 (fun X Y wx => ∃ B l s n' a c, X = .pointer (some ⟨B, 0, none⟩) ∧ Y = .int .i64 E ∧ ImgBlk wx B l s a n' c ∧ CoSay wx 0 x.L x.S (x.m / 2) ds E l s n' a c ∧ B < wx.heap.size ∧ Below W1.heap.size W1 wx)
      case first =>
        go_region_held3 (fun w' => w'.cell? ⟨w.heap.size, 0, none⟩ = some (.int .i64 x.L) ∧ w'.cell? ⟨w.heap.size, 1, none⟩ = some (.int .i64 x.S) ∧ w'.cell? ⟨w.heap.size, 2, none⟩ = some (.slice x.pa x.m x.pc) ∧ w'.cell? ⟨w.heap.size, 3, none⟩ = some (.slice x.ca x.mc x.cc) ∧ w'.cell? ⟨w.heap.size + 1, 0, none⟩ = some (.int .i64 y.L) ∧ w'.cell? ⟨w.heap.size + 1, 1, none⟩ = some (.int .i64 y.S) ∧ w'.cell? ⟨w.heap.size + 1, 2, none⟩ = some (.slice y.pa y.m y.pc) ∧ w'.cell? ⟨w.heap.size + 1, 3, none⟩ = some (.slice y.ca y.mc y.cc)) (first | exact ⟨k0, k1, k2, k3, j0, j1, j2, j3⟩ | ((first | (simp [go_sem, k0, k1, k2, k3, j0, j1, j2, j3]; done) | simp [go_sem, k0, k1, k2, k3, j0, j1, j2, j3, ↓IntWalk.iteOmega]); done)) (first | (go_at_call 9; (with_reducible refine (HIX.out _ (by (repeat' (first | with_reducible exact Below.refl _ _ | (with_reducible refine below_later_of ?_ ?_ _) | (with_reducible refine Below.alloc ?_ ?_ _) | (with_reducible refine Below.setCell ?_ ?_ _) | (with_reducible refine Below.drew ?_) | (simp; done) | (simp; omega) | omega)))).mono ?_); rintro e w' ⟨a1, c1, rfl, ha, -, hb⟩; have HA1 := Lib.hid ha; clear ha; obtain ⟨q1, rfl⟩ := later_of_below hb; clear hb) | (go_at_call 9; (with_reducible refine (HIY.out _ (by (repeat' (first | with_reducible exact Below.refl _ _ | (with_reducible refine below_later_of ?_ ?_ _) | (with_reducible refine Below.alloc ?_ ?_ _) | (with_reducible refine Below.setCell ?_ ?_ _) | (with_reducible refine Below.drew ?_) | (simp; done) | (simp; omega) | omega)))).mono ?_); rintro e w' ⟨a2, c2, rfl, ha, -, hb⟩; have HA2 := Lib.hid ha; clear ha; obtain ⟨q2, rfl⟩ := later_of_below hb; clear hb) | (go_at_call 8; (with_reducible refine (coh_det x.L x.S (x.m / 2) c1 (smp x.p) a1 y.L y.S (y.m / 2) c2 (smp y.p) a2 half _ (by omega) (by omega) (dataAt_own HA1.out (by (repeat' (first | with_reducible exact Below.refl _ _ | (with_reducible refine below_later_of ?_ ?_ _) | (with_reducible refine Below.alloc ?_ ?_ _) | (with_reducible refine Below.setCell ?_ ?_ _) | (with_reducible refine Below.drew ?_) | (simp; done) | (simp; omega) | omega)))) (dataAt_own HA2.out (by (repeat' (first | with_reducible exact Below.refl _ _ | (with_reducible refine below_later_of ?_ ?_ _) | (with_reducible refine Below.alloc ?_ ?_ _) | (with_reducible refine Below.setCell ?_ ?_ _) | (with_reducible refine Below.drew ?_) | (simp; done) | (simp; omega) | omega)))) HE.out).mono ?_); rintro e w' ⟨l5, s5, n5, a5, c5, rfl, hok, hb⟩; have HOK := Lib.hid hok; clear hok; obtain ⟨q3, rfl⟩ := later_of_below hb; clear hb))
        all_goals
          rename_i hheld
          clear hheld
          go_wp2_with fail
          go_meet
          have HOK9 := HOK.out
          rw [HDS.out] at HOK9
          refine ⟨_, l5, s5, n5, a5, c5, rfl, rfl, ⟨(by (first | (simp [go_sem]; done) | simp [go_sem, ↓IntWalk.iteOmega])), (by (first | (simp [go_sem]; done) | simp [go_sem, ↓IntWalk.iteOmega])), (by (first | (simp [go_sem]; done) | simp [go_sem, ↓IntWalk.iteOmega]))⟩, ?_, by simp <;> omega, (by (repeat' (first | with_reducible exact Below.refl _ _ | (with_reducible refine below_later_of ?_ ?_ _) | (with_reducible refine Below.alloc ?_ ?_ _) | (with_reducible refine Below.setCell ?_ ?_ _) | (with_reducible refine Below.drew ?_) | (simp; done) | (simp; omega) | omega)))⟩
          first
            | (refine (HOK9.below ?_).mono (Nat.zero_le _); (repeat' (first | with_reducible exact Below.refl _ _ | (with_reducible refine below_later_of ?_ ?_ _) | (with_reducible refine Below.alloc ?_ ?_ _) | (with_reducible refine Below.setCell ?_ ?_ _) | (with_reducible refine Below.drew ?_) | (simp; done) | (simp; omega) | omega)); done)
            | (refine (CoSay.set (CoSay.set (CoSay.set HOK9 ?_ _) ?_ _) ?_ _).mono (Nat.zero_le _) <;> simp <;> omega)
      case rest =>
        obtain ⟨B5, l, s, n', aq, cq, rfl, rfl, hi5, hok, hB5, hb⟩ := hcut
        obtain ⟨W3, hW3⟩ : ∃ W3 : World, W3 = wc := ⟨_, rfl⟩
        subst hW3
        have hs3 := hb.size
        have HB3 := Lib.hid (HB1.out.trans (hb.mono hs1))
        have m0 := (hb.cell (p := ⟨w.heap.size, 0, none⟩) (by simp; omega)).trans k0
        have m1 := (hb.cell (p := ⟨w.heap.size, 1, none⟩) (by simp; omega)).trans k1
        have m2 := (hb.cell (p := ⟨w.heap.size, 2, none⟩) (by simp; omega)).trans k2
        have m3 := (hb.cell (p := ⟨w.heap.size, 3, none⟩) (by simp; omega)).trans k3
        have n0 := (hb.cell (p := ⟨w.heap.size + 1, 0, none⟩) (by simp; omega)).trans j0
        have n1 := (hb.cell (p := ⟨w.heap.size + 1, 1, none⟩) (by simp; omega)).trans j1
        have n2 := (hb.cell (p := ⟨w.heap.size + 1, 2, none⟩) (by simp; omega)).trans j2
        have n3 := (hb.cell (p := ⟨w.heap.size + 1, 3, none⟩) (by simp; omega)).trans j3
        have HPA := Lib.hid (show ∀ W, Below W3.heap.size W3 W → _ from fun W hW => HPA.out W (HB3.out.trans (hW.mono HB3.out.size)))
        obtain ⟨i0, i1, i2⟩ := hi5
        have hw3 : w.heap.size + 1 < W3.heap.size := by omega
        have hE2 := HE2.out
        clear HE2
        by_cases hE0 : E0 = 0
        · subst hE0
          rw [if_pos rfl] at hE2
          cases ib
          · rw [if_neg (by decide)] at hE2
            subst hE2
            obtain ⟨rfl, rfl, rfl⟩ := hok.bad (by decide)
            clear hok hb k0 k1 k2 k3 j0 j1 j2 j3 HE HE1
            go_wp2_with (first | (go_at_call 10; (with_reducible refine (HPA.out _ (by (repeat' (first | with_reducible exact Below.refl _ _ | (with_reducible refine below_later_of ?_ ?_ _) | (with_reducible refine Below.alloc ?_ ?_ _) | (with_reducible refine Below.setCell ?_ ?_ _) | (with_reducible refine Below.drew ?_) | (simp; done) | (simp; omega) | omega)))).mono ?_); rintro e w' ⟨rfl, hb⟩; obtain ⟨q4, rfl⟩ := later_of_below hb; clear hb) | (go_at_call 11; (with_reducible refine (HIW.out _).mono ?_); rintro e w' ⟨rfl, rfl⟩) | (go_at_call 12; (with_reducible refine (lNoFloats _ _ _).mono ?_); rintro e w' ⟨rfl, hb⟩; obtain ⟨q5, rfl⟩ := later_of_below hb; clear hb))
            go_ret
            exact ⟨ret_bool (by simp), HB3.out.trans (below_mono_of HB3.out.size (by (repeat' (first | with_reducible exact Below.refl _ _ | (with_reducible refine below_later_of ?_ ?_ _) | (with_reducible refine Below.alloc ?_ ?_ _) | (with_reducible refine Below.setCell ?_ ?_ _) | (with_reducible refine Below.drew ?_) | (simp; done) | (simp; omega) | omega))))⟩
          · rw [if_pos rfl] at hE2
            subst hE2
            obtain ⟨rfl, rfl, rfl, hown⟩ := hok.ok rfl
            obtain ⟨e1, e2, hLL, hSS⟩ := pairE_zero HE1.out
            obtain ⟨s1, g1⟩ := imgE_zero e1
            obtain ⟨s2, g2⟩ := imgE_zero e2
            obtain ⟨⟨l1, l2⟩, ⟨l3, l4⟩, hn⟩ := sizeE_okU s1
            obtain ⟨-, -, hn'⟩ := sizeE_okU s2
            have hnn : y.m / 2 = x.m / 2 := by
              have e : x.L * x.S = y.L * y.S := by rw [hLL, hSS]
              omega
            have HE3 := Lib.hid (show cohE x.L x.S (x.m / 2) (smp x.p) x.L x.S (y.m / 2) (smp y.p) half = 0 by have := HE.out; rw [← hLL, ← hSS] at this; exact this)
            have ew : winE half = 0 := (first2_z (show first2 (pairE x.L x.S (x.m / 2) (smp x.p) y.L y.S (y.m / 2) (smp y.p)) (winE half) = 0 from HE.out)).2
            have HE2 := Lib.hid (show cohE y.L y.S (y.m / 2) (smp y.p) x.L x.S (x.m / 2) (smp x.p) half = 0 by unfold cohE pairE; rw [e1, e2, ew]; simp [first2, hLL, hSS])
            have HD2 := Lib.hid (show cohD y.L y.S (y.m / 2) (smp y.p) (smp x.p) half = ds by rw [cohD_swap, ← hLL, ← hSS, hnn]; exact HDS.out)
            have HLY := Lib.hid (show y.L = x.L ∧ y.S = x.S ∧ y.m / 2 = x.m / 2 from ⟨hLL.symm, hSS.symm, hnn⟩)
            have hn5 : x.m / 2 ≤ 5000 := by omega
            have HNN := Lib.hid hnn
            clear hnn hLL hSS hok e1 e2 s1 s2 g1 g2 l1 l2 l3 l4 hn hn' ew k0 k1 k2 k3 j0 j1 j2 j3
            have HFQ0 := Lib.hid hown
            clear hown
            go_wp2_with (first | (go_at_call 10; (with_reducible refine (HPA.out _ (by (repeat' (first | with_reducible exact Below.refl _ _ | (with_reducible refine below_later_of ?_ ?_ _) | (with_reducible refine Below.alloc ?_ ?_ _) | (with_reducible refine Below.setCell ?_ ?_ _) | (with_reducible refine Below.drew ?_) | (simp; done) | (simp; omega) | omega)))).mono ?_); rintro e w' ⟨rfl, hb⟩; obtain ⟨q4, rfl⟩ := later_of_below hb; clear hb) | (go_at_call 11; (with_reducible refine (HIW.out _).mono ?_); rintro e w' ⟨rfl, rfl⟩))
            refine any_worldF (fun w' => (w'.cell? ⟨w.heap.size, 0, none⟩ = some (.int .i64 x.L) ∧ w'.cell? ⟨w.heap.size, 1, none⟩ = some (.int .i64 x.S) ∧ w'.cell? ⟨w.heap.size, 2, none⟩ = some (.slice x.pa x.m x.pc) ∧ w'.cell? ⟨w.heap.size, 3, none⟩ = some (.slice x.ca x.mc x.cc)) ∧ (w'.cell? ⟨w.heap.size + 1, 0, none⟩ = some (.int .i64 y.L) ∧ w'.cell? ⟨w.heap.size + 1, 1, none⟩ = some (.int .i64 y.S) ∧ w'.cell? ⟨w.heap.size + 1, 2, none⟩ = some (.slice y.pa y.m y.pc) ∧ w'.cell? ⟨w.heap.size + 1, 3, none⟩ = some (.slice y.ca y.mc y.cc)) ∧ (w'.cell? ⟨B5, 0, none⟩ = some (.int .i64 x.L) ∧ w'.cell? ⟨B5, 1, none⟩ = some (.int .i64 x.S) ∧ w'.cell? ⟨B5, 2, none⟩ = some (.slice aq (x.m / 2) cq)) ∧ FlV w' (.slice aq (x.m / 2) cq) ds ∧ Below w.heap.size w w' ∧ (w.heap.size + 1 < w'.heap.size ∧ B5 < w'.heap.size)) ⟨⟨(by (first | (simp [go_sem, m0, m1, m2, m3, n0, n1, n2, n3, i0, i1, i2]; done) | simp [go_sem, m0, m1, m2, m3, n0, n1, n2, n3, i0, i1, i2, ↓IntWalk.iteOmega])), (by (first | (simp [go_sem, m0, m1, m2, m3, n0, n1, n2, n3, i0, i1, i2]; done) | simp [go_sem, m0, m1, m2, m3, n0, n1, n2, n3, i0, i1, i2, ↓IntWalk.iteOmega])), (by (first | (simp [go_sem, m0, m1, m2, m3, n0, n1, n2, n3, i0, i1, i2]; done) | simp [go_sem, m0, m1, m2, m3, n0, n1, n2, n3, i0, i1, i2, ↓IntWalk.iteOmega])), (by (first | (simp [go_sem, m0, m1, m2, m3, n0, n1, n2, n3, i0, i1, i2]; done) | simp [go_sem, m0, m1, m2, m3, n0, n1, n2, n3, i0, i1, i2, ↓IntWalk.iteOmega]))⟩, ⟨(by (first | (simp [go_sem, m0, m1, m2, m3, n0, n1, n2, n3, i0, i1, i2]; done) | simp [go_sem, m0, m1, m2, m3, n0, n1, n2, n3, i0, i1, i2, ↓IntWalk.iteOmega])), (by (first | (simp [go_sem, m0, m1, m2, m3, n0, n1, n2, n3, i0, i1, i2]; done) | simp [go_sem, m0, m1, m2, m3, n0, n1, n2, n3, i0, i1, i2, ↓IntWalk.iteOmega])), (by (first | (simp [go_sem, m0, m1, m2, m3, n0, n1, n2, n3, i0, i1, i2]; done) | simp [go_sem, m0, m1, m2, m3, n0, n1, n2, n3, i0, i1, i2, ↓IntWalk.iteOmega])), (by (first | (simp [go_sem, m0, m1, m2, m3, n0, n1, n2, n3, i0, i1, i2]; done) | simp [go_sem, m0, m1, m2, m3, n0, n1, n2, n3, i0, i1, i2, ↓IntWalk.iteOmega]))⟩, ⟨(by (first | (simp [go_sem, m0, m1, m2, m3, n0, n1, n2, n3, i0, i1, i2]; done) | simp [go_sem, m0, m1, m2, m3, n0, n1, n2, n3, i0, i1, i2, ↓IntWalk.iteOmega])), (by (first | (simp [go_sem, m0, m1, m2, m3, n0, n1, n2, n3, i0, i1, i2]; done) | simp [go_sem, m0, m1, m2, m3, n0, n1, n2, n3, i0, i1, i2, ↓IntWalk.iteOmega])), (by (first | (simp [go_sem, m0, m1, m2, m3, n0, n1, n2, n3, i0, i1, i2]; done) | simp [go_sem, m0, m1, m2, m3, n0, n1, n2, n3, i0, i1, i2, ↓IntWalk.iteOmega]))⟩, HFQ0.out.fl.below (below_later _ _), HB3.out.trans (below_mono_of HB3.out.size (by (repeat' (first | with_reducible exact Below.refl _ _ | (with_reducible refine below_later_of ?_ ?_ _) | (with_reducible refine Below.alloc ?_ ?_ _) | (with_reducible refine Below.setCell ?_ ?_ _) | (with_reducible refine Below.drew ?_) | (simp; done) | (simp; omega) | omega)))), by simp; omega, by simp; omega⟩ ?_
            clear hb HB3 m0 m1 m2 m3 n0 n1 n2 n3 i0 i1 i2 HFQ0 HPA HIX HIY HB1
            rintro W4 ⟨⟨k0, k1, k2, k3⟩, ⟨j0, j1, j2, j3⟩, ⟨i0, i1, i2⟩, hown, hb4, hw4, hB4⟩
            have HB4 := Lib.hid hb4
            have hs4 := hb4.size
            have HFW := Lib.hid hown
            have HIX := Lib.hid (show ∀ W, Below W4.heap.size W4 W → _ from fun W hW => HIX0.out W (HB4.out.trans (hW.mono hs4)))
            have HIY := Lib.hid (show ∀ W, Below W4.heap.size W4 W → _ from fun W hW => HIY0.out W (HB4.out.trans (hW.mono hs4)))
            clear hb4 hown
            go_wp2_with fail
            go_cut [10, 11] from 50 to 59 (fun X Y wx => ∃ B a c, X = .pointer (some ⟨B, 0, none⟩) ∧ Y = .int .i64 0 ∧ ImgBlk wx B x.L x.S a (x.m / 2) c ∧ FlV wx (.slice a (x.m / 2) c) ds ∧ B < wx.heap.size ∧ Below W4.heap.size W4 wx)
            case first =>
              go_region_held3 (fun w' => w'.cell? ⟨w.heap.size, 0, none⟩ = some (.int .i64 x.L) ∧ w'.cell? ⟨w.heap.size, 1, none⟩ = some (.int .i64 x.S) ∧ w'.cell? ⟨w.heap.size, 2, none⟩ = some (.slice x.pa x.m x.pc) ∧ w'.cell? ⟨w.heap.size, 3, none⟩ = some (.slice x.ca x.mc x.cc) ∧ w'.cell? ⟨w.heap.size + 1, 0, none⟩ = some (.int .i64 y.L) ∧ w'.cell? ⟨w.heap.size + 1, 1, none⟩ = some (.int .i64 y.S) ∧ w'.cell? ⟨w.heap.size + 1, 2, none⟩ = some (.slice y.pa y.m y.pc) ∧ w'.cell? ⟨w.heap.size + 1, 3, none⟩ = some (.slice y.ca y.mc y.cc)) (first | exact ⟨k0, k1, k2, k3, j0, j1, j2, j3⟩ | ((first | (simp [go_sem, k0, k1, k2, k3, j0, j1, j2, j3]; done) | simp [go_sem, k0, k1, k2, k3, j0, j1, j2, j3, ↓IntWalk.iteOmega]); done)) (first | (go_at_call 9; (with_reducible refine (HIX.out _ (by (repeat' (first | with_reducible exact Below.refl _ _ | (with_reducible refine below_later_of ?_ ?_ _) | (with_reducible refine Below.alloc ?_ ?_ _) | (with_reducible refine Below.setCell ?_ ?_ _) | (with_reducible refine Below.drew ?_) | (simp; done) | (simp; omega) | omega)))).mono ?_); rintro e w' ⟨a1, c1, rfl, ha, -, hb⟩; have HA1 := Lib.hid ha; clear ha; obtain ⟨q1, rfl⟩ := later_of_below hb; clear hb) | (go_at_call 9; (with_reducible refine (HIY.out _ (by (repeat' (first | with_reducible exact Below.refl _ _ | (with_reducible refine below_later_of ?_ ?_ _) | (with_reducible refine Below.alloc ?_ ?_ _) | (with_reducible refine Below.setCell ?_ ?_ _) | (with_reducible refine Below.drew ?_) | (simp; done) | (simp; omega) | omega)))).mono ?_); rintro e w' ⟨a2, c2, rfl, ha, -, hb⟩; have HA2 := Lib.hid ha; clear ha; obtain ⟨q2, rfl⟩ := later_of_below hb; clear hb) | (go_at_call 8; (with_reducible refine (coh_det y.L y.S (y.m / 2) c2 (smp y.p) a2 x.L x.S (x.m / 2) c1 (smp x.p) a1 half _ (by omega) (by omega) (dataAt_own HA2.out (by (repeat' (first | with_reducible exact Below.refl _ _ | (with_reducible refine below_later_of ?_ ?_ _) | (with_reducible refine Below.alloc ?_ ?_ _) | (with_reducible refine Below.setCell ?_ ?_ _) | (with_reducible refine Below.drew ?_) | (simp; done) | (simp; omega) | omega)))) (dataAt_own HA1.out (by (repeat' (first | with_reducible exact Below.refl _ _ | (with_reducible refine below_later_of ?_ ?_ _) | (with_reducible refine Below.alloc ?_ ?_ _) | (with_reducible refine Below.setCell ?_ ?_ _) | (with_reducible refine Below.drew ?_) | (simp; done) | (simp; omega) | omega)))) HE2.out).mono ?_); rintro e w' ⟨l5, s5, n5, a5, c5, rfl, hok, hb⟩; have HOK := Lib.hid hok; clear hok; obtain ⟨q3, rfl⟩ := later_of_below hb; clear hb))
              all_goals
                rename_i hheld
                clear hheld
                go_wp2_with fail
                go_meet
                have HOK9 := HOK.out
                rw [HD2.out] at HOK9
                obtain ⟨h1, h2, h3, h4⟩ := HOK9.ok rfl
                obtain ⟨y1, y2, y3⟩ := HLY.out
                rw [y1] at h1
                rw [y2] at h2
                rw [y3] at h3
                subst h1 h2 h3
                refine ⟨_, a5, c5, rfl, rfl, ⟨(by (first | (simp [go_sem]; done) | simp [go_sem, ↓IntWalk.iteOmega])), (by (first | (simp [go_sem]; done) | simp [go_sem, ↓IntWalk.iteOmega])), (by (first | (simp [go_sem]; done) | simp [go_sem, ↓IntWalk.iteOmega]))⟩, ?_, by simp <;> omega, (by (repeat' (first | with_reducible exact Below.refl _ _ | (with_reducible refine below_later_of ?_ ?_ _) | (with_reducible refine Below.alloc ?_ ?_ _) | (with_reducible refine Below.setCell ?_ ?_ _) | (with_reducible refine Below.drew ?_) | (simp; done) | (simp; omega) | omega)))⟩
                first
                  | (refine (h4.below ?_).fl; (repeat' (first | with_reducible exact Below.refl _ _ | (with_reducible refine below_later_of ?_ ?_ _) | (with_reducible refine Below.alloc ?_ ?_ _) | (with_reducible refine Below.setCell ?_ ?_ _) | (with_reducible refine Below.drew ?_) | (simp; done) | (simp; omega) | omega)); done)
                  | (refine (OwnFV.set (OwnFV.set (OwnFV.set h4 ?_ _) ?_ _) ?_ _).fl <;> simp <;> omega)
            case rest =>
              obtain ⟨B8, ap, cp, rfl, rfl, hi8, hfp, hB8, hb⟩ := hcut
              obtain ⟨W5, hW5⟩ : ∃ W5 : World, W5 = wc := ⟨_, rfl⟩
              subst hW5
              have hs5 := hb.size
              have HB5 := Lib.hid (HB4.out.trans (hb.mono hs4))
              have HFQ := Lib.hid (HFW.out.below hb)
              have HFP := Lib.hid hfp
              have m0 := (hb.cell (p := ⟨w.heap.size, 0, none⟩) (by simp; omega)).trans k0
              have m1 := (hb.cell (p := ⟨w.heap.size, 1, none⟩) (by simp; omega)).trans k1
              have m2 := (hb.cell (p := ⟨w.heap.size, 2, none⟩) (by simp; omega)).trans k2
              have m3 := (hb.cell (p := ⟨w.heap.size, 3, none⟩) (by simp; omega)).trans k3
              have n0 := (hb.cell (p := ⟨w.heap.size + 1, 0, none⟩) (by simp; omega)).trans j0
              have n1 := (hb.cell (p := ⟨w.heap.size + 1, 1, none⟩) (by simp; omega)).trans j1
              have n2 := (hb.cell (p := ⟨w.heap.size + 1, 2, none⟩) (by simp; omega)).trans j2
              have n3 := (hb.cell (p := ⟨w.heap.size + 1, 3, none⟩) (by simp; omega)).trans j3
              have u0 := (hb.cell (p := ⟨B5, 0, none⟩) hB4).trans i0
              have u1 := (hb.cell (p := ⟨B5, 1, none⟩) hB4).trans i1
              have u2 := (hb.cell (p := ⟨B5, 2, none⟩) hB4).trans i2
              obtain ⟨v0, v1, v2⟩ := hi8
              have hw5 : w.heap.size + 1 < W5.heap.size := by omega
              have hB5' : B5 < W5.heap.size := by omega
              have HIX := Lib.hid (show ∀ W, Below W5.heap.size W5 W → _ from fun W hW => HIX0.out W (HB5.out.trans (hW.mono HB5.out.size)))
              have HIY := Lib.hid (show ∀ W, Below W5.heap.size W5 W → _ from fun W hW => HIY0.out W (HB5.out.trans (hW.mono HB5.out.size)))
              clear hb k0 k1 k2 k3 j0 j1 j2 j3 i0 i1 i2 HFW HB4 hs4 hw4 hB4 hs5 hfp
              have HRC := Lib.hid (show ∀ (W : World) (a1 : Option Addr) (c1 : Nat) (a2 : Option Addr) (c2 : Nat) (B1 B2 : Nat) (Wa Wb : World), (0 < x.m / 2 → ∃ g, a1 = some ⟨g, 0, none⟩ ∧ B1 ≤ g ∧ g < Wa.heap.size ∧ SamplesAt Wa g 0 (x.m / 2) (smp x.p)) → Below Wa.heap.size Wa W → (0 < y.m / 2 → ∃ g, a2 = some ⟨g, 0, none⟩ ∧ B2 ≤ g ∧ g < Wb.heap.size ∧ SamplesAt Wb g 0 (y.m / 2) (smp y.p)) → Below Wb.heap.size Wb W →
                  Calls Tryz.prog 14 #[.agg #[.int .i64 x.L, .int .i64 x.S, .slice a1 (x.m / 2) c1], .agg #[.int .i64 y.L, .int .i64 y.S, .slice a2 (y.m / 2) c2], .int .i64 half] W (GfPostI x.L x.S (x.m / 2) ds W) from
                fun W a1 c1 a2 c2 B1 B2 Wa Wb h1 b1 h2 b2 => by
                  have := rCoherence_of HE3.out HNN.out W a1 c1 a2 c2 h1 b1 h2 b2
                  rw [HDS.out] at this
                  obtain ⟨y1, y2, y3⟩ := HLY.out
                  rw [y1, y2]
                  exact this)
              go_wp2_with fail
              go_region_held3 (fun w' => (w'.cell? ⟨w.heap.size, 0, none⟩ = some (.int .i64 x.L) ∧ w'.cell? ⟨w.heap.size, 1, none⟩ = some (.int .i64 x.S) ∧ w'.cell? ⟨w.heap.size, 2, none⟩ = some (.slice x.pa x.m x.pc) ∧ w'.cell? ⟨w.heap.size, 3, none⟩ = some (.slice x.ca x.mc x.cc)) ∧ (w'.cell? ⟨w.heap.size + 1, 0, none⟩ = some (.int .i64 y.L) ∧ w'.cell? ⟨w.heap.size + 1, 1, none⟩ = some (.int .i64 y.S) ∧ w'.cell? ⟨w.heap.size + 1, 2, none⟩ = some (.slice y.pa y.m y.pc) ∧ w'.cell? ⟨w.heap.size + 1, 3, none⟩ = some (.slice y.ca y.mc y.cc)) ∧ (w'.cell? ⟨B5, 0, none⟩ = some (.int .i64 x.L) ∧ w'.cell? ⟨B5, 1, none⟩ = some (.int .i64 x.S) ∧ w'.cell? ⟨B5, 2, none⟩ = some (.slice aq (x.m / 2) cq)) ∧ (w'.cell? ⟨B8, 0, none⟩ = some (.int .i64 x.L) ∧ w'.cell? ⟨B8, 1, none⟩ = some (.int .i64 x.S) ∧ w'.cell? ⟨B8, 2, none⟩ = some (.slice ap (x.m / 2) cp))) (first | exact ⟨⟨m0, m1, m2, m3⟩, ⟨n0, n1, n2, n3⟩, ⟨u0, u1, u2⟩, v0, v1, v2⟩ | ((first | (simp [go_sem, m0, m1, m2, m3, n0, n1, n2, n3, u0, u1, u2, v0, v1, v2]; done) | simp [go_sem, m0, m1, m2, m3, n0, n1, n2, n3, u0, u1, u2, v0, v1, v2, ↓IntWalk.iteOmega]); done)) (first | (go_at_call 9; (with_reducible refine (HIX.out _ (by (repeat' (first | with_reducible exact Below.refl _ _ | (with_reducible refine below_later_of ?_ ?_ _) | (with_reducible refine Below.alloc ?_ ?_ _) | (with_reducible refine Below.setCell ?_ ?_ _) | (with_reducible refine Below.drew ?_) | (simp; done) | (simp; omega) | omega)))).mono ?_); rintro e w' ⟨a1, c1, rfl, ha, -, hb⟩; have HA1 := Lib.hid ha; clear ha; obtain ⟨q1, rfl⟩ := later_of_below hb; clear hb) | (go_at_call 9; (with_reducible refine (HIY.out _ (by (repeat' (first | with_reducible exact Below.refl _ _ | (with_reducible refine below_later_of ?_ ?_ _) | (with_reducible refine Below.alloc ?_ ?_ _) | (with_reducible refine Below.setCell ?_ ?_ _) | (with_reducible refine Below.drew ?_) | (simp; done) | (simp; omega) | omega)))).mono ?_); rintro e w' ⟨a2, c2, rfl, ha, -, hb⟩; have HA2 := Lib.hid ha; clear ha; obtain ⟨q2, rfl⟩ := later_of_below hb; clear hb) | (go_at_call 14; (with_reducible refine (HRC.out _ _ _ _ _ _ _ _ _ HA1.out (by (repeat' (first | with_reducible exact Below.refl _ _ | (with_reducible refine below_later_of ?_ ?_ _) | (with_reducible refine Below.alloc ?_ ?_ _) | (with_reducible refine Below.setCell ?_ ?_ _) | (with_reducible refine Below.drew ?_) | (simp; done) | (simp; omega) | omega))) HA2.out (by (repeat' (first | with_reducible exact Below.refl _ _ | (with_reducible refine below_later_of ?_ ?_ _) | (with_reducible refine Below.alloc ?_ ?_ _) | (with_reducible refine Below.setCell ?_ ?_ _) | (with_reducible refine Below.drew ?_) | (simp; done) | (simp; omega) | omega)))).mono ?_); rintro e w' ⟨a6, c6, rfl, ho, hb⟩; have HO6 := Lib.hid ho.fl; clear ho; obtain ⟨q6, rfl⟩ := later_of_below hb; clear hb) | (go_at_call 13; (with_reducible refine (sameFlMap_true _ _ ds _ _ _ (HFQ.out.below (by (repeat' (first | with_reducible exact Below.refl _ _ | (with_reducible refine below_later_of ?_ ?_ _) | (with_reducible refine Below.alloc ?_ ?_ _) | (with_reducible refine Below.setCell ?_ ?_ _) | (with_reducible refine Below.drew ?_) | (simp; done) | (simp; omega) | omega)))) (HO6.out.below (by (repeat' (first | with_reducible exact Below.refl _ _ | (with_reducible refine below_later_of ?_ ?_ _) | (with_reducible refine Below.alloc ?_ ?_ _) | (with_reducible refine Below.setCell ?_ ?_ _) | (with_reducible refine Below.drew ?_) | (simp; done) | (simp; omega) | omega))))).mono ?_); rintro e w' ⟨rfl, hb⟩; obtain ⟨q7, rfl⟩ := later_of_below hb; clear hb) | (go_at_call 13; (with_reducible refine (sameFlMap_true _ _ ds _ _ _ (HFP.out.below (by (repeat' (first | with_reducible exact Below.refl _ _ | (with_reducible refine below_later_of ?_ ?_ _) | (with_reducible refine Below.alloc ?_ ?_ _) | (with_reducible refine Below.setCell ?_ ?_ _) | (with_reducible refine Below.drew ?_) | (simp; done) | (simp; omega) | omega)))) (HFQ.out.below (by (repeat' (first | with_reducible exact Below.refl _ _ | (with_reducible refine below_later_of ?_ ?_ _) | (with_reducible refine Below.alloc ?_ ?_ _) | (with_reducible refine Below.setCell ?_ ?_ _) | (with_reducible refine Below.drew ?_) | (simp; done) | (simp; omega) | omega))))).mono ?_); rintro e w' ⟨rfl, hb⟩; obtain ⟨q8, rfl⟩ := later_of_below hb; clear hb))
              all_goals
                rename_i hheld
                clear hheld
                go_wp2_with fail
                go_ret
                exact ⟨ret_bool (by simp), HB5.out.trans (below_mono_of HB5.out.size (by (repeat' (first | with_reducible exact Below.refl _ _ | (with_reducible refine below_later_of ?_ ?_ _) | (with_reducible refine Below.alloc ?_ ?_ _) | (with_reducible refine Below.setCell ?_ ?_ _) | (with_reducible refine Below.drew ?_) | (simp; done) | (simp; omega) | omega))))⟩
        · rw [if_neg hE0] at hE2
          have hb0 : (E0 == 0) = false := by simpa using hE0
          have hb1 : (E0 != 0) = true := by simpa using hE0
          subst hE2
          obtain ⟨rfl, rfl, rfl⟩ := hok.bad hE0
          clear hok hb k0 k1 k2 k3 j0 j1 j2 j3 HE HE1
          go_wp2_with (first | (go_at_call 10; (with_reducible refine (HPA.out _ (by (repeat' (first | with_reducible exact Below.refl _ _ | (with_reducible refine below_later_of ?_ ?_ _) | (with_reducible refine Below.alloc ?_ ?_ _) | (with_reducible refine Below.setCell ?_ ?_ _) | (with_reducible refine Below.drew ?_) | (simp; done) | (simp; omega) | omega)))).mono ?_); rintro e w' ⟨rfl, hb⟩; obtain ⟨q4, rfl⟩ := later_of_below hb; clear hb) | (go_at_call 11; (with_reducible refine (HIW.out _).mono ?_); rintro e w' ⟨rfl, rfl⟩) | (go_at_call 12; (with_reducible refine (lNoFloats _ _ _).mono ?_); rintro e w' ⟨rfl, hb⟩; obtain ⟨q5, rfl⟩ := later_of_below hb; clear hb))
          go_ret
          exact ⟨ret_bool (by simp), HB3.out.trans (below_mono_of HB3.out.size (by (repeat' (first | with_reducible exact Below.refl _ _ | (with_reducible refine below_later_of ?_ ?_ _) | (with_reducible refine Below.alloc ?_ ?_ _) | (with_reducible refine Below.setCell ?_ ?_ _) | (with_reducible refine Below.drew ?_) | (simp; done) | (simp; omega) | omega))))⟩
end Go.Proofs.YtkoiknmijjiicaaGreatDoor
