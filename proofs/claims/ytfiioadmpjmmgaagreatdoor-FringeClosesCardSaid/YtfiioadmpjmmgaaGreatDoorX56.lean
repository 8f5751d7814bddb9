/- Chapter 4: the law FringeCloses. -/
import Derived.Test.YtfiioadmpjmmgaaGreatDoorXN
import Derived.Test.YtfiioadmpjmmgaaGreatDoorX20
namespace Go.Proofs.YtfiioadmpjmmgaaGreatDoor
set_option linter.unusedVariables false
set_option linter.unusedSimpArgs false
open Go.RowKit Ntt
theorem threeE_zero {R C : Int} {zs : List Int} {R' C' : Int} {ys : List Int} {R'' C'' : Int} {us : List Int} (h : threeE R C zs R' C' ys R'' C'' us = 0) :
    ∃ Rn Cn : Nat, R = Rn ∧ C = Cn ∧ R' = Rn ∧ C' = Cn ∧ R'' = Rn ∧ C'' = Cn ∧ MapOk Rn Cn zs ∧ MapOk Rn Cn ys ∧ MapOk Rn Cn us := by
  unfold threeE at h
  split at h
  · exact absurd h ‹_›
  · rename_i h1
    split at h
    · exact absurd h ‹_›
    · rename_i h2
      split at h
      · exact absurd h ‹_›
      · rename_i h4
        split at h
        · rename_i h3
          obtain ⟨A, B, e1, e2, hm⟩ := mapE_zero (by simpa using h1)
          obtain ⟨A', B', e3, e4, hm2⟩ := mapE_zero (by simpa using h2)
          obtain ⟨A'', B'', e5, e6, hm3⟩ := mapE_zero (by simpa using h4)
          obtain ⟨⟨f1, f2⟩, f3, f4⟩ := h3
          have q1 : A' = A := by omega
          have q2 : B' = B := by omega
          have q3 : A'' = A := by omega
          have q4 : B'' = B := by omega
          subst q1 q2 q3 q4
          exact ⟨_, _, e1, e2, e3, e4, e5, e6, hm, hm2, hm3⟩
        · exact absurd h (by decide)
set_option maxRecDepth 20000 in
set_option maxHeartbeats 40000000 in
theorem closes_any (R C : Int) (zs : List Int) (v : Value) (R' C' : Int) (ys : List Int) (u : Value) (R'' C'' : Int) (us : List Int) (t : Value) (n : Int) (w : World) (hx : IntsX w v zs) (hy : IntsX w u ys) (hz : IntsX w t us) (ht : Tab w) :
    Calls Tryz.prog 5 #[.agg #[.int .i64 R, .int .i64 C, v, .int .i64 R', .int .i64 C', u, .int .i64 R'', .int .i64 C'', t], .int .i64 n] w fun e w' => e = .returned (.bool true) ∧ Below w.heap.size w w' := by
  have HT := Lib.hid ht
  clear ht
  by_cases hn : zs.length ≤ 150
  · by_cases hn2 : ys.length ≤ 150
    · by_cases hn3 : us.length ≤ 150
      · have hv := hx.ints (by omega)
        have hu := hy.ints (by omega)
        have ht := hz.ints (by omega)
        obtain ⟨⟨a, cap, rfl, -⟩, -⟩ := hx
        obtain ⟨⟨a', cap', rfl, -⟩, -⟩ := hy
        obtain ⟨⟨a'', cap'', rfl, -⟩, -⟩ := hz
        have HLI := Lib.hid (fun w => lLight R C zs.length cap a w (decide_eq_true hn))
        have HLJ := Lib.hid (fun w => lLight R' C' ys.length cap' a' w (decide_eq_true hn2))
        have HLK := Lib.hid (fun w => lLight R'' C'' us.length cap'' a'' w (decide_eq_true hn3))
        obtain ⟨E, hE⟩ : ∃ E, threeE R C zs R' C' ys R'' C'' us = E := ⟨_, rfl⟩
        have HE := Lib.hid hE
        have HCA0 := Lib.hid (show ∀ W, Below w.heap.size w W → _ from fun W hW => bCopyPhases R C zs _ W (hv.below hW))
        have HCB0 := Lib.hid (show ∀ W, Below w.heap.size w W → _ from fun W hW => bCopyPhases R' C' ys _ W (hu.below hW))
        have HCC0 := Lib.hid (show ∀ W, Below w.heap.size w W → _ from fun W hW => bCopyPhases R'' C'' us _ W (ht.below hW))
        obtain ⟨i0, z0, hz0⟩ : ∃ i0 z0, mapE R C zs = (i0, z0) := ⟨_, _, rfl⟩
        obtain ⟨i1, z1, hz1⟩ : ∃ i1 z1, mapE R' C' ys = (i1, z1) := ⟨_, _, rfl⟩
        obtain ⟨i2, z2, hz2⟩ : ∃ i2 z2, mapE R'' C'' us = (i2, z2) := ⟨_, _, rfl⟩
        have HK0' := Lib.hid (show ∀ W, Below w.heap.size w W → _ from fun W hW => rCheckMap R C zs _ W (by omega) (hv.below hW) hz0)
        have HK1' := Lib.hid (show ∀ W, Below w.heap.size w W → _ from fun W hW => rCheckMap R' C' ys _ W (by omega) (hu.below hW) hz1)
        have HK2' := Lib.hid (show ∀ W, Below w.heap.size w W → _ from fun W hW => rCheckMap R'' C'' us _ W (by omega) (ht.below hW) hz2)
        have HVV := Lib.hid hv
        have HUU := Lib.hid hu
        have HTT := Lib.hid ht
        have HZ0 := Lib.hid hz0
        have HEE := Lib.hid (show (if z0 ≠ 0 then z0 else if z1 ≠ 0 then z1 else if z2 ≠ 0 then z2 else if (R' = R ∧ C' = C) ∧ (R'' = R ∧ C'' = C) then 0 else 13) = E by
          rw [← hE]
          unfold threeE
          rw [hz0, hz1, hz2])
        clear hv hu ht hE hz0 hz1 hz2
        go_enter Tryz.func5, Tryz.ntmps5
        go_wp2_with (first | (go_at_call 13; (with_reducible refine (awake4 _ (HT.out.below (by (repeat' (first | with_reducible exact Below.refl _ _ | (with_reducible refine below_later_of ?_ ?_ _) | (with_reducible refine Below.alloc ?_ ?_ _) | (with_reducible refine Below.setCell ?_ ?_ _) | (with_reducible refine Below.drew ?_) | (simp; done) | (simp; omega) | omega))))).mono ?_); rintro e w' ⟨rfl, hb⟩; obtain ⟨pp, rfl⟩ := later_of_below hb; clear hb) | (go_at_call 19; (with_reducible refine (HLI.out _).mono ?_); rintro e w' ⟨rfl, hb⟩; obtain ⟨pl0, rfl⟩ := later_of_below hb; clear hb) | (go_at_call 19; (with_reducible refine (HLJ.out _).mono ?_); rintro e w' ⟨rfl, hb⟩; obtain ⟨pl1, rfl⟩ := later_of_below hb; clear hb) | (go_at_call 19; (with_reducible refine (HLK.out _).mono ?_); rintro e w' ⟨rfl, hb⟩; obtain ⟨pl2, rfl⟩ := later_of_below hb; clear hb))
        refine any_worldF (fun w' => (w'.cell? ⟨w.heap.size, 0, none⟩ = some (.int .i64 R) ∧ w'.cell? ⟨w.heap.size, 1, none⟩ = some (.int .i64 C) ∧ w'.cell? ⟨w.heap.size, 2, none⟩ = some (.slice a zs.length cap) ∧ w'.cell? ⟨w.heap.size, 3, none⟩ = some (.int .i64 R') ∧ w'.cell? ⟨w.heap.size, 4, none⟩ = some (.int .i64 C') ∧ w'.cell? ⟨w.heap.size, 5, none⟩ = some (.slice a' ys.length cap') ∧ w'.cell? ⟨w.heap.size, 6, none⟩ = some (.int .i64 R'') ∧ w'.cell? ⟨w.heap.size, 7, none⟩ = some (.int .i64 C'') ∧ w'.cell? ⟨w.heap.size, 8, none⟩ = some (.slice a'' us.length cap'')) ∧ Below w.heap.size w w' ∧ w.heap.size < w'.heap.size) ⟨⟨(by (first | (simp [go_sem]; done) | simp [go_sem, ↓IntWalk.iteOmega])), (by (first | (simp [go_sem]; done) | simp [go_sem, ↓IntWalk.iteOmega])), (by (first | (simp [go_sem]; done) | simp [go_sem, ↓IntWalk.iteOmega])), (by (first | (simp [go_sem]; done) | simp [go_sem, ↓IntWalk.iteOmega])), (by (first | (simp [go_sem]; done) | simp [go_sem, ↓IntWalk.iteOmega])), (by (first | (simp [go_sem]; done) | simp [go_sem, ↓IntWalk.iteOmega])), (by (first | (simp [go_sem]; done) | simp [go_sem, ↓IntWalk.iteOmega])), (by (first | (simp [go_sem]; done) | simp [go_sem, ↓IntWalk.iteOmega])), (by (first | (simp [go_sem]; done) | simp [go_sem, ↓IntWalk.iteOmega]))⟩, (by (repeat' (first | with_reducible exact Below.refl _ _ | (with_reducible refine below_later_of ?_ ?_ _) | (with_reducible refine Below.alloc ?_ ?_ _) | (with_reducible refine Below.setCell ?_ ?_ _) | (with_reducible refine Below.drew ?_) | (simp; done) | (simp; omega) | omega))), by simp; omega⟩ ?_
        rintro W1 ⟨⟨m0, m1, m2, m3, m4, m5, m6, m7, m8⟩, hb1, hlt1⟩
        have HB1 := Lib.hid hb1
        have hs1 := hb1.size
        have HCA := Lib.hid (show ∀ W, Below W1.heap.size W1 W → _ from fun W hW => HCA0.out W (HB1.out.trans (hW.mono hs1)))
        have HCB := Lib.hid (show ∀ W, Below W1.heap.size W1 W → _ from fun W hW => HCB0.out W (HB1.out.trans (hW.mono hs1)))
        have HCC := Lib.hid (show ∀ W, Below W1.heap.size W1 W → _ from fun W hW => HCC0.out W (HB1.out.trans (hW.mono hs1)))
        clear hb1
        go_wp2_with fail
        go_cut [5, 6] from 33 to 44 (fun X Y wx => ∃ B r c k q cc, X = .pointer (some ⟨B, 0, none⟩) ∧ Y = .int .i64 E ∧ (wx.cell? ⟨B, 0, none⟩ = some (.int .i64 r) ∧ wx.cell? ⟨B, 1, none⟩ = some (.int .i64 c) ∧ wx.cell? ⟨B, 2, none⟩ = some (.slice q k cc)) ∧ MkSay wx 0 R C zs.length (combL (combL zs ys 1) us (-1)) E r c k q cc ∧ B < wx.heap.size ∧ Below W1.heap.size W1 wx)
        case first =>
          go_region_held3 (fun w' => (w'.cell? ⟨w.heap.size, 0, none⟩ = some (.int .i64 R) ∧ w'.cell? ⟨w.heap.size, 1, none⟩ = some (.int .i64 C) ∧ w'.cell? ⟨w.heap.size, 2, none⟩ = some (.slice a zs.length cap) ∧ w'.cell? ⟨w.heap.size, 3, none⟩ = some (.int .i64 R') ∧ w'.cell? ⟨w.heap.size, 4, none⟩ = some (.int .i64 C') ∧ w'.cell? ⟨w.heap.size, 5, none⟩ = some (.slice a' ys.length cap') ∧ w'.cell? ⟨w.heap.size, 6, none⟩ = some (.int .i64 R'') ∧ w'.cell? ⟨w.heap.size, 7, none⟩ = some (.int .i64 C'') ∧ w'.cell? ⟨w.heap.size, 8, none⟩ = some (.slice a'' us.length cap''))) (first | exact ⟨m0, m1, m2, m3, m4, m5, m6, m7, m8⟩ | ((first | (simp [go_sem, m0, m1, m2, m3, m4, m5, m6, m7, m8]; done) | simp [go_sem, m0, m1, m2, m3, m4, m5, m6, m7, m8, ↓IntWalk.iteOmega]); done)) (first | (go_at_call 21; (with_reducible refine (HCA.out _ (by (repeat' (first | with_reducible exact Below.refl _ _ | (with_reducible refine below_later_of ?_ ?_ _) | (with_reducible refine Below.alloc ?_ ?_ _) | (with_reducible refine Below.setCell ?_ ?_ _) | (with_reducible refine Below.drew ?_) | (simp; done) | (simp; omega) | omega)))).mono ?_); rintro e w' ⟨a3, c3, rfl, hv, hb⟩; have HVA := Lib.hid hv.ints; clear hv; obtain ⟨p3, rfl⟩ := later_of_below hb; clear hb) | (go_at_call 21; (with_reducible refine (HCB.out _ (by (repeat' (first | with_reducible exact Below.refl _ _ | (with_reducible refine below_later_of ?_ ?_ _) | (with_reducible refine Below.alloc ?_ ?_ _) | (with_reducible refine Below.setCell ?_ ?_ _) | (with_reducible refine Below.drew ?_) | (simp; done) | (simp; omega) | omega)))).mono ?_); rintro e w' ⟨a4, c4, rfl, hv, hb⟩; have HVB := Lib.hid hv.ints; clear hv; obtain ⟨p4, rfl⟩ := later_of_below hb; clear hb) | (go_at_call 21; (with_reducible refine (HCC.out _ (by (repeat' (first | with_reducible exact Below.refl _ _ | (with_reducible refine below_later_of ?_ ?_ _) | (with_reducible refine Below.alloc ?_ ?_ _) | (with_reducible refine Below.setCell ?_ ?_ _) | (with_reducible refine Below.drew ?_) | (simp; done) | (simp; omega) | omega)))).mono ?_); rintro e w' ⟨a5, c5, rfl, hv, hb⟩; have HVC := Lib.hid hv.ints; clear hv; obtain ⟨p5, rfl⟩ := later_of_below hb; clear hb) | (go_at_call 28; (with_reducible refine (clo_det R C zs _ R' C' ys _ R'' C'' us _ _ (HVA.out.below (by (repeat' (first | with_reducible exact Below.refl _ _ | (with_reducible refine below_later_of ?_ ?_ _) | (with_reducible refine Below.alloc ?_ ?_ _) | (with_reducible refine Below.setCell ?_ ?_ _) | (with_reducible refine Below.drew ?_) | (simp; done) | (simp; omega) | omega)))) (by omega) (HVB.out.below (by (repeat' (first | with_reducible exact Below.refl _ _ | (with_reducible refine below_later_of ?_ ?_ _) | (with_reducible refine Below.alloc ?_ ?_ _) | (with_reducible refine Below.setCell ?_ ?_ _) | (with_reducible refine Below.drew ?_) | (simp; done) | (simp; omega) | omega)))) (by omega) (HVC.out.below (by (repeat' (first | with_reducible exact Below.refl _ _ | (with_reducible refine below_later_of ?_ ?_ _) | (with_reducible refine Below.alloc ?_ ?_ _) | (with_reducible refine Below.setCell ?_ ?_ _) | (with_reducible refine Below.drew ?_) | (simp; done) | (simp; omega) | omega)))) (by omega) HE.out).mono ?_); rintro e w' ⟨r, c, k, q, cc, rfl, hs, hb⟩; have HS := Lib.hid hs; clear hs; obtain ⟨p6, rfl⟩ := later_of_below hb; clear hb))
          all_goals
            rename_i hheld
            clear hheld
            go_wp2_with fail
            go_meet
            refine ⟨_, r, c, k, q, cc, rfl, rfl, ⟨(by (first | (simp [go_sem]; done) | simp [go_sem, ↓IntWalk.iteOmega])), (by (first | (simp [go_sem]; done) | simp [go_sem, ↓IntWalk.iteOmega])), (by (first | (simp [go_sem]; done) | simp [go_sem, ↓IntWalk.iteOmega]))⟩, ?_, by simp <;> omega, (by (repeat' (first | with_reducible exact Below.refl _ _ | (with_reducible refine below_later_of ?_ ?_ _) | (with_reducible refine Below.alloc ?_ ?_ _) | (with_reducible refine Below.setCell ?_ ?_ _) | (with_reducible refine Below.drew ?_) | (simp; done) | (simp; omega) | omega)))⟩
            first
              | (refine (HS.out.below ?_).mono (Nat.zero_le _); (repeat' (first | with_reducible exact Below.refl _ _ | (with_reducible refine below_later_of ?_ ?_ _) | (with_reducible refine Below.alloc ?_ ?_ _) | (with_reducible refine Below.setCell ?_ ?_ _) | (with_reducible refine Below.drew ?_) | (simp; done) | (simp; omega) | omega)); done)
              | (refine (MkSay.set (MkSay.set (MkSay.set HS.out ?_ _) ?_ _) ?_ _).mono (Nat.zero_le _) <;> simp <;> omega)
        case rest =>
          obtain ⟨B, r, c, k, q, cc, rfl, rfl, ⟨o0, o1, o2⟩, hsay, hB, hbz⟩ := hcut
          obtain ⟨W3, hW3⟩ : ∃ W3 : World, W3 = wc := ⟨_, rfl⟩
          subst hW3
          have hs3 := hbz.size
          have HB3 := Lib.hid (HB1.out.trans (hbz.mono hs1))
          have hwz : w.heap.size < W1.heap.size := hlt1
          have M0 := Lib.hid m0
          have M1 := Lib.hid m1
          have M2 := Lib.hid m2
          have M3 := Lib.hid m3
          have M4 := Lib.hid m4
          have M5 := Lib.hid m5
          have M6 := Lib.hid m6
          have M7 := Lib.hid m7
          have M8 := Lib.hid m8
          clear m0 m1 m2 m3 m4 m5 m6 m7 m8
          have m0 := (hbz.cell (p := ⟨w.heap.size, 0, none⟩) (show w.heap.size < _ from hwz)).trans M0.out
          have m1 := (hbz.cell (p := ⟨w.heap.size, 1, none⟩) (show w.heap.size < _ from hwz)).trans M1.out
          have m2 := (hbz.cell (p := ⟨w.heap.size, 2, none⟩) (show w.heap.size < _ from hwz)).trans M2.out
          have m3 := (hbz.cell (p := ⟨w.heap.size, 3, none⟩) (show w.heap.size < _ from hwz)).trans M3.out
          have m4 := (hbz.cell (p := ⟨w.heap.size, 4, none⟩) (show w.heap.size < _ from hwz)).trans M4.out
          have m5 := (hbz.cell (p := ⟨w.heap.size, 5, none⟩) (show w.heap.size < _ from hwz)).trans M5.out
          have m6 := (hbz.cell (p := ⟨w.heap.size, 6, none⟩) (show w.heap.size < _ from hwz)).trans M6.out
          have m7 := (hbz.cell (p := ⟨w.heap.size, 7, none⟩) (show w.heap.size < _ from hwz)).trans M7.out
          have m8 := (hbz.cell (p := ⟨w.heap.size, 8, none⟩) (show w.heap.size < _ from hwz)).trans M8.out
          have hw3 : w.heap.size < W3.heap.size := by omega
          have HCA := Lib.hid (show ∀ W, Below W3.heap.size W3 W → _ from fun W hW => HCA0.out W (HB3.out.trans (hW.mono HB3.out.size)))
          have HK0 := Lib.hid (show ∀ W, Below W3.heap.size W3 W → _ from fun W hW => HK0'.out W (HB3.out.trans (hW.mono HB3.out.size)))
          clear M0 M1 M2 M3 M4 M5 M6 M7 M8 hbz hwz HLI HLJ HLK HCB HCC HCA0 HCB0 HCC0
          by_cases h0 : z0 = 0
          · subst h0
            obtain ⟨Rn, Cn, rfl, rfl, hm⟩ := mapE_zero (R := R) (C := C) (zs := zs) (by rw [HZ0.out])
            obtain ⟨Lh, f0, hho, hro⟩ := hist_both Rn Cn n zs hm
            have HHO := Lib.hid hho
            have HRO := Lib.hid (show ∀ W, Below W3.heap.size W3 W → _ from fun W hW => hro W _ (HVV.out.below (HB3.out.trans (hW.mono HB3.out.size))))
            have d0 : (f0 != f0) = false := by simp
            clear hho hro hm
            have HSAY := Lib.hid hsay
            clear hsay
            go_wp2_with (first | (go_at_call 21; (with_reducible refine (HCA.out _ (by (repeat' (first | with_reducible exact Below.refl _ _ | (with_reducible refine below_later_of ?_ ?_ _) | (with_reducible refine Below.alloc ?_ ?_ _) | (with_reducible refine Below.setCell ?_ ?_ _) | (with_reducible refine Below.drew ?_) | (simp; done) | (simp; omega) | omega)))).mono ?_); rintro e w' ⟨a3, c3, rfl, hv, hb⟩; have HVA := Lib.hid hv.ints; clear hv; obtain ⟨p3, rfl⟩ := later_of_below hb; clear hb) | (go_at_call 29; (with_reducible refine (HHO.out _ _ (HVA.out.below (by (repeat' (first | with_reducible exact Below.refl _ _ | (with_reducible refine below_later_of ?_ ?_ _) | (with_reducible refine Below.alloc ?_ ?_ _) | (with_reducible refine Below.setCell ?_ ?_ _) | (with_reducible refine Below.drew ?_) | (simp; done) | (simp; omega) | omega))))).mono ?_); rintro e w' ⟨ah, ch, rfl, hs, hb⟩; have HH1 := Lib.hid hs; clear hs; obtain ⟨p7, rfl⟩ := later_of_below hb; clear hb) | (go_at_call 30; (with_reducible refine (HK0.out _ (by (repeat' (first | with_reducible exact Below.refl _ _ | (with_reducible refine below_later_of ?_ ?_ _) | (with_reducible refine Below.alloc ?_ ?_ _) | (with_reducible refine Below.setCell ?_ ?_ _) | (with_reducible refine Below.drew ?_) | (simp; done) | (simp; omega) | omega)))).mono ?_); rintro e w' ⟨rfl, hb⟩; obtain ⟨p10, rfl⟩ := later_of_below hb; clear hb) | (go_at_call 31; (with_reducible refine (HRO.out _ (by (repeat' (first | with_reducible exact Below.refl _ _ | (with_reducible refine below_later_of ?_ ?_ _) | (with_reducible refine Below.alloc ?_ ?_ _) | (with_reducible refine Below.setCell ?_ ?_ _) | (with_reducible refine Below.drew ?_) | (simp; done) | (simp; omega) | omega)))).mono ?_); rintro e w' ⟨ar, cr, rfl, hs, hb⟩; have HH2 := Lib.hid hs; clear hs; obtain ⟨p8, rfl⟩ := later_of_below hb; clear hb) | (go_at_call 32; (with_reducible refine (bInts Lh Lh _ _ _ (HH1.out.below (by (repeat' (first | with_reducible exact Below.refl _ _ | (with_reducible refine below_later_of ?_ ?_ _) | (with_reducible refine Below.alloc ?_ ?_ _) | (with_reducible refine Below.setCell ?_ ?_ _) | (with_reducible refine Below.drew ?_) | (simp; done) | (simp; omega) | omega)))) (HH2.out.below (by (repeat' (first | with_reducible exact Below.refl _ _ | (with_reducible refine below_later_of ?_ ?_ _) | (with_reducible refine Below.alloc ?_ ?_ _) | (with_reducible refine Below.setCell ?_ ?_ _) | (with_reducible refine Below.drew ?_) | (simp; done) | (simp; omega) | omega)))) (c := true) (by simp)).mono ?_); rintro e w' ⟨rfl, hb⟩; obtain ⟨p9, rfl⟩ := later_of_below hb; clear hb))
            refine any_worldF (fun w' => (w'.cell? ⟨w.heap.size, 0, none⟩ = some (.int .i64 Rn) ∧ w'.cell? ⟨w.heap.size, 1, none⟩ = some (.int .i64 Cn) ∧ w'.cell? ⟨w.heap.size, 2, none⟩ = some (.slice a zs.length cap) ∧ w'.cell? ⟨w.heap.size, 3, none⟩ = some (.int .i64 R') ∧ w'.cell? ⟨w.heap.size, 4, none⟩ = some (.int .i64 C') ∧ w'.cell? ⟨w.heap.size, 5, none⟩ = some (.slice a' ys.length cap') ∧ w'.cell? ⟨w.heap.size, 6, none⟩ = some (.int .i64 R'') ∧ w'.cell? ⟨w.heap.size, 7, none⟩ = some (.int .i64 C'') ∧ w'.cell? ⟨w.heap.size, 8, none⟩ = some (.slice a'' us.length cap'')) ∧ (w'.cell? ⟨B, 0, none⟩ = some (.int .i64 r) ∧ w'.cell? ⟨B, 1, none⟩ = some (.int .i64 c) ∧ w'.cell? ⟨B, 2, none⟩ = some (.slice q k cc)) ∧ Below W3.heap.size W3 w') ⟨⟨(by (first | (simp [go_sem, m0, m1, m2, m3, m4, m5, m6, m7, m8, o0, o1, o2]; done) | simp [go_sem, m0, m1, m2, m3, m4, m5, m6, m7, m8, o0, o1, o2, ↓IntWalk.iteOmega])), (by (first | (simp [go_sem, m0, m1, m2, m3, m4, m5, m6, m7, m8, o0, o1, o2]; done) | simp [go_sem, m0, m1, m2, m3, m4, m5, m6, m7, m8, o0, o1, o2, ↓IntWalk.iteOmega])), (by (first | (simp [go_sem, m0, m1, m2, m3, m4, m5, m6, m7, m8, o0, o1, o2]; done) | simp [go_sem, m0, m1, m2, m3, m4, m5, m6, m7, m8, o0, o1, o2, ↓IntWalk.iteOmega])), (by (first | (simp [go_sem, m0, m1, m2, m3, m4, m5, m6, m7, m8, o0, o1, o2]; done) | simp [go_sem, m0, m1, m2, m3, m4, m5, m6, m7, m8, o0, o1, o2, ↓IntWalk.iteOmega])), (by (first | (simp [go_sem, m0, m1, m2, m3, m4, m5, m6, m7, m8, o0, o1, o2]; done) | simp [go_sem, m0, m1, m2, m3, m4, m5, m6, m7, m8, o0, o1, o2, ↓IntWalk.iteOmega])), (by (first | (simp [go_sem, m0, m1, m2, m3, m4, m5, m6, m7, m8, o0, o1, o2]; done) | simp [go_sem, m0, m1, m2, m3, m4, m5, m6, m7, m8, o0, o1, o2, ↓IntWalk.iteOmega])), (by (first | (simp [go_sem, m0, m1, m2, m3, m4, m5, m6, m7, m8, o0, o1, o2]; done) | simp [go_sem, m0, m1, m2, m3, m4, m5, m6, m7, m8, o0, o1, o2, ↓IntWalk.iteOmega])), (by (first | (simp [go_sem, m0, m1, m2, m3, m4, m5, m6, m7, m8, o0, o1, o2]; done) | simp [go_sem, m0, m1, m2, m3, m4, m5, m6, m7, m8, o0, o1, o2, ↓IntWalk.iteOmega])), (by (first | (simp [go_sem, m0, m1, m2, m3, m4, m5, m6, m7, m8, o0, o1, o2]; done) | simp [go_sem, m0, m1, m2, m3, m4, m5, m6, m7, m8, o0, o1, o2, ↓IntWalk.iteOmega]))⟩, ⟨(by (first | (simp [go_sem, m0, m1, m2, m3, m4, m5, m6, m7, m8, o0, o1, o2]; done) | simp [go_sem, m0, m1, m2, m3, m4, m5, m6, m7, m8, o0, o1, o2, ↓IntWalk.iteOmega])), (by (first | (simp [go_sem, m0, m1, m2, m3, m4, m5, m6, m7, m8, o0, o1, o2]; done) | simp [go_sem, m0, m1, m2, m3, m4, m5, m6, m7, m8, o0, o1, o2, ↓IntWalk.iteOmega])), (by (first | (simp [go_sem, m0, m1, m2, m3, m4, m5, m6, m7, m8, o0, o1, o2]; done) | simp [go_sem, m0, m1, m2, m3, m4, m5, m6, m7, m8, o0, o1, o2, ↓IntWalk.iteOmega]))⟩, (by (repeat' (first | with_reducible exact Below.refl _ _ | (with_reducible refine below_later_of ?_ ?_ _) | (with_reducible refine Below.alloc ?_ ?_ _) | (with_reducible refine Below.setCell ?_ ?_ _) | (with_reducible refine Below.drew ?_) | (simp; done) | (simp; omega) | omega)))⟩ ?_
            clear m0 m1 m2 m3 m4 m5 m6 m7 m8 o0 o1 o2 HHO HRO HCA HK0 HH1 HH2
            rintro W5 ⟨⟨m0, m1, m2, m3, m4, m5, m6, m7, m8⟩, ⟨o0, o1, o2⟩, hb5⟩
            have HB5 := Lib.hid (HB3.out.trans (hb5.mono HB3.out.size))
            have hsay := HSAY.out.below hb5
            have HSAY := Lib.hid hsay
            have hB5 : B < W5.heap.size := by have := hb5.size; omega
            have hw5 : w.heap.size < W5.heap.size := by have := hb5.size; omega
            have O0 := Lib.hid o0
            have O1 := Lib.hid o1
            have O2 := Lib.hid o2
            have M0 := Lib.hid m0
            have M1 := Lib.hid m1
            have M2 := Lib.hid m2
            have M3 := Lib.hid m3
            have M4 := Lib.hid m4
            have M5 := Lib.hid m5
            have M6 := Lib.hid m6
            have M7 := Lib.hid m7
            have M8 := Lib.hid m8
            clear hb5 hsay m0 m1 m2 m3 m4 m5 m6 m7 m8 o0 o1 o2
            go_loopw [13, 10] (fun iv cv wr => ((iv = .int .i64 1 ∧ cv = .int .i64 0) ∨ (iv = .int .i64 2 ∧ cv = .int .i64 z1) ∨ (iv = .int .i64 3 ∧ z1 = 0 ∧ cv = .int .i64 z2)) ∧ Below W5.heap.size W5 wr) (fun iv _ _ => 3 - (intOf iv).toNat)
            case atStart =>
              refine ⟨Or.inl ?_, Below.refl _ _⟩
              first | exact ⟨rfl, rfl⟩ | exact ⟨trivial, trivial⟩ | simp
            case round =>
              obtain ⟨hwhich, hbz⟩ := hrel
              have HBZ := Lib.hid hbz
              have hsz := hbz.size
              have HB9 := Lib.hid (HB5.out.trans (hbz.mono HB5.out.size))
              have hwz := hw5
              have m0 := (hbz.cell (p := ⟨w.heap.size, 0, none⟩) (show w.heap.size < _ from hwz)).trans M0.out
              have m1 := (hbz.cell (p := ⟨w.heap.size, 1, none⟩) (show w.heap.size < _ from hwz)).trans M1.out
              have m2 := (hbz.cell (p := ⟨w.heap.size, 2, none⟩) (show w.heap.size < _ from hwz)).trans M2.out
              have m3 := (hbz.cell (p := ⟨w.heap.size, 3, none⟩) (show w.heap.size < _ from hwz)).trans M3.out
              have m4 := (hbz.cell (p := ⟨w.heap.size, 4, none⟩) (show w.heap.size < _ from hwz)).trans M4.out
              have m5 := (hbz.cell (p := ⟨w.heap.size, 5, none⟩) (show w.heap.size < _ from hwz)).trans M5.out
              have m6 := (hbz.cell (p := ⟨w.heap.size, 6, none⟩) (show w.heap.size < _ from hwz)).trans M6.out
              have m7 := (hbz.cell (p := ⟨w.heap.size, 7, none⟩) (show w.heap.size < _ from hwz)).trans M7.out
              have m8 := (hbz.cell (p := ⟨w.heap.size, 8, none⟩) (show w.heap.size < _ from hwz)).trans M8.out
              have o0 := (hbz.cell (p := ⟨B, 0, none⟩) hB5).trans O0.out
              have o1 := (hbz.cell (p := ⟨B, 1, none⟩) hB5).trans O1.out
              have o2 := (hbz.cell (p := ⟨B, 2, none⟩) hB5).trans O2.out
              have hwr : w.heap.size < wr.heap.size := by omega
              have hBr : B < wr.heap.size := by omega
              have hsay := HSAY.out.below hbz
              have HK1 := Lib.hid (show ∀ W, Below wr.heap.size wr W → _ from fun W hW => HK1'.out W (HB9.out.trans (hW.mono HB9.out.size)))
              have HK2 := Lib.hid (show ∀ W, Below wr.heap.size wr W → _ from fun W hW => HK2'.out W (HB9.out.trans (hW.mono HB9.out.size)))
              clear hbz hwz
              rcases hwhich with ⟨rfl, rfl⟩ | ⟨rfl, rfl⟩ | ⟨rfl, hz1, rfl⟩
              · clear hsay
                go_wp2_with (first | (go_at_call 30; (with_reducible refine (HK1.out _ (by (repeat' (first | with_reducible exact Below.refl _ _ | (with_reducible refine below_later_of ?_ ?_ _) | (with_reducible refine Below.alloc ?_ ?_ _) | (with_reducible refine Below.setCell ?_ ?_ _) | (with_reducible refine Below.drew ?_) | (simp; done) | (simp; omega) | omega)))).mono ?_); rintro e w' ⟨rfl, hb⟩; obtain ⟨p11, rfl⟩ := later_of_below hb; clear hb))
                go_roundw
                case rel => exact ⟨Or.inr (Or.inl ⟨rfl, rfl⟩), HBZ.out.trans (below_mono_of hsz (by (repeat' (first | with_reducible exact Below.refl _ _ | (with_reducible refine below_later_of ?_ ?_ _) | (with_reducible refine Below.alloc ?_ ?_ _) | (with_reducible refine Below.setCell ?_ ?_ _) | (with_reducible refine Below.drew ?_) | (simp; done) | (simp; omega) | omega))))⟩
                case measure => simp [intOf]
              · by_cases h1 : z1 = 0
                · subst h1
                  clear hsay
                  go_wp2_with (first | (go_at_call 30; (with_reducible refine (HK2.out _ (by (repeat' (first | with_reducible exact Below.refl _ _ | (with_reducible refine below_later_of ?_ ?_ _) | (with_reducible refine Below.alloc ?_ ?_ _) | (with_reducible refine Below.setCell ?_ ?_ _) | (with_reducible refine Below.drew ?_) | (simp; done) | (simp; omega) | omega)))).mono ?_); rintro e w' ⟨rfl, hb⟩; obtain ⟨p12, rfl⟩ := later_of_below hb; clear hb))
                  go_roundw
                  case rel => exact ⟨Or.inr (Or.inr ⟨rfl, by first | rfl | trivial, rfl⟩), HBZ.out.trans (below_mono_of hsz (by (repeat' (first | with_reducible exact Below.refl _ _ | (with_reducible refine below_later_of ?_ ?_ _) | (with_reducible refine Below.alloc ?_ ?_ _) | (with_reducible refine Below.setCell ?_ ?_ _) | (with_reducible refine Below.drew ?_) | (simp; done) | (simp; omega) | omega))))⟩
                  case measure => simp [intOf]
                · have hE : z1 = E := by rw [← HEE.out, if_neg (by simp), if_pos h1]
                  subst hE
                  have hE0 := h1
                  have d1 : (z1 == 0) = false := by simpa using h1
                  have d2 : (z1 != 0) = true := by simpa using h1
                  have d3 : (z1 == z1) = true := by simp
                  clear h1 HEE HE
                  obtain ⟨rfl, rfl, rfl⟩ := hsay.2 hE0
                  clear hsay
                  go_wp2_with (first | (go_at_call 24; (with_reducible refine (lNoMap0 _ _ _).mono ?_); rintro e w' ⟨rfl, hb⟩; obtain ⟨p15, rfl⟩ := later_of_below hb; clear hb))
                  go_ret
                  exact ⟨ret_bool (by simp), HB9.out.trans (below_mono_of HB9.out.size (by (repeat' (first | with_reducible exact Below.refl _ _ | (with_reducible refine below_later_of ?_ ?_ _) | (with_reducible refine Below.alloc ?_ ?_ _) | (with_reducible refine Below.setCell ?_ ?_ _) | (with_reducible refine Below.drew ?_) | (simp; done) | (simp; omega) | omega))))⟩
              · subst hz1
                by_cases h2 : z2 = 0
                · subst h2
                  have HSS := Lib.hid (fun q1 hq1 w => rSameSize Rn Cn R' C' zs.length cap ys.length cap' a a' w (c := q1) hq1)
                  have HST := Lib.hid (fun q1 hq1 w => rSameSize Rn Cn R'' C'' zs.length cap us.length cap'' a a'' w (c := q1) hq1)
                  by_cases s1 : R' = (Rn : Int) ∧ C' = (Cn : Int)
                  · have HS1 := Lib.hid (HSS.out true (by simpa using s1))
                    by_cases s2 : R'' = (Rn : Int) ∧ C'' = (Cn : Int)
                    · have HS2 := Lib.hid (HST.out true (by simpa using s2))
                      have hE : (0 : Int) = E := by rw [← HEE.out, if_neg (by simp), if_neg (by simp), if_neg (by simp), if_pos ⟨s1, s2⟩]
                      subst hE
                      obtain ⟨rfl, rfl⟩ := s1
                      obtain ⟨rfl, rfl⟩ := s2
                      obtain ⟨Rm, Cm, g1, g2, -, -, -, -, hm, hm2, hm3⟩ := threeE_zero HE.out
                      obtain rfl : Rm = Rn := by omega
                      obtain rfl : Cm = Cn := by omega
                      obtain ⟨rfl, rfl, rfl, hown⟩ := hsay.1 rfl
                      have HM := Lib.hid hm
                      have HM2 := Lib.hid hm2
                      have HM3 := Lib.hid hm3
                      have HRC1 := Lib.hid (show ∀ W, Below wr.heap.size wr W → Calls Tryz.prog 26 #[.agg #[.int .i64 Rm, .int .i64 Cm, .slice a zs.length cap], .agg #[.int .i64 Rm, .int .i64 Cm, .slice a' ys.length cap'], .int .i64 1] W fun e w' => ∃ a6 c6, e = .returned (.agg #[.int .i64 Rm, .int .i64 Cm, .slice a6 zs.length c6]) ∧ OwnIV W.heap.size w' (.slice a6 zs.length c6) (combL zs ys 1) ∧ Below W.heap.size W w' from fun W hW => by
                        have hbw := HB9.out.trans (hW.mono HB9.out.size)
                        have := rCombined Rm Cm Rm Cm zs ys 1 _ _ W (Or.inl rfl) HM.out HM2.out (HVV.out.below hbw) (HUU.out.below hbw)
                        unfold RmPost at this
                        rw [combL_len] at this
                        exact this)
                      have HRC2 := Lib.hid (show ∀ W (x : Value), Below wr.heap.size wr W → IntsV W x (combL zs ys 1) → Calls Tryz.prog 26 #[.agg #[.int .i64 Rm, .int .i64 Cm, x], .agg #[.int .i64 Rm, .int .i64 Cm, .slice a'' us.length cap''], .int .i64 (-1)] W fun e w' => ∃ a6 c6, e = .returned (.agg #[.int .i64 Rm, .int .i64 Cm, .slice a6 zs.length c6]) ∧ OwnIV W.heap.size w' (.slice a6 zs.length c6) (combL (combL zs ys 1) us (-1)) ∧ Below W.heap.size W w' from fun W x hW hxx => by
                        have hbw := HB9.out.trans (hW.mono HB9.out.size)
                        have := rCombined Rm Cm Rm Cm (combL zs ys 1) us (-1) _ _ W (Or.inr rfl) (comb_ok HM.out _ _) HM3.out hxx (HTT.out.below hbw)
                        unfold RmPost at this
                        rw [combL_len, combL_len] at this
                        exact this)
                      have HSP := Lib.hid (show ∀ W (x : Value), Below wr.heap.size wr W → IntsV W x (combL (combL zs ys 1) us (-1)) → Calls Tryz.prog 25 #[.agg #[.int .i64 Rm, .int .i64 Cm, .slice q zs.length cc], .agg #[.int .i64 Rm, .int .i64 Cm, x]] W fun e w' => e = .returned (.bool true) ∧ Below W.heap.size W w' from
                        fun W x hW hxx => bSamePhases _ _ _ _ _ _ _ _ W (hown.below hW).ints hxx (by simp))
                      clear hm hm2 hm3 hown hsay HEE HE g1 g2 HSS HST
                      go_wp2_with (first | (go_at_call 33; (with_reducible refine (HS1.out _).mono ?_); rintro e w' ⟨rfl, hb⟩; obtain ⟨p13, rfl⟩ := later_of_below hb; clear hb) | (go_at_call 33; (with_reducible refine (HS2.out _).mono ?_); rintro e w' ⟨rfl, hb⟩; obtain ⟨p14, rfl⟩ := later_of_below hb; clear hb))
                      refine any_worldF (fun w' => (w'.cell? ⟨w.heap.size, 0, none⟩ = some (.int .i64 Rm) ∧ w'.cell? ⟨w.heap.size, 1, none⟩ = some (.int .i64 Cm) ∧ w'.cell? ⟨w.heap.size, 2, none⟩ = some (.slice a zs.length cap) ∧ w'.cell? ⟨w.heap.size, 3, none⟩ = some (.int .i64 Rm) ∧ w'.cell? ⟨w.heap.size, 4, none⟩ = some (.int .i64 Cm) ∧ w'.cell? ⟨w.heap.size, 5, none⟩ = some (.slice a' ys.length cap') ∧ w'.cell? ⟨w.heap.size, 6, none⟩ = some (.int .i64 Rm) ∧ w'.cell? ⟨w.heap.size, 7, none⟩ = some (.int .i64 Cm) ∧ w'.cell? ⟨w.heap.size, 8, none⟩ = some (.slice a'' us.length cap'')) ∧ (w'.cell? ⟨B, 0, none⟩ = some (.int .i64 Rm) ∧ w'.cell? ⟨B, 1, none⟩ = some (.int .i64 Cm) ∧ w'.cell? ⟨B, 2, none⟩ = some (.slice q zs.length cc)) ∧ Below wr.heap.size wr w') ⟨⟨(by (first | (simp [go_sem, m0, m1, m2, m3, m4, m5, m6, m7, m8, o0, o1, o2]; done) | simp [go_sem, m0, m1, m2, m3, m4, m5, m6, m7, m8, o0, o1, o2, ↓IntWalk.iteOmega])), (by (first | (simp [go_sem, m0, m1, m2, m3, m4, m5, m6, m7, m8, o0, o1, o2]; done) | simp [go_sem, m0, m1, m2, m3, m4, m5, m6, m7, m8, o0, o1, o2, ↓IntWalk.iteOmega])), (by (first | (simp [go_sem, m0, m1, m2, m3, m4, m5, m6, m7, m8, o0, o1, o2]; done) | simp [go_sem, m0, m1, m2, m3, m4, m5, m6, m7, m8, o0, o1, o2, ↓IntWalk.iteOmega])), (by (first | (simp [go_sem, m0, m1, m2, m3, m4, m5, m6, m7, m8, o0, o1, o2]; done) | simp [go_sem, m0, m1, m2, m3, m4, m5, m6, m7, m8, o0, o1, o2, ↓IntWalk.iteOmega])), (by (first | (simp [go_sem, m0, m1, m2, m3, m4, m5, m6, m7, m8, o0, o1, o2]; done) | simp [go_sem, m0, m1, m2, m3, m4, m5, m6, m7, m8, o0, o1, o2, ↓IntWalk.iteOmega])), (by (first | (simp [go_sem, m0, m1, m2, m3, m4, m5, m6, m7, m8, o0, o1, o2]; done) | simp [go_sem, m0, m1, m2, m3, m4, m5, m6, m7, m8, o0, o1, o2, ↓IntWalk.iteOmega])), (by (first | (simp [go_sem, m0, m1, m2, m3, m4, m5, m6, m7, m8, o0, o1, o2]; done) | simp [go_sem, m0, m1, m2, m3, m4, m5, m6, m7, m8, o0, o1, o2, ↓IntWalk.iteOmega])), (by (first | (simp [go_sem, m0, m1, m2, m3, m4, m5, m6, m7, m8, o0, o1, o2]; done) | simp [go_sem, m0, m1, m2, m3, m4, m5, m6, m7, m8, o0, o1, o2, ↓IntWalk.iteOmega])), (by (first | (simp [go_sem, m0, m1, m2, m3, m4, m5, m6, m7, m8, o0, o1, o2]; done) | simp [go_sem, m0, m1, m2, m3, m4, m5, m6, m7, m8, o0, o1, o2, ↓IntWalk.iteOmega]))⟩, ⟨(by (first | (simp [go_sem, m0, m1, m2, m3, m4, m5, m6, m7, m8, o0, o1, o2]; done) | simp [go_sem, m0, m1, m2, m3, m4, m5, m6, m7, m8, o0, o1, o2, ↓IntWalk.iteOmega])), (by (first | (simp [go_sem, m0, m1, m2, m3, m4, m5, m6, m7, m8, o0, o1, o2]; done) | simp [go_sem, m0, m1, m2, m3, m4, m5, m6, m7, m8, o0, o1, o2, ↓IntWalk.iteOmega])), (by (first | (simp [go_sem, m0, m1, m2, m3, m4, m5, m6, m7, m8, o0, o1, o2]; done) | simp [go_sem, m0, m1, m2, m3, m4, m5, m6, m7, m8, o0, o1, o2, ↓IntWalk.iteOmega]))⟩, (by (repeat' (first | with_reducible exact Below.refl _ _ | (with_reducible refine below_later_of ?_ ?_ _) | (with_reducible refine Below.alloc ?_ ?_ _) | (with_reducible refine Below.setCell ?_ ?_ _) | (with_reducible refine Below.drew ?_) | (simp; done) | (simp; omega) | omega)))⟩ ?_
                      clear m0 m1 m2 m3 m4 m5 m6 m7 m8 o0 o1 o2
                      rintro W7 ⟨⟨m0, m1, m2, m3, m4, m5, m6, m7, m8⟩, ⟨o0, o1, o2⟩, hb7⟩
                      have HB7 := Lib.hid hb7
                      have hs7 := hb7.size
                      have HRC1' := Lib.hid (show ∀ W, Below W7.heap.size W7 W → _ from fun W hW => HRC1.out W (HB7.out.trans (hW.mono hs7)))
                      have HRC2' := Lib.hid (show ∀ W (x : Value), Below W7.heap.size W7 W → _ from fun W x hW => HRC2.out W x (HB7.out.trans (hW.mono hs7)))
                      have HSP' := Lib.hid (show ∀ W (x : Value), Below W7.heap.size W7 W → _ from fun W x hW => HSP.out W x (HB7.out.trans (hW.mono hs7)))
                      clear hb7 HRC1 HRC2 HSP
                      have HRC1 := HRC1'
                      have HRC2 := HRC2'
                      have HSP := HSP'
                      go_wp2_with fail
                      go_region_held3 (fun w' => (w'.cell? ⟨w.heap.size, 0, none⟩ = some (.int .i64 Rm) ∧ w'.cell? ⟨w.heap.size, 1, none⟩ = some (.int .i64 Cm) ∧ w'.cell? ⟨w.heap.size, 2, none⟩ = some (.slice a zs.length cap) ∧ w'.cell? ⟨w.heap.size, 3, none⟩ = some (.int .i64 Rm) ∧ w'.cell? ⟨w.heap.size, 4, none⟩ = some (.int .i64 Cm) ∧ w'.cell? ⟨w.heap.size, 5, none⟩ = some (.slice a' ys.length cap') ∧ w'.cell? ⟨w.heap.size, 6, none⟩ = some (.int .i64 Rm) ∧ w'.cell? ⟨w.heap.size, 7, none⟩ = some (.int .i64 Cm) ∧ w'.cell? ⟨w.heap.size, 8, none⟩ = some (.slice a'' us.length cap'')) ∧ (w'.cell? ⟨B, 0, none⟩ = some (.int .i64 Rm) ∧ w'.cell? ⟨B, 1, none⟩ = some (.int .i64 Cm) ∧ w'.cell? ⟨B, 2, none⟩ = some (.slice q zs.length cc))) (first | exact ⟨⟨m0, m1, m2, m3, m4, m5, m6, m7, m8⟩, o0, o1, o2⟩ | ((first | (simp [go_sem, m0, m1, m2, m3, m4, m5, m6, m7, m8, o0, o1, o2]; done) | simp [go_sem, m0, m1, m2, m3, m4, m5, m6, m7, m8, o0, o1, o2, ↓IntWalk.iteOmega]); done)) (first | (go_at_call 26; (with_reducible refine (HRC1.out _ (by (repeat' (first | with_reducible exact Below.refl _ _ | (with_reducible refine below_later_of ?_ ?_ _) | (with_reducible refine Below.alloc ?_ ?_ _) | (with_reducible refine Below.setCell ?_ ?_ _) | (with_reducible refine Below.drew ?_) | (simp; done) | (simp; omega) | omega)))).mono ?_); rintro e w' ⟨a6, c6, rfl, ho, hb⟩; have HO6 := Lib.hid ho.ints; clear ho; obtain ⟨p16, rfl⟩ := later_of_below hb; clear hb) | (go_at_call 26; (with_reducible refine (HRC2.out _ _ (by (repeat' (first | with_reducible exact Below.refl _ _ | (with_reducible refine below_later_of ?_ ?_ _) | (with_reducible refine Below.alloc ?_ ?_ _) | (with_reducible refine Below.setCell ?_ ?_ _) | (with_reducible refine Below.drew ?_) | (simp; done) | (simp; omega) | omega))) (HO6.out.below (by (repeat' (first | with_reducible exact Below.refl _ _ | (with_reducible refine below_later_of ?_ ?_ _) | (with_reducible refine Below.alloc ?_ ?_ _) | (with_reducible refine Below.setCell ?_ ?_ _) | (with_reducible refine Below.drew ?_) | (simp; done) | (simp; omega) | omega))))).mono ?_); rintro e w' ⟨a7, c7, rfl, ho, hb⟩; have HO7 := Lib.hid ho.ints; clear ho; obtain ⟨p17, rfl⟩ := later_of_below hb; clear hb) | (go_at_call 25; (with_reducible refine (HSP.out _ _ (by (repeat' (first | with_reducible exact Below.refl _ _ | (with_reducible refine below_later_of ?_ ?_ _) | (with_reducible refine Below.alloc ?_ ?_ _) | (with_reducible refine Below.setCell ?_ ?_ _) | (with_reducible refine Below.drew ?_) | (simp; done) | (simp; omega) | omega))) (HO7.out.below (by (repeat' (first | with_reducible exact Below.refl _ _ | (with_reducible refine below_later_of ?_ ?_ _) | (with_reducible refine Below.alloc ?_ ?_ _) | (with_reducible refine Below.setCell ?_ ?_ _) | (with_reducible refine Below.drew ?_) | (simp; done) | (simp; omega) | omega))))).mono ?_); rintro e w' ⟨rfl, hb⟩; obtain ⟨p18, rfl⟩ := later_of_below hb; clear hb))
                      all_goals
                        rename_i hheld
                        clear hheld
                        go_wp2_with fail
                        go_ret
                        exact ⟨rfl, HB9.out.trans (below_mono_of HB9.out.size (HB7.out.trans (below_mono_of hs7 (by (repeat' (first | with_reducible exact Below.refl _ _ | (with_reducible refine below_later_of ?_ ?_ _) | (with_reducible refine Below.alloc ?_ ?_ _) | (with_reducible refine Below.setCell ?_ ?_ _) | (with_reducible refine Below.drew ?_) | (simp; done) | (simp; omega) | omega))))))⟩
                    · have HS2 := Lib.hid (HST.out false (by simpa using s2))
                      have hE : (13 : Int) = E := by rw [← HEE.out, if_neg (by simp), if_neg (by simp), if_neg (by simp), if_neg (fun h => s2 h.2)]
                      subst hE
                      have hE0 : (13 : Int) ≠ 0 := by decide
                      clear s1 s2 HEE HE HSS HST
                      obtain ⟨rfl, rfl, rfl⟩ := hsay.2 hE0
                      clear hsay
                      go_wp2_with (first | (go_at_call 33; (with_reducible refine (HS1.out _).mono ?_); rintro e w' ⟨rfl, hb⟩; obtain ⟨p13, rfl⟩ := later_of_below hb; clear hb) | (go_at_call 33; (with_reducible refine (HS2.out _).mono ?_); rintro e w' ⟨rfl, hb⟩; obtain ⟨p14, rfl⟩ := later_of_below hb; clear hb) | (go_at_call 24; (with_reducible refine (lNoMap0 _ _ _).mono ?_); rintro e w' ⟨rfl, hb⟩; obtain ⟨p15, rfl⟩ := later_of_below hb; clear hb))
                      go_ret
                      exact ⟨ret_bool (by simp), HB9.out.trans (below_mono_of HB9.out.size (by (repeat' (first | with_reducible exact Below.refl _ _ | (with_reducible refine below_later_of ?_ ?_ _) | (with_reducible refine Below.alloc ?_ ?_ _) | (with_reducible refine Below.setCell ?_ ?_ _) | (with_reducible refine Below.drew ?_) | (simp; done) | (simp; omega) | omega))))⟩
                  · have HS1 := Lib.hid (HSS.out false (by simpa using s1))
                    have hE : (13 : Int) = E := by rw [← HEE.out, if_neg (by simp), if_neg (by simp), if_neg (by simp), if_neg (fun h => s1 h.1)]
                    subst hE
                    have hE0 : (13 : Int) ≠ 0 := by decide
                    clear s1 HEE HE HSS HST
                    obtain ⟨rfl, rfl, rfl⟩ := hsay.2 hE0
                    clear hsay
                    go_wp2_with (first | (go_at_call 33; (with_reducible refine (HS1.out _).mono ?_); rintro e w' ⟨rfl, hb⟩; obtain ⟨p13, rfl⟩ := later_of_below hb; clear hb) | (go_at_call 24; (with_reducible refine (lNoMap0 _ _ _).mono ?_); rintro e w' ⟨rfl, hb⟩; obtain ⟨p15, rfl⟩ := later_of_below hb; clear hb))
                    go_ret
                    exact ⟨ret_bool (by simp), HB9.out.trans (below_mono_of HB9.out.size (by (repeat' (first | with_reducible exact Below.refl _ _ | (with_reducible refine below_later_of ?_ ?_ _) | (with_reducible refine Below.alloc ?_ ?_ _) | (with_reducible refine Below.setCell ?_ ?_ _) | (with_reducible refine Below.drew ?_) | (simp; done) | (simp; omega) | omega))))⟩
                · have hE : z2 = E := by rw [← HEE.out, if_neg (by simp), if_neg (by simp), if_pos h2]
                  subst hE
                  have hE0 := h2
                  have d1 : (z2 == 0) = false := by simpa using h2
                  have d2 : (z2 != 0) = true := by simpa using h2
                  have d3 : (z2 == z2) = true := by simp
                  clear h2 HEE HE
                  obtain ⟨rfl, rfl, rfl⟩ := hsay.2 hE0
                  clear hsay
                  go_wp2_with (first | (go_at_call 24; (with_reducible refine (lNoMap0 _ _ _).mono ?_); rintro e w' ⟨rfl, hb⟩; obtain ⟨p15, rfl⟩ := later_of_below hb; clear hb))
                  go_ret
                  exact ⟨ret_bool (by simp), HB9.out.trans (below_mono_of HB9.out.size (by (repeat' (first | with_reducible exact Below.refl _ _ | (with_reducible refine below_later_of ?_ ?_ _) | (with_reducible refine Below.alloc ?_ ?_ _) | (with_reducible refine Below.setCell ?_ ?_ _) | (with_reducible refine Below.drew ?_) | (simp; done) | (simp; omega) | omega))))⟩
          · have hE : z0 = E := by rw [← HEE.out, if_pos h0]
            subst hE
            obtain ⟨rfl, rfl, rfl⟩ := hsay.2 h0
            have HHM := Lib.hid (show ∀ W v, IntsV W v zs → _ from fun W v hv => hist_map R C n zs v W (by omega) hv (e0 := z0) (by rw [HZ0.out]) h0)
            have d1 : (z0 != 0) = true := by simpa using h0
            have d2 : (z0 == z0) = true := by simp
            clear hsay h0 HEE HE
            go_wp2_with (first | (go_at_call 21; (with_reducible refine (HCA.out _ (by (repeat' (first | with_reducible exact Below.refl _ _ | (with_reducible refine below_later_of ?_ ?_ _) | (with_reducible refine Below.alloc ?_ ?_ _) | (with_reducible refine Below.setCell ?_ ?_ _) | (with_reducible refine Below.drew ?_) | (simp; done) | (simp; omega) | omega)))).mono ?_); rintro e w' ⟨a3, c3, rfl, hv, hb⟩; have HVA := Lib.hid hv.ints; clear hv; obtain ⟨p3, rfl⟩ := later_of_below hb; clear hb) | (go_at_call 29; (with_reducible refine (HHM.out _ _ (HVA.out.below (by (repeat' (first | with_reducible exact Below.refl _ _ | (with_reducible refine below_later_of ?_ ?_ _) | (with_reducible refine Below.alloc ?_ ?_ _) | (with_reducible refine Below.setCell ?_ ?_ _) | (with_reducible refine Below.drew ?_) | (simp; done) | (simp; omega) | omega))))).mono ?_); rintro e w' ⟨rfl, hb⟩; obtain ⟨p7, rfl⟩ := later_of_below hb; clear hb) | (go_at_call 30; (with_reducible refine (HK0.out _ (by (repeat' (first | with_reducible exact Below.refl _ _ | (with_reducible refine below_later_of ?_ ?_ _) | (with_reducible refine Below.alloc ?_ ?_ _) | (with_reducible refine Below.setCell ?_ ?_ _) | (with_reducible refine Below.drew ?_) | (simp; done) | (simp; omega) | omega)))).mono ?_); rintro e w' ⟨rfl, hb⟩; obtain ⟨p10, rfl⟩ := later_of_below hb; clear hb) | (go_at_call 24; (with_reducible refine (lNoMap0 _ _ _).mono ?_); rintro e w' ⟨rfl, hb⟩; obtain ⟨p15, rfl⟩ := later_of_below hb; clear hb))
            go_ret
            exact ⟨ret_bool (by simp), HB3.out.trans (below_mono_of HB3.out.size (by (repeat' (first | with_reducible exact Below.refl _ _ | (with_reducible refine below_later_of ?_ ?_ _) | (with_reducible refine Below.alloc ?_ ?_ _) | (with_reducible refine Below.setCell ?_ ?_ _) | (with_reducible refine Below.drew ?_) | (simp; done) | (simp; omega) | omega))))⟩
      · obtain ⟨⟨a, cap, rfl, -⟩, -⟩ := hx
        obtain ⟨⟨a', cap', rfl, -⟩, -⟩ := hy
        obtain ⟨⟨a'', cap'', rfl, -⟩, -⟩ := hz
        have HLI := Lib.hid (fun w => lLight R C zs.length cap a w (decide_eq_true hn))
        have HLJ := Lib.hid (fun w => lLight R' C' ys.length cap' a' w (decide_eq_true hn2))
        have HLK := Lib.hid (fun w => lLight R'' C'' us.length cap'' a'' w (decide_eq_false hn3))
        go_enter Tryz.func5, Tryz.ntmps5
        go_wp2_with (first | (go_at_call 13; (with_reducible refine (awake4 _ (HT.out.below (by (repeat' (first | with_reducible exact Below.refl _ _ | (with_reducible refine below_later_of ?_ ?_ _) | (with_reducible refine Below.alloc ?_ ?_ _) | (with_reducible refine Below.setCell ?_ ?_ _) | (with_reducible refine Below.drew ?_) | (simp; done) | (simp; omega) | omega))))).mono ?_); rintro e w' ⟨rfl, hb⟩; obtain ⟨pp, rfl⟩ := later_of_below hb; clear hb) | (go_at_call 19; (with_reducible refine (HLI.out _).mono ?_); rintro e w' ⟨rfl, hb⟩; obtain ⟨pl0, rfl⟩ := later_of_below hb; clear hb) | (go_at_call 19; (with_reducible refine (HLJ.out _).mono ?_); rintro e w' ⟨rfl, hb⟩; obtain ⟨pl1, rfl⟩ := later_of_below hb; clear hb) | (go_at_call 19; (with_reducible refine (HLK.out _).mono ?_); rintro e w' ⟨rfl, hb⟩; obtain ⟨pl2, rfl⟩ := later_of_below hb; clear hb))
        go_ret
        exact ⟨rfl, (by (repeat' (first | with_reducible exact Below.refl _ _ | (with_reducible refine below_later_of ?_ ?_ _) | (with_reducible refine Below.alloc ?_ ?_ _) | (with_reducible refine Below.setCell ?_ ?_ _) | (with_reducible refine Below.drew ?_) | (simp; done) | (simp; omega) | omega)))⟩
    · obtain ⟨⟨a, cap, rfl, -⟩, -⟩ := hx
      obtain ⟨⟨a', cap', rfl, -⟩, -⟩ := hy
      obtain ⟨⟨a'', cap'', rfl, -⟩, -⟩ := hz
      have HLI := Lib.hid (fun w => lLight R C zs.length cap a w (decide_eq_true hn))
      have HLJ := Lib.hid (fun w => lLight R' C' ys.length cap' a' w (decide_eq_false hn2))
      go_enter Tryz.func5, Tryz.ntmps5
      go_wp2_with (first | (go_at_call 13; (with_reducible refine (awake4 _ (HT.out.below (by (repeat' (first | with_reducible exact Below.refl _ _ | (with_reducible refine below_later_of ?_ ?_ _) | (with_reducible refine Below.alloc ?_ ?_ _) | (with_reducible refine Below.setCell ?_ ?_ _) | (with_reducible refine Below.drew ?_) | (simp; done) | (simp; omega) | omega))))).mono ?_); rintro e w' ⟨rfl, hb⟩; obtain ⟨pp, rfl⟩ := later_of_below hb; clear hb) | (go_at_call 19; (with_reducible refine (HLI.out _).mono ?_); rintro e w' ⟨rfl, hb⟩; obtain ⟨pl0, rfl⟩ := later_of_below hb; clear hb) | (go_at_call 19; (with_reducible refine (HLJ.out _).mono ?_); rintro e w' ⟨rfl, hb⟩; obtain ⟨pl1, rfl⟩ := later_of_below hb; clear hb))
      go_ret
      exact ⟨rfl, (by (repeat' (first | with_reducible exact Below.refl _ _ | (with_reducible refine below_later_of ?_ ?_ _) | (with_reducible refine Below.alloc ?_ ?_ _) | (with_reducible refine Below.setCell ?_ ?_ _) | (with_reducible refine Below.drew ?_) | (simp; done) | (simp; omega) | omega)))⟩
  · obtain ⟨⟨a, cap, rfl, -⟩, -⟩ := hx
    obtain ⟨⟨a', cap', rfl, -⟩, -⟩ := hy
    obtain ⟨⟨a'', cap'', rfl, -⟩, -⟩ := hz
    have HLI := Lib.hid (fun w => lLight R C zs.length cap a w (decide_eq_false hn))
    go_enter Tryz.func5, Tryz.ntmps5
    go_wp2_with (first | (go_at_call 13; (with_reducible refine (awake4 _ (HT.out.below (by (repeat' (first | with_reducible exact Below.refl _ _ | (with_reducible refine below_later_of ?_ ?_ _) | (with_reducible refine Below.alloc ?_ ?_ _) | (with_reducible refine Below.setCell ?_ ?_ _) | (with_reducible refine Below.drew ?_) | (simp; done) | (simp; omega) | omega))))).mono ?_); rintro e w' ⟨rfl, hb⟩; obtain ⟨pp, rfl⟩ := later_of_below hb; clear hb) | (go_at_call 19; (with_reducible refine (HLI.out _).mono ?_); rintro e w' ⟨rfl, hb⟩; obtain ⟨pl0, rfl⟩ := later_of_below hb; clear hb))
    go_ret
    exact ⟨rfl, (by (repeat' (first | with_reducible exact Below.refl _ _ | (with_reducible refine below_later_of ?_ ?_ _) | (with_reducible refine Below.alloc ?_ ?_ _) | (with_reducible refine Below.setCell ?_ ?_ _) | (with_reducible refine Below.drew ?_) | (simp; done) | (simp; omega) | omega)))⟩
end Go.Proofs.YtfiioadmpjmmgaaGreatDoor
