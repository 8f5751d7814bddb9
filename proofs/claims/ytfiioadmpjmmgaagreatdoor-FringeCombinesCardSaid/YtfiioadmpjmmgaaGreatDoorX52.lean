/- Chapter 4: the law FringeCombines. -/
import Derived.Test.YtfiioadmpjmmgaaGreatDoorXM
import Derived.Test.YtfiioadmpjmmgaaGreatDoorX20
namespace Go.Proofs.YtfiioadmpjmmgaaGreatDoor
set_option linter.unusedVariables false
set_option linter.unusedSimpArgs false
open Go.RowKit Ntt
theorem twoE_zero {R C : Int} {zs : List Int} {R' C' : Int} {ys : List Int} (h : twoE R C zs R' C' ys = 0) : ∃ Rn Cn : Nat, R = Rn ∧ C = Cn ∧ R' = Rn ∧ C' = Cn ∧ MapOk Rn Cn zs ∧ MapOk Rn Cn ys := by
  unfold twoE at h
  split at h
  · exact absurd h ‹_›
  · rename_i h1
    split at h
    · exact absurd h ‹_›
    · rename_i h2
      split at h
      · rename_i h3
        obtain ⟨A, B, e1, e2, hm⟩ := mapE_zero (by simpa using h1)
        obtain ⟨A', B', e3, e4, hm2⟩ := mapE_zero (by simpa using h2)
        obtain ⟨f1, f2⟩ := h3
        have q1 : A' = A := by omega
        have q2 : B' = B := by omega
        subst q1 q2
        exact ⟨_, _, e1, e2, e3, e4, hm, hm2⟩
      · exact absurd h (by decide)
theorem twoE_ok {R C : Nat} {zs ys : List Int} (h : MapOk R C zs) (h2 : MapOk R C ys) : twoE R C zs R C ys = 0 := by
  unfold twoE
  rw [h.err, h2.err]
  simp
set_option maxRecDepth 20000 in
set_option maxHeartbeats 40000000 in
theorem combines_any (R C : Int) (zs : List Int) (v : Value) (R' C' : Int) (ys : List Int) (u : Value) (w : World) (hx : IntsX w v zs) (hy : IntsX w u ys) (ht : Tab w) :
    Calls Tryz.prog 4 #[.agg #[.int .i64 R, .int .i64 C, v], .agg #[.int .i64 R', .int .i64 C', u]] w fun e w' => e = .returned (.bool true) ∧ Below w.heap.size w w' := by
  have HT := Lib.hid ht
  clear ht
  by_cases hn : zs.length ≤ 150
  · by_cases hn2 : ys.length ≤ 150
    · have hv := hx.ints (by omega)
      have hu := hy.ints (by omega)
      obtain ⟨⟨a, cap, rfl, -⟩, -⟩ := hx
      obtain ⟨⟨a', cap', rfl, -⟩, -⟩ := hy
      have HLI := Lib.hid (fun w => lLight R C zs.length cap a w (decide_eq_true hn))
      have HLJ := Lib.hid (fun w => lLight R' C' ys.length cap' a' w (decide_eq_true hn2))
      obtain ⟨E, hE⟩ : ∃ E, twoE R C zs R' C' ys = E := ⟨_, rfl⟩
      have HE := Lib.hid hE
      have HCA0 := Lib.hid (show ∀ W, Below w.heap.size w W → _ from fun W hW => bCopyPhases R C zs _ W (hv.below hW))
      have HCB0 := Lib.hid (show ∀ W, Below w.heap.size w W → _ from fun W hW => bCopyPhases R' C' ys _ W (hu.below hW))
      have HTW0 := Lib.hid (show ∀ W, Below w.heap.size w W → _ from fun W hW => lTwo R C zs _ R' C' ys _ W (by omega) (by omega) (hv.below hW) (hu.below hW) hE)
      have HVV := Lib.hid hv
      have HUU := Lib.hid hu
      clear hv hu hE
      go_enter Tryz.func4, Tryz.ntmps4
      go_wp2_with (first | (go_at_call 13; (with_reducible refine (awake4 _ (HT.out.below (by (repeat' (first | with_reducible exact Below.refl _ _ | (with_reducible refine below_later_of ?_ ?_ _) | (with_reducible refine Below.alloc ?_ ?_ _) | (with_reducible refine Below.setCell ?_ ?_ _) | (with_reducible refine Below.drew ?_) | (simp; done) | (simp; omega) | omega))))).mono ?_); rintro e w' ⟨rfl, hb⟩; obtain ⟨pp, rfl⟩ := later_of_below hb; clear hb) | (go_at_call 19; (with_reducible refine (HLI.out _).mono ?_); rintro e w' ⟨rfl, hb⟩; obtain ⟨p0, rfl⟩ := later_of_below hb; clear hb) | (go_at_call 19; (with_reducible refine (HLJ.out _).mono ?_); rintro e w' ⟨rfl, hb⟩; obtain ⟨p0', rfl⟩ := later_of_below hb; clear hb))
      refine any_worldF (fun w' => (w'.cell? ⟨w.heap.size, 0, none⟩ = some (.int .i64 R) ∧ w'.cell? ⟨w.heap.size, 1, none⟩ = some (.int .i64 C) ∧ w'.cell? ⟨w.heap.size, 2, none⟩ = some (.slice a zs.length cap)) ∧ (w'.cell? ⟨w.heap.size + 1, 0, none⟩ = some (.int .i64 R') ∧ w'.cell? ⟨w.heap.size + 1, 1, none⟩ = some (.int .i64 C') ∧ w'.cell? ⟨w.heap.size + 1, 2, none⟩ = some (.slice a' ys.length cap')) ∧ Below w.heap.size w w' ∧ w.heap.size + 1 < w'.heap.size) ⟨⟨(by (first | (simp [go_sem]; done) | simp [go_sem, ↓IntWalk.iteOmega])), (by (first | (simp [go_sem]; done) | simp [go_sem, ↓IntWalk.iteOmega])), (by (first | (simp [go_sem]; done) | simp [go_sem, ↓IntWalk.iteOmega]))⟩, ⟨(by (first | (simp [go_sem]; done) | simp [go_sem, ↓IntWalk.iteOmega])), (by (first | (simp [go_sem]; done) | simp [go_sem, ↓IntWalk.iteOmega])), (by (first | (simp [go_sem]; done) | simp [go_sem, ↓IntWalk.iteOmega]))⟩, (by (repeat' (first | with_reducible exact Below.refl _ _ | (with_reducible refine below_later_of ?_ ?_ _) | (with_reducible refine Below.alloc ?_ ?_ _) | (with_reducible refine Below.setCell ?_ ?_ _) | (with_reducible refine Below.drew ?_) | (simp; done) | (simp; omega) | omega))), by simp; omega⟩ ?_
      rintro W1 ⟨⟨k0, k1, k2⟩, ⟨j0, j1, j2⟩, hb1, hlt1⟩
      have HB1 := Lib.hid hb1
      have hs1 := hb1.size
      have HCA := Lib.hid (show ∀ W, Below W1.heap.size W1 W → _ from fun W hW => HCA0.out W (HB1.out.trans (hW.mono hs1)))
      have HCB := Lib.hid (show ∀ W, Below W1.heap.size W1 W → _ from fun W hW => HCB0.out W (HB1.out.trans (hW.mono hs1)))
      clear hb1
      go_wp2_with fail
      go_cut [5, 6] from 25 to 31 (fun X Y wx => ∃ B r c k q cc, X = .pointer (some ⟨B, 0, none⟩) ∧ Y = .int .i64 E ∧ (wx.cell? ⟨B, 0, none⟩ = some (.int .i64 r) ∧ wx.cell? ⟨B, 1, none⟩ = some (.int .i64 c) ∧ wx.cell? ⟨B, 2, none⟩ = some (.slice q k cc)) ∧ MkSay wx 0 R C zs.length (combL zs ys (-1)) E r c k q cc ∧ B < wx.heap.size ∧ Below W1.heap.size W1 wx)
      case first =>
        go_region_held3 (fun w' => (w'.cell? ⟨w.heap.size, 0, none⟩ = some (.int .i64 R) ∧ w'.cell? ⟨w.heap.size, 1, none⟩ = some (.int .i64 C) ∧ w'.cell? ⟨w.heap.size, 2, none⟩ = some (.slice a zs.length cap)) ∧ (w'.cell? ⟨w.heap.size + 1, 0, none⟩ = some (.int .i64 R') ∧ w'.cell? ⟨w.heap.size + 1, 1, none⟩ = some (.int .i64 C') ∧ w'.cell? ⟨w.heap.size + 1, 2, none⟩ = some (.slice a' ys.length cap'))) (first | exact ⟨⟨k0, k1, k2⟩, j0, j1, j2⟩ | ((first | (simp [go_sem, k0, k1, k2, j0, j1, j2]; done) | simp [go_sem, k0, k1, k2, j0, j1, j2, ↓IntWalk.iteOmega]); done)) (first | (go_at_call 21; (with_reducible refine (HCA.out _ (by (repeat' (first | with_reducible exact Below.refl _ _ | (with_reducible refine below_later_of ?_ ?_ _) | (with_reducible refine Below.alloc ?_ ?_ _) | (with_reducible refine Below.setCell ?_ ?_ _) | (with_reducible refine Below.drew ?_) | (simp; done) | (simp; omega) | omega)))).mono ?_); rintro e w' ⟨a3, c3, rfl, hv, hb⟩; have HVA := Lib.hid hv.ints; clear hv; obtain ⟨p3, rfl⟩ := later_of_below hb; clear hb) | (go_at_call 21; (with_reducible refine (HCB.out _ (by (repeat' (first | with_reducible exact Below.refl _ _ | (with_reducible refine below_later_of ?_ ?_ _) | (with_reducible refine Below.alloc ?_ ?_ _) | (with_reducible refine Below.setCell ?_ ?_ _) | (with_reducible refine Below.drew ?_) | (simp; done) | (simp; omega) | omega)))).mono ?_); rintro e w' ⟨a4, c4, rfl, hv, hb⟩; have HVB := Lib.hid hv.ints; clear hv; obtain ⟨p4, rfl⟩ := later_of_below hb; clear hb) | (go_at_call 20; (with_reducible refine (dif_det R C zs _ R' C' ys _ _ (HVA.out.below (by (repeat' (first | with_reducible exact Below.refl _ _ | (with_reducible refine below_later_of ?_ ?_ _) | (with_reducible refine Below.alloc ?_ ?_ _) | (with_reducible refine Below.setCell ?_ ?_ _) | (with_reducible refine Below.drew ?_) | (simp; done) | (simp; omega) | omega)))) (by omega) (HVB.out.below (by (repeat' (first | with_reducible exact Below.refl _ _ | (with_reducible refine below_later_of ?_ ?_ _) | (with_reducible refine Below.alloc ?_ ?_ _) | (with_reducible refine Below.setCell ?_ ?_ _) | (with_reducible refine Below.drew ?_) | (simp; done) | (simp; omega) | omega)))) (by omega) HE.out).mono ?_); rintro e w' ⟨r, c, k, q, cc, rfl, hs, hb⟩; have HS := Lib.hid hs; clear hs; obtain ⟨p5, rfl⟩ := later_of_below hb; clear hb))
        all_goals
          rename_i hheld
          clear hheld
          go_wp2_with fail
          go_meet
          refine ⟨_, r, c, k, q, cc, rfl, rfl, ⟨(by (first | (simp [go_sem]; done) | simp [go_sem, ↓IntWalk.iteOmega])), (by (first | (simp [go_sem]; done) | simp [go_sem, ↓IntWalk.iteOmega])), (by (first | (simp [go_sem]; done) | simp [go_sem, ↓IntWalk.iteOmega]))⟩, ?_, by simp <;> omega, (by (repeat' (first | with_reducible exact Below.refl _ _ | (with_reducible refine below_later_of ?_ ?_ _) | (with_reducible refine Below.alloc ?_ ?_ _) | (with_reducible refine Below.setCell ?_ ?_ _) | (with_reducible refine Below.drew ?_) | (simp; done) | (simp; omega) | omega)))⟩
          first
            | (refine (HS.out.below ?_).mono (Nat.zero_le _); (repeat' (first | with_reducible exact Below.refl _ _ | (with_reducible refine below_later_of ?_ ?_ _) | (with_reducible refine Below.alloc ?_ ?_ _) | (with_reducible refine Below.setCell ?_ ?_ _) | (with_reducible refine Below.drew ?_) | (simp; done) | (simp; omega) | omega)); done)
            | (refine (MkSay.set (MkSay.set (MkSay.set HS.out ?_ _) ?_ _) ?_ _).mono (Nat.zero_le _) <;> simp <;> omega)
      case rest =>
        obtain ⟨B, r, c, k, q, cc, rfl, rfl, ⟨o0, o1, o2⟩, hsay, hB, hb⟩ := hcut
        obtain ⟨W3, hW3⟩ : ∃ W3 : World, W3 = wc := ⟨_, rfl⟩
        subst hW3
        have hs3 := hb.size
        have HB3 := Lib.hid (HB1.out.trans (hb.mono hs1))
        have HSAY := Lib.hid hsay
        have m0 := (hb.cell (p := ⟨w.heap.size, 0, none⟩) (by simp; omega)).trans k0
        have m1 := (hb.cell (p := ⟨w.heap.size, 1, none⟩) (by simp; omega)).trans k1
        have m2 := (hb.cell (p := ⟨w.heap.size, 2, none⟩) (by simp; omega)).trans k2
        have n0 := (hb.cell (p := ⟨w.heap.size + 1, 0, none⟩) (by simp; omega)).trans j0
        have n1 := (hb.cell (p := ⟨w.heap.size + 1, 1, none⟩) (by simp; omega)).trans j1
        have n2 := (hb.cell (p := ⟨w.heap.size + 1, 2, none⟩) (by simp; omega)).trans j2
        have hw3 : w.heap.size + 1 < W3.heap.size := by omega
        have HCA := Lib.hid (show ∀ W, Below W3.heap.size W3 W → _ from fun W hW => HCA0.out W (HB3.out.trans (hW.mono HB3.out.size)))
        have HCB := Lib.hid (show ∀ W, Below W3.heap.size W3 W → _ from fun W hW => HCB0.out W (HB3.out.trans (hW.mono HB3.out.size)))
        clear k0 k1 k2 j0 j1 j2 hb hsay HLI HLJ
        go_wp2_with fail
        go_cut [7, 8] from 33 to 39 (fun X Y wx => ∃ B2 r2 c2 k2 q2 cc2, X = .pointer (some ⟨B2, 0, none⟩) ∧ Y = .int .i64 E ∧ (wx.cell? ⟨B2, 0, none⟩ = some (.int .i64 r2) ∧ wx.cell? ⟨B2, 1, none⟩ = some (.int .i64 c2) ∧ wx.cell? ⟨B2, 2, none⟩ = some (.slice q2 k2 cc2)) ∧ MkSay wx 0 R C zs.length (combL zs ys 1) E r2 c2 k2 q2 cc2 ∧ B2 < wx.heap.size ∧ Below W3.heap.size W3 wx)
        case first =>
          go_region_held3 (fun w' => (w'.cell? ⟨w.heap.size, 0, none⟩ = some (.int .i64 R) ∧ w'.cell? ⟨w.heap.size, 1, none⟩ = some (.int .i64 C) ∧ w'.cell? ⟨w.heap.size, 2, none⟩ = some (.slice a zs.length cap)) ∧ (w'.cell? ⟨w.heap.size + 1, 0, none⟩ = some (.int .i64 R') ∧ w'.cell? ⟨w.heap.size + 1, 1, none⟩ = some (.int .i64 C') ∧ w'.cell? ⟨w.heap.size + 1, 2, none⟩ = some (.slice a' ys.length cap'))) (first | exact ⟨⟨m0, m1, m2⟩, n0, n1, n2⟩ | ((first | (simp [go_sem, m0, m1, m2, n0, n1, n2]; done) | simp [go_sem, m0, m1, m2, n0, n1, n2, ↓IntWalk.iteOmega]); done)) (first | (go_at_call 21; (with_reducible refine (HCA.out _ (by (repeat' (first | with_reducible exact Below.refl _ _ | (with_reducible refine below_later_of ?_ ?_ _) | (with_reducible refine Below.alloc ?_ ?_ _) | (with_reducible refine Below.setCell ?_ ?_ _) | (with_reducible refine Below.drew ?_) | (simp; done) | (simp; omega) | omega)))).mono ?_); rintro e w' ⟨a3, c3, rfl, hv, hb⟩; have HVA := Lib.hid hv.ints; clear hv; obtain ⟨p3, rfl⟩ := later_of_below hb; clear hb) | (go_at_call 21; (with_reducible refine (HCB.out _ (by (repeat' (first | with_reducible exact Below.refl _ _ | (with_reducible refine below_later_of ?_ ?_ _) | (with_reducible refine Below.alloc ?_ ?_ _) | (with_reducible refine Below.setCell ?_ ?_ _) | (with_reducible refine Below.drew ?_) | (simp; done) | (simp; omega) | omega)))).mono ?_); rintro e w' ⟨a4, c4, rfl, hv, hb⟩; have HVB := Lib.hid hv.ints; clear hv; obtain ⟨p4, rfl⟩ := later_of_below hb; clear hb) | (go_at_call 22; (with_reducible refine (tot_det R C zs _ R' C' ys _ _ (HVA.out.below (by (repeat' (first | with_reducible exact Below.refl _ _ | (with_reducible refine below_later_of ?_ ?_ _) | (with_reducible refine Below.alloc ?_ ?_ _) | (with_reducible refine Below.setCell ?_ ?_ _) | (with_reducible refine Below.drew ?_) | (simp; done) | (simp; omega) | omega)))) (by omega) (HVB.out.below (by (repeat' (first | with_reducible exact Below.refl _ _ | (with_reducible refine below_later_of ?_ ?_ _) | (with_reducible refine Below.alloc ?_ ?_ _) | (with_reducible refine Below.setCell ?_ ?_ _) | (with_reducible refine Below.drew ?_) | (simp; done) | (simp; omega) | omega)))) (by omega) HE.out).mono ?_); rintro e w' ⟨r2, c2, k2, q2, cc2, rfl, hs, hb⟩; have HS := Lib.hid hs; clear hs; obtain ⟨p5, rfl⟩ := later_of_below hb; clear hb))
          all_goals
            rename_i hheld
            clear hheld
            go_wp2_with fail
            go_meet
            refine ⟨_, r2, c2, k2, q2, cc2, rfl, rfl, ⟨(by (first | (simp [go_sem]; done) | simp [go_sem, ↓IntWalk.iteOmega])), (by (first | (simp [go_sem]; done) | simp [go_sem, ↓IntWalk.iteOmega])), (by (first | (simp [go_sem]; done) | simp [go_sem, ↓IntWalk.iteOmega]))⟩, ?_, by simp <;> omega, (by (repeat' (first | with_reducible exact Below.refl _ _ | (with_reducible refine below_later_of ?_ ?_ _) | (with_reducible refine Below.alloc ?_ ?_ _) | (with_reducible refine Below.setCell ?_ ?_ _) | (with_reducible refine Below.drew ?_) | (simp; done) | (simp; omega) | omega)))⟩
            first
              | (refine (HS.out.below ?_).mono (Nat.zero_le _); (repeat' (first | with_reducible exact Below.refl _ _ | (with_reducible refine below_later_of ?_ ?_ _) | (with_reducible refine Below.alloc ?_ ?_ _) | (with_reducible refine Below.setCell ?_ ?_ _) | (with_reducible refine Below.drew ?_) | (simp; done) | (simp; omega) | omega)); done)
              | (refine (MkSay.set (MkSay.set (MkSay.set HS.out ?_ _) ?_ _) ?_ _).mono (Nat.zero_le _) <;> simp <;> omega)
        case rest =>
          obtain ⟨B2, r2, c2, k2, q2, cc2, rfl, rfl, ⟨u0, u1, u2⟩, hsay2, hB2, hb⟩ := hcut
          obtain ⟨W5, hW5⟩ : ∃ W5 : World, W5 = wc := ⟨_, rfl⟩
          subst hW5
          have hs5 := hb.size
          have HB5 := Lib.hid (HB3.out.trans (hb.mono (by have := HB3.out.size; omega)))
          have hsay := HSAY.out.below hb
          replace m0 := (hb.cell (p := ⟨w.heap.size, 0, none⟩) (by simp; omega)).trans m0
          replace m1 := (hb.cell (p := ⟨w.heap.size, 1, none⟩) (by simp; omega)).trans m1
          replace m2 := (hb.cell (p := ⟨w.heap.size, 2, none⟩) (by simp; omega)).trans m2
          replace n0 := (hb.cell (p := ⟨w.heap.size + 1, 0, none⟩) (by simp; omega)).trans n0
          replace n1 := (hb.cell (p := ⟨w.heap.size + 1, 1, none⟩) (by simp; omega)).trans n1
          replace n2 := (hb.cell (p := ⟨w.heap.size + 1, 2, none⟩) (by simp; omega)).trans n2
          replace o0 := (hb.cell (p := ⟨B, 0, none⟩) hB).trans o0
          replace o1 := (hb.cell (p := ⟨B, 1, none⟩) hB).trans o1
          replace o2 := (hb.cell (p := ⟨B, 2, none⟩) hB).trans o2
          have hB5 : B < W5.heap.size := by omega
          have hw5 : w.heap.size + 1 < W5.heap.size := by omega
          have HTW := Lib.hid (show ∀ W, Below W5.heap.size W5 W → _ from fun W hW => HTW0.out W (HB5.out.trans (hW.mono HB5.out.size)))
          clear hb HCA HCB HCA0 HSAY
          by_cases h0 : E = 0
          · subst h0
            obtain ⟨Rn, Cn, rfl, rfl, rfl, rfl, hm, hm2⟩ := twoE_zero HE.out
            obtain ⟨rfl, rfl, rfl, hown⟩ := hsay.1 rfl
            obtain ⟨rfl, rfl, rfl, hown2⟩ := hsay2.1 rfl
            have HM := Lib.hid hm
            have HM2 := Lib.hid hm2
            have HRC1 := Lib.hid (show ∀ W, Below W5.heap.size W5 W → Calls Tryz.prog 26 #[.agg #[.int .i64 Rn, .int .i64 Cn, .slice a zs.length cap], .agg #[.int .i64 Rn, .int .i64 Cn, .slice a' ys.length cap'], .int .i64 (-1)] W fun e w' => ∃ a6 c6, e = .returned (.agg #[.int .i64 Rn, .int .i64 Cn, .slice a6 zs.length c6]) ∧ OwnIV W.heap.size w' (.slice a6 zs.length c6) (combL zs ys (-1)) ∧ Below W.heap.size W w' from fun W hW => by
              have hbw := HB5.out.trans (hW.mono HB5.out.size)
              have := rCombined Rn Cn Rn Cn zs ys (-1) _ _ W (Or.inr rfl) HM.out HM2.out (HVV.out.below hbw) (HUU.out.below hbw)
              unfold RmPost at this
              rw [combL_len] at this
              exact this)
            have HRC2 := Lib.hid (show ∀ W, Below W5.heap.size W5 W → Calls Tryz.prog 26 #[.agg #[.int .i64 Rn, .int .i64 Cn, .slice a zs.length cap], .agg #[.int .i64 Rn, .int .i64 Cn, .slice a' ys.length cap'], .int .i64 1] W fun e w' => ∃ a6 c6, e = .returned (.agg #[.int .i64 Rn, .int .i64 Cn, .slice a6 zs.length c6]) ∧ OwnIV W.heap.size w' (.slice a6 zs.length c6) (combL zs ys 1) ∧ Below W.heap.size W w' from fun W hW => by
              have hbw := HB5.out.trans (hW.mono HB5.out.size)
              have := rCombined Rn Cn Rn Cn zs ys 1 _ _ W (Or.inl rfl) HM.out HM2.out (HVV.out.below hbw) (HUU.out.below hbw)
              unfold RmPost at this
              rw [combL_len] at this
              exact this)
            have HSP1 := Lib.hid (show ∀ W (x : Value), Below W5.heap.size W5 W → IntsV W x (combL zs ys (-1)) → Calls Tryz.prog 25 #[.agg #[.int .i64 Rn, .int .i64 Cn, .slice q zs.length cc], .agg #[.int .i64 Rn, .int .i64 Cn, x]] W fun e w' => e = .returned (.bool true) ∧ Below W.heap.size W w' from
              fun W x hW hxx => bSamePhases _ _ _ _ _ _ _ _ W (hown.below hW).ints hxx (by simp))
            have HSP2 := Lib.hid (show ∀ W (x : Value), Below W5.heap.size W5 W → IntsV W x (combL zs ys 1) → Calls Tryz.prog 25 #[.agg #[.int .i64 Rn, .int .i64 Cn, .slice q2 zs.length cc2], .agg #[.int .i64 Rn, .int .i64 Cn, x]] W fun e w' => e = .returned (.bool true) ∧ Below W.heap.size W w' from
              fun W x hW hxx => bSamePhases _ _ _ _ _ _ _ _ W (hown2.below hW).ints hxx (by simp))
            have HOWN := Lib.hid hown
            clear hm hm2 hown hown2 hsay hsay2
            go_wp2_with (first | (go_at_call 23; (with_reducible refine (HTW.out _ (by (repeat' (first | with_reducible exact Below.refl _ _ | (with_reducible refine below_later_of ?_ ?_ _) | (with_reducible refine Below.alloc ?_ ?_ _) | (with_reducible refine Below.setCell ?_ ?_ _) | (with_reducible refine Below.drew ?_) | (simp; done) | (simp; omega) | omega)))).mono ?_); rintro e w' ⟨rfl, hb⟩; obtain ⟨p6, rfl⟩ := later_of_below hb; clear hb))
            refine any_worldF (fun w' => (w'.cell? ⟨w.heap.size, 0, none⟩ = some (.int .i64 Rn) ∧ w'.cell? ⟨w.heap.size, 1, none⟩ = some (.int .i64 Cn) ∧ w'.cell? ⟨w.heap.size, 2, none⟩ = some (.slice a zs.length cap)) ∧ (w'.cell? ⟨w.heap.size + 1, 0, none⟩ = some (.int .i64 Rn) ∧ w'.cell? ⟨w.heap.size + 1, 1, none⟩ = some (.int .i64 Cn) ∧ w'.cell? ⟨w.heap.size + 1, 2, none⟩ = some (.slice a' ys.length cap')) ∧ (w'.cell? ⟨B, 0, none⟩ = some (.int .i64 Rn) ∧ w'.cell? ⟨B, 1, none⟩ = some (.int .i64 Cn) ∧ w'.cell? ⟨B, 2, none⟩ = some (.slice q zs.length cc)) ∧ (w'.cell? ⟨B2, 0, none⟩ = some (.int .i64 Rn) ∧ w'.cell? ⟨B2, 1, none⟩ = some (.int .i64 Cn) ∧ w'.cell? ⟨B2, 2, none⟩ = some (.slice q2 zs.length cc2)) ∧ Below W5.heap.size W5 w') ⟨⟨(by (first | (simp [go_sem, m0, m1, m2, n0, n1, n2, o0, o1, o2, u0, u1, u2]; done) | simp [go_sem, m0, m1, m2, n0, n1, n2, o0, o1, o2, u0, u1, u2, ↓IntWalk.iteOmega])), (by (first | (simp [go_sem, m0, m1, m2, n0, n1, n2, o0, o1, o2, u0, u1, u2]; done) | simp [go_sem, m0, m1, m2, n0, n1, n2, o0, o1, o2, u0, u1, u2, ↓IntWalk.iteOmega])), (by (first | (simp [go_sem, m0, m1, m2, n0, n1, n2, o0, o1, o2, u0, u1, u2]; done) | simp [go_sem, m0, m1, m2, n0, n1, n2, o0, o1, o2, u0, u1, u2, ↓IntWalk.iteOmega]))⟩, ⟨(by (first | (simp [go_sem, m0, m1, m2, n0, n1, n2, o0, o1, o2, u0, u1, u2]; done) | simp [go_sem, m0, m1, m2, n0, n1, n2, o0, o1, o2, u0, u1, u2, ↓IntWalk.iteOmega])), (by (first | (simp [go_sem, m0, m1, m2, n0, n1, n2, o0, o1, o2, u0, u1, u2]; done) | simp [go_sem, m0, m1, m2, n0, n1, n2, o0, o1, o2, u0, u1, u2, ↓IntWalk.iteOmega])), (by (first | (simp [go_sem, m0, m1, m2, n0, n1, n2, o0, o1, o2, u0, u1, u2]; done) | simp [go_sem, m0, m1, m2, n0, n1, n2, o0, o1, o2, u0, u1, u2, ↓IntWalk.iteOmega]))⟩, ⟨(by (first | (simp [go_sem, m0, m1, m2, n0, n1, n2, o0, o1, o2, u0, u1, u2]; done) | simp [go_sem, m0, m1, m2, n0, n1, n2, o0, o1, o2, u0, u1, u2, ↓IntWalk.iteOmega])), (by (first | (simp [go_sem, m0, m1, m2, n0, n1, n2, o0, o1, o2, u0, u1, u2]; done) | simp [go_sem, m0, m1, m2, n0, n1, n2, o0, o1, o2, u0, u1, u2, ↓IntWalk.iteOmega])), (by (first | (simp [go_sem, m0, m1, m2, n0, n1, n2, o0, o1, o2, u0, u1, u2]; done) | simp [go_sem, m0, m1, m2, n0, n1, n2, o0, o1, o2, u0, u1, u2, ↓IntWalk.iteOmega]))⟩, ⟨(by (first | (simp [go_sem, m0, m1, m2, n0, n1, n2, o0, o1, o2, u0, u1, u2]; done) | simp [go_sem, m0, m1, m2, n0, n1, n2, o0, o1, o2, u0, u1, u2, ↓IntWalk.iteOmega])), (by (first | (simp [go_sem, m0, m1, m2, n0, n1, n2, o0, o1, o2, u0, u1, u2]; done) | simp [go_sem, m0, m1, m2, n0, n1, n2, o0, o1, o2, u0, u1, u2, ↓IntWalk.iteOmega])), (by (first | (simp [go_sem, m0, m1, m2, n0, n1, n2, o0, o1, o2, u0, u1, u2]; done) | simp [go_sem, m0, m1, m2, n0, n1, n2, o0, o1, o2, u0, u1, u2, ↓IntWalk.iteOmega]))⟩, (by (repeat' (first | with_reducible exact Below.refl _ _ | (with_reducible refine below_later_of ?_ ?_ _) | (with_reducible refine Below.alloc ?_ ?_ _) | (with_reducible refine Below.setCell ?_ ?_ _) | (with_reducible refine Below.drew ?_) | (simp; done) | (simp; omega) | omega)))⟩ ?_
            clear m0 m1 m2 n0 n1 n2 o0 o1 o2 u0 u1 u2
            rintro W6 ⟨⟨k0, k1, k2⟩, ⟨j0, j1, j2⟩, ⟨o0, o1, o2⟩, ⟨u0, u1, u2⟩, hb6⟩
            have HB6 := Lib.hid hb6
            have hs6 := hb6.size
            have HRC1' := Lib.hid (show ∀ W, Below W6.heap.size W6 W → _ from fun W hW => HRC1.out W (HB6.out.trans (hW.mono hs6)))
            have HRC2' := Lib.hid (show ∀ W, Below W6.heap.size W6 W → _ from fun W hW => HRC2.out W (HB6.out.trans (hW.mono hs6)))
            have HSP1' := Lib.hid (show ∀ W (x : Value), Below W6.heap.size W6 W → _ from fun W x hW => HSP1.out W x (HB6.out.trans (hW.mono hs6)))
            have HSP2' := Lib.hid (show ∀ W (x : Value), Below W6.heap.size W6 W → _ from fun W x hW => HSP2.out W x (HB6.out.trans (hW.mono hs6)))
            clear hb6 HRC1 HRC2 HSP1 HSP2 HTW HTW0
            have HRC1 := HRC1'
            have HRC2 := HRC2'
            have HSP1 := HSP1'
            have HSP2 := HSP2'
            go_wp2_with fail
            go_region_held3 (fun w' => (w'.cell? ⟨w.heap.size, 0, none⟩ = some (.int .i64 Rn) ∧ w'.cell? ⟨w.heap.size, 1, none⟩ = some (.int .i64 Cn) ∧ w'.cell? ⟨w.heap.size, 2, none⟩ = some (.slice a zs.length cap)) ∧ (w'.cell? ⟨w.heap.size + 1, 0, none⟩ = some (.int .i64 Rn) ∧ w'.cell? ⟨w.heap.size + 1, 1, none⟩ = some (.int .i64 Cn) ∧ w'.cell? ⟨w.heap.size + 1, 2, none⟩ = some (.slice a' ys.length cap')) ∧ (w'.cell? ⟨B, 0, none⟩ = some (.int .i64 Rn) ∧ w'.cell? ⟨B, 1, none⟩ = some (.int .i64 Cn) ∧ w'.cell? ⟨B, 2, none⟩ = some (.slice q zs.length cc)) ∧ (w'.cell? ⟨B2, 0, none⟩ = some (.int .i64 Rn) ∧ w'.cell? ⟨B2, 1, none⟩ = some (.int .i64 Cn) ∧ w'.cell? ⟨B2, 2, none⟩ = some (.slice q2 zs.length cc2))) (first | exact ⟨⟨k0, k1, k2⟩, ⟨j0, j1, j2⟩, ⟨o0, o1, o2⟩, u0, u1, u2⟩ | ((first | (simp [go_sem, k0, k1, k2, j0, j1, j2, o0, o1, o2, u0, u1, u2]; done) | simp [go_sem, k0, k1, k2, j0, j1, j2, o0, o1, o2, u0, u1, u2, ↓IntWalk.iteOmega]); done)) (first | (go_at_call 26; (with_reducible refine (HRC1.out _ (by (repeat' (first | with_reducible exact Below.refl _ _ | (with_reducible refine below_later_of ?_ ?_ _) | (with_reducible refine Below.alloc ?_ ?_ _) | (with_reducible refine Below.setCell ?_ ?_ _) | (with_reducible refine Below.drew ?_) | (simp; done) | (simp; omega) | omega)))).mono ?_); rintro e w' ⟨a6, c6, rfl, ho, hb⟩; have HO6 := Lib.hid ho.ints; clear ho; obtain ⟨p9, rfl⟩ := later_of_below hb; clear hb) | (go_at_call 26; (with_reducible refine (HRC2.out _ (by (repeat' (first | with_reducible exact Below.refl _ _ | (with_reducible refine below_later_of ?_ ?_ _) | (with_reducible refine Below.alloc ?_ ?_ _) | (with_reducible refine Below.setCell ?_ ?_ _) | (with_reducible refine Below.drew ?_) | (simp; done) | (simp; omega) | omega)))).mono ?_); rintro e w' ⟨a7, c7, rfl, ho, hb⟩; have HO7 := Lib.hid ho.ints; clear ho; obtain ⟨p9, rfl⟩ := later_of_below hb; clear hb) | (go_at_call 25; (with_reducible refine (HSP1.out _ _ (by (repeat' (first | with_reducible exact Below.refl _ _ | (with_reducible refine below_later_of ?_ ?_ _) | (with_reducible refine Below.alloc ?_ ?_ _) | (with_reducible refine Below.setCell ?_ ?_ _) | (with_reducible refine Below.drew ?_) | (simp; done) | (simp; omega) | omega))) (HO6.out.below (by (repeat' (first | with_reducible exact Below.refl _ _ | (with_reducible refine below_later_of ?_ ?_ _) | (with_reducible refine Below.alloc ?_ ?_ _) | (with_reducible refine Below.setCell ?_ ?_ _) | (with_reducible refine Below.drew ?_) | (simp; done) | (simp; omega) | omega))))).mono ?_); rintro e w' ⟨rfl, hb⟩; obtain ⟨p10, rfl⟩ := later_of_below hb; clear hb) | (go_at_call 25; (with_reducible refine (HSP2.out _ _ (by (repeat' (first | with_reducible exact Below.refl _ _ | (with_reducible refine below_later_of ?_ ?_ _) | (with_reducible refine Below.alloc ?_ ?_ _) | (with_reducible refine Below.setCell ?_ ?_ _) | (with_reducible refine Below.drew ?_) | (simp; done) | (simp; omega) | omega))) (HO7.out.below (by (repeat' (first | with_reducible exact Below.refl _ _ | (with_reducible refine below_later_of ?_ ?_ _) | (with_reducible refine Below.alloc ?_ ?_ _) | (with_reducible refine Below.setCell ?_ ?_ _) | (with_reducible refine Below.drew ?_) | (simp; done) | (simp; omega) | omega))))).mono ?_); rintro e w' ⟨rfl, hb⟩; obtain ⟨p10, rfl⟩ := later_of_below hb; clear hb))
            all_goals
              rename_i hheld
              clear hheld
              clear HRC1 HRC2 HSP1 HSP2 HRC1' HRC2' HSP1' HSP2'
              go_wp2_with fail
              refine any_worldF (fun w' => (w'.cell? ⟨w.heap.size, 0, none⟩ = some (.int .i64 Rn) ∧ w'.cell? ⟨w.heap.size, 1, none⟩ = some (.int .i64 Cn) ∧ w'.cell? ⟨w.heap.size, 2, none⟩ = some (.slice a zs.length cap)) ∧ (w'.cell? ⟨w.heap.size + 1, 0, none⟩ = some (.int .i64 Rn) ∧ w'.cell? ⟨w.heap.size + 1, 1, none⟩ = some (.int .i64 Cn) ∧ w'.cell? ⟨w.heap.size + 1, 2, none⟩ = some (.slice a' ys.length cap')) ∧ (w'.cell? ⟨B, 0, none⟩ = some (.int .i64 Rn) ∧ w'.cell? ⟨B, 1, none⟩ = some (.int .i64 Cn) ∧ w'.cell? ⟨B, 2, none⟩ = some (.slice q zs.length cc)) ∧ Below W6.heap.size W6 w') ⟨⟨(by (first | (simp [go_sem, k0, k1, k2, j0, j1, j2, o0, o1, o2, u0, u1, u2]; done) | simp [go_sem, k0, k1, k2, j0, j1, j2, o0, o1, o2, u0, u1, u2, ↓IntWalk.iteOmega])), (by (first | (simp [go_sem, k0, k1, k2, j0, j1, j2, o0, o1, o2, u0, u1, u2]; done) | simp [go_sem, k0, k1, k2, j0, j1, j2, o0, o1, o2, u0, u1, u2, ↓IntWalk.iteOmega])), (by (first | (simp [go_sem, k0, k1, k2, j0, j1, j2, o0, o1, o2, u0, u1, u2]; done) | simp [go_sem, k0, k1, k2, j0, j1, j2, o0, o1, o2, u0, u1, u2, ↓IntWalk.iteOmega]))⟩, ⟨(by (first | (simp [go_sem, k0, k1, k2, j0, j1, j2, o0, o1, o2, u0, u1, u2]; done) | simp [go_sem, k0, k1, k2, j0, j1, j2, o0, o1, o2, u0, u1, u2, ↓IntWalk.iteOmega])), (by (first | (simp [go_sem, k0, k1, k2, j0, j1, j2, o0, o1, o2, u0, u1, u2]; done) | simp [go_sem, k0, k1, k2, j0, j1, j2, o0, o1, o2, u0, u1, u2, ↓IntWalk.iteOmega])), (by (first | (simp [go_sem, k0, k1, k2, j0, j1, j2, o0, o1, o2, u0, u1, u2]; done) | simp [go_sem, k0, k1, k2, j0, j1, j2, o0, o1, o2, u0, u1, u2, ↓IntWalk.iteOmega]))⟩, ⟨(by (first | (simp [go_sem, k0, k1, k2, j0, j1, j2, o0, o1, o2, u0, u1, u2]; done) | simp [go_sem, k0, k1, k2, j0, j1, j2, o0, o1, o2, u0, u1, u2, ↓IntWalk.iteOmega])), (by (first | (simp [go_sem, k0, k1, k2, j0, j1, j2, o0, o1, o2, u0, u1, u2]; done) | simp [go_sem, k0, k1, k2, j0, j1, j2, o0, o1, o2, u0, u1, u2, ↓IntWalk.iteOmega])), (by (first | (simp [go_sem, k0, k1, k2, j0, j1, j2, o0, o1, o2, u0, u1, u2]; done) | simp [go_sem, k0, k1, k2, j0, j1, j2, o0, o1, o2, u0, u1, u2, ↓IntWalk.iteOmega]))⟩, (by (repeat' (first | with_reducible exact Below.refl _ _ | (with_reducible refine below_later_of ?_ ?_ _) | (with_reducible refine Below.alloc ?_ ?_ _) | (with_reducible refine Below.setCell ?_ ?_ _) | (with_reducible refine Below.drew ?_) | (simp; done) | (simp; omega) | omega)))⟩ ?_
              clear k0 k1 k2 j0 j1 j2 o0 o1 o2 u0 u1 u2
              rintro W7 ⟨⟨k0, k1, k2⟩, ⟨j0, j1, j2⟩, ⟨o0, o1, o2⟩, hb7⟩
              have HB7 := Lib.hid (HB6.out.trans (hb7.mono hs6))
              have hs7 := HB7.out.size
              have HW7 := Lib.hid (HB5.out.trans (HB7.out.mono HB5.out.size))
              have HCB := Lib.hid (show ∀ W, Below W7.heap.size W7 W → _ from fun W hW => HCB0.out W (HW7.out.trans (hW.mono HW7.out.size)))
              have HTO := Lib.hid (show ∀ W (x : Value), Below W7.heap.size W7 W → IntsV W x ys → Calls Tryz.prog 22 #[.agg #[.int .i64 Rn, .int .i64 Cn, .slice q zs.length cc], .agg #[.int .i64 Rn, .int .i64 Cn, x]] W fun e w' => ∃ q3 cc3, e = .returned (.tuple #[.agg #[.int .i64 Rn, .int .i64 Cn, .slice q3 zs.length cc3], .int .i64 0]) ∧ OwnIV W.heap.size w' (.slice q3 zs.length cc3) (combL (combL zs ys (-1)) ys 1) ∧ Below W.heap.size W w' from
                fun W x hW hxx => by
                  have hl := combL_len zs ys (-1)
                  refine (tot_det Rn Cn (combL zs ys (-1)) _ Rn Cn ys x W ((HOWN.out.below (HB7.out.trans (hW.mono hs7))).ints) (by omega) hxx (by omega) (twoE_ok (comb_ok HM.out ys (-1)) HM2.out)).mono ?_
                  rintro e w' ⟨r, c, k, qa, cc, rfl, hs, hb⟩
                  obtain ⟨rfl, rfl, rfl, ho⟩ := hs.1 rfl
                  rw [hl] at ho
                  exact ⟨qa, cc, by rw [hl], ho, hb⟩)
              have hB7 : B < W7.heap.size := by omega
              have hw7 : w.heap.size + 1 < W7.heap.size := by omega
              clear hb7
              go_wp2_with fail
              go_cut [10, 11] from 84 to 89 (fun X Y wx => ∃ B3 q3 cc3, X = .pointer (some ⟨B3, 0, none⟩) ∧ Y = .int .i64 0 ∧ (wx.cell? ⟨B3, 0, none⟩ = some (.int .i64 Rn) ∧ wx.cell? ⟨B3, 1, none⟩ = some (.int .i64 Cn) ∧ wx.cell? ⟨B3, 2, none⟩ = some (.slice q3 zs.length cc3)) ∧ OwnIV 0 wx (.slice q3 zs.length cc3) (combL (combL zs ys (-1)) ys 1) ∧ B3 < wx.heap.size ∧ Below W7.heap.size W7 wx)
              case first =>
                go_region_held3 (fun w' => (w'.cell? ⟨w.heap.size + 1, 0, none⟩ = some (.int .i64 Rn) ∧ w'.cell? ⟨w.heap.size + 1, 1, none⟩ = some (.int .i64 Cn) ∧ w'.cell? ⟨w.heap.size + 1, 2, none⟩ = some (.slice a' ys.length cap')) ∧ (w'.cell? ⟨B, 0, none⟩ = some (.int .i64 Rn) ∧ w'.cell? ⟨B, 1, none⟩ = some (.int .i64 Cn) ∧ w'.cell? ⟨B, 2, none⟩ = some (.slice q zs.length cc))) (first | exact ⟨⟨j0, j1, j2⟩, o0, o1, o2⟩ | ((first | (simp [go_sem, j0, j1, j2, o0, o1, o2]; done) | simp [go_sem, j0, j1, j2, o0, o1, o2, ↓IntWalk.iteOmega]); done)) (first | (go_at_call 21; (with_reducible refine (HCB.out _ (by (repeat' (first | with_reducible exact Below.refl _ _ | (with_reducible refine below_later_of ?_ ?_ _) | (with_reducible refine Below.alloc ?_ ?_ _) | (with_reducible refine Below.setCell ?_ ?_ _) | (with_reducible refine Below.drew ?_) | (simp; done) | (simp; omega) | omega)))).mono ?_); rintro e w' ⟨a4, c4, rfl, hv, hb⟩; have HVB := Lib.hid hv.ints; clear hv; obtain ⟨p4, rfl⟩ := later_of_below hb; clear hb) | (go_at_call 22; (with_reducible refine (HTO.out _ _ (by (repeat' (first | with_reducible exact Below.refl _ _ | (with_reducible refine below_later_of ?_ ?_ _) | (with_reducible refine Below.alloc ?_ ?_ _) | (with_reducible refine Below.setCell ?_ ?_ _) | (with_reducible refine Below.drew ?_) | (simp; done) | (simp; omega) | omega))) (HVB.out.below (by (repeat' (first | with_reducible exact Below.refl _ _ | (with_reducible refine below_later_of ?_ ?_ _) | (with_reducible refine Below.alloc ?_ ?_ _) | (with_reducible refine Below.setCell ?_ ?_ _) | (with_reducible refine Below.drew ?_) | (simp; done) | (simp; omega) | omega))))).mono ?_); rintro e w' ⟨q3, cc3, rfl, hs, hb⟩; have HS := Lib.hid hs; clear hs; obtain ⟨p5, rfl⟩ := later_of_below hb; clear hb))
                all_goals
                  rename_i hheld
                  clear hheld
                  go_wp2_with fail
                  go_meet
                  refine ⟨_, q3, cc3, rfl, rfl, ⟨(by (first | (simp [go_sem]; done) | simp [go_sem, ↓IntWalk.iteOmega])), (by (first | (simp [go_sem]; done) | simp [go_sem, ↓IntWalk.iteOmega])), (by (first | (simp [go_sem]; done) | simp [go_sem, ↓IntWalk.iteOmega]))⟩, ?_, by simp <;> omega, (by (repeat' (first | with_reducible exact Below.refl _ _ | (with_reducible refine below_later_of ?_ ?_ _) | (with_reducible refine Below.alloc ?_ ?_ _) | (with_reducible refine Below.setCell ?_ ?_ _) | (with_reducible refine Below.drew ?_) | (simp; done) | (simp; omega) | omega)))⟩
                  first
                    | (refine (HS.out.below ?_).mono (Nat.zero_le _); (repeat' (first | with_reducible exact Below.refl _ _ | (with_reducible refine below_later_of ?_ ?_ _) | (with_reducible refine Below.alloc ?_ ?_ _) | (with_reducible refine Below.setCell ?_ ?_ _) | (with_reducible refine Below.drew ?_) | (simp; done) | (simp; omega) | omega)); done)
                    | (refine (OwnIV.set (OwnIV.set (OwnIV.set HS.out ?_ _) ?_ _) ?_ _).mono (Nat.zero_le _) <;> simp <;> omega)
              case rest =>
                obtain ⟨B3, q3, cc3, rfl, rfl, ⟨v0, v1, v2⟩, hown3, hB3, hb⟩ := hcut
                obtain ⟨W8, hW8⟩ : ∃ W8 : World, W8 = wc := ⟨_, rfl⟩
                subst hW8
                have hs8 := hb.size
                have HB8 := Lib.hid (HW7.out.trans (hb.mono HW7.out.size))
                have m2 := (hb.cell (p := ⟨w.heap.size, 2, none⟩) (by simp; omega)).trans k2
                have n2 := (hb.cell (p := ⟨w.heap.size + 1, 2, none⟩) (by simp; omega)).trans j2
                have hw8 : w.heap.size + 1 < W8.heap.size := by omega
                have hnz : ys.length = zs.length := by rw [HM.out.len, HM2.out.len]
                have hpos : 0 < zs.length := by rw [HM.out.len]; exact Nat.mul_pos HM.out.r1 HM.out.c1
                have hl3 : (combL (combL zs ys (-1)) ys 1).length = zs.length := by rw [combL_len, combL_len]
                obtain ⟨-, _, _, he1, h4⟩ := HVV.out.below HB8.out
                cases he1
                obtain ⟨b, off, rfl, hb1, hc1⟩ := h4 hpos
                obtain ⟨-, _, _, he2, h5⟩ := HUU.out.below HB8.out
                cases he2
                obtain ⟨b', off', rfl, hb2, hc2⟩ := h5 (by omega)
                obtain ⟨-, _, _, he3, h6⟩ := hown3.ints
                rw [hl3] at he3
                cases he3
                obtain ⟨b3, off3, rfl, hb3, hc3⟩ := h6 (by omega)
                have HC1 := Lib.hid hc1
                have HC2 := Lib.hid hc2
                have HC3 := Lib.hid hc3
                have HL3 := Lib.hid (show ∀ k, k < zs.length → intAt (combL (combL zs ys (-1)) ys 1) k = _ from fun k hk => (combL_at (by rw [combL_len]; exact hk)).trans (comb_back zs ys hk))
                have HBZ := Lib.hid (fun k => HM.out.bd k)
                rw [hnz] at HC2 n2
                rw [hl3] at HC3
                rw [hnz]
                have M2 := Lib.hid m2
                have N2 := Lib.hid n2
                have V2 := Lib.hid v2
                obtain ⟨n, hn'⟩ : ∃ n, zs.length = n := ⟨_, rfl⟩
                rw [hn'] at M2 N2 V2 HC1 HC2 HC3 HL3 hpos m2 n2 v2 ⊢
                clear hb h4 h5 h6 hc1 hc2 hc3 hown3 k0 k1 k2 j0 j1 j2 o0 o1 o2 HTO HCB HCB0 HOWN v0 v1
                go_wp2_with fail
                go_loopw [12] (fun i wr => ∃ k : Nat, k ≤ n ∧ i = .int .i64 k ∧ Below W8.heap.size W8 wr) (fun i _ => n - (intOf i).toNat)
                case atStart => exact ⟨0, Nat.zero_le _, rfl, (by (repeat' (first | with_reducible exact Below.refl _ _ | (with_reducible refine below_later_of ?_ ?_ _) | (with_reducible refine Below.alloc ?_ ?_ _) | (with_reducible refine Below.setCell ?_ ?_ _) | (with_reducible refine Below.drew ?_) | (simp; done) | (simp; omega) | omega)))⟩
                case round =>
                  obtain ⟨k, hk, rfl, hbr⟩ := hrel
                  have HBR := Lib.hid hbr
                  have hsr := hbr.size
                  have m2 := (hbr.cell (p := ⟨w.heap.size, 2, none⟩) (show w.heap.size < W8.heap.size by omega)).trans M2.out
                  have n2 := (hbr.cell (p := ⟨w.heap.size + 1, 2, none⟩) (show w.heap.size + 1 < W8.heap.size by omega)).trans N2.out
                  have v2 := (hbr.cell (p := ⟨B3, 2, none⟩) hB3).trans V2.out
                  by_cases hlt : k < n
                  · have hdk : decide ((k : Int) < (n : Int)) = true := by simp; omega
                    have hk0 : (0 : Int) ≤ (k : Int) := by omega
                    have hk1 : (k : Int) < (n : Int) := by omega
                    have x1 := (hbr.cell (p := ⟨b, off + k, none⟩) hb1).trans (HC1.out k hlt)
                    have x2 := (hbr.cell (p := ⟨b', off' + k, none⟩) hb2).trans (HC2.out k hlt)
                    have x3 := (hbr.cell (p := ⟨b3, off3 + k, none⟩) hb3).trans (HC3.out k hlt)
                    rw [HL3.out k hlt] at x3
                    obtain ⟨bz1, bz2⟩ := HBZ.out k
                    have hg1 : b < wr.heap.size := by omega
                    have hg2 : b' < wr.heap.size := by omega
                    have hg3 : b3 < wr.heap.size := by omega
                    clear hbr
                    by_cases h1 : intAt zs k = 1000000000000
                    · rw [if_pos (Or.inl h1)] at x3
                      have d1 : (intAt zs k == 1000000000000) = true := by simpa using h1
                      clear h1
                      generalize intAt zs k = zk at *
                      generalize intAt ys k = yk at *
                      go_wp2
                      refine wp_region_calm (by kernel_rfl) (by kernel_rfl) ?_
                      repeat (go_big_quiet_step (first | (go_at_call 27; with_reducible exact calm_same (HWR.out _))))
                      refine wpQuiet_nil ?_
                      rintro _ ⟨pq, rfl⟩
                      go_wp2
                      go_roundw
                      case rel => exact ⟨k + 1, by omega, by go_num, HBR.out.trans (below_mono_of hsr (by (repeat' (first | with_reducible exact Below.refl _ _ | (with_reducible refine below_later_of ?_ ?_ _) | (with_reducible refine Below.alloc ?_ ?_ _) | (with_reducible refine Below.setCell ?_ ?_ _) | (with_reducible refine Below.drew ?_) | (simp; done) | (simp; omega) | omega))))⟩
                      case measure => simp [intOf]; omega
                    · have d1 : (intAt zs k == 1000000000000) = false := by simpa using h1
                      by_cases h2 : intAt ys k = 1000000000000
                      · rw [if_pos (Or.inr h2)] at x3
                        have d2 : (intAt ys k == 1000000000000) = true := by simpa using h2
                        clear h1 h2
                        generalize intAt zs k = zk at *
                        generalize intAt ys k = yk at *
                        go_wp2
                        refine wp_region_calm (by kernel_rfl) (by kernel_rfl) ?_
                        repeat (go_big_quiet_step (first | (go_at_call 27; with_reducible exact calm_same (HWR.out _))))
                        refine wpQuiet_nil ?_
                        rintro _ ⟨pq, rfl⟩
                        go_wp2
                        go_roundw
                        case rel => exact ⟨k + 1, by omega, by go_num, HBR.out.trans (below_mono_of hsr (by (repeat' (first | with_reducible exact Below.refl _ _ | (with_reducible refine below_later_of ?_ ?_ _) | (with_reducible refine Below.alloc ?_ ?_ _) | (with_reducible refine Below.setCell ?_ ?_ _) | (with_reducible refine Below.drew ?_) | (simp; done) | (simp; omega) | omega))))⟩
                        case measure => simp [intOf]; omega
                      · rw [if_neg (fun h => h.elim h1 h2)] at x3
                        have d2 : (intAt ys k == 1000000000000) = false := by simpa using h2
                        obtain ⟨x, hx⟩ : ∃ x, wrP (intAt zs k) = x := ⟨_, rfl⟩
                        have HWR := Lib.hid (fun W => bWrp (intAt zs k) W (by omega) (by omega) hx)
                        have d3 : (x != x) = false := by simp
                        rw [hx] at x3
                        clear h1 h2 hx
                        generalize intAt zs k = zk at *
                        generalize intAt ys k = yk at *
                        go_wp2
                        refine wp_region_calm (by kernel_rfl) (by kernel_rfl) ?_
                        repeat (go_big_quiet_step (first | (go_at_call 27; with_reducible exact calm_same (HWR.out _))))
                        refine wpQuiet_nil ?_
                        rintro _ ⟨pq, rfl⟩
                        go_wp2
                        go_roundw
                        case rel => exact ⟨k + 1, by omega, by go_num, HBR.out.trans (below_mono_of hsr (by (repeat' (first | with_reducible exact Below.refl _ _ | (with_reducible refine below_later_of ?_ ?_ _) | (with_reducible refine Below.alloc ?_ ?_ _) | (with_reducible refine Below.setCell ?_ ?_ _) | (with_reducible refine Below.drew ?_) | (simp; done) | (simp; omega) | omega))))⟩
                        case measure => simp [intOf]; omega
                  · obtain rfl : k = n := by omega
                    have hdk : decide ((k : Int) < (k : Int)) = false := by simp
                    go_wp2
                    go_ret
                    exact ⟨rfl, HB8.out.trans (HBR.out.mono HB8.out.size)⟩
          · obtain ⟨rfl, rfl, rfl⟩ := hsay.2 h0
            obtain ⟨rfl, rfl, rfl⟩ := hsay2.2 h0
            have d1 : (E != 0) = true := by simpa using h0
            have d2 : (E == E) = true := by simp
            clear hsay hsay2 h0
            go_wp2_with (first | (go_at_call 23; (with_reducible refine (HTW.out _ (by (repeat' (first | with_reducible exact Below.refl _ _ | (with_reducible refine below_later_of ?_ ?_ _) | (with_reducible refine Below.alloc ?_ ?_ _) | (with_reducible refine Below.setCell ?_ ?_ _) | (with_reducible refine Below.drew ?_) | (simp; done) | (simp; omega) | omega)))).mono ?_); rintro e w' ⟨rfl, hb⟩; obtain ⟨p6, rfl⟩ := later_of_below hb; clear hb) | (go_at_call 24; (with_reducible refine (lNoMap0 _ _ _).mono ?_); rintro e w' ⟨rfl, hb⟩; obtain ⟨p8, rfl⟩ := later_of_below hb; clear hb))
            go_ret
            exact ⟨ret_bool (by simp), HB5.out.trans (below_mono_of HB5.out.size (by (repeat' (first | with_reducible exact Below.refl _ _ | (with_reducible refine below_later_of ?_ ?_ _) | (with_reducible refine Below.alloc ?_ ?_ _) | (with_reducible refine Below.setCell ?_ ?_ _) | (with_reducible refine Below.drew ?_) | (simp; done) | (simp; omega) | omega))))⟩
    · obtain ⟨⟨a, cap, rfl, -⟩, -⟩ := hx
      obtain ⟨⟨a', cap', rfl, -⟩, -⟩ := hy
      have HLI := Lib.hid (fun w => lLight R C zs.length cap a w (decide_eq_true hn))
      have HLJ := Lib.hid (fun w => lLight R' C' ys.length cap' a' w (decide_eq_false hn2))
      go_enter Tryz.func4, Tryz.ntmps4
      go_wp2_with (first | (go_at_call 13; (with_reducible refine (awake4 _ (HT.out.below (by (repeat' (first | with_reducible exact Below.refl _ _ | (with_reducible refine below_later_of ?_ ?_ _) | (with_reducible refine Below.alloc ?_ ?_ _) | (with_reducible refine Below.setCell ?_ ?_ _) | (with_reducible refine Below.drew ?_) | (simp; done) | (simp; omega) | omega))))).mono ?_); rintro e w' ⟨rfl, hb⟩; obtain ⟨pp, rfl⟩ := later_of_below hb; clear hb) | (go_at_call 19; (with_reducible refine (HLI.out _).mono ?_); rintro e w' ⟨rfl, hb⟩; obtain ⟨p0, rfl⟩ := later_of_below hb; clear hb) | (go_at_call 19; (with_reducible refine (HLJ.out _).mono ?_); rintro e w' ⟨rfl, hb⟩; obtain ⟨p0', rfl⟩ := later_of_below hb; clear hb))
      go_ret
      exact ⟨rfl, (by (repeat' (first | with_reducible exact Below.refl _ _ | (with_reducible refine below_later_of ?_ ?_ _) | (with_reducible refine Below.alloc ?_ ?_ _) | (with_reducible refine Below.setCell ?_ ?_ _) | (with_reducible refine Below.drew ?_) | (simp; done) | (simp; omega) | omega)))⟩
  · obtain ⟨⟨a, cap, rfl, -⟩, -⟩ := hx
    obtain ⟨⟨a', cap', rfl, -⟩, -⟩ := hy
    have HLI := Lib.hid (fun w => lLight R C zs.length cap a w (decide_eq_false hn))
    go_enter Tryz.func4, Tryz.ntmps4
    go_wp2_with (first | (go_at_call 13; (with_reducible refine (awake4 _ (HT.out.below (by (repeat' (first | with_reducible exact Below.refl _ _ | (with_reducible refine below_later_of ?_ ?_ _) | (with_reducible refine Below.alloc ?_ ?_ _) | (with_reducible refine Below.setCell ?_ ?_ _) | (with_reducible refine Below.drew ?_) | (simp; done) | (simp; omega) | omega))))).mono ?_); rintro e w' ⟨rfl, hb⟩; obtain ⟨pp, rfl⟩ := later_of_below hb; clear hb) | (go_at_call 19; (with_reducible refine (HLI.out _).mono ?_); rintro e w' ⟨rfl, hb⟩; obtain ⟨p0, rfl⟩ := later_of_below hb; clear hb))
    go_ret
    exact ⟨rfl, (by (repeat' (first | with_reducible exact Below.refl _ _ | (with_reducible refine below_later_of ?_ ?_ _) | (with_reducible refine Below.alloc ?_ ?_ _) | (with_reducible refine Below.setCell ?_ ?_ _) | (with_reducible refine Below.drew ?_) | (simp; done) | (simp; omega) | omega)))⟩
end Go.Proofs.YtfiioadmpjmmgaaGreatDoor
