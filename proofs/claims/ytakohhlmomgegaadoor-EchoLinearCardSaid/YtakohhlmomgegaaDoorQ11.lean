/- Chapter 1's door seat: the law EchoLinear returns true. -/
import Derived.Test.YtakohhlmomgegaaDoorQ10
import Derived.Test.YtakohhlmomgegaaDoorZP
import Derived.Deep.CutRange
import Derived.Deep.RegionHeld3
namespace Go.Proofs.YtakohhlmomgegaaDoor
set_option linter.unusedVariables false
open Go.RowKit Ntt
theorem wp_worldM {P : Program} {c : Code} {Q : Exit → Act → World → Prop} {a : Act} {w : World} (F : World → Prop) (hf : F w) (h : ∀ W, F W → Code.wp P c Q a W) : Code.wp P c Q a w := h w hf
set_option maxRecDepth 20000 in
set_option maxHeartbeats 40000000 in
theorem linear_any (x y : Scn) (w : World) (hx : x.At w) (hy : y.At w) (ht : Tab w) :
    Calls Tryd.prog 12 #[.agg #[.int .i64 x.L, .int .i64 x.S, .slice x.pa x.m x.pc, .slice x.ca x.mc x.cc], .agg #[.int .i64 y.L, .int .i64 y.S, .slice y.pa y.m y.pc, .slice y.ca y.mc y.cc]] w fun e w' => e = .returned (.bool true) ∧ Below w.heap.size w w' := by
  have HT := Lib.hid ht
  clear ht
  rcases (show smallB x = false ∨ smallB x = true by cases smallB x <;> simp) with hq | hq
  · have HSX := Lib.hid (fun w => lSmall x w hq)
    clear hx hy hq
    go_enter Tryd.func12, Tryd.ntmps12
    go_wp2_with (first | (go_at_call 17; (with_reducible refine (awake_any _ (HT.out.below (by (repeat' (first | with_reducible exact Below.refl _ _ | (with_reducible refine below_later_of ?_ ?_ _) | (with_reducible refine Below.alloc ?_ ?_ _) | (with_reducible refine Below.setCell ?_ ?_ _) | (with_reducible refine Below.drew ?_) | (simp; done) | (simp; omega) | omega))))).mono ?_); rintro e w' ⟨rfl, hb⟩; obtain ⟨pp, rfl⟩ := later_of_below hb; clear hb) | (go_at_call 18; (with_reducible refine (HSX.out _).mono ?_); rintro e w' ⟨rfl, hb⟩; obtain ⟨pp2, rfl⟩ := later_of_below hb; clear hb))
    go_ret
    exact ⟨rfl, (by (repeat' (first | with_reducible exact Below.refl _ _ | (with_reducible refine below_later_of ?_ ?_ _) | (with_reducible refine Below.alloc ?_ ?_ _) | (with_reducible refine Below.setCell ?_ ?_ _) | (with_reducible refine Below.drew ?_) | (simp; done) | (simp; omega) | omega)))⟩
  · have HSX := Lib.hid (fun w => lSmall x w hq)
    obtain ⟨q1, q2⟩ := smallB_ok hq
    rcases (show smallB y = false ∨ smallB y = true by cases smallB y <;> simp) with hr | hr
    · have HSY := Lib.hid (fun w => lSmall y w hr)
      clear hx hy hq hr
      go_enter Tryd.func12, Tryd.ntmps12
      go_wp2_with (first | (go_at_call 17; (with_reducible refine (awake_any _ (HT.out.below (by (repeat' (first | with_reducible exact Below.refl _ _ | (with_reducible refine below_later_of ?_ ?_ _) | (with_reducible refine Below.alloc ?_ ?_ _) | (with_reducible refine Below.setCell ?_ ?_ _) | (with_reducible refine Below.drew ?_) | (simp; done) | (simp; omega) | omega))))).mono ?_); rintro e w' ⟨rfl, hb⟩; obtain ⟨pp, rfl⟩ := later_of_below hb; clear hb) | (go_at_call 18; (with_reducible refine (HSX.out _).mono ?_); rintro e w' ⟨rfl, hb⟩; obtain ⟨pp2, rfl⟩ := later_of_below hb; clear hb) | (go_at_call 18; (with_reducible refine (HSY.out _).mono ?_); rintro e w' ⟨rfl, hb⟩; obtain ⟨pp3, rfl⟩ := later_of_below hb; clear hb))
      go_ret
      exact ⟨rfl, (by (repeat' (first | with_reducible exact Below.refl _ _ | (with_reducible refine below_later_of ?_ ?_ _) | (with_reducible refine Below.alloc ?_ ?_ _) | (with_reducible refine Below.setCell ?_ ?_ _) | (with_reducible refine Below.drew ?_) | (simp; done) | (simp; omega) | omega)))⟩
    · have HSY := Lib.hid (fun w => lSmall y w hr)
      obtain ⟨r1, r2⟩ := smallB_ok hr
      have HX0 := Lib.hid hx
      have HY0 := Lib.hid hy
      obtain ⟨C, hC⟩ : ∃ C, x.mc / 2 = C := ⟨_, rfl⟩
      have hC35 : C ≤ 35 := by omega
      have HC := Lib.hid hC
      obtain ⟨E1, hE1⟩ : ∃ e, addE x.L x.S (x.m / 2) (smp x.p) y.L y.S (y.m / 2) (smp y.p) = e := ⟨_, rfl⟩
      obtain ⟨E2, hE2⟩ : ∃ e, compE x.L x.S (x.m / 2) C (smp x.p) (smp x.q) = e := ⟨_, rfl⟩
      have HE1 := Lib.hid hE1
      have HE2 := Lib.hid hE2
      clear hx hy hq hr hC hE1 hE2
      go_enter Tryd.func12, Tryd.ntmps12
      go_wp2_with (first | (go_at_call 17; (with_reducible refine (awake_any _ (HT.out.below (by (repeat' (first | with_reducible exact Below.refl _ _ | (with_reducible refine below_later_of ?_ ?_ _) | (with_reducible refine Below.alloc ?_ ?_ _) | (with_reducible refine Below.setCell ?_ ?_ _) | (with_reducible refine Below.drew ?_) | (simp; done) | (simp; omega) | omega))))).mono ?_); rintro e w' ⟨rfl, hb⟩; obtain ⟨pp, rfl⟩ := later_of_below hb; clear hb) | (go_at_call 18; (with_reducible refine (HSX.out _).mono ?_); rintro e w' ⟨rfl, hb⟩; obtain ⟨pp2, rfl⟩ := later_of_below hb; clear hb) | (go_at_call 18; (with_reducible refine (HSY.out _).mono ?_); rintro e w' ⟨rfl, hb⟩; obtain ⟨pp3, rfl⟩ := later_of_below hb; clear hb))
      refine wp_worldM (fun w' => (w'.cell? ⟨w.heap.size, 0, none⟩ = some (.int .i64 x.L) ∧ w'.cell? ⟨w.heap.size, 1, none⟩ = some (.int .i64 x.S) ∧ w'.cell? ⟨w.heap.size, 2, none⟩ = some (.slice x.pa x.m x.pc) ∧ w'.cell? ⟨w.heap.size, 3, none⟩ = some (.slice x.ca x.mc x.cc)) ∧ (w'.cell? ⟨w.heap.size + 1, 0, none⟩ = some (.int .i64 y.L) ∧ w'.cell? ⟨w.heap.size + 1, 1, none⟩ = some (.int .i64 y.S) ∧ w'.cell? ⟨w.heap.size + 1, 2, none⟩ = some (.slice y.pa y.m y.pc) ∧ w'.cell? ⟨w.heap.size + 1, 3, none⟩ = some (.slice y.ca y.mc y.cc)) ∧ Below w.heap.size w w' ∧ w.heap.size + 1 < w'.heap.size) ⟨⟨(by (first | (simp [go_sem]; done) | simp [go_sem, ↓IntWalk.iteOmega])), (by (first | (simp [go_sem]; done) | simp [go_sem, ↓IntWalk.iteOmega])), (by (first | (simp [go_sem]; done) | simp [go_sem, ↓IntWalk.iteOmega])), (by (first | (simp [go_sem]; done) | simp [go_sem, ↓IntWalk.iteOmega]))⟩, ⟨(by (first | (simp [go_sem]; done) | simp [go_sem, ↓IntWalk.iteOmega])), (by (first | (simp [go_sem]; done) | simp [go_sem, ↓IntWalk.iteOmega])), (by (first | (simp [go_sem]; done) | simp [go_sem, ↓IntWalk.iteOmega])), (by (first | (simp [go_sem]; done) | simp [go_sem, ↓IntWalk.iteOmega]))⟩, (by (repeat' (first | with_reducible exact Below.refl _ _ | (with_reducible refine below_later_of ?_ ?_ _) | (with_reducible refine Below.alloc ?_ ?_ _) | (with_reducible refine Below.setCell ?_ ?_ _) | (with_reducible refine Below.drew ?_) | (simp; done) | (simp; omega) | omega))), by simp; omega⟩ ?_
      rintro W2 ⟨⟨k0, k1, k2, k3⟩, ⟨j0, j1, j2, j3⟩, hb2, hs2⟩
      have HIX := Lib.hid (show ∀ W, Below W2.heap.size W2 W → _ from fun W hW => lImage x W (by omega) (HX0.out.below (hb2.trans (hW.mono hb2.size))))
      have HIY := Lib.hid (show ∀ W, Below W2.heap.size W2 W → _ from fun W hW => lImage y W (by omega) (HY0.out.below (hb2.trans (hW.mono hb2.size))))
      have HCD := Lib.hid (show ∀ W, Below W2.heap.size W2 W → Calls Tryd.prog 20 #[.agg #[.int .i64 x.L, .int .i64 x.S, .slice x.pa x.m x.pc, .slice x.ca x.mc x.cc]] W (CdPost C (smp x.q) W) from fun W hW => (lCode x W (by omega) (HX0.out.below (hb2.trans (hW.mono hb2.size)))).mono fun e w' h => by rw [HC.out] at h; exact h)
      have HB2 := Lib.hid hb2
      clear hb2 HSX HSY HX0 HY0
      go_cut [5, 6] from 24 to 32 (fun X Y wx => ∃ B l s n' a c, X = .pointer (some ⟨B, 0, none⟩) ∧ Y = .int .i64 E1 ∧ ImgBlk wx B l s a n' c ∧ (E1 = 0 → AddOk wx 0 x.L x.S (x.m / 2) (smp x.p) y.L y.S (y.m / 2) (smp y.p) l s n' a) ∧ B < wx.heap.size ∧ Below W2.heap.size W2 wx)
      case first =>
        go_region_held3 (fun w' => w'.cell? ⟨w.heap.size, 0, none⟩ = some (.int .i64 x.L) ∧ w'.cell? ⟨w.heap.size, 1, none⟩ = some (.int .i64 x.S) ∧ w'.cell? ⟨w.heap.size, 2, none⟩ = some (.slice x.pa x.m x.pc) ∧ w'.cell? ⟨w.heap.size, 3, none⟩ = some (.slice x.ca x.mc x.cc) ∧ w'.cell? ⟨w.heap.size + 1, 0, none⟩ = some (.int .i64 y.L) ∧ w'.cell? ⟨w.heap.size + 1, 1, none⟩ = some (.int .i64 y.S) ∧ w'.cell? ⟨w.heap.size + 1, 2, none⟩ = some (.slice y.pa y.m y.pc) ∧ w'.cell? ⟨w.heap.size + 1, 3, none⟩ = some (.slice y.ca y.mc y.cc)) (first | exact ⟨k0, k1, k2, k3, j0, j1, j2, j3⟩ | ((first | (simp [go_sem, k0, k1, k2, k3, j0, j1, j2, j3]; done) | simp [go_sem, k0, k1, k2, k3, j0, j1, j2, j3, ↓IntWalk.iteOmega]); done)) (first | (go_at_call 22; (with_reducible refine (HIX.out _ (by (repeat' (first | with_reducible exact Below.refl _ _ | (with_reducible refine below_later_of ?_ ?_ _) | (with_reducible refine Below.alloc ?_ ?_ _) | (with_reducible refine Below.setCell ?_ ?_ _) | (with_reducible refine Below.drew ?_) | (simp; done) | (simp; omega) | omega)))).mono ?_); rintro e w' ⟨a1, c1, rfl, ha, -, hb⟩; have HA1 := Lib.hid ha; clear ha; obtain ⟨q1, rfl⟩ := later_of_below hb; clear hb) | (go_at_call 22; (with_reducible refine (HIY.out _ (by (repeat' (first | with_reducible exact Below.refl _ _ | (with_reducible refine below_later_of ?_ ?_ _) | (with_reducible refine Below.alloc ?_ ?_ _) | (with_reducible refine Below.setCell ?_ ?_ _) | (with_reducible refine Below.drew ?_) | (simp; done) | (simp; omega) | omega)))).mono ?_); rintro e w' ⟨a2, c2, rfl, ha, -, hb⟩; have HA2 := Lib.hid ha; clear ha; obtain ⟨q2, rfl⟩ := later_of_below hb; clear hb) | (go_at_call 53; (with_reducible refine (added_det x.L x.S y.L y.S (x.m / 2) c1 (y.m / 2) c2 (smp x.p) (smp y.p) a1 a2 _ (by omega) (by omega) (dataAt_own HA1.out (by (repeat' (first | with_reducible exact Below.refl _ _ | (with_reducible refine below_later_of ?_ ?_ _) | (with_reducible refine Below.alloc ?_ ?_ _) | (with_reducible refine Below.setCell ?_ ?_ _) | (with_reducible refine Below.drew ?_) | (simp; done) | (simp; omega) | omega)))) (dataAt_own HA2.out (by (repeat' (first | with_reducible exact Below.refl _ _ | (with_reducible refine below_later_of ?_ ?_ _) | (with_reducible refine Below.alloc ?_ ?_ _) | (with_reducible refine Below.setCell ?_ ?_ _) | (with_reducible refine Below.drew ?_) | (simp; done) | (simp; omega) | omega)))) HE1.out).mono ?_); rintro e w' ⟨l5, s5, n5, a5, c5, rfl, hok, -, hb⟩; have HOK := Lib.hid hok; clear hok; obtain ⟨q3, rfl⟩ := later_of_below hb; clear hb))
        all_goals
          rename_i hheld
          clear hheld
          go_wp2_with fail
          go_meet
          refine ⟨_, l5, s5, n5, a5, c5, rfl, rfl, ⟨(by (first | (simp [go_sem]; done) | simp [go_sem, ↓IntWalk.iteOmega])), (by (first | (simp [go_sem]; done) | simp [go_sem, ↓IntWalk.iteOmega])), (by (first | (simp [go_sem]; done) | simp [go_sem, ↓IntWalk.iteOmega]))⟩, fun h => ?_, by simp <;> omega, (by (repeat' (first | with_reducible exact Below.refl _ _ | (with_reducible refine below_later_of ?_ ?_ _) | (with_reducible refine Below.alloc ?_ ?_ _) | (with_reducible refine Below.setCell ?_ ?_ _) | (with_reducible refine Below.drew ?_) | (simp; done) | (simp; omega) | omega)))⟩
          first
            | (refine ((HOK.out h).1.below ?_).mono (Nat.zero_le _); (repeat' (first | with_reducible exact Below.refl _ _ | (with_reducible refine below_later_of ?_ ?_ _) | (with_reducible refine Below.alloc ?_ ?_ _) | (with_reducible refine Below.setCell ?_ ?_ _) | (with_reducible refine Below.drew ?_) | (simp; done) | (simp; omega) | omega)); done)
            | (refine (AddOk.set (AddOk.set (AddOk.set (HOK.out h).1 ?_ _) ?_ _) ?_ _).mono (Nat.zero_le _) <;> simp <;> omega)
      case rest =>
        obtain ⟨B5, l, s, n', aq, cq, rfl, rfl, hi5, hok, hB5, hb⟩ := hcut
        obtain ⟨W3, hW3⟩ : ∃ W3 : World, W3 = wc := ⟨_, rfl⟩
        subst hW3
        have hs3 := hb.size
        have HB3 := Lib.hid hb
        have HI5 := Lib.hid hi5
        have HOA := Lib.hid hok
        have m0 := (hb.cell (p := ⟨w.heap.size, 0, none⟩) (by simp; omega)).trans k0
        have m1 := (hb.cell (p := ⟨w.heap.size, 1, none⟩) (by simp; omega)).trans k1
        have m2 := (hb.cell (p := ⟨w.heap.size, 2, none⟩) (by simp; omega)).trans k2
        have m3 := (hb.cell (p := ⟨w.heap.size, 3, none⟩) (by simp; omega)).trans k3
        have hw3 : w.heap.size + 1 < W3.heap.size := by omega
        have HIX3 := Lib.hid (show ∀ W, Below W3.heap.size W3 W → _ from fun W hW => HIX.out W (hb.trans (hW.mono hs3)))
        have HCD3 := Lib.hid (show ∀ W, Below W3.heap.size W3 W → _ from fun W hW => HCD.out W (hb.trans (hW.mono hs3)))
        have HK := Lib.hid (And.intro (And.intro k0 (And.intro k1 (And.intro k2 k3))) (And.intro j0 (And.intro j1 (And.intro j2 j3))))
        clear hb hi5 hok k0 k1 k2 k3 j0 j1 j2 j3
        go_wp2
        go_cut [7, 8] from 32 to 40 (fun X Y wx => ∃ B l s n' a c, X = .pointer (some ⟨B, 0, none⟩) ∧ Y = .int .i64 E2 ∧ ImgBlk wx B l s a n' c ∧ (E2 = 0 → CompOkB wx 0 x.L x.S (x.m / 2) C (smp x.p) (smp x.q) l s n' a) ∧ B < wx.heap.size ∧ Below W3.heap.size W3 wx)
        case first =>
          clear HIX HCD
          have HIX := Lib.hid HIX3.out
          have HCD := Lib.hid HCD3.out
          go_region_held3 (fun w' => w'.cell? ⟨w.heap.size, 0, none⟩ = some (.int .i64 x.L) ∧ w'.cell? ⟨w.heap.size, 1, none⟩ = some (.int .i64 x.S) ∧ w'.cell? ⟨w.heap.size, 2, none⟩ = some (.slice x.pa x.m x.pc) ∧ w'.cell? ⟨w.heap.size, 3, none⟩ = some (.slice x.ca x.mc x.cc)) (first | exact ⟨m0, m1, m2, m3⟩ | ((first | (simp [go_sem, m0, m1, m2, m3]; done) | simp [go_sem, m0, m1, m2, m3, ↓IntWalk.iteOmega]); done)) (first | (go_at_call 22; (with_reducible refine (HIX.out _ (by (repeat' (first | with_reducible exact Below.refl _ _ | (with_reducible refine below_later_of ?_ ?_ _) | (with_reducible refine Below.alloc ?_ ?_ _) | (with_reducible refine Below.setCell ?_ ?_ _) | (with_reducible refine Below.drew ?_) | (simp; done) | (simp; omega) | omega)))).mono ?_); rintro e w' ⟨a1, c1, rfl, ha, -, hb⟩; have HA1 := Lib.hid ha; clear ha; obtain ⟨q1, rfl⟩ := later_of_below hb; clear hb) | (go_at_call 20; (with_reducible refine (HCD.out _ (by (repeat' (first | with_reducible exact Below.refl _ _ | (with_reducible refine below_later_of ?_ ?_ _) | (with_reducible refine Below.alloc ?_ ?_ _) | (with_reducible refine Below.setCell ?_ ?_ _) | (with_reducible refine Below.drew ?_) | (simp; done) | (simp; omega) | omega)))).mono ?_); rintro e w' ⟨a4, c4, rfl, ha, hb⟩; have HA4 := Lib.hid ha; clear ha; obtain ⟨p6, rfl⟩ := later_of_below hb; clear hb) | (go_at_call 21; (with_reducible refine (compress_det x.L x.S (x.m / 2) c1 C c4 (smp x.p) (smp x.q) a1 a4 _ (by omega) (by omega) (dataAt_own HA1.out (by (repeat' (first | with_reducible exact Below.refl _ _ | (with_reducible refine below_later_of ?_ ?_ _) | (with_reducible refine Below.alloc ?_ ?_ _) | (with_reducible refine Below.setCell ?_ ?_ _) | (with_reducible refine Below.drew ?_) | (simp; done) | (simp; omega) | omega)))) (codeAt_own2 HA4.out (by (repeat' (first | with_reducible exact Below.refl _ _ | (with_reducible refine below_later_of ?_ ?_ _) | (with_reducible refine Below.alloc ?_ ?_ _) | (with_reducible refine Below.setCell ?_ ?_ _) | (with_reducible refine Below.drew ?_) | (simp; done) | (simp; omega) | omega)))) HE2.out).mono ?_); rintro e w' ⟨l5, s5, n5, a5, c5, rfl, hok, -, hb⟩; have HOK := Lib.hid hok; clear hok; obtain ⟨p7, rfl⟩ := later_of_below hb; clear hb))
          all_goals
            rename_i hheld
            clear hheld
            go_wp2_with fail
            go_meet
            refine ⟨_, l5, s5, n5, a5, c5, rfl, rfl, ⟨(by (first | (simp [go_sem]; done) | simp [go_sem, ↓IntWalk.iteOmega])), (by (first | (simp [go_sem]; done) | simp [go_sem, ↓IntWalk.iteOmega])), (by (first | (simp [go_sem]; done) | simp [go_sem, ↓IntWalk.iteOmega]))⟩, fun h => ?_, by simp <;> omega, (by (repeat' (first | with_reducible exact Below.refl _ _ | (with_reducible refine below_later_of ?_ ?_ _) | (with_reducible refine Below.alloc ?_ ?_ _) | (with_reducible refine Below.setCell ?_ ?_ _) | (with_reducible refine Below.drew ?_) | (simp; done) | (simp; omega) | omega)))⟩
            first
              | (refine ((HOK.out h).below ?_).mono (Nat.zero_le _); (repeat' (first | with_reducible exact Below.refl _ _ | (with_reducible refine below_later_of ?_ ?_ _) | (with_reducible refine Below.alloc ?_ ?_ _) | (with_reducible refine Below.setCell ?_ ?_ _) | (with_reducible refine Below.drew ?_) | (simp; done) | (simp; omega) | omega)); done)
              | (refine (CompOkB.set (CompOkB.set (CompOkB.set (HOK.out h) ?_ _) ?_ _) ?_ _).mono (Nat.zero_le _) <;> simp <;> omega)
        case rest =>
          obtain ⟨B7, l7, s7, n7, a7, c7, rfl, rfl, hi7, hok7, hB7, hb7⟩ := hcut
          obtain ⟨W4, hW4⟩ : ∃ W4 : World, W4 = wc := ⟨_, rfl⟩
          subst hW4
          have hs4 := hb7.size
          have HB4 := Lib.hid (HB2.out.trans ((HB3.out.trans (hb7.mono hs3)).mono HB2.out.size))
          by_cases h1 : E1 = 0
          · by_cases h2 : E2 = 0
            · subst h1 h2
              obtain ⟨g1, g2, -, g4⟩ := addE_zero HE1.out
              obtain ⟨-, g5, g6⟩ := compE_zero HE2.out
              obtain ⟨L0, S0, ⟨hL, hS, hL', hS'⟩, ⟨b1, b2, b3, b4⟩, hn, hn2, rfl, rfl, hn3, hF, hG, hFG, hown⟩ := HOA.out rfl
              obtain ⟨L0', S0', hL2, hS2, ⟨d1, d2, d3, d4, d5, d6⟩, -, rfl, rfl, hn7, -, hU, hown7⟩ := hok7 rfl
              obtain rfl : L0 = L0' := by omega
              obtain rfl : S0 = S0' := by omega
              obtain ⟨n, hnn⟩ : ∃ n, x.m / 2 = n := ⟨_, rfl⟩
              rw [hnn] at hn hF hG
              obtain rfl : n = n' := by omega
              obtain ⟨S1, hS1⟩ : ∃ S1, S0 + 1 - C = S1 := ⟨_, rfl⟩
              rw [hS1] at hn7 hi7 hown7
              obtain ⟨N, hNN⟩ : ∃ N, N = L0 * S1 := ⟨_, rfl⟩
              obtain rfl : n7 = N := by omega
              have hN4 : n7 ≤ 4096 := by rw [hn7]; exact Nat.mul_le_mul b2 (show S1 ≤ 64 by omega)
              have hn4 : n ≤ 4096 := by rw [hn]; exact Nat.mul_le_mul b2 b4
              have HE3 := Lib.hid (show compE y.L y.S (y.m / 2) C (smp y.p) (smp x.q) = 0 from compE_mk g2 g5 (by omega))
              have HE4 := Lib.hid (show compE L0 S0 n C (addB (smp x.p) (smp y.p)) (smp x.q) = 0 from compE_mk (by rw [hL, hS, hnn] at g4; exact g4) g5 (by omega))
              have HSM := Lib.hid (And.intro hF hG)
              have HU := Lib.hid hU
              have HNS := Lib.hid (And.intro hn hn7)
              have HS1 := Lib.hid hS1
              have HYL := Lib.hid (And.intro hL' (And.intro hS' hn2))
              have HDS4 := Lib.hid ((DatAt.of hown).below hb7)
              have HOX := Lib.hid hown7
              have HI54 := Lib.hid (HI5.out.below hB5 hb7)
              have HI7 := Lib.hid hi7
              have hB54 : B5 < W4.heap.size := by omega
              have hbb := (HB3.out.trans (hb7.mono hs3))
              have hsb := hbb.size
              obtain ⟨⟨k0, k1, k2, k3⟩, j0, j1, j2, j3⟩ := HK.out
              have p0 := (hbb.cell (p := ⟨w.heap.size, 0, none⟩) (by simp; omega)).trans k0
              have p1 := (hbb.cell (p := ⟨w.heap.size, 1, none⟩) (by simp; omega)).trans k1
              have p2 := (hbb.cell (p := ⟨w.heap.size, 2, none⟩) (by simp; omega)).trans k2
              have p3 := (hbb.cell (p := ⟨w.heap.size, 3, none⟩) (by simp; omega)).trans k3
              have r0 := (hbb.cell (p := ⟨w.heap.size + 1, 0, none⟩) hs2).trans j0
              have r1 := (hbb.cell (p := ⟨w.heap.size + 1, 1, none⟩) hs2).trans j1
              have r2 := (hbb.cell (p := ⟨w.heap.size + 1, 2, none⟩) hs2).trans j2
              have r3 := (hbb.cell (p := ⟨w.heap.size + 1, 3, none⟩) hs2).trans j3
              have hw4 : w.heap.size + 1 < W4.heap.size := by omega
              have HIY4 := Lib.hid (show ∀ W, Below W4.heap.size W4 W → _ from fun W hW => HIY.out W (hbb.trans (hW.mono hsb)))
              have HCD4 := Lib.hid (show ∀ W, Below W4.heap.size W4 W → _ from fun W hW => HCD.out W (hbb.trans (hW.mono hsb)))
              clear hok7 hi7 hb7 g1 g2 g4 g5 g6 hL hS hL' hS' hn hn2 hn3 hF hG hFG hown hL2 hS2 hn7 hU hown7 hnn hS1 hNN hbb k0 k1 k2 k3 j0 j1 j2 j3 m0 m1 m2 m3 HIX HIY HCD HIX3 HCD3 HK HOA HI5 HB3 HB2
              go_wp2
              go_cut [9, 10] from 46 to 54 (fun X Y wx => ∃ B l s n' a c, X = .pointer (some ⟨B, 0, none⟩) ∧ Y = .int .i64 0 ∧ ImgBlk wx B l s a n' c ∧ CompOkB wx 0 y.L y.S (y.m / 2) C (smp y.p) (smp x.q) l s n' a ∧ B < wx.heap.size ∧ Below W4.heap.size W4 wx)
              case first =>
                have HIY := Lib.hid HIY4.out
                have HCD := Lib.hid HCD4.out
                go_region_held3 (fun w' => w'.cell? ⟨w.heap.size, 0, none⟩ = some (.int .i64 x.L) ∧ w'.cell? ⟨w.heap.size, 1, none⟩ = some (.int .i64 x.S) ∧ w'.cell? ⟨w.heap.size, 2, none⟩ = some (.slice x.pa x.m x.pc) ∧ w'.cell? ⟨w.heap.size, 3, none⟩ = some (.slice x.ca x.mc x.cc) ∧ w'.cell? ⟨w.heap.size + 1, 0, none⟩ = some (.int .i64 y.L) ∧ w'.cell? ⟨w.heap.size + 1, 1, none⟩ = some (.int .i64 y.S) ∧ w'.cell? ⟨w.heap.size + 1, 2, none⟩ = some (.slice y.pa y.m y.pc) ∧ w'.cell? ⟨w.heap.size + 1, 3, none⟩ = some (.slice y.ca y.mc y.cc)) (first | exact ⟨p0, p1, p2, p3, r0, r1, r2, r3⟩ | ((first | (simp [go_sem, p0, p1, p2, p3, r0, r1, r2, r3]; done) | simp [go_sem, p0, p1, p2, p3, r0, r1, r2, r3, ↓IntWalk.iteOmega]); done)) (first | (go_at_call 22; (with_reducible refine (HIY.out _ (by (repeat' (first | with_reducible exact Below.refl _ _ | (with_reducible refine below_later_of ?_ ?_ _) | (with_reducible refine Below.alloc ?_ ?_ _) | (with_reducible refine Below.setCell ?_ ?_ _) | (with_reducible refine Below.drew ?_) | (simp; done) | (simp; omega) | omega)))).mono ?_); rintro e w' ⟨a2, c2, rfl, ha, -, hb⟩; have HA2 := Lib.hid ha; clear ha; obtain ⟨q2, rfl⟩ := later_of_below hb; clear hb) | (go_at_call 20; (with_reducible refine (HCD.out _ (by (repeat' (first | with_reducible exact Below.refl _ _ | (with_reducible refine below_later_of ?_ ?_ _) | (with_reducible refine Below.alloc ?_ ?_ _) | (with_reducible refine Below.setCell ?_ ?_ _) | (with_reducible refine Below.drew ?_) | (simp; done) | (simp; omega) | omega)))).mono ?_); rintro e w' ⟨a4, c4, rfl, ha, hb⟩; have HA4 := Lib.hid ha; clear ha; obtain ⟨p6, rfl⟩ := later_of_below hb; clear hb) | (go_at_call 21; (with_reducible refine (compress_det y.L y.S (y.m / 2) c2 C c4 (smp y.p) (smp x.q) a2 a4 _ (by omega) (by omega) (dataAt_own HA2.out (by (repeat' (first | with_reducible exact Below.refl _ _ | (with_reducible refine below_later_of ?_ ?_ _) | (with_reducible refine Below.alloc ?_ ?_ _) | (with_reducible refine Below.setCell ?_ ?_ _) | (with_reducible refine Below.drew ?_) | (simp; done) | (simp; omega) | omega)))) (codeAt_own2 HA4.out (by (repeat' (first | with_reducible exact Below.refl _ _ | (with_reducible refine below_later_of ?_ ?_ _) | (with_reducible refine Below.alloc ?_ ?_ _) | (with_reducible refine Below.setCell ?_ ?_ _) | (with_reducible refine Below.drew ?_) | (simp; done) | (simp; omega) | omega)))) HE3.out).mono ?_); rintro e w' ⟨l5, s5, n5, a5, c5, rfl, hok, -, hb⟩; have HOK := Lib.hid hok; clear hok; obtain ⟨p7, rfl⟩ := later_of_below hb; clear hb))
                all_goals
                  rename_i hheld
                  clear hheld
                  go_wp2_with fail
                  go_meet
                  refine ⟨_, l5, s5, n5, a5, c5, rfl, rfl, ⟨(by (first | (simp [go_sem]; done) | simp [go_sem, ↓IntWalk.iteOmega])), (by (first | (simp [go_sem]; done) | simp [go_sem, ↓IntWalk.iteOmega])), (by (first | (simp [go_sem]; done) | simp [go_sem, ↓IntWalk.iteOmega]))⟩, ?_, by simp <;> omega, (by (repeat' (first | with_reducible exact Below.refl _ _ | (with_reducible refine below_later_of ?_ ?_ _) | (with_reducible refine Below.alloc ?_ ?_ _) | (with_reducible refine Below.setCell ?_ ?_ _) | (with_reducible refine Below.drew ?_) | (simp; done) | (simp; omega) | omega)))⟩
                  first
                    | (refine ((HOK.out (by trivial)).below ?_).mono (Nat.zero_le _); (repeat' (first | with_reducible exact Below.refl _ _ | (with_reducible refine below_later_of ?_ ?_ _) | (with_reducible refine Below.alloc ?_ ?_ _) | (with_reducible refine Below.setCell ?_ ?_ _) | (with_reducible refine Below.drew ?_) | (simp; done) | (simp; omega) | omega)); done)
                    | (refine (CompOkB.set (CompOkB.set (CompOkB.set (HOK.out (by trivial)) ?_ _) ?_ _) ?_ _).mono (Nat.zero_le _) <;> simp <;> omega)
              case rest =>
                obtain ⟨B9, l9, s9, n9, a9, c9, rfl, rfl, hi9, hok9, hB9, hb9⟩ := hcut
                obtain ⟨W5, hW5⟩ : ∃ W5 : World, W5 = wc := ⟨_, rfl⟩
                subst hW5
                have hs5 := hb9.size
                have HB5 := Lib.hid (HB4.out.trans (hb9.mono HB4.out.size))
                have HB45 := Lib.hid hb9
                have HI9 := Lib.hid hi9
                have HO9 := Lib.hid hok9
                replace p0 := (hb9.cell (p := ⟨w.heap.size, 0, none⟩) (by simp; omega)).trans p0
                replace p1 := (hb9.cell (p := ⟨w.heap.size, 1, none⟩) (by simp; omega)).trans p1
                replace p2 := (hb9.cell (p := ⟨w.heap.size, 2, none⟩) (by simp; omega)).trans p2
                replace p3 := (hb9.cell (p := ⟨w.heap.size, 3, none⟩) (by simp; omega)).trans p3
                obtain ⟨e0, e1, e2⟩ := HI54.out.below hB54 hb9
                have hB55 : B5 < W5.heap.size := by omega
                have hw5 : w.heap.size < W5.heap.size := by omega
                have HDS := Lib.hid (HDS4.out.below hb9)
                have HCD := Lib.hid (show ∀ W, Below W5.heap.size W5 W → _ from fun W hW => HCD4.out W (hb9.trans (hW.mono hs5)))
                clear hi9 hok9 hb9 r0 r1 r2 r3 HIY4 HCD4 HDS4 HI54
                go_wp2
                go_cut [11, 12] from 54 to 61 (fun X Y wx => ∃ B l s n' a c, X = .pointer (some ⟨B, 0, none⟩) ∧ Y = .int .i64 0 ∧ ImgBlk wx B l s a n' c ∧ CompOkB wx 0 L0 S0 n C (addB (smp x.p) (smp y.p)) (smp x.q) l s n' a ∧ B < wx.heap.size ∧ Below W5.heap.size W5 wx)
                case first =>
                  go_region_held3 (fun w' => w'.cell? ⟨w.heap.size, 0, none⟩ = some (.int .i64 x.L) ∧ w'.cell? ⟨w.heap.size, 1, none⟩ = some (.int .i64 x.S) ∧ w'.cell? ⟨w.heap.size, 2, none⟩ = some (.slice x.pa x.m x.pc) ∧ w'.cell? ⟨w.heap.size, 3, none⟩ = some (.slice x.ca x.mc x.cc) ∧ w'.cell? ⟨B5, 0, none⟩ = some (.int .i64 L0) ∧ w'.cell? ⟨B5, 1, none⟩ = some (.int .i64 S0) ∧ w'.cell? ⟨B5, 2, none⟩ = some (.slice aq n cq)) (first | exact ⟨p0, p1, p2, p3, e0, e1, e2⟩ | ((first | (simp [go_sem, p0, p1, p2, p3, e0, e1, e2]; done) | simp [go_sem, p0, p1, p2, p3, e0, e1, e2, ↓IntWalk.iteOmega]); done)) (first | (go_at_call 20; (with_reducible refine (HCD.out _ (by (repeat' (first | with_reducible exact Below.refl _ _ | (with_reducible refine below_later_of ?_ ?_ _) | (with_reducible refine Below.alloc ?_ ?_ _) | (with_reducible refine Below.setCell ?_ ?_ _) | (with_reducible refine Below.drew ?_) | (simp; done) | (simp; omega) | omega)))).mono ?_); rintro e w' ⟨a4, c4, rfl, ha, hb⟩; have HA4 := Lib.hid ha; clear ha; obtain ⟨p6, rfl⟩ := later_of_below hb; clear hb) | (go_at_call 21; (with_reducible refine (compress_det L0 S0 n cq C c4 (addB (smp x.p) (smp y.p)) (smp x.q) aq a4 _ (by omega) (by omega) (HDS.out.below (by (repeat' (first | with_reducible exact Below.refl _ _ | (with_reducible refine below_later_of ?_ ?_ _) | (with_reducible refine Below.alloc ?_ ?_ _) | (with_reducible refine Below.setCell ?_ ?_ _) | (with_reducible refine Below.drew ?_) | (simp; done) | (simp; omega) | omega)))).data (codeAt_own2 HA4.out (by (repeat' (first | with_reducible exact Below.refl _ _ | (with_reducible refine below_later_of ?_ ?_ _) | (with_reducible refine Below.alloc ?_ ?_ _) | (with_reducible refine Below.setCell ?_ ?_ _) | (with_reducible refine Below.drew ?_) | (simp; done) | (simp; omega) | omega)))) HE4.out).mono ?_); rintro e w' ⟨l5, s5, n5, a5, c5, rfl, hok, -, hb⟩; have HOK := Lib.hid hok; clear hok; obtain ⟨p7, rfl⟩ := later_of_below hb; clear hb))
                  all_goals
                    rename_i hheld
                    clear hheld
                    go_wp2_with fail
                    go_meet
                    refine ⟨_, l5, s5, n5, a5, c5, rfl, rfl, ⟨(by (first | (simp [go_sem]; done) | simp [go_sem, ↓IntWalk.iteOmega])), (by (first | (simp [go_sem]; done) | simp [go_sem, ↓IntWalk.iteOmega])), (by (first | (simp [go_sem]; done) | simp [go_sem, ↓IntWalk.iteOmega]))⟩, ?_, by simp <;> omega, (by (repeat' (first | with_reducible exact Below.refl _ _ | (with_reducible refine below_later_of ?_ ?_ _) | (with_reducible refine Below.alloc ?_ ?_ _) | (with_reducible refine Below.setCell ?_ ?_ _) | (with_reducible refine Below.drew ?_) | (simp; done) | (simp; omega) | omega)))⟩
                    first
                      | (refine ((HOK.out (by trivial)).below ?_).mono (Nat.zero_le _); (repeat' (first | with_reducible exact Below.refl _ _ | (with_reducible refine below_later_of ?_ ?_ _) | (with_reducible refine Below.alloc ?_ ?_ _) | (with_reducible refine Below.setCell ?_ ?_ _) | (with_reducible refine Below.drew ?_) | (simp; done) | (simp; omega) | omega)); done)
                      | (refine (CompOkB.set (CompOkB.set (CompOkB.set (HOK.out (by trivial)) ?_ _) ?_ _) ?_ _).mono (Nat.zero_le _) <;> simp <;> omega)
                case rest =>
                  obtain ⟨B11, l11, s11, n11, a11, c11, rfl, rfl, hi11, hok11, hB11, hb11⟩ := hcut
                  obtain ⟨W6, hW6⟩ : ∃ W6 : World, W6 = wc := ⟨_, rfl⟩
                  subst hW6
                  obtain ⟨L0', S0', hL2, hS2, -, -, rfl, rfl, hn9, -, -, hown9⟩ := HO9.out
                  obtain ⟨hL', hS', hn2⟩ := HYL.out
                  obtain rfl : L0 = L0' := by omega
                  obtain rfl : S0 = S0' := by omega
                  obtain ⟨L0', S0', hL2, hS2, -, -, rfl, rfl, hn11, -, -, hown11⟩ := hok11
                  obtain rfl : L0 = L0' := by omega
                  obtain rfl : S0 = S0' := by omega
                  obtain ⟨hn, hn7⟩ := HNS.out
                  have hS1 := HS1.out
                  rw [hS1] at hn9 hn11 hown9 hown11
                  obtain rfl : n7 = n9 := by omega
                  obtain rfl : n7 = n11 := by omega
                  have hN0 : 0 < n7 := by rw [hn7]; exact Nat.mul_pos (by omega) (by omega)
                  have hs6 := hb11.size
                  have hb46 := HB45.out.trans (hb11.mono hs5)
                  have HB6 := Lib.hid (HB5.out.trans (hb11.mono HB5.out.size))
                  obtain ⟨x0, x1, x2⟩ := HI7.out.below hB7 hb46
                  obtain ⟨y0, y1, y2⟩ := HI9.out.below hB9 hb11
                  obtain ⟨z0, z1, z2⟩ := hi11
                  obtain ⟨g0, rfl, -, t0, u0⟩ := HOX.out.below hb46 hN0
                  obtain ⟨g1, rfl, -, t1, u1⟩ := hown9.below hb11 hN0
                  obtain ⟨g2, rfl, -, t2, u2⟩ := hown11 hN0
                  have HD0 := Lib.hid u0
                  have HD1 := Lib.hid u1
                  have HD2 := Lib.hid u2
                  have hB76 : B7 < W6.heap.size := by have := hb46.size; omega
                  have hB96 : B9 < W6.heap.size := by omega
                  have hnn : ((n7 : Int) != (n7 : Int)) = false := bne_self_eq_false _
                  have HAD := Lib.hid (fun i (hi : i < L0 * S1) => comp_linear (n := n) (C := C) (L := L0) (S := S1) (S0 := S0) (i := i) (fc := smp x.q) HSM.out.1 HSM.out.2 (fun j hj => addB_parts HSM.out.1 HSM.out.2 hj) HU.out (by omega) hn (by omega) (by omega) hi)
                  have HN7 := Lib.hid hn7
                  clear hb11 hb46 u0 u1 u2 p0 p1 p2 p3 e0 e1 e2 hown9 hown11 hn hn7 hn9 hn11 hS1 hL2 hS2 hL' hS' hn2 HOX HI7 HI9 HO9 HDS HCD HE3 HE4 x0 x1 y0 y1 z0 z1
                  go_wp2
                  go_loopw [13] (fun i wz => ∃ s : Nat, s ≤ n7 ∧ i = .int .i64 s ∧ Below W6.heap.size W6 wz) (fun i _ => n7 - (intOf i).toNat)
                  case atStart => exact ⟨0, Nat.zero_le _, rfl, Below.refl _ _⟩
                  case round =>
                    obtain ⟨s, hs, rfl, hbz⟩ := hrel
                    have HBZ := Lib.hid hbz
                    have hsz := hbz.size
                    have v2 := (hbz.cell (p := ⟨B7, 2, none⟩) hB76).trans x2
                    have v5 := (hbz.cell (p := ⟨B9, 2, none⟩) hB96).trans y2
                    have v8 := (hbz.cell (p := ⟨B11, 2, none⟩) hB11).trans z2
                    by_cases hls : s < n7
                    · have hds : decide ((s : Int) < (n7 : Int)) = true := by simp; omega
                      have hk0 : (0 : Int) ≤ (s : Int) := by omega
                      have hk1 : (s : Int) < (n7 : Int) := by omega
                      have e0 := (hbz.cell (p := ⟨g0, 0 + s, none⟩) t0).trans (HD0.out s hls)
                      have e1 := (hbz.cell (p := ⟨g1, 0 + s, none⟩) t1).trans (HD1.out s hls)
                      have e2 := (hbz.cell (p := ⟨g2, 0 + s, none⟩) t2).trans (HD2.out s hls)
                      rw [Nat.zero_add] at e0 e1 e2
                      obtain ⟨hadd, xx, yy, hcn⟩ := HAD.out s (by rw [← HN7.out]; exact hls)
                      generalize compB (xB (smp x.p)) (yB (smp x.p)) (xB (smp x.q)) (yB (smp x.q)) S1 S0 C s = w0 at e0 hadd
                      generalize compB (xB (smp y.p)) (yB (smp y.p)) (xB (smp x.q)) (yB (smp x.q)) S1 S0 C s = w1 at e1 hadd
                      generalize compB (xB (addB (smp x.p) (smp y.p))) (yB (addB (smp x.p) (smp y.p))) (xB (smp x.q)) (yB (smp x.q)) S1 S0 C s = w2 at e2 hadd hcn
                      obtain ⟨v0, v1⟩ := w0
                      obtain ⟨v3, v4⟩ := w1
                      obtain ⟨v6, v7⟩ := w2
                      dsimp only at e0 e1 e2 hadd hcn
                      have fa := fun w => run_complex_sum (P := Tryd.prog) w .add (Or.inl rfl) 49 .f64 v0 v1 v3 v4 v6 v7 hadd
                      have o1 : (FloatKind.f64.format.order v6 v6 == some Ordering.eq) = true := by
                        rw [show FloatKind.f64.format.order v6 v6 = some (compare xx xx) from order_num _ hcn.re hcn.re, beq_eq_iff]; simp
                      have o2 : (FloatKind.f64.format.order v7 v7 == some Ordering.eq) = true := by
                        rw [show FloatKind.f64.format.order v7 v7 = some (compare yy yy) from order_num _ hcn.im hcn.im, beq_eq_iff]; simp
                      have n0 : g0 < wr.heap.size := by omega
                      have n1 : g1 < wr.heap.size := by omega
                      have n2 : g2 < wr.heap.size := by omega
                      have nb7 : B7 < wr.heap.size := by omega
                      have nb9 : B9 < wr.heap.size := by omega
                      have nb11 : B11 < wr.heap.size := by omega
                      clear hbz hadd hcn
                      go_wp2
                      refine wp_region_calm (by kernel_rfl) (by kernel_rfl) ?_
                      repeat (go_big_quiet_step (fail))
                      refine wpQuiet_nil ?_
                      rintro _ ⟨pq, rfl⟩
                      go_wp2
                      go_roundw
                      case rel => exact ⟨s + 1, by omega, by go_num, HBZ.out.trans (below_mono_of hsz (by (repeat' (first | with_reducible exact Below.refl _ _ | (with_reducible refine below_later_of ?_ ?_ _) | (with_reducible refine Below.alloc ?_ ?_ _) | (with_reducible refine Below.setCell ?_ ?_ _) | (with_reducible refine Below.drew ?_) | (simp; done) | (simp; omega) | omega))))⟩
                      case measure => simp [intOf]; omega
                    · obtain rfl : s = n7 := by omega
                      have hds : decide ((s : Int) < (s : Int)) = false := by simp
                      clear hbz
                      go_wp2
                      go_ret
                      exact ⟨rfl, HB6.out.trans (HBZ.out.mono HB6.out.size)⟩
            · subst h1
              have hne : (E2 != 0) = true := by simpa using h2
              clear hok7 h2
              go_wp2
              go_ret
              exact ⟨rfl, HB4.out.trans (by (repeat' (first | with_reducible exact Below.refl _ _ | (with_reducible refine below_later_of ?_ ?_ _) | (with_reducible refine Below.alloc ?_ ?_ _) | (with_reducible refine Below.setCell ?_ ?_ _) | (with_reducible refine Below.drew ?_) | (simp; done) | (simp; omega) | omega)))⟩
          · have hne : (E1 != 0) = true := by simpa using h1
            clear hok7 h1
            go_wp2
            go_ret
            exact ⟨rfl, HB4.out.trans (by (repeat' (first | with_reducible exact Below.refl _ _ | (with_reducible refine below_later_of ?_ ?_ _) | (with_reducible refine Below.alloc ?_ ?_ _) | (with_reducible refine Below.setCell ?_ ?_ _) | (with_reducible refine Below.drew ?_) | (simp; done) | (simp; omega) | omega)))⟩
end Go.Proofs.YtakohhlmomgegaaDoor
