/- Chapter 1's door seat: the law EchoFocuses returns true. -/
import Derived.Test.YtakohhlmomgegaaDoorQ10
import Derived.Test.YtakohhlmomgegaaDoorU85
import Derived.Test.YtakohhlmomgegaaDoorZP
import Derived.Deep.CutRange
import Derived.Deep.RegionHeld3
namespace Go.Proofs.YtakohhlmomgegaaDoor
set_option linter.unusedVariables false
set_option linter.unusedSimpArgs false
open Go.RowKit Ntt
theorem wp_worldQ {P : Program} {c : Code} {Q : Exit → Act → World → Prop} {a : Act} {w : World} (F : World → Prop) (hf : F w) (h : ∀ W, F W → Code.wp P c Q a W) : Code.wp P c Q a w := h w hf
set_option maxRecDepth 20000 in
set_option maxHeartbeats 40000000 in
theorem focuses_any (x : Scn) (w : World) (hx : x.FAt w) (hxw : x.Wide) (ht : Tab w) : Calls Tryd.prog 10 #[.agg #[.int .i64 x.L, .int .i64 x.S, .slice x.pa x.m x.pc, .slice x.ca x.mc x.cc]] w fun e w' => e = .returned (.bool true) ∧ Below w.heap.size w w' := by
  have HT := Lib.hid ht
  clear ht
  rcases (show slightB x = false ∨ slightB x = true by cases slightB x <;> simp) with hq | hq
  · have HSX := Lib.hid (fun w => lSlight x w hq)
    clear hx hq
    go_enter Tryd.func10, Tryd.ntmps10
    go_wp2_with (first | (go_at_call 17; (with_reducible refine (awake_any _ (HT.out.below (by (repeat' (first | with_reducible exact Below.refl _ _ | (with_reducible refine below_later_of ?_ ?_ _) | (with_reducible refine Below.alloc ?_ ?_ _) | (with_reducible refine Below.setCell ?_ ?_ _) | (with_reducible refine Below.drew ?_) | (simp; done) | (simp; omega) | omega))))).mono ?_); rintro e w' ⟨rfl, hb⟩; obtain ⟨pq, rfl⟩ := later_of_below hb; clear hb) | (go_at_call 46; (with_reducible refine (HSX.out _).mono ?_); rintro e w' ⟨rfl, hb⟩; obtain ⟨pq, rfl⟩ := later_of_below hb; clear hb))
    go_ret
    exact ⟨rfl, (by (repeat' (first | with_reducible exact Below.refl _ _ | (with_reducible refine below_later_of ?_ ?_ _) | (with_reducible refine Below.alloc ?_ ?_ _) | (with_reducible refine Below.setCell ?_ ?_ _) | (with_reducible refine Below.drew ?_) | (simp; done) | (simp; omega) | omega)))⟩
  · have HSX := Lib.hid (fun w => lSlight x w hq)
    obtain ⟨q1, q2⟩ := slightB_ok hq
    have HWD := Lib.hid hxw.smp
    obtain ⟨C, hC⟩ : ∃ C, x.mc / 2 = C := ⟨_, rfl⟩
    have hC35 : C ≤ 35 := by omega
    obtain ⟨E2, hE2⟩ : ∃ e, focE x.L x.S (x.m / 2) C (smp x.p) (smp x.q) = e := ⟨_, rfl⟩
    obtain ⟨ci, ce, hEC⟩ : ∃ i e, codeE C (smp x.q) = (i, e) := ⟨_, _, rfl⟩
    obtain ⟨ii, ie, hEI⟩ : ∃ i e, fldE x.L x.S (x.m / 2) (smp x.p) = (i, e) := ⟨_, _, rfl⟩
    have HE2 := Lib.hid hE2
    have HEC := Lib.hid hEC
    have HEI := Lib.hid hEI
    have HCE := Lib.hid (show first2 ie ce ≠ 0 → E2 = first2 ie ce from fun h => by rw [← hE2]; unfold focE; rw [hEI, hEC]; exact if_neg h)
    have HIX := Lib.hid (show ∀ W, Below w.heap.size w W → _ from fun W hW => lSums x W (by omega) (hx.below hW))
    have HCD := Lib.hid (show ∀ W, Below w.heap.size w W → Calls Tryd.prog 49 #[.agg #[.int .i64 x.L, .int .i64 x.S, .slice x.pa x.m x.pc, .slice x.ca x.mc x.cc]] W (CdPost C (smp x.q) W) from fun W hW => (lFCode x W (by omega) (hx.below hW)).mono fun e w' h => by rw [hC] at h; exact h)
    clear hx hq hC hE2 hEC hEI hxw
    go_enter Tryd.func10, Tryd.ntmps10
    go_wp2_with (first | (go_at_call 17; (with_reducible refine (awake_any _ (HT.out.below (by (repeat' (first | with_reducible exact Below.refl _ _ | (with_reducible refine below_later_of ?_ ?_ _) | (with_reducible refine Below.alloc ?_ ?_ _) | (with_reducible refine Below.setCell ?_ ?_ _) | (with_reducible refine Below.drew ?_) | (simp; done) | (simp; omega) | omega))))).mono ?_); rintro e w' ⟨rfl, hb⟩; obtain ⟨pq, rfl⟩ := later_of_below hb; clear hb) | (go_at_call 46; (with_reducible refine (HSX.out _).mono ?_); rintro e w' ⟨rfl, hb⟩; obtain ⟨pq, rfl⟩ := later_of_below hb; clear hb))
    refine wp_worldQ (fun w' => (w'.cell? ⟨w.heap.size, 0, none⟩ = some (.int .i64 x.L) ∧ w'.cell? ⟨w.heap.size, 1, none⟩ = some (.int .i64 x.S) ∧ w'.cell? ⟨w.heap.size, 2, none⟩ = some (.slice x.pa x.m x.pc) ∧ w'.cell? ⟨w.heap.size, 3, none⟩ = some (.slice x.ca x.mc x.cc)) ∧ Below w.heap.size w w' ∧ w.heap.size < w'.heap.size) ⟨⟨(by (first | (simp [go_sem]; done) | simp [go_sem, ↓IntWalk.iteOmega])), (by (first | (simp [go_sem]; done) | simp [go_sem, ↓IntWalk.iteOmega])), (by (first | (simp [go_sem]; done) | simp [go_sem, ↓IntWalk.iteOmega])), (by (first | (simp [go_sem]; done) | simp [go_sem, ↓IntWalk.iteOmega]))⟩, (by (repeat' (first | with_reducible exact Below.refl _ _ | (with_reducible refine below_later_of ?_ ?_ _) | (with_reducible refine Below.alloc ?_ ?_ _) | (with_reducible refine Below.setCell ?_ ?_ _) | (with_reducible refine Below.drew ?_) | (simp; done) | (simp; omega) | omega))), by simp; omega⟩ ?_
    rintro W2 ⟨⟨k0, k1, k2, k3⟩, hb2, hs2⟩
    have HIX2 := Lib.hid (show ∀ W, Below W2.heap.size W2 W → _ from fun W hW => HIX.out W (hb2.trans (hW.mono hb2.size)))
    have HCD2 := Lib.hid (show ∀ W, Below W2.heap.size W2 W → _ from fun W hW => HCD.out W (hb2.trans (hW.mono hb2.size)))
    have HB2 := Lib.hid hb2
    clear hb2 HSX HIX HCD
    have HIX := Lib.hid HIX2.out
    have HCD := Lib.hid HCD2.out
    clear HIX2 HCD2
    go_cut [3, 4] from 13 to 21 (fun X Y wx => ∃ B l s n' a c, X = .pointer (some ⟨B, 0, none⟩) ∧ Y = .int .i64 E2 ∧ ImgBlk wx B l s a n' c ∧ FocSay wx 0 x.L x.S (x.m / 2) C (smp x.p) (smp x.q) E2 l s n' a ∧ B < wx.heap.size ∧ Below W2.heap.size W2 wx)
    case first =>
      go_region_held3 (fun w' => w'.cell? ⟨w.heap.size, 0, none⟩ = some (.int .i64 x.L) ∧ w'.cell? ⟨w.heap.size, 1, none⟩ = some (.int .i64 x.S) ∧ w'.cell? ⟨w.heap.size, 2, none⟩ = some (.slice x.pa x.m x.pc) ∧ w'.cell? ⟨w.heap.size, 3, none⟩ = some (.slice x.ca x.mc x.cc)) (first | exact ⟨k0, k1, k2, k3⟩ | ((first | (simp [go_sem, k0, k1, k2, k3]; done) | simp [go_sem, k0, k1, k2, k3, ↓IntWalk.iteOmega]); done)) (first | (go_at_call 48; (with_reducible refine (HIX.out _ (by (repeat' (first | with_reducible exact Below.refl _ _ | (with_reducible refine below_later_of ?_ ?_ _) | (with_reducible refine Below.alloc ?_ ?_ _) | (with_reducible refine Below.setCell ?_ ?_ _) | (with_reducible refine Below.drew ?_) | (simp; done) | (simp; omega) | omega)))).mono ?_); rintro e w' ⟨a1, c1, rfl, ha, hb⟩; have HA1 := Lib.hid ha; clear ha; obtain ⟨p1, rfl⟩ := later_of_below hb; clear hb) | (go_at_call 49; (with_reducible refine (HCD.out _ (by (repeat' (first | with_reducible exact Below.refl _ _ | (with_reducible refine below_later_of ?_ ?_ _) | (with_reducible refine Below.alloc ?_ ?_ _) | (with_reducible refine Below.setCell ?_ ?_ _) | (with_reducible refine Below.drew ?_) | (simp; done) | (simp; omega) | omega)))).mono ?_); rintro e w' ⟨a4, c4, rfl, ha, hb⟩; have HA4 := Lib.hid ha; clear ha; obtain ⟨p4, rfl⟩ := later_of_below hb; clear hb) | (go_at_call 47; (with_reducible refine (focus_det x.L x.S (x.m / 2) c1 C c4 (smp x.p) (smp x.q) a1 a4 _ (by omega) (by omega) (HA1.out.fld (by (repeat' (first | with_reducible exact Below.refl _ _ | (with_reducible refine below_later_of ?_ ?_ _) | (with_reducible refine Below.alloc ?_ ?_ _) | (with_reducible refine Below.setCell ?_ ?_ _) | (with_reducible refine Below.drew ?_) | (simp; done) | (simp; omega) | omega)))) HWD.out (codeAt_own2 HA4.out (by (repeat' (first | with_reducible exact Below.refl _ _ | (with_reducible refine below_later_of ?_ ?_ _) | (with_reducible refine Below.alloc ?_ ?_ _) | (with_reducible refine Below.setCell ?_ ?_ _) | (with_reducible refine Below.drew ?_) | (simp; done) | (simp; omega) | omega)))) HE2.out).mono ?_); rintro e w' ⟨l5, s5, n5, a5, c5, rfl, hok, hb⟩; have HOK := Lib.hid hok; clear hok; obtain ⟨p7, rfl⟩ := later_of_below hb; clear hb))
      all_goals
        rename_i hheld
        clear hheld
        go_wp2_with fail
        go_meet
        refine ⟨_, l5, s5, n5, a5, c5, rfl, rfl, ⟨(by (first | (simp [go_sem]; done) | simp [go_sem, ↓IntWalk.iteOmega])), (by (first | (simp [go_sem]; done) | simp [go_sem, ↓IntWalk.iteOmega])), (by (first | (simp [go_sem]; done) | simp [go_sem, ↓IntWalk.iteOmega]))⟩, ?_, by simp <;> omega, (by (repeat' (first | with_reducible exact Below.refl _ _ | (with_reducible refine below_later_of ?_ ?_ _) | (with_reducible refine Below.alloc ?_ ?_ _) | (with_reducible refine Below.setCell ?_ ?_ _) | (with_reducible refine Below.drew ?_) | (simp; done) | (simp; omega) | omega)))⟩
        first
          | (refine (HOK.out.mono (Nat.zero_le _)).below ?_; (repeat' (first | with_reducible exact Below.refl _ _ | (with_reducible refine below_later_of ?_ ?_ _) | (with_reducible refine Below.alloc ?_ ?_ _) | (with_reducible refine Below.setCell ?_ ?_ _) | (with_reducible refine Below.drew ?_) | (simp; done) | (simp; omega) | omega)); done)
          | (refine (FocSay.set (FocSay.set (FocSay.set HOK.out ?_ _) ?_ _) ?_ _).mono (Nat.zero_le _) <;> simp <;> omega)
    case rest =>
      obtain ⟨B5, l, s, n', aq, cq, rfl, rfl, ⟨x0, x1, x2⟩, hok, hB5, hb⟩ := hcut
      obtain ⟨W3, hW3⟩ : ∃ W3 : World, W3 = wc := ⟨_, rfl⟩
      subst hW3
      have hs3 := hb.size
      have HOF := Lib.hid hok
      have kk0 := (hb.cell (p := ⟨w.heap.size, 0, none⟩) (by simp; omega)).trans k0
      have kk1 := (hb.cell (p := ⟨w.heap.size, 1, none⟩) (by simp; omega)).trans k1
      have kk2 := (hb.cell (p := ⟨w.heap.size, 2, none⟩) (by simp; omega)).trans k2
      have kk3 := (hb.cell (p := ⟨w.heap.size, 3, none⟩) (by simp; omega)).trans k3
      have hw3 : w.heap.size < W3.heap.size := by omega
      have HIX3 := Lib.hid (show ∀ W, Below W3.heap.size W3 W → _ from fun W hW => HIX.out W (hb.trans (hW.mono hs3)))
      have HCD3 := Lib.hid (show ∀ W, Below W3.heap.size W3 W → _ from fun W hW => HCD.out W (hb.trans (hW.mono hs3)))
      have HB3 := Lib.hid (HB2.out.trans (hb.mono HB2.out.size))
      clear hb hok k0 k1 k2 k3 HIX HCD
      have HIX := Lib.hid HIX3.out
      have HCD := Lib.hid HCD3.out
      clear HIX3 HCD3 hs3
      by_cases h1 : ie = 0
      · subst h1
        by_cases h2 : ce = 0
        · subst h2
          go_wp2_with (first | (go_at_call 49; (with_reducible refine (HCD.out _ (by (repeat' (first | with_reducible exact Below.refl _ _ | (with_reducible refine below_later_of ?_ ?_ _) | (with_reducible refine Below.alloc ?_ ?_ _) | (with_reducible refine Below.setCell ?_ ?_ _) | (with_reducible refine Below.drew ?_) | (simp; done) | (simp; omega) | omega)))).mono ?_); rintro e w' ⟨a4, c4, rfl, ha, hb⟩; have HA4 := Lib.hid ha; clear ha; obtain ⟨p4, rfl⟩ := later_of_below hb; clear hb) | (go_at_call 23; (with_reducible refine (rCheckCode C c4 (smp x.q) a4 _ (by omega) (codeAt_own2 HA4.out (by (repeat' (first | with_reducible exact Below.refl _ _ | (with_reducible refine below_later_of ?_ ?_ _) | (with_reducible refine Below.alloc ?_ ?_ _) | (with_reducible refine Below.setCell ?_ ?_ _) | (with_reducible refine Below.drew ?_) | (simp; done) | (simp; omega) | omega)))) HEC.out).mono ?_); rintro e w' ⟨rfl, hb⟩; obtain ⟨p5, rfl⟩ := later_of_below hb; clear hb) | (go_at_call 48; (with_reducible refine (HIX.out _ (by (repeat' (first | with_reducible exact Below.refl _ _ | (with_reducible refine below_later_of ?_ ?_ _) | (with_reducible refine Below.alloc ?_ ?_ _) | (with_reducible refine Below.setCell ?_ ?_ _) | (with_reducible refine Below.drew ?_) | (simp; done) | (simp; omega) | omega)))).mono ?_); rintro e w' ⟨a1, c1, rfl, ha, hb⟩; have HA1 := Lib.hid ha; clear ha; obtain ⟨p1, rfl⟩ := later_of_below hb; clear hb) | (go_at_call 50; (with_reducible refine (rCheckField x.L x.S (x.m / 2) c1 (smp x.p) a1 _ (by omega) (HA1.out.fld (by (repeat' (first | with_reducible exact Below.refl _ _ | (with_reducible refine below_later_of ?_ ?_ _) | (with_reducible refine Below.alloc ?_ ?_ _) | (with_reducible refine Below.setCell ?_ ?_ _) | (with_reducible refine Below.drew ?_) | (simp; done) | (simp; omega) | omega)))) HEI.out).mono ?_); rintro e w' ⟨rfl, hb⟩; obtain ⟨p2, rfl⟩ := later_of_below hb; clear hb))
          obtain ⟨B7, hB7⟩ : ∃ B, B = W3.heap.size + p1.os.size + p2.os.size + p4.os.size + p5.os.size := ⟨_, rfl⟩
          refine wp_worldQ (fun w' => (w'.cell? ⟨B7, 0, none⟩ = some (.int .i64 0) ∧ w'.cell? ⟨B7, 1, none⟩ = some (.int .i64 0) ∧ w'.cell? ⟨B7, 2, none⟩ = some (.slice none 0 0)) ∧ (w'.frozen? ⟨B7, 0, none⟩ = false ∧ w'.frozen? ⟨B7, 1, none⟩ = false ∧ w'.frozen? ⟨B7, 2, none⟩ = false) ∧ Below W3.heap.size W3 w' ∧ B7 < w'.heap.size)
            ⟨⟨by rw [hB7]; simp [go_sem], by rw [hB7]; simp [go_sem], by rw [hB7]; simp [go_sem]⟩, ⟨by rw [hB7]; simp [go_sem], by rw [hB7]; simp [go_sem], by rw [hB7]; simp [go_sem]⟩, (by (repeat' (first | with_reducible exact Below.refl _ _ | (with_reducible refine below_later_of ?_ ?_ _) | (with_reducible refine Below.alloc ?_ ?_ _) | (with_reducible refine Below.setCell ?_ ?_ _) | (with_reducible refine Below.drew ?_) | (simp; done) | (simp; omega) | omega))), by rw [hB7]; simp⟩ ?_
          rintro W4 ⟨⟨z0, z1, z2⟩, ⟨g0, g1, g2⟩, hb4, hB74⟩
          simp only [← hB7]
          have hB73 : W3.heap.size ≤ B7 := by omega
          have HZI := Lib.hid (show (fldE x.L x.S (x.m / 2) (smp x.p)).2 = 0 by rw [HEI.out])
          have HZC := Lib.hid (show (codeE C (smp x.q)).2 = 0 by rw [HEC.out])
          have hs4 := hb4.size
          have k0 := (hb4.cell (p := ⟨w.heap.size, 0, none⟩) hw3).trans kk0
          have k1 := (hb4.cell (p := ⟨w.heap.size, 1, none⟩) hw3).trans kk1
          have k2 := (hb4.cell (p := ⟨w.heap.size, 2, none⟩) hw3).trans kk2
          have k3 := (hb4.cell (p := ⟨w.heap.size, 3, none⟩) hw3).trans kk3
          have HIX4 := Lib.hid (show ∀ W, Below W4.heap.size W4 W → _ from fun W hW => HIX.out W (hb4.trans (hW.mono hs4)))
          have HCD4 := Lib.hid (show ∀ W, Below W4.heap.size W4 W → _ from fun W hW => HCD.out W (hb4.trans (hW.mono hs4)))
          have HB4 := Lib.hid hb4
          have hw4 : w.heap.size < W4.heap.size := by omega
          have hwB : w.heap.size < B7 := by omega
          clear hb4 kk0 kk1 kk2 kk3 HIX HCD HA1 HA4 hB7
          have HIX := Lib.hid HIX4.out
          have HCD := Lib.hid HCD4.out
          clear HIX4 HCD4
          go_cut [6] from 37 to 45 (fun X wx => ∃ l s n' a c, X = .int .i64 E2 ∧ ImgBlk wx B7 l s a n' c ∧ FocSay wx 0 x.L x.S (x.m / 2) C (smp x.p) (smp x.q) E2 l s n' a ∧ Below B7 W4 wx)
          case first =>
            go_region_held3 (fun w' => w'.cell? ⟨w.heap.size, 0, none⟩ = some (.int .i64 x.L) ∧ w'.cell? ⟨w.heap.size, 1, none⟩ = some (.int .i64 x.S) ∧ w'.cell? ⟨w.heap.size, 2, none⟩ = some (.slice x.pa x.m x.pc) ∧ w'.cell? ⟨w.heap.size, 3, none⟩ = some (.slice x.ca x.mc x.cc)) (first | exact ⟨k0, k1, k2, k3⟩ | ((first | (simp [go_sem, k0, k1, k2, k3]; done) | simp [go_sem, k0, k1, k2, k3, ↓IntWalk.iteOmega]); done)) (first | (go_at_call 48; (with_reducible refine (HIX.out _ (by (repeat' (first | with_reducible exact Below.refl _ _ | (with_reducible refine below_later_of ?_ ?_ _) | (with_reducible refine Below.alloc ?_ ?_ _) | (with_reducible refine Below.setCell ?_ ?_ _) | (with_reducible refine Below.drew ?_) | (simp; done) | (simp; omega) | omega)))).mono ?_); rintro e w' ⟨a1, c1, rfl, ha, hb⟩; have HA1 := Lib.hid ha; clear ha; obtain ⟨p1, rfl⟩ := later_of_below hb; clear hb) | (go_at_call 49; (with_reducible refine (HCD.out _ (by (repeat' (first | with_reducible exact Below.refl _ _ | (with_reducible refine below_later_of ?_ ?_ _) | (with_reducible refine Below.alloc ?_ ?_ _) | (with_reducible refine Below.setCell ?_ ?_ _) | (with_reducible refine Below.drew ?_) | (simp; done) | (simp; omega) | omega)))).mono ?_); rintro e w' ⟨a4, c4, rfl, ha, hb⟩; have HA4 := Lib.hid ha; clear ha; obtain ⟨p4, rfl⟩ := later_of_below hb; clear hb) | (go_at_call 51; (with_reducible refine (rFocus_det x.L x.S (x.m / 2) c1 C c4 (smp x.p) (smp x.q) a1 a4 _ (HA1.out.fld (by (repeat' (first | with_reducible exact Below.refl _ _ | (with_reducible refine below_later_of ?_ ?_ _) | (with_reducible refine Below.alloc ?_ ?_ _) | (with_reducible refine Below.setCell ?_ ?_ _) | (with_reducible refine Below.drew ?_) | (simp; done) | (simp; omega) | omega)))) HWD.out (codeAt_own2 HA4.out (by (repeat' (first | with_reducible exact Below.refl _ _ | (with_reducible refine below_later_of ?_ ?_ _) | (with_reducible refine Below.alloc ?_ ?_ _) | (with_reducible refine Below.setCell ?_ ?_ _) | (with_reducible refine Below.drew ?_) | (simp; done) | (simp; omega) | omega)))) HZI.out HZC.out HE2.out).mono ?_); rintro e w' ⟨l5, s5, n5, a5, c5, rfl, hok, hb⟩; have HOK := Lib.hid hok; clear hok; obtain ⟨p7, rfl⟩ := later_of_below hb; clear hb))
            all_goals
              rename_i hheld
              clear hheld
              go_wp2_with fail
              go_meet
              refine ⟨l5, s5, n5, a5, c5, rfl, ⟨(by (first | (simp [go_sem, z0]; done) | simp [go_sem, z0, ↓IntWalk.iteOmega])), (by (first | (simp [go_sem, z1]; done) | simp [go_sem, z1, ↓IntWalk.iteOmega])), (by (first | (simp [go_sem, z2]; done) | simp [go_sem, z2, ↓IntWalk.iteOmega]))⟩, ?_, (by (repeat' (first | with_reducible exact Below.refl _ _ | (with_reducible refine below_later_of ?_ ?_ _) | (with_reducible refine Below.alloc ?_ ?_ _) | (with_reducible refine Below.setCell ?_ ?_ _) | (with_reducible refine Below.drew ?_) | (simp; done) | (simp; omega) | omega)))⟩
              first
                | (refine (HOK.out.mono (Nat.zero_le _)).below ?_; (repeat' (first | with_reducible exact Below.refl _ _ | (with_reducible refine below_later_of ?_ ?_ _) | (with_reducible refine Below.alloc ?_ ?_ _) | (with_reducible refine Below.setCell ?_ ?_ _) | (with_reducible refine Below.drew ?_) | (simp; done) | (simp; omega) | omega)); done)
                | (refine (FocSay.set (FocSay.set (FocSay.set HOK.out ?_ _) ?_ _) ?_ _).mono (Nat.zero_le _) <;> simp <;> omega)
          case rest =>
            obtain ⟨l7, s7, n7, a7, c7, rfl, ⟨z0, z1, z2⟩, hok7, hb7⟩ := hcut
            have hb37 := HB4.out.trans (hb7.mono hB73)
            have HOR := Lib.hid hok7
            have HOF2 := Lib.hid (HOF.out.below hb37)
            have u0 := (hb37.cell (p := ⟨B5, 0, none⟩) hB5).trans x0
            have u1 := (hb37.cell (p := ⟨B5, 1, none⟩) hB5).trans x1
            have u2 := (hb37.cell (p := ⟨B5, 2, none⟩) hB5).trans x2
            have HB7 := Lib.hid (HB3.out.trans (hb37.mono HB3.out.size))
            have hs7 := hb7.size
            have hB57 : B5 < wc.heap.size := by omega
            have hB77 : B7 < wc.heap.size := by omega
            have heq : (E2 == E2) = true := by simp
            clear hok7 hb7 hb37 x0 x1 x2 k0 k1 k2 k3 HIX HCD HOF
            have HOF := Lib.hid HOF2.out
            go_wp2_with (first | (go_at_call 27; (with_reducible refine (same_foc (HOF.out.below (by (repeat' (first | with_reducible exact Below.refl _ _ | (with_reducible refine below_later_of ?_ ?_ _) | (with_reducible refine Below.alloc ?_ ?_ _) | (with_reducible refine Below.setCell ?_ ?_ _) | (with_reducible refine Below.drew ?_) | (simp; done) | (simp; omega) | omega)))) (HOR.out.below (by (repeat' (first | with_reducible exact Below.refl _ _ | (with_reducible refine below_later_of ?_ ?_ _) | (with_reducible refine Below.alloc ?_ ?_ _) | (with_reducible refine Below.setCell ?_ ?_ _) | (with_reducible refine Below.drew ?_) | (simp; done) | (simp; omega) | omega))))).mono ?_); rintro e w' ⟨rfl, hb⟩; obtain ⟨pq, rfl⟩ := later_of_below hb; clear hb))
            go_ret
            exact ⟨rfl, HB7.out.trans (by (repeat' (first | with_reducible exact Below.refl _ _ | (with_reducible refine below_later_of ?_ ?_ _) | (with_reducible refine Below.alloc ?_ ?_ _) | (with_reducible refine Below.setCell ?_ ?_ _) | (with_reducible refine Below.drew ?_) | (simp; done) | (simp; omega) | omega)))⟩
        · have hne : (ce == 0) = false := by simpa using h2
          have hE : E2 = ce := by
            have e1 : first2 0 ce = ce := by unfold first2; rw [if_pos rfl]
            rw [HCE.out (by rw [e1]; exact h2), e1]
          have heq : (E2 == ce) = true := by rw [hE]; simp
          obtain ⟨rfl, rfl, rfl⟩ := HOF.out.2 (by rw [hE]; exact h2)
          clear hE h2
          go_wp2_with (first | (go_at_call 49; (with_reducible refine (HCD.out _ (by (repeat' (first | with_reducible exact Below.refl _ _ | (with_reducible refine below_later_of ?_ ?_ _) | (with_reducible refine Below.alloc ?_ ?_ _) | (with_reducible refine Below.setCell ?_ ?_ _) | (with_reducible refine Below.drew ?_) | (simp; done) | (simp; omega) | omega)))).mono ?_); rintro e w' ⟨a4, c4, rfl, ha, hb⟩; have HA4 := Lib.hid ha; clear ha; obtain ⟨p4, rfl⟩ := later_of_below hb; clear hb) | (go_at_call 23; (with_reducible refine (rCheckCode C c4 (smp x.q) a4 _ (by omega) (codeAt_own2 HA4.out (by (repeat' (first | with_reducible exact Below.refl _ _ | (with_reducible refine below_later_of ?_ ?_ _) | (with_reducible refine Below.alloc ?_ ?_ _) | (with_reducible refine Below.setCell ?_ ?_ _) | (with_reducible refine Below.drew ?_) | (simp; done) | (simp; omega) | omega)))) HEC.out).mono ?_); rintro e w' ⟨rfl, hb⟩; obtain ⟨p5, rfl⟩ := later_of_below hb; clear hb) | (go_at_call 48; (with_reducible refine (HIX.out _ (by (repeat' (first | with_reducible exact Below.refl _ _ | (with_reducible refine below_later_of ?_ ?_ _) | (with_reducible refine Below.alloc ?_ ?_ _) | (with_reducible refine Below.setCell ?_ ?_ _) | (with_reducible refine Below.drew ?_) | (simp; done) | (simp; omega) | omega)))).mono ?_); rintro e w' ⟨a1, c1, rfl, ha, hb⟩; have HA1 := Lib.hid ha; clear ha; obtain ⟨p1, rfl⟩ := later_of_below hb; clear hb) | (go_at_call 50; (with_reducible refine (rCheckField x.L x.S (x.m / 2) c1 (smp x.p) a1 _ (by omega) (HA1.out.fld (by (repeat' (first | with_reducible exact Below.refl _ _ | (with_reducible refine below_later_of ?_ ?_ _) | (with_reducible refine Below.alloc ?_ ?_ _) | (with_reducible refine Below.setCell ?_ ?_ _) | (with_reducible refine Below.drew ?_) | (simp; done) | (simp; omega) | omega)))) HEI.out).mono ?_); rintro e w' ⟨rfl, hb⟩; obtain ⟨p2, rfl⟩ := later_of_below hb; clear hb) | (go_at_call 27; (with_reducible refine same_zero.mono ?_); rintro e w' ⟨rfl, hb⟩; obtain ⟨pq, rfl⟩ := later_of_below hb; clear hb))
          go_ret
          exact ⟨rfl, HB3.out.trans (by (repeat' (first | with_reducible exact Below.refl _ _ | (with_reducible refine below_later_of ?_ ?_ _) | (with_reducible refine Below.alloc ?_ ?_ _) | (with_reducible refine Below.setCell ?_ ?_ _) | (with_reducible refine Below.drew ?_) | (simp; done) | (simp; omega) | omega)))⟩
      · have hne : (ie == 0) = false := by simpa using h1
        have hE : E2 = ie := by
          have e1 : first2 ie ce = ie := by unfold first2; rw [if_neg h1]
          rw [HCE.out (by rw [e1]; exact h1), e1]
        have heq : (E2 == ie) = true := by rw [hE]; simp
        obtain ⟨rfl, rfl, rfl⟩ := HOF.out.2 (by rw [hE]; exact h1)
        clear hE h1
        go_wp2_with (first | (go_at_call 49; (with_reducible refine (HCD.out _ (by (repeat' (first | with_reducible exact Below.refl _ _ | (with_reducible refine below_later_of ?_ ?_ _) | (with_reducible refine Below.alloc ?_ ?_ _) | (with_reducible refine Below.setCell ?_ ?_ _) | (with_reducible refine Below.drew ?_) | (simp; done) | (simp; omega) | omega)))).mono ?_); rintro e w' ⟨a4, c4, rfl, ha, hb⟩; have HA4 := Lib.hid ha; clear ha; obtain ⟨p4, rfl⟩ := later_of_below hb; clear hb) | (go_at_call 23; (with_reducible refine (rCheckCode C c4 (smp x.q) a4 _ (by omega) (codeAt_own2 HA4.out (by (repeat' (first | with_reducible exact Below.refl _ _ | (with_reducible refine below_later_of ?_ ?_ _) | (with_reducible refine Below.alloc ?_ ?_ _) | (with_reducible refine Below.setCell ?_ ?_ _) | (with_reducible refine Below.drew ?_) | (simp; done) | (simp; omega) | omega)))) HEC.out).mono ?_); rintro e w' ⟨rfl, hb⟩; obtain ⟨p5, rfl⟩ := later_of_below hb; clear hb) | (go_at_call 48; (with_reducible refine (HIX.out _ (by (repeat' (first | with_reducible exact Below.refl _ _ | (with_reducible refine below_later_of ?_ ?_ _) | (with_reducible refine Below.alloc ?_ ?_ _) | (with_reducible refine Below.setCell ?_ ?_ _) | (with_reducible refine Below.drew ?_) | (simp; done) | (simp; omega) | omega)))).mono ?_); rintro e w' ⟨a1, c1, rfl, ha, hb⟩; have HA1 := Lib.hid ha; clear ha; obtain ⟨p1, rfl⟩ := later_of_below hb; clear hb) | (go_at_call 50; (with_reducible refine (rCheckField x.L x.S (x.m / 2) c1 (smp x.p) a1 _ (by omega) (HA1.out.fld (by (repeat' (first | with_reducible exact Below.refl _ _ | (with_reducible refine below_later_of ?_ ?_ _) | (with_reducible refine Below.alloc ?_ ?_ _) | (with_reducible refine Below.setCell ?_ ?_ _) | (with_reducible refine Below.drew ?_) | (simp; done) | (simp; omega) | omega)))) HEI.out).mono ?_); rintro e w' ⟨rfl, hb⟩; obtain ⟨p2, rfl⟩ := later_of_below hb; clear hb) | (go_at_call 27; (with_reducible refine same_zero.mono ?_); rintro e w' ⟨rfl, hb⟩; obtain ⟨pq, rfl⟩ := later_of_below hb; clear hb))
        go_ret
        exact ⟨rfl, HB3.out.trans (by (repeat' (first | with_reducible exact Below.refl _ _ | (with_reducible refine below_later_of ?_ ?_ _) | (with_reducible refine Below.alloc ?_ ?_ _) | (with_reducible refine Below.setCell ?_ ?_ _) | (with_reducible refine Below.drew ?_) | (simp; done) | (simp; omega) | omega)))⟩
end Go.Proofs.YtakohhlmomgegaaDoor
