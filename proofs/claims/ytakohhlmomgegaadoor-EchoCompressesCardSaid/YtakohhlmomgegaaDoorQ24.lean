/- Chapter 1's door seat: the law EchoCompresses returns true. -/
import Derived.Test.YtakohhlmomgegaaDoorQ10
import Derived.Test.YtakohhlmomgegaaDoorU81
import Derived.Test.YtakohhlmomgegaaDoorZP
import Derived.Deep.CutRange
import Derived.Deep.RegionHeld3
namespace Go.Proofs.YtakohhlmomgegaaDoor
set_option linter.unusedVariables false
set_option linter.unusedSimpArgs false
open Go.RowKit Ntt
theorem wp_worldQ {P : Program} {c : Code} {Q : Exit → Act → World → Prop} {a : Act} {w : World} (F : World → Prop) (hf : F w) (h : ∀ W, F W → Code.wp P c Q a W) : Code.wp P c Q a w := h w hf
theorem checkCode_at (n cap : Nat) (f : Nat → Nat × Nat) (a : Option Addr) (w : World) (hl : n ≤ 100000) (hd : CodeAt w n f a) {i0 : Nat} {e0 : Int} (he : codeE n f = (i0, e0)) :
    Calls Tryd.prog 19 #[.slice a n cap] w fun e w' => e = .returned (.tuple #[.int .i64 i0, .int .i64 e0]) ∧ Below w.heap.size w w' := checkCode_any n cap f a w hl hd he
theorem compSay_of {W : World} {b : Nat} {L S : Int} {n C : Nat} {f fc : Nat → Nat × Nat} {e0 l s : Int} {n' : Nat} {a : Option Addr} (h : (e0 = 0 → CompOkB W b L S n C f fc l s n' a) ∧ (e0 ≠ 0 → l = 0 ∧ s = 0 ∧ n' = 0)) : CompSay W L S n C f fc e0 l s n' a := ⟨fun h0 => (h.1 h0).mono (Nat.zero_le _), h.2⟩
set_option maxRecDepth 20000 in
set_option maxHeartbeats 40000000 in
theorem compresses_any (x : Scn) (w : World) (hx : x.At w) (ht : Tab w) : Calls Tryd.prog 3 #[.agg #[.int .i64 x.L, .int .i64 x.S, .slice x.pa x.m x.pc, .slice x.ca x.mc x.cc]] w fun e w' => e = .returned (.bool true) ∧ Below w.heap.size w w' := by
  have HT := Lib.hid ht
  clear ht
  rcases (show smallB x = false ∨ smallB x = true by cases smallB x <;> simp) with hq | hq
  · have HSX := Lib.hid (fun w => lSmall x w hq)
    clear hx hq
    go_enter Tryd.func3, Tryd.ntmps3
    go_wp2_with (first | (go_at_call 17; (with_reducible refine (awake_any _ (HT.out.below (by (repeat' (first | with_reducible exact Below.refl _ _ | (with_reducible refine below_later_of ?_ ?_ _) | (with_reducible refine Below.alloc ?_ ?_ _) | (with_reducible refine Below.setCell ?_ ?_ _) | (with_reducible refine Below.drew ?_) | (simp; done) | (simp; omega) | omega))))).mono ?_); rintro e w' ⟨rfl, hb⟩; obtain ⟨pq, rfl⟩ := later_of_below hb; clear hb) | (go_at_call 18; (with_reducible refine (HSX.out _).mono ?_); rintro e w' ⟨rfl, hb⟩; obtain ⟨pq, rfl⟩ := later_of_below hb; clear hb))
    go_ret
    exact ⟨rfl, (by (repeat' (first | with_reducible exact Below.refl _ _ | (with_reducible refine below_later_of ?_ ?_ _) | (with_reducible refine Below.alloc ?_ ?_ _) | (with_reducible refine Below.setCell ?_ ?_ _) | (with_reducible refine Below.drew ?_) | (simp; done) | (simp; omega) | omega)))⟩
  · have HSX := Lib.hid (fun w => lSmall x w hq)
    obtain ⟨q1, q2⟩ := smallB_ok hq
    have HX0 := Lib.hid hx
    obtain ⟨C, hC⟩ : ∃ C, x.mc / 2 = C := ⟨_, rfl⟩
    have hC35 : C ≤ 35 := by omega
    have HC := Lib.hid hC
    obtain ⟨E2, hE2⟩ : ∃ e, compE x.L x.S (x.m / 2) C (smp x.p) (smp x.q) = e := ⟨_, rfl⟩
    obtain ⟨ci, ce, hEC⟩ : ∃ i e, codeE C (smp x.q) = (i, e) := ⟨_, _, rfl⟩
    obtain ⟨ii, ie, hEI⟩ : ∃ i e, imgE x.L x.S (x.m / 2) (smp x.p) = (i, e) := ⟨_, _, rfl⟩
    have HE2 := Lib.hid hE2
    have HEC := Lib.hid hEC
    have HEI := Lib.hid hEI
    have HCE := Lib.hid (show E2 = if first2 ie ce = 0 then (if x.S < C then 10 else 0) else first2 ie ce by rw [← hE2]; unfold compE; rw [hEI, hEC])
    have HIX := Lib.hid (show ∀ W, Below w.heap.size w W → _ from fun W hW => lImage x W (by omega) (hx.below hW))
    have HCD := Lib.hid (show ∀ W, Below w.heap.size w W → Calls Tryd.prog 20 #[.agg #[.int .i64 x.L, .int .i64 x.S, .slice x.pa x.m x.pc, .slice x.ca x.mc x.cc]] W (CdPost C (smp x.q) W) from fun W hW => (lCode x W (by omega) (hx.below hW)).mono fun e w' h => by rw [hC] at h; exact h)
    clear hx hq hC hE2 hEC hEI HX0
    go_enter Tryd.func3, Tryd.ntmps3
    go_wp2_with (first | (go_at_call 17; (with_reducible refine (awake_any _ (HT.out.below (by (repeat' (first | with_reducible exact Below.refl _ _ | (with_reducible refine below_later_of ?_ ?_ _) | (with_reducible refine Below.alloc ?_ ?_ _) | (with_reducible refine Below.setCell ?_ ?_ _) | (with_reducible refine Below.drew ?_) | (simp; done) | (simp; omega) | omega))))).mono ?_); rintro e w' ⟨rfl, hb⟩; obtain ⟨pq, rfl⟩ := later_of_below hb; clear hb) | (go_at_call 18; (with_reducible refine (HSX.out _).mono ?_); rintro e w' ⟨rfl, hb⟩; obtain ⟨pq, rfl⟩ := later_of_below hb; clear hb) | (go_at_call 20; (with_reducible refine (HCD.out _ (by (repeat' (first | with_reducible exact Below.refl _ _ | (with_reducible refine below_later_of ?_ ?_ _) | (with_reducible refine Below.alloc ?_ ?_ _) | (with_reducible refine Below.setCell ?_ ?_ _) | (with_reducible refine Below.drew ?_) | (simp; done) | (simp; omega) | omega)))).mono ?_); rintro e w' ⟨a4, c4, rfl, ha, hb⟩; have HA4 := Lib.hid ha; clear ha; obtain ⟨pq, rfl⟩ := later_of_below hb; clear hb) | (go_at_call 19; (with_reducible refine (checkCode_at C c4 (smp x.q) a4 _ (by omega) (codeAt_own2 HA4.out (by (repeat' (first | with_reducible exact Below.refl _ _ | (with_reducible refine below_later_of ?_ ?_ _) | (with_reducible refine Below.alloc ?_ ?_ _) | (with_reducible refine Below.setCell ?_ ?_ _) | (with_reducible refine Below.drew ?_) | (simp; done) | (simp; omega) | omega)))) HEC.out).mono ?_); rintro e w' ⟨rfl, hb⟩; obtain ⟨pq, rfl⟩ := later_of_below hb; clear hb))
    refine wp_worldQ (fun w' => (w'.cell? ⟨w.heap.size, 0, none⟩ = some (.int .i64 x.L) ∧ w'.cell? ⟨w.heap.size, 1, none⟩ = some (.int .i64 x.S) ∧ w'.cell? ⟨w.heap.size, 2, none⟩ = some (.slice x.pa x.m x.pc) ∧ w'.cell? ⟨w.heap.size, 3, none⟩ = some (.slice x.ca x.mc x.cc)) ∧ Below w.heap.size w w' ∧ w.heap.size < w'.heap.size) ⟨⟨(by (first | (simp [go_sem]; done) | simp [go_sem, ↓IntWalk.iteOmega])), (by (first | (simp [go_sem]; done) | simp [go_sem, ↓IntWalk.iteOmega])), (by (first | (simp [go_sem]; done) | simp [go_sem, ↓IntWalk.iteOmega])), (by (first | (simp [go_sem]; done) | simp [go_sem, ↓IntWalk.iteOmega]))⟩, (by (repeat' (first | with_reducible exact Below.refl _ _ | (with_reducible refine below_later_of ?_ ?_ _) | (with_reducible refine Below.alloc ?_ ?_ _) | (with_reducible refine Below.setCell ?_ ?_ _) | (with_reducible refine Below.drew ?_) | (simp; done) | (simp; omega) | omega))), by simp; omega⟩ ?_
    rintro W2 ⟨⟨k0, k1, k2, k3⟩, hb2, hs2⟩
    have HIX2 := Lib.hid (show ∀ W, Below W2.heap.size W2 W → _ from fun W hW => HIX.out W (hb2.trans (hW.mono hb2.size)))
    have HCD2 := Lib.hid (show ∀ W, Below W2.heap.size W2 W → _ from fun W hW => HCD.out W (hb2.trans (hW.mono hb2.size)))
    have HB2 := Lib.hid hb2
    clear hb2 HSX HIX HCD HA4
    have HIX := Lib.hid HIX2.out
    have HCD := Lib.hid HCD2.out
    clear HIX2 HCD2
    go_cut [5, 6] from 23 to 31 (fun X Y wx => ∃ B l s n' a c, X = .pointer (some ⟨B, 0, none⟩) ∧ Y = .int .i64 E2 ∧ ImgBlk wx B l s a n' c ∧ CompSay wx x.L x.S (x.m / 2) C (smp x.p) (smp x.q) E2 l s n' a ∧ B < wx.heap.size ∧ Below W2.heap.size W2 wx)
    case first =>
      go_region_held3 (fun w' => w'.cell? ⟨w.heap.size, 0, none⟩ = some (.int .i64 x.L) ∧ w'.cell? ⟨w.heap.size, 1, none⟩ = some (.int .i64 x.S) ∧ w'.cell? ⟨w.heap.size, 2, none⟩ = some (.slice x.pa x.m x.pc) ∧ w'.cell? ⟨w.heap.size, 3, none⟩ = some (.slice x.ca x.mc x.cc)) (first | exact ⟨k0, k1, k2, k3⟩ | ((first | (simp [go_sem, k0, k1, k2, k3]; done) | simp [go_sem, k0, k1, k2, k3, ↓IntWalk.iteOmega]); done)) (first | (go_at_call 22; (with_reducible refine (HIX.out _ (by (repeat' (first | with_reducible exact Below.refl _ _ | (with_reducible refine below_later_of ?_ ?_ _) | (with_reducible refine Below.alloc ?_ ?_ _) | (with_reducible refine Below.setCell ?_ ?_ _) | (with_reducible refine Below.drew ?_) | (simp; done) | (simp; omega) | omega)))).mono ?_); rintro e w' ⟨a1, c1, rfl, ha, -, hb⟩; have HA1 := Lib.hid ha; clear ha; obtain ⟨pq, rfl⟩ := later_of_below hb; clear hb) | (go_at_call 20; (with_reducible refine (HCD.out _ (by (repeat' (first | with_reducible exact Below.refl _ _ | (with_reducible refine below_later_of ?_ ?_ _) | (with_reducible refine Below.alloc ?_ ?_ _) | (with_reducible refine Below.setCell ?_ ?_ _) | (with_reducible refine Below.drew ?_) | (simp; done) | (simp; omega) | omega)))).mono ?_); rintro e w' ⟨a4, c4, rfl, ha, hb⟩; have HA4 := Lib.hid ha; clear ha; obtain ⟨pq, rfl⟩ := later_of_below hb; clear hb) | (go_at_call 21; (with_reducible refine (compress_det x.L x.S (x.m / 2) c1 C c4 (smp x.p) (smp x.q) a1 a4 _ (by omega) (by omega) (dataAt_own HA1.out (by (repeat' (first | with_reducible exact Below.refl _ _ | (with_reducible refine below_later_of ?_ ?_ _) | (with_reducible refine Below.alloc ?_ ?_ _) | (with_reducible refine Below.setCell ?_ ?_ _) | (with_reducible refine Below.drew ?_) | (simp; done) | (simp; omega) | omega)))) (codeAt_own2 HA4.out (by (repeat' (first | with_reducible exact Below.refl _ _ | (with_reducible refine below_later_of ?_ ?_ _) | (with_reducible refine Below.alloc ?_ ?_ _) | (with_reducible refine Below.setCell ?_ ?_ _) | (with_reducible refine Below.drew ?_) | (simp; done) | (simp; omega) | omega)))) HE2.out).mono ?_); rintro e w' ⟨l5, s5, n5, a5, c5, rfl, hok, hno, hb⟩; have HOK := Lib.hid (And.intro hok hno); clear hok hno; obtain ⟨p7, rfl⟩ := later_of_below hb; clear hb))
      all_goals
        rename_i hheld
        clear hheld
        go_wp2_with fail
        go_meet
        refine ⟨_, l5, s5, n5, a5, c5, rfl, rfl, ⟨(by (first | (simp [go_sem]; done) | simp [go_sem, ↓IntWalk.iteOmega])), (by (first | (simp [go_sem]; done) | simp [go_sem, ↓IntWalk.iteOmega])), (by (first | (simp [go_sem]; done) | simp [go_sem, ↓IntWalk.iteOmega]))⟩, ?_, by simp <;> omega, (by (repeat' (first | with_reducible exact Below.refl _ _ | (with_reducible refine below_later_of ?_ ?_ _) | (with_reducible refine Below.alloc ?_ ?_ _) | (with_reducible refine Below.setCell ?_ ?_ _) | (with_reducible refine Below.drew ?_) | (simp; done) | (simp; omega) | omega)))⟩
        first
          | (refine (compSay_of HOK.out).below ?_; (repeat' (first | with_reducible exact Below.refl _ _ | (with_reducible refine below_later_of ?_ ?_ _) | (with_reducible refine Below.alloc ?_ ?_ _) | (with_reducible refine Below.setCell ?_ ?_ _) | (with_reducible refine Below.drew ?_) | (simp; done) | (simp; omega) | omega)); done)
          | (refine ⟨fun h => (CompOkB.set (CompOkB.set (CompOkB.set (HOK.out.1 h) ?_ _) ?_ _) ?_ _).mono (Nat.zero_le _), HOK.out.2⟩ <;> simp <;> omega)
    case rest =>
      obtain ⟨B5, l, s, n', aq, cq, rfl, rfl, hi5, hok, hB5, hb⟩ := hcut
      obtain ⟨W3, hW3⟩ : ∃ W3 : World, W3 = wc := ⟨_, rfl⟩
      subst hW3
      have hs3 := hb.size
      have HI5 := Lib.hid hi5
      have HOF := Lib.hid hok
      have p0 := (hb.cell (p := ⟨w.heap.size, 0, none⟩) (by simp; omega)).trans k0
      have p1 := (hb.cell (p := ⟨w.heap.size, 1, none⟩) (by simp; omega)).trans k1
      have p2 := (hb.cell (p := ⟨w.heap.size, 2, none⟩) (by simp; omega)).trans k2
      have p3 := (hb.cell (p := ⟨w.heap.size, 3, none⟩) (by simp; omega)).trans k3
      have hw3 : w.heap.size < W3.heap.size := by omega
      have HIX3 := Lib.hid (show ∀ W, Below W3.heap.size W3 W → _ from fun W hW => HIX.out W (hb.trans (hW.mono hs3)))
      have HCD3 := Lib.hid (show ∀ W, Below W3.heap.size W3 W → _ from fun W hW => HCD.out W (hb.trans (hW.mono hs3)))
      have HB3 := Lib.hid (HB2.out.trans (hb.mono HB2.out.size))
      obtain ⟨x0, x1, x2⟩ := hi5
      clear hb hok k0 k1 k2 k3 HIX HCD
      have HIX := Lib.hid HIX3.out
      have HCD := Lib.hid HCD3.out
      clear HIX3 HCD3 hs3
      have dci : ((ci : Int) != (ci : Int)) = false := by simp
      have dce : (ce != ce) = false := by simp
      by_cases h1 : ie = 0
      · subst h1
        by_cases h2 : ce = 0
        · subst h2
          go_wp2_with (first | (go_at_call 20; (with_reducible refine (HCD.out _ (by (repeat' (first | with_reducible exact Below.refl _ _ | (with_reducible refine below_later_of ?_ ?_ _) | (with_reducible refine Below.alloc ?_ ?_ _) | (with_reducible refine Below.setCell ?_ ?_ _) | (with_reducible refine Below.drew ?_) | (simp; done) | (simp; omega) | omega)))).mono ?_); rintro e w' ⟨a4, c4, rfl, ha, hb⟩; have HA4 := Lib.hid ha; clear ha; obtain ⟨pq, rfl⟩ := later_of_below hb; clear hb) | (go_at_call 23; (with_reducible refine (rCheckCode C c4 (smp x.q) a4 _ (by omega) (codeAt_own2 HA4.out (by (repeat' (first | with_reducible exact Below.refl _ _ | (with_reducible refine below_later_of ?_ ?_ _) | (with_reducible refine Below.alloc ?_ ?_ _) | (with_reducible refine Below.setCell ?_ ?_ _) | (with_reducible refine Below.drew ?_) | (simp; done) | (simp; omega) | omega)))) HEC.out).mono ?_); rintro e w' ⟨rfl, hb⟩; obtain ⟨pq, rfl⟩ := later_of_below hb; clear hb) | (go_at_call 22; (with_reducible refine (HIX.out _ (by (repeat' (first | with_reducible exact Below.refl _ _ | (with_reducible refine below_later_of ?_ ?_ _) | (with_reducible refine Below.alloc ?_ ?_ _) | (with_reducible refine Below.setCell ?_ ?_ _) | (with_reducible refine Below.drew ?_) | (simp; done) | (simp; omega) | omega)))).mono ?_); rintro e w' ⟨a1, c1, rfl, ha, -, hb⟩; have HA1 := Lib.hid ha; clear ha; obtain ⟨pq, rfl⟩ := later_of_below hb; clear hb) | (go_at_call 24; (with_reducible refine (rCheckImage x.L x.S (x.m / 2) c1 (smp x.p) a1 _ (by omega) (dataAt_own HA1.out (by (repeat' (first | with_reducible exact Below.refl _ _ | (with_reducible refine below_later_of ?_ ?_ _) | (with_reducible refine Below.alloc ?_ ?_ _) | (with_reducible refine Below.setCell ?_ ?_ _) | (with_reducible refine Below.drew ?_) | (simp; done) | (simp; omega) | omega)))) HEI.out).mono ?_); rintro e w' ⟨rfl, hb⟩; obtain ⟨pq, rfl⟩ := later_of_below hb; clear hb))
          refine wp_worldQ (fun w' => Below W3.heap.size W3 w') (by (repeat' (first | with_reducible exact Below.refl _ _ | (with_reducible refine below_later_of ?_ ?_ _) | (with_reducible refine Below.alloc ?_ ?_ _) | (with_reducible refine Below.setCell ?_ ?_ _) | (with_reducible refine Below.drew ?_) | (simp; done) | (simp; omega) | omega))) ?_
          rintro W4 hb4
          have HZI := Lib.hid (show (imgE x.L x.S (x.m / 2) (smp x.p)).2 = 0 by rw [HEI.out])
          have HZC := Lib.hid (show (codeE C (smp x.q)).2 = 0 by rw [HEC.out])
          have hs4 := hb4.size
          have k0 := (hb4.cell (p := ⟨w.heap.size, 0, none⟩) hw3).trans p0
          have k1 := (hb4.cell (p := ⟨w.heap.size, 1, none⟩) hw3).trans p1
          have k2 := (hb4.cell (p := ⟨w.heap.size, 2, none⟩) hw3).trans p2
          have k3 := (hb4.cell (p := ⟨w.heap.size, 3, none⟩) hw3).trans p3
          have y0 := (hb4.cell (p := ⟨B5, 0, none⟩) hB5).trans x0
          have y1 := (hb4.cell (p := ⟨B5, 1, none⟩) hB5).trans x1
          have y2 := (hb4.cell (p := ⟨B5, 2, none⟩) hB5).trans x2
          have HOF4 := Lib.hid (HOF.out.below hb4)
          have HIX4 := Lib.hid (show ∀ W, Below W4.heap.size W4 W → _ from fun W hW => HIX.out W (hb4.trans (hW.mono hs4)))
          have HCD4 := Lib.hid (show ∀ W, Below W4.heap.size W4 W → _ from fun W hW => HCD.out W (hb4.trans (hW.mono hs4)))
          have HB4 := Lib.hid (HB3.out.trans (hb4.mono HB3.out.size))
          have hw4 : w.heap.size < W4.heap.size := by omega
          have hB4 : B5 < W4.heap.size := by omega
          clear hb4 hs4 p0 p1 p2 p3 x0 x1 x2 HOF HIX HCD HA1 HA4
          have HIX := Lib.hid HIX4.out
          have HCD := Lib.hid HCD4.out
          clear HIX4 HCD4
          go_cut [11, 8] from 63 to 71 (fun X Y wx => ∃ B l s n' a c, X = .pointer (some ⟨B, 0, none⟩) ∧ Y = .int .i64 E2 ∧ ImgBlk wx B l s a n' c ∧ CompSay wx x.L x.S (x.m / 2) C (smp x.p) (smp x.q) E2 l s n' a ∧ B < wx.heap.size ∧ Below W4.heap.size W4 wx)
          case first =>
            go_region_held3 (fun w' => w'.cell? ⟨w.heap.size, 0, none⟩ = some (.int .i64 x.L) ∧ w'.cell? ⟨w.heap.size, 1, none⟩ = some (.int .i64 x.S) ∧ w'.cell? ⟨w.heap.size, 2, none⟩ = some (.slice x.pa x.m x.pc) ∧ w'.cell? ⟨w.heap.size, 3, none⟩ = some (.slice x.ca x.mc x.cc)) (first | exact ⟨k0, k1, k2, k3⟩ | ((first | (simp [go_sem, k0, k1, k2, k3]; done) | simp [go_sem, k0, k1, k2, k3, ↓IntWalk.iteOmega]); done)) (first | (go_at_call 22; (with_reducible refine (HIX.out _ (by (repeat' (first | with_reducible exact Below.refl _ _ | (with_reducible refine below_later_of ?_ ?_ _) | (with_reducible refine Below.alloc ?_ ?_ _) | (with_reducible refine Below.setCell ?_ ?_ _) | (with_reducible refine Below.drew ?_) | (simp; done) | (simp; omega) | omega)))).mono ?_); rintro e w' ⟨a1, c1, rfl, ha, -, hb⟩; have HA1 := Lib.hid ha; clear ha; obtain ⟨pq, rfl⟩ := later_of_below hb; clear hb) | (go_at_call 20; (with_reducible refine (HCD.out _ (by (repeat' (first | with_reducible exact Below.refl _ _ | (with_reducible refine below_later_of ?_ ?_ _) | (with_reducible refine Below.alloc ?_ ?_ _) | (with_reducible refine Below.setCell ?_ ?_ _) | (with_reducible refine Below.drew ?_) | (simp; done) | (simp; omega) | omega)))).mono ?_); rintro e w' ⟨a4, c4, rfl, ha, hb⟩; have HA4 := Lib.hid ha; clear ha; obtain ⟨pq, rfl⟩ := later_of_below hb; clear hb) | (go_at_call 26; (with_reducible refine (rCompress_det x.L x.S (x.m / 2) c1 C c4 (smp x.p) (smp x.q) a1 a4 _ (dataAt_own HA1.out (by (repeat' (first | with_reducible exact Below.refl _ _ | (with_reducible refine below_later_of ?_ ?_ _) | (with_reducible refine Below.alloc ?_ ?_ _) | (with_reducible refine Below.setCell ?_ ?_ _) | (with_reducible refine Below.drew ?_) | (simp; done) | (simp; omega) | omega)))) (codeAt_own2 HA4.out (by (repeat' (first | with_reducible exact Below.refl _ _ | (with_reducible refine below_later_of ?_ ?_ _) | (with_reducible refine Below.alloc ?_ ?_ _) | (with_reducible refine Below.setCell ?_ ?_ _) | (with_reducible refine Below.drew ?_) | (simp; done) | (simp; omega) | omega)))) HZI.out HZC.out HE2.out).mono ?_); rintro e w' ⟨l5, s5, n5, a5, c5, rfl, hok, hno, hb⟩; have HOK := Lib.hid (And.intro hok hno); clear hok hno; obtain ⟨p7, rfl⟩ := later_of_below hb; clear hb))
            all_goals
              rename_i hheld
              clear hheld
              go_wp2_with fail
              go_meet
              refine ⟨_, l5, s5, n5, a5, c5, rfl, rfl, ⟨(by (first | (simp [go_sem]; done) | simp [go_sem, ↓IntWalk.iteOmega])), (by (first | (simp [go_sem]; done) | simp [go_sem, ↓IntWalk.iteOmega])), (by (first | (simp [go_sem]; done) | simp [go_sem, ↓IntWalk.iteOmega]))⟩, ?_, by simp <;> omega, (by (repeat' (first | with_reducible exact Below.refl _ _ | (with_reducible refine below_later_of ?_ ?_ _) | (with_reducible refine Below.alloc ?_ ?_ _) | (with_reducible refine Below.setCell ?_ ?_ _) | (with_reducible refine Below.drew ?_) | (simp; done) | (simp; omega) | omega)))⟩
              first
                | (refine (compSay_of HOK.out).below ?_; (repeat' (first | with_reducible exact Below.refl _ _ | (with_reducible refine below_later_of ?_ ?_ _) | (with_reducible refine Below.alloc ?_ ?_ _) | (with_reducible refine Below.setCell ?_ ?_ _) | (with_reducible refine Below.drew ?_) | (simp; done) | (simp; omega) | omega)); done)
                | (refine ⟨fun h => (CompOkB.set (CompOkB.set (CompOkB.set (HOK.out.1 h) ?_ _) ?_ _) ?_ _).mono (Nat.zero_le _), HOK.out.2⟩ <;> simp <;> omega)
          case rest =>
            obtain ⟨B7, l7, s7, n7, a7, c7, rfl, rfl, ⟨z0, z1, z2⟩, hok7, hB7, hb7⟩ := hcut
            have HOR := Lib.hid hok7
            have HOF := Lib.hid (HOF4.out.below hb7)
            have u0 := (hb7.cell (p := ⟨B5, 0, none⟩) hB4).trans y0
            have u1 := (hb7.cell (p := ⟨B5, 1, none⟩) hB4).trans y1
            have u2 := (hb7.cell (p := ⟨B5, 2, none⟩) hB4).trans y2
            have HB7 := Lib.hid (HB4.out.trans (hb7.mono HB4.out.size))
            have hs7 := hb7.size
            have hB57 : B5 < wc.heap.size := by omega
            have heq : (E2 == E2) = true := by simp
            clear hok7 hb7 y0 y1 y2 k0 k1 k2 k3 HIX HCD
            go_wp2_with (first | (go_at_call 27; (with_reducible refine (same_comp (HOF.out.below (by (repeat' (first | with_reducible exact Below.refl _ _ | (with_reducible refine below_later_of ?_ ?_ _) | (with_reducible refine Below.alloc ?_ ?_ _) | (with_reducible refine Below.setCell ?_ ?_ _) | (with_reducible refine Below.drew ?_) | (simp; done) | (simp; omega) | omega)))) (HOR.out.below (by (repeat' (first | with_reducible exact Below.refl _ _ | (with_reducible refine below_later_of ?_ ?_ _) | (with_reducible refine Below.alloc ?_ ?_ _) | (with_reducible refine Below.setCell ?_ ?_ _) | (with_reducible refine Below.drew ?_) | (simp; done) | (simp; omega) | omega))))).mono ?_); rintro e w' ⟨rfl, hb⟩; obtain ⟨pq, rfl⟩ := later_of_below hb; clear hb))
            go_ret
            exact ⟨rfl, HB7.out.trans (by (repeat' (first | with_reducible exact Below.refl _ _ | (with_reducible refine below_later_of ?_ ?_ _) | (with_reducible refine Below.alloc ?_ ?_ _) | (with_reducible refine Below.setCell ?_ ?_ _) | (with_reducible refine Below.drew ?_) | (simp; done) | (simp; omega) | omega)))⟩
        · have hne : (ce != 0) = true := by simpa using h2
          have hE : E2 = ce := by rw [HCE.out]; unfold first2; rw [if_pos rfl, if_neg h2]
          have heq : (E2 == ce) = true := by rw [hE]; simp
          obtain ⟨rfl, rfl, rfl⟩ := HOF.out.2 (by rw [hE]; exact h2)
          clear hE h2
          go_wp2_with (first | (go_at_call 20; (with_reducible refine (HCD.out _ (by (repeat' (first | with_reducible exact Below.refl _ _ | (with_reducible refine below_later_of ?_ ?_ _) | (with_reducible refine Below.alloc ?_ ?_ _) | (with_reducible refine Below.setCell ?_ ?_ _) | (with_reducible refine Below.drew ?_) | (simp; done) | (simp; omega) | omega)))).mono ?_); rintro e w' ⟨a4, c4, rfl, ha, hb⟩; have HA4 := Lib.hid ha; clear ha; obtain ⟨pq, rfl⟩ := later_of_below hb; clear hb) | (go_at_call 23; (with_reducible refine (rCheckCode C c4 (smp x.q) a4 _ (by omega) (codeAt_own2 HA4.out (by (repeat' (first | with_reducible exact Below.refl _ _ | (with_reducible refine below_later_of ?_ ?_ _) | (with_reducible refine Below.alloc ?_ ?_ _) | (with_reducible refine Below.setCell ?_ ?_ _) | (with_reducible refine Below.drew ?_) | (simp; done) | (simp; omega) | omega)))) HEC.out).mono ?_); rintro e w' ⟨rfl, hb⟩; obtain ⟨pq, rfl⟩ := later_of_below hb; clear hb) | (go_at_call 22; (with_reducible refine (HIX.out _ (by (repeat' (first | with_reducible exact Below.refl _ _ | (with_reducible refine below_later_of ?_ ?_ _) | (with_reducible refine Below.alloc ?_ ?_ _) | (with_reducible refine Below.setCell ?_ ?_ _) | (with_reducible refine Below.drew ?_) | (simp; done) | (simp; omega) | omega)))).mono ?_); rintro e w' ⟨a1, c1, rfl, ha, -, hb⟩; have HA1 := Lib.hid ha; clear ha; obtain ⟨pq, rfl⟩ := later_of_below hb; clear hb) | (go_at_call 24; (with_reducible refine (rCheckImage x.L x.S (x.m / 2) c1 (smp x.p) a1 _ (by omega) (dataAt_own HA1.out (by (repeat' (first | with_reducible exact Below.refl _ _ | (with_reducible refine below_later_of ?_ ?_ _) | (with_reducible refine Below.alloc ?_ ?_ _) | (with_reducible refine Below.setCell ?_ ?_ _) | (with_reducible refine Below.drew ?_) | (simp; done) | (simp; omega) | omega)))) HEI.out).mono ?_); rintro e w' ⟨rfl, hb⟩; obtain ⟨pq, rfl⟩ := later_of_below hb; clear hb) | (go_at_call 25; (with_reducible refine (lNoField _ _ _).mono ?_); rintro e w' ⟨rfl, hb⟩; obtain ⟨pq, rfl⟩ := later_of_below hb; clear hb))
          go_ret
          exact ⟨rfl, HB3.out.trans (by (repeat' (first | with_reducible exact Below.refl _ _ | (with_reducible refine below_later_of ?_ ?_ _) | (with_reducible refine Below.alloc ?_ ?_ _) | (with_reducible refine Below.setCell ?_ ?_ _) | (with_reducible refine Below.drew ?_) | (simp; done) | (simp; omega) | omega)))⟩
      · have hne : (ie != 0) = true := by simpa using h1
        have hE : E2 = ie := by
          rw [HCE.out]
          have : first2 ie ce = ie := by unfold first2; rw [if_neg h1]
          rw [this, if_neg h1]
        have heq : (E2 == ie) = true := by rw [hE]; simp
        obtain ⟨rfl, rfl, rfl⟩ := HOF.out.2 (by rw [hE]; exact h1)
        clear hE h1
        go_wp2_with (first | (go_at_call 20; (with_reducible refine (HCD.out _ (by (repeat' (first | with_reducible exact Below.refl _ _ | (with_reducible refine below_later_of ?_ ?_ _) | (with_reducible refine Below.alloc ?_ ?_ _) | (with_reducible refine Below.setCell ?_ ?_ _) | (with_reducible refine Below.drew ?_) | (simp; done) | (simp; omega) | omega)))).mono ?_); rintro e w' ⟨a4, c4, rfl, ha, hb⟩; have HA4 := Lib.hid ha; clear ha; obtain ⟨pq, rfl⟩ := later_of_below hb; clear hb) | (go_at_call 23; (with_reducible refine (rCheckCode C c4 (smp x.q) a4 _ (by omega) (codeAt_own2 HA4.out (by (repeat' (first | with_reducible exact Below.refl _ _ | (with_reducible refine below_later_of ?_ ?_ _) | (with_reducible refine Below.alloc ?_ ?_ _) | (with_reducible refine Below.setCell ?_ ?_ _) | (with_reducible refine Below.drew ?_) | (simp; done) | (simp; omega) | omega)))) HEC.out).mono ?_); rintro e w' ⟨rfl, hb⟩; obtain ⟨pq, rfl⟩ := later_of_below hb; clear hb) | (go_at_call 22; (with_reducible refine (HIX.out _ (by (repeat' (first | with_reducible exact Below.refl _ _ | (with_reducible refine below_later_of ?_ ?_ _) | (with_reducible refine Below.alloc ?_ ?_ _) | (with_reducible refine Below.setCell ?_ ?_ _) | (with_reducible refine Below.drew ?_) | (simp; done) | (simp; omega) | omega)))).mono ?_); rintro e w' ⟨a1, c1, rfl, ha, -, hb⟩; have HA1 := Lib.hid ha; clear ha; obtain ⟨pq, rfl⟩ := later_of_below hb; clear hb) | (go_at_call 24; (with_reducible refine (rCheckImage x.L x.S (x.m / 2) c1 (smp x.p) a1 _ (by omega) (dataAt_own HA1.out (by (repeat' (first | with_reducible exact Below.refl _ _ | (with_reducible refine below_later_of ?_ ?_ _) | (with_reducible refine Below.alloc ?_ ?_ _) | (with_reducible refine Below.setCell ?_ ?_ _) | (with_reducible refine Below.drew ?_) | (simp; done) | (simp; omega) | omega)))) HEI.out).mono ?_); rintro e w' ⟨rfl, hb⟩; obtain ⟨pq, rfl⟩ := later_of_below hb; clear hb) | (go_at_call 25; (with_reducible refine (lNoField _ _ _).mono ?_); rintro e w' ⟨rfl, hb⟩; obtain ⟨pq, rfl⟩ := later_of_below hb; clear hb))
        go_ret
        exact ⟨rfl, HB3.out.trans (by (repeat' (first | with_reducible exact Below.refl _ _ | (with_reducible refine below_later_of ?_ ?_ _) | (with_reducible refine Below.alloc ?_ ?_ _) | (with_reducible refine Below.setCell ?_ ?_ _) | (with_reducible refine Below.drew ?_) | (simp; done) | (simp; omega) | omega)))⟩
end Go.Proofs.YtakohhlmomgegaaDoor
