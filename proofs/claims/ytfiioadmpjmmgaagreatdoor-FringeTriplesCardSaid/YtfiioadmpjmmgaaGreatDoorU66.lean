/- Chapter 1: the reference's phases. -/
import Derived.Test.YtfiioadmpjmmgaaGreatDoorU61
import Derived.Test.YtfiioadmpjmmgaaGreatDoorU65
import Derived.Test.YtfiioadmpjmmgaaGreatDoorZO
namespace Go.Proofs.YtfiioadmpjmmgaaGreatDoor
set_option linter.unusedVariables false
set_option linter.unusedSimpArgs false
open Go.RowKit
/-- The directions of the reference's search for a phase. -/
structure FsSt (w : World) (A : Nat) (a b : Int × Int) (wr : World) : Prop where
  a0 : wr.cell? ⟨A, 0, none⟩ = some (.int .i64 a.1)
  a1 : wr.cell? ⟨A, 1, none⟩ = some (.int .i64 a.2)
  b0 : wr.cell? ⟨A + 1, 0, none⟩ = some (.int .i64 b.1)
  b1 : wr.cell? ⟨A + 1, 1, none⟩ = some (.int .i64 b.2)
  fa0 : wr.frozen? ⟨A, 0, none⟩ = false
  fa1 : wr.frozen? ⟨A, 1, none⟩ = false
  fb0 : wr.frozen? ⟨A + 1, 0, none⟩ = false
  fb1 : wr.frozen? ⟨A + 1, 1, none⟩ = false
  bel : Below w.heap.size w wr
  wa : w.heap.size ≤ A
  lt : A + 1 < wr.heap.size
theorem FsSt.below {w wr W : World} {A : Nat} {a b : Int × Int} (h : FsSt w A a b wr) (hb : Below wr.heap.size wr W) : FsSt w A a b W := by
  have hlt := h.lt
  have hwa := h.wa
  have hs := hb.size
  have q2 : ∀ j, W.cell? ⟨A, j, none⟩ = wr.cell? ⟨A, j, none⟩ := fun j => hb.cell (p := ⟨A, j, none⟩) (show A < wr.heap.size by omega)
  have q3 : ∀ j, W.cell? ⟨A + 1, j, none⟩ = wr.cell? ⟨A + 1, j, none⟩ := fun j => hb.cell (p := ⟨A + 1, j, none⟩) hlt
  have f2 : ∀ j, W.frozen? ⟨A, j, none⟩ = wr.frozen? ⟨A, j, none⟩ := fun j => hb.frozen (p := ⟨A, j, none⟩) (show A < wr.heap.size by omega)
  have f3 : ∀ j, W.frozen? ⟨A + 1, j, none⟩ = wr.frozen? ⟨A + 1, j, none⟩ := fun j => hb.frozen (p := ⟨A + 1, j, none⟩) hlt
  exact ⟨(q2 0).trans h.a0, (q2 1).trans h.a1, (q3 0).trans h.b0, (q3 1).trans h.b1, (f2 0).trans h.fa0, (f2 1).trans h.fa1, (f3 0).trans h.fb0, (f3 1).trans h.fb1, h.bel.trans (hb.mono (by omega)), hwa, by omega⟩
theorem FsSt.putA {w wr : World} {A : Nat} {a b : Int × Int} (h : FsSt w A a b wr) (c : Int × Int) : FsSt w A c b ((wr.setCell ⟨A, 0, none⟩ (.int .i64 c.1)).setCell ⟨A, 1, none⟩ (.int .i64 c.2)) := by
  obtain ⟨a0, a1, b0, b1, fa0, fa1, fb0, fb1, bel, wa, lt⟩ := h
  refine ⟨?_, ?_, ?_, ?_, ?_, ?_, ?_, ?_, (bel.setCell (p := ⟨A, 0, none⟩) wa _).setCell (p := ⟨A, 1, none⟩) wa _, wa, by simpa using lt⟩ <;> simp [go_sem, a0, a1, b0, b1, fa0, fa1, fb0, fb1]
theorem FsSt.putB {w wr : World} {A : Nat} {a b : Int × Int} (h : FsSt w A a b wr) (c : Int × Int) : FsSt w A a c ((wr.setCell ⟨A + 1, 0, none⟩ (.int .i64 c.1)).setCell ⟨A + 1, 1, none⟩ (.int .i64 c.2)) := by
  obtain ⟨a0, a1, b0, b1, fa0, fa1, fb0, fb1, bel, wa, lt⟩ := h
  refine ⟨?_, ?_, ?_, ?_, ?_, ?_, ?_, ?_, (bel.setCell (p := ⟨A + 1, 0, none⟩) (show w.heap.size ≤ A + 1 by omega) _).setCell (p := ⟨A + 1, 1, none⟩) (show w.heap.size ≤ A + 1 by omega) _, wa, by simpa using lt⟩ <;> simp [go_sem, a0, a1, b0, b1, fa0, fa1, fb0, fb1]
set_option maxRecDepth 20000 in
set_option maxHeartbeats 2000000 in
theorem rFirst (x y : Int) (w : World) (h1 : 0 ≤ x) (h2 : x ≤ 100000000000) (h3 : 0 ≤ y) (h4 : y ≤ 100000000000) :
    Calls Tryz.prog 162 #[.int .i64 x, .int .i64 y] w fun e w' => e = .returned (.int .i64 (lowP x y)) ∧ Below w.heap.size w w' := by
  by_cases em : x = y
  · have d0 : (x == y) = true := by simpa using em
    have HF := Lib.hid (show (512 : Int) = lowP x y by unfold lowP; rw [if_pos em])
    clear em
    go_enter Tryz.func162, Tryz.ntmps162
    go_wp2
    go_ret
    exact ⟨ret_intE HF.out, (by (repeat' (first | with_reducible exact Below.refl _ _ | (with_reducible refine below_later_of ?_ ?_ _) | (with_reducible refine Below.alloc ?_ ?_ _) | (with_reducible refine Below.setCell ?_ ?_ _) | (with_reducible refine Below.drew ?_) | (simp; done) | (simp; omega) | omega)))⟩
  · have d0 : (x == y) = false := by simpa using em
    have HF := Lib.hid (show ((searchP (behindP x y)).1 + 1) / 2 = lowP x y by unfold lowP; rw [if_neg em])
    clear em
    go_enter Tryz.func162, Tryz.ntmps162
    go_wp2_with (first | (go_at_call 186; (with_reducible refine (rEnds _).mono ?_); rintro e w' ⟨rfl, hb⟩; obtain ⟨pe, rfl⟩ := later_of_below hb; clear hb))
    obtain ⟨A, hA⟩ : ∃ A, A = w.heap.size + pe.os.size := ⟨_, rfl⟩
    refine wp_worldS (fun W => FsSt w A oneW halfW W) ⟨by rw [hA]; simp [go_sem, oneW], by rw [hA]; simp [go_sem, oneW], by rw [hA]; simp [go_sem, halfW], by rw [hA]; simp [go_sem, halfW], by rw [hA]; simp [go_sem], by rw [hA]; simp [go_sem], by rw [hA]; simp [go_sem], by rw [hA]; simp [go_sem], (by (repeat' (first | with_reducible exact Below.refl _ _ | (with_reducible refine below_later_of ?_ ?_ _) | (with_reducible refine Below.alloc ?_ ?_ _) | (with_reducible refine Below.setCell ?_ ?_ _) | (with_reducible refine Below.drew ?_) | (simp; done) | (simp; omega) | omega))), by omega, by rw [hA]; simp⟩ ?_
    rintro W2 hst
    simp only [← hA]
    have HST := Lib.hid hst
    clear hst hA
    go_loopw [7, 8] (fun i j wr => ∃ (f : Nat) (l h : Int) (a b : Int × Int), i = .int .i64 l ∧ j = .int .i64 h ∧ h = l + 2 ^ f ∧ 0 ≤ l ∧ h ≤ 1024 ∧ WayOk a ∧ WayOk b ∧ FsSt w A a b wr ∧ seekP (behindP x y) f l a h b = searchP (behindP x y)) (fun i j _ => (intOf j).toNat - (intOf i).toNat)
    case atStart => exact ⟨10, 0, 1024, oneW, halfW, rfl, rfl, rfl, by decide, by decide, one_ok, half_ok, HST.out, rfl⟩
    case round =>
      obtain ⟨f, l, h, a, b, rfl, rfl, hd, l0, hh, ha, hb, hst, hsk⟩ := hrel
      have HS := Lib.hid hst
      cases f with
      | zero =>
        have hdl : decide ((1 : Int) < h - l) = false := by simp at hd ⊢; omega
        simp only [seekP] at hsk
        have HK := Lib.hid (show (l + 1) / 2 = lowP x y by rw [← HF.out, ← hsk])
        obtain ⟨a0, a1, b0, b1, fa0, fa1, fb0, fb1, bel, wa, lt⟩ := hst
        clear hsk
        go_wp2
        go_ret
        exact ⟨ret_intE HK.out, bel.trans (by (repeat' (first | with_reducible exact Below.refl _ _ | (with_reducible refine below_later_of ?_ ?_ _) | (with_reducible refine Below.alloc ?_ ?_ _) | (with_reducible refine Below.setCell ?_ ?_ _) | (with_reducible refine Below.drew ?_) | (simp; done) | (simp; omega) | omega)))⟩
      | succ f =>
        have hp : (0 : Int) < 2 ^ f := Int.pow_pos (by omega)
        have hpp : (2 : Int) ^ (f + 1) = 2 ^ f + 2 ^ f := by rw [Int.pow_succ]; omega
        rw [hpp] at hd
        obtain ⟨P, hP⟩ : ∃ P : Int, 2 ^ f = P := ⟨_, rfl⟩
        rw [hP] at hp hd
        obtain ⟨k, hk⟩ : ∃ k, (l + h) / 2 = k := ⟨_, rfl⟩
        have m1 : l < k := by omega
        have m2 : k < h := by omega
        have HME := Lib.hid (show k = l + P ∧ h = l + (P + P) by omega)
        have hdl : decide ((1 : Int) < h - l) = true := by simp; omega
        simp only [seekP] at hsk
        rw [hk] at hsk
        have hmo := mid_ok ha hb
        have HM := Lib.hid (fun W => rHalf a b W ha hb)
        have HPP := Lib.hid hP
        have HA := Lib.hid ha
        have HB2 := Lib.hid hb
        have HMO := Lib.hid hmo
        obtain ⟨c, hc⟩ : ∃ c, midP a b = c := ⟨_, rfl⟩
        rw [hc] at HM HMO hsk hmo
        obtain ⟨c1, c2, c3, c4⟩ := hmo
        obtain ⟨p1', p2'⟩ := way_mul (a := c.1) (x := y) (by omega) c2 h3 h4
        obtain ⟨p3', p4'⟩ := way_mul (a := c.2) (x := x) c3 (by omega) h1 h2
        have hb2 : (behindP x y k c).2 = false := rfl
        have hb1 : (behindP x y k c).1 = decide (c.2 * x ≤ c.1 * y) := rfl
        rw [hb2, hb1] at hsk
        clear hP hc ha hb hd hp hpp hb1 hb2
        obtain ⟨a0, a1, b0, b1, fa0, fa1, fb0, fb1, bel, wa, lt⟩ := hst
        by_cases g : c.2 * x ≤ c.1 * y
        · have dg : decide (c.2 * x ≤ c.1 * y) = true := by simpa using g
          rw [dg] at hsk
          have HK := Lib.hid (show seekP (behindP x y) f k c h b = searchP (behindP x y) by simpa using hsk)
          clear hsk g
          go_wp2_with (first | (go_at_call 187; (with_reducible refine (HM.out _).mono ?_); rintro e w' ⟨rfl, hb⟩; obtain ⟨p1, rfl⟩ := later_of_below hb; clear hb))
          refine wp_worldS (fun W => FsSt w A a b W ∧ W.cell? ⟨wr.heap.size + p1.os.size, 0, none⟩ = some (.int .i64 c.1) ∧ W.cell? ⟨wr.heap.size + p1.os.size, 1, none⟩ = some (.int .i64 c.2) ∧ A + 1 < wr.heap.size + p1.os.size) ⟨HS.out.below (by (repeat' (first | with_reducible exact Below.refl _ _ | (with_reducible refine below_later_of ?_ ?_ _) | (with_reducible refine Below.alloc ?_ ?_ _) | (with_reducible refine Below.setCell ?_ ?_ _) | (with_reducible refine Below.drew ?_) | (simp; done) | (simp; omega) | omega))), by simp [go_sem], by simp [go_sem], by omega⟩ ?_
          rintro W3 ⟨hst3, c0, c1, hlt3⟩
          have HS3 := Lib.hid hst3
          clear a0 a1 b0 b1 fa0 fa1 fb0 fb1 bel wa lt
          obtain ⟨a0, a1, b0, b1, fa0, fa1, fb0, fb1, bel, wa, lt⟩ := hst3
          go_region
          go_wp2
          go_roundw
          case rel => exact ⟨f, k, h, c, b, rfl, rfl, by have := HME.out; have := HPP.out; omega, by omega, hh, HMO.out, HB2.out, (HS3.out.putA c).below (Below.drew (Below.refl _ _)), HK.out⟩
          case measure => simp [intOf]; omega
        · have dg : decide (c.2 * x ≤ c.1 * y) = false := by simpa using g
          rw [dg] at hsk
          have HK := Lib.hid (show seekP (behindP x y) f l a k c = searchP (behindP x y) by simpa using hsk)
          clear hsk g
          go_wp2_with (first | (go_at_call 187; (with_reducible refine (HM.out _).mono ?_); rintro e w' ⟨rfl, hb⟩; obtain ⟨p1, rfl⟩ := later_of_below hb; clear hb))
          refine wp_worldS (fun W => FsSt w A a b W ∧ W.cell? ⟨wr.heap.size + p1.os.size, 0, none⟩ = some (.int .i64 c.1) ∧ W.cell? ⟨wr.heap.size + p1.os.size, 1, none⟩ = some (.int .i64 c.2) ∧ A + 1 < wr.heap.size + p1.os.size) ⟨HS.out.below (by (repeat' (first | with_reducible exact Below.refl _ _ | (with_reducible refine below_later_of ?_ ?_ _) | (with_reducible refine Below.alloc ?_ ?_ _) | (with_reducible refine Below.setCell ?_ ?_ _) | (with_reducible refine Below.drew ?_) | (simp; done) | (simp; omega) | omega))), by simp [go_sem], by simp [go_sem], by omega⟩ ?_
          rintro W3 ⟨hst3, c0, c1, hlt3⟩
          have HS3 := Lib.hid hst3
          clear a0 a1 b0 b1 fa0 fa1 fb0 fb1 bel wa lt
          obtain ⟨a0, a1, b0, b1, fa0, fa1, fb0, fb1, bel, wa, lt⟩ := hst3
          go_region
          go_wp2
          go_roundw
          case rel => exact ⟨f, l, k, a, c, rfl, rfl, by have := HME.out; have := HPP.out; omega, l0, by omega, HA.out, HMO.out, (HS3.out.putB c).below (Below.drew (Below.refl _ _)), HK.out⟩
          case measure => simp [intOf]; omega
end Go.Proofs.YtfiioadmpjmmgaaGreatDoor
