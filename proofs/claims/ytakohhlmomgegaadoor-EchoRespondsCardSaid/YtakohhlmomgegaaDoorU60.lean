/- Chapter 1: the program's search, with the closure of Direction; Direction. -/
import Derived.Test.YtakohhlmomgegaaDoorZO
namespace Go.Proofs.YtakohhlmomgegaaDoor
set_option linter.unusedVariables false
set_option linter.unusedSimpArgs false
open Go.RowKit
/-- Whether a number lies behind another one, and whether it is this one. -/
def dirB (m : Int) (n : Int) (_ : Int × Int) : Bool × Bool := (decide (n < m), (m == n))
set_option maxHeartbeats 1000000 in
theorem dir1 (M : Nat) (m n : Int) (a : Int × Int) (w : World) (c0 : w.cell? ⟨M, 0, none⟩ = some (.int .i64 m)) (hM : M < w.heap.size) :
    Calls Tryd.prog 102 #[.int .i64 n, .agg #[.int .i64 a.1, .int .i64 a.2], .pointer (some ⟨M, 0, none⟩)] w fun e w' => e = .returned (.tuple #[.bool (dirB m n a).1, .bool (dirB m n a).2]) ∧ Below w.heap.size w w' := by
  obtain ⟨a1, a2⟩ := a
  unfold dirB
  dsimp only
  go_enter Tryd.func102, Tryd.ntmps102
  go_wp2
  refine wp_region_calm (by kernel_rfl) (by kernel_rfl) ?_
  repeat (go_big_quiet_step (fail))
  refine wpQuiet_nil ?_
  rintro _ ⟨pz, rfl⟩
  go_wp2
  go_ret2
  exact ⟨rfl, (by (repeat' (first | with_reducible exact Below.refl _ _ | (with_reducible refine below_later_of ?_ ?_ _) | (with_reducible refine Below.alloc ?_ ?_ _) | (with_reducible refine Below.setCell ?_ ?_ _) | (with_reducible refine Below.drew ?_) | (simp; done) | (simp; omega) | omega)))⟩
set_option maxRecDepth 20000 in
set_option maxHeartbeats 2000000 in
theorem search_dir (M : Nat) (m0 : Int) (w : World) (c00 : w.cell? ⟨M, 0, none⟩ = some (.int .i64 m0)) (hM : M < w.heap.size) :
    Calls Tryd.prog 101 #[.func (.func 102) #[] #[.pointer (some ⟨M, 0, none⟩)]] w fun e w' => e = .returned (.tuple #[.int .i64 (searchP (dirB m0)).1, .agg #[.int .i64 (searchP (dirB m0)).2.1, .int .i64 (searchP (dirB m0)).2.2]]) ∧ Below w.heap.size w w' := by
  have HR := Lib.hid (show ∀ w, Calls Tryd.prog 100 #[.int .i64 140737488355328] w fun e w' => e = .returned (.int .i64 11863283) ∧ w = w' from fun w => by
    have := root_any 140737488355328 w (by decide) (by decide)
    rwa [root_half] at this)
  have HCL := Lib.hid (show ∀ W, Below w.heap.size w W → ∀ m a, _ from fun W hW m a => dir1 M m0 m a W ((hW.cell (p := ⟨M, 0, none⟩) hM).trans c00) (by have := hW.size; omega))
  generalize dirB m0 = st at HCL ⊢
  clear c00
  go_enter Tryd.func101, Tryd.ntmps101
  go_wp2_with (first | (go_at_call 100; (with_reducible refine (HR.out _).mono ?_); rintro e w' ⟨rfl, rfl⟩))
  refine wp_worldS (fun W => SeSt w oneW halfW W) ⟨by simp [go_sem, oneW], by simp [go_sem, oneW], by simp [go_sem, halfW], by simp [go_sem, halfW], by simp [go_sem], by simp [go_sem], by simp [go_sem], by simp [go_sem], by simp [go_sem], by simp [go_sem], by simp [go_sem], by simp [go_sem], (by (repeat' (first | with_reducible exact Below.refl _ _ | (with_reducible refine below_later_of ?_ ?_ _) | (with_reducible refine Below.alloc ?_ ?_ _) | (with_reducible refine Below.setCell ?_ ?_ _) | (with_reducible refine Below.drew ?_) | (simp; done) | (simp; omega) | omega))), by simp⟩ ?_
  rintro W2 hst
  have HST := Lib.hid hst
  clear hst
  go_loopw [4, 5] (fun i j wr => ∃ (f : Nat) (l h : Int) (a b : Int × Int), i = .int .i64 l ∧ j = .int .i64 h ∧ h = l + 2 ^ f ∧ 0 ≤ l ∧ h ≤ 1024 ∧ WayOk a ∧ WayOk b ∧ SeSt w a b wr ∧ seekP st f l a h b = searchP st) (fun i j _ => (intOf j).toNat - (intOf i).toNat)
  case atStart => exact ⟨10, 0, 1024, oneW, halfW, rfl, rfl, rfl, by decide, by decide, one_ok, half_ok, HST.out, rfl⟩
  case round =>
    obtain ⟨f, l, h, a, b, rfl, rfl, hd, l0, hh, ha, hb, hst, hsk⟩ := hrel
    have HS := Lib.hid hst
    cases f with
    | zero =>
      have hdl : decide ((1 : Int) < h - l) = false := by simp at hd ⊢; omega
      simp only [seekP] at hsk
      have HK := Lib.hid hsk
      obtain ⟨a0, a1, b0, b1, fa0, fa1, fb0, fb1, r0, r1, g0, g1, bel, lt⟩ := hst
      clear hsk
      go_wp2
      go_region
      go_wp2
      refine bodyPost_ret ?_ rfl ⟨by rw [← HK.out], bel.trans (by (repeat' (first | with_reducible exact Below.refl _ _ | (with_reducible refine below_later_of ?_ ?_ _) | (with_reducible refine Below.alloc ?_ ?_ _) | (with_reducible refine Below.setCell ?_ ?_ _) | (with_reducible refine Below.drew ?_) | (simp; done) | (simp; omega) | omega)))⟩
      first | (simp [results, Tryd.results101, go_sem, r0, r1]; done) | simp [results, Tryd.results101, go_sem, r0, r1, ↓IntWalk.iteOmega]
    | succ f =>
      have hp : (0 : Int) < 2 ^ f := Int.pow_pos (by omega)
      have hpp : (2 : Int) ^ (f + 1) = 2 ^ f + 2 ^ f := by rw [Int.pow_succ]; omega
      rw [hpp] at hd
      obtain ⟨P, hP⟩ : ∃ P : Int, 2 ^ f = P := ⟨_, rfl⟩
      rw [hP] at hp hd
      obtain ⟨m, hm⟩ : ∃ m, (l + h) / 2 = m := ⟨_, rfl⟩
      have m1 : l < m := by omega
      have m2 : m < h := by omega
      have HME := Lib.hid (show m = l + P ∧ h = l + (P + P) by omega)
      have hdl : decide ((1 : Int) < h - l) = true := by simp; omega
      simp only [seekP] at hsk
      rw [hm] at hsk
      have hmo := mid_ok ha hb
      have HM := Lib.hid (fun W => middle_any a b W ha hb)
      have HC := Lib.hid (show ∀ W, Below wr.heap.size wr W → _ from fun W hW => HCL.out W (hst.bel.trans (hW.mono hst.bel.size)) m (midP a b))
      have HK := Lib.hid hsk
      have HPP := Lib.hid hP
      have HA := Lib.hid ha
      have HB2 := Lib.hid hb
      have HMO := Lib.hid hmo
      obtain ⟨c, hc⟩ : ∃ c, midP a b = c := ⟨_, rfl⟩
      obtain ⟨t, ht⟩ : ∃ t, (st m c).1 = t := ⟨_, rfl⟩
      obtain ⟨z, hz⟩ : ∃ z, (st m c).2 = z := ⟨_, rfl⟩
      rw [hc] at HM HC HK HMO
      rw [ht, hz] at HC HK
      clear hsk hP hc ht hz hmo ha hb hd hp hpp
      rcases (show z = true ∨ z = false by cases z <;> simp) with rfl | rfl
      · obtain ⟨a0, a1, b0, b1, fa0, fa1, fb0, fb1, r0, r1, g0, g1, bel, lt⟩ := hst
        go_wp2_with (first | (go_at_call 139; (with_reducible refine (HM.out _).mono ?_); rintro e w' ⟨rfl, hb⟩; obtain ⟨p1, rfl⟩ := later_of_below hb; clear hb) | (go_at_call 102; (with_reducible refine (HC.out _ (by (repeat' (first | with_reducible exact Below.refl _ _ | (with_reducible refine below_later_of ?_ ?_ _) | (with_reducible refine Below.alloc ?_ ?_ _) | (with_reducible refine Below.setCell ?_ ?_ _) | (with_reducible refine Below.drew ?_) | (simp; done) | (simp; omega) | omega)))).mono ?_); rintro e w' ⟨rfl, hb⟩; obtain ⟨p2, rfl⟩ := later_of_below hb; clear hb))
        refine wp_worldS (fun W => SeSt w a b W ∧ W.cell? ⟨wr.heap.size + p1.os.size, 0, none⟩ = some (.int .i64 c.1) ∧ W.cell? ⟨wr.heap.size + p1.os.size, 1, none⟩ = some (.int .i64 c.2) ∧ w.heap.size + 2 < wr.heap.size + p1.os.size) ⟨HS.out.below (by (repeat' (first | with_reducible exact Below.refl _ _ | (with_reducible refine below_later_of ?_ ?_ _) | (with_reducible refine Below.alloc ?_ ?_ _) | (with_reducible refine Below.setCell ?_ ?_ _) | (with_reducible refine Below.drew ?_) | (simp; done) | (simp; omega) | omega))), by simp [go_sem], by simp [go_sem], by omega⟩ ?_
        rintro W3 ⟨hst3, c0, c1, hlt3⟩
        clear a0 a1 b0 b1 fa0 fa1 fb0 fb1 r0 r1 g0 g1 bel lt
        obtain ⟨a0, a1, b0, b1, fa0, fa1, fb0, fb1, r0, r1, g0, g1, bel, lt⟩ := hst3
        have HK2 := Lib.hid (show (m, c) = searchP st by simpa using HK.out)
        go_region
        go_wp2
        refine bodyPost_ret ?_ rfl ⟨by rw [← HK2.out], bel.trans (by (repeat' (first | with_reducible exact Below.refl _ _ | (with_reducible refine below_later_of ?_ ?_ _) | (with_reducible refine Below.alloc ?_ ?_ _) | (with_reducible refine Below.setCell ?_ ?_ _) | (with_reducible refine Below.drew ?_) | (simp; done) | (simp; omega) | omega)))⟩
        first | (simp [results, Tryd.results101, go_sem, r0, r1]; done) | simp [results, Tryd.results101, go_sem, r0, r1, ↓IntWalk.iteOmega]
      · rcases (show t = false ∨ t = true by cases t <;> simp) with rfl | rfl
        · obtain ⟨a0, a1, b0, b1, fa0, fa1, fb0, fb1, r0, r1, g0, g1, bel, lt⟩ := hst
          go_wp2_with (first | (go_at_call 139; (with_reducible refine (HM.out _).mono ?_); rintro e w' ⟨rfl, hb⟩; obtain ⟨p1, rfl⟩ := later_of_below hb; clear hb) | (go_at_call 102; (with_reducible refine (HC.out _ (by (repeat' (first | with_reducible exact Below.refl _ _ | (with_reducible refine below_later_of ?_ ?_ _) | (with_reducible refine Below.alloc ?_ ?_ _) | (with_reducible refine Below.setCell ?_ ?_ _) | (with_reducible refine Below.drew ?_) | (simp; done) | (simp; omega) | omega)))).mono ?_); rintro e w' ⟨rfl, hb⟩; obtain ⟨p2, rfl⟩ := later_of_below hb; clear hb))
          refine wp_worldS (fun W => SeSt w a b W ∧ W.cell? ⟨wr.heap.size + p1.os.size, 0, none⟩ = some (.int .i64 c.1) ∧ W.cell? ⟨wr.heap.size + p1.os.size, 1, none⟩ = some (.int .i64 c.2) ∧ w.heap.size + 2 < wr.heap.size + p1.os.size) ⟨HS.out.below (by (repeat' (first | with_reducible exact Below.refl _ _ | (with_reducible refine below_later_of ?_ ?_ _) | (with_reducible refine Below.alloc ?_ ?_ _) | (with_reducible refine Below.setCell ?_ ?_ _) | (with_reducible refine Below.drew ?_) | (simp; done) | (simp; omega) | omega))), by simp [go_sem], by simp [go_sem], by omega⟩ ?_
          rintro W3 ⟨hst3, c0, c1, hlt3⟩
          have HS3 := Lib.hid hst3
          clear a0 a1 b0 b1 fa0 fa1 fb0 fb1 r0 r1 g0 g1 bel lt
          obtain ⟨a0, a1, b0, b1, fa0, fa1, fb0, fb1, r0, r1, g0, g1, bel, lt⟩ := hst3
          go_region
          go_wp2
          go_roundw
          case rel => exact ⟨f, l, m, a, c, rfl, rfl, by have := HME.out; have := HPP.out; omega, l0, by omega, HA.out, HMO.out, (HS3.out.putB c).below (Below.drew (Below.refl _ _)), by simpa using HK.out⟩
          case measure => simp [intOf]; omega
        · obtain ⟨a0, a1, b0, b1, fa0, fa1, fb0, fb1, r0, r1, g0, g1, bel, lt⟩ := hst
          go_wp2_with (first | (go_at_call 139; (with_reducible refine (HM.out _).mono ?_); rintro e w' ⟨rfl, hb⟩; obtain ⟨p1, rfl⟩ := later_of_below hb; clear hb) | (go_at_call 102; (with_reducible refine (HC.out _ (by (repeat' (first | with_reducible exact Below.refl _ _ | (with_reducible refine below_later_of ?_ ?_ _) | (with_reducible refine Below.alloc ?_ ?_ _) | (with_reducible refine Below.setCell ?_ ?_ _) | (with_reducible refine Below.drew ?_) | (simp; done) | (simp; omega) | omega)))).mono ?_); rintro e w' ⟨rfl, hb⟩; obtain ⟨p2, rfl⟩ := later_of_below hb; clear hb))
          refine wp_worldS (fun W => SeSt w a b W ∧ W.cell? ⟨wr.heap.size + p1.os.size, 0, none⟩ = some (.int .i64 c.1) ∧ W.cell? ⟨wr.heap.size + p1.os.size, 1, none⟩ = some (.int .i64 c.2) ∧ w.heap.size + 2 < wr.heap.size + p1.os.size) ⟨HS.out.below (by (repeat' (first | with_reducible exact Below.refl _ _ | (with_reducible refine below_later_of ?_ ?_ _) | (with_reducible refine Below.alloc ?_ ?_ _) | (with_reducible refine Below.setCell ?_ ?_ _) | (with_reducible refine Below.drew ?_) | (simp; done) | (simp; omega) | omega))), by simp [go_sem], by simp [go_sem], by omega⟩ ?_
          rintro W3 ⟨hst3, c0, c1, hlt3⟩
          have HS3 := Lib.hid hst3
          clear a0 a1 b0 b1 fa0 fa1 fb0 fb1 r0 r1 g0 g1 bel lt
          obtain ⟨a0, a1, b0, b1, fa0, fa1, fb0, fb1, r0, r1, g0, g1, bel, lt⟩ := hst3
          go_region
          go_wp2
          go_roundw
          case rel => exact ⟨f, m, h, c, b, rfl, rfl, by have := HME.out; have := HPP.out; omega, by omega, hh, HMO.out, HB2.out, (HS3.out.putA c).below (Below.drew (Below.refl _ _)), by simpa using HK.out⟩
          case measure => simp [intOf]; omega
/-- What Direction returns. -/
def dirP (m : Int) : Int × Int := if m = 0 then oneW else if m = 1024 then halfW else (searchP (dirB m)).2
set_option maxHeartbeats 1000000 in
theorem direction_bad (m : Int) (w : World) (h : ¬ (0 ≤ m ∧ m ≤ 1024)) :
    Calls Tryd.prog 43 #[.int .i64 m] w fun e w' => e = .returned (.tuple #[.agg #[.int .i64 0, .int .i64 0], .int .i64 2]) ∧ Below w.heap.size w w' := by
  have HWI := Lib.hid (fun w => within_e m 0 1024 w (c := false) (by unfold inE; simp; omega))
  go_enter Tryd.func43, Tryd.ntmps43
  go_wp2_with (first | (go_at_call 99; (with_reducible refine (HWI.out _).mono ?_); rintro e w' ⟨rfl, rfl⟩))
  refine bodyPost_ret ?_ rfl ⟨rfl, (by (repeat' (first | with_reducible exact Below.refl _ _ | (with_reducible refine below_later_of ?_ ?_ _) | (with_reducible refine Below.alloc ?_ ?_ _) | (with_reducible refine Below.setCell ?_ ?_ _) | (with_reducible refine Below.drew ?_) | (simp; done) | (simp; omega) | omega)))⟩
  first | (simp [results, Tryd.results43, go_sem]; done) | simp [results, Tryd.results43, go_sem, ↓IntWalk.iteOmega]
set_option maxHeartbeats 1000000 in
theorem direction_ok (m : Int) (w : World) (h0 : 0 ≤ m) (h1 : m ≤ 1024) :
    Calls Tryd.prog 43 #[.int .i64 m] w fun e w' => e = .returned (.tuple #[.agg #[.int .i64 (dirP m).1, .int .i64 (dirP m).2], .int .i64 0]) ∧ Below w.heap.size w w' := by
  have HWI := Lib.hid (fun w => within_e m 0 1024 w (c := true) (by unfold inE; simp; omega))
  by_cases e0 : m = 0
  · subst e0
    rw [show dirP 0 = (16777216, 0) from rfl]
    dsimp only
    go_enter Tryd.func43, Tryd.ntmps43
    go_wp2_with (first | (go_at_call 99; (with_reducible refine (HWI.out _).mono ?_); rintro e w' ⟨rfl, rfl⟩))
    refine bodyPost_ret ?_ rfl ⟨rfl, (by (repeat' (first | with_reducible exact Below.refl _ _ | (with_reducible refine below_later_of ?_ ?_ _) | (with_reducible refine Below.alloc ?_ ?_ _) | (with_reducible refine Below.setCell ?_ ?_ _) | (with_reducible refine Below.drew ?_) | (simp; done) | (simp; omega) | omega)))⟩
    first | (simp [results, Tryd.results43, go_sem]; done) | simp [results, Tryd.results43, go_sem, ↓IntWalk.iteOmega]
  · have d0 : (m == 0) = false := by simpa using e0
    by_cases e1 : m = 1024
    · subst e1
      have HR := Lib.hid (show ∀ w, Calls Tryd.prog 100 #[.int .i64 140737488355328] w fun e w' => e = .returned (.int .i64 11863283) ∧ w = w' from fun w => by
        have := root_any 140737488355328 w (by decide) (by decide)
        rwa [root_half] at this)
      rw [show dirP 1024 = (11863283, 11863283) by unfold dirP; rw [if_neg (by decide), if_pos rfl]; rfl]
      dsimp only
      go_enter Tryd.func43, Tryd.ntmps43
      go_wp2_with (first | (go_at_call 99; (with_reducible refine (HWI.out _).mono ?_); rintro e w' ⟨rfl, rfl⟩) | (go_at_call 100; (with_reducible refine (HR.out _).mono ?_); rintro e w' ⟨rfl, rfl⟩))
      refine bodyPost_ret ?_ rfl ⟨rfl, (by (repeat' (first | with_reducible exact Below.refl _ _ | (with_reducible refine below_later_of ?_ ?_ _) | (with_reducible refine Below.alloc ?_ ?_ _) | (with_reducible refine Below.setCell ?_ ?_ _) | (with_reducible refine Below.drew ?_) | (simp; done) | (simp; omega) | omega)))⟩
      first | (simp [results, Tryd.results43, go_sem]; done) | simp [results, Tryd.results43, go_sem, ↓IntWalk.iteOmega]
    · have d1 : (m == 1024) = false := by simpa using e1
      have HSE := Lib.hid (show ∀ W : World, W.cell? ⟨w.heap.size, 0, none⟩ = some (.int .i64 m) → w.heap.size < W.heap.size → _ from fun W c hs => search_dir w.heap.size m W c hs)
      have HF := Lib.hid (show (searchP (dirB m)).2 = dirP m by unfold dirP; rw [if_neg e0, if_neg e1])
      rw [← HF.out]
      generalize (searchP (dirB m)).1 = n1 at HSE
      generalize (searchP (dirB m)).2.1 = n2 at HSE ⊢
      generalize (searchP (dirB m)).2.2 = n3 at HSE ⊢
      clear e0 e1 HF
      go_enter Tryd.func43, Tryd.ntmps43
      go_wp2_with (first | (go_at_call 99; (with_reducible refine (HWI.out _).mono ?_); rintro e w' ⟨rfl, rfl⟩) | (go_at_call 101; (with_reducible refine (HSE.out _ (by simp [go_sem]) (by simp <;> omega)).mono ?_); rintro e w' ⟨rfl, hb⟩; obtain ⟨p1, rfl⟩ := later_of_below hb; clear hb))
      refine bodyPost_ret ?_ rfl ⟨rfl, (by (repeat' (first | with_reducible exact Below.refl _ _ | (with_reducible refine below_later_of ?_ ?_ _) | (with_reducible refine Below.alloc ?_ ?_ _) | (with_reducible refine Below.setCell ?_ ?_ _) | (with_reducible refine Below.drew ?_) | (simp; done) | (simp; omega) | omega)))⟩
      first | (simp [results, Tryd.results43, go_sem]; done) | simp [results, Tryd.results43, go_sem, ↓IntWalk.iteOmega]
end Go.Proofs.YtakohhlmomgegaaDoor
