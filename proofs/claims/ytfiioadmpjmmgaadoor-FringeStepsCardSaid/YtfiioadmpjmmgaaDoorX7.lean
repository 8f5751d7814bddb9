/- Chapter 4: the turns around a box. -/
import Derived.Test.YtfiioadmpjmmgaaDoorX3
namespace Go.Proofs.YtfiioadmpjmmgaaDoor
set_option linter.unusedVariables false
set_option linter.unusedSimpArgs false
open Go.RowKit Ntt
/-- What turns knows: the map, the box, the sum so far, whether all was whole. -/
structure TnSt (w : World) (R C : Nat) (u : Value) (b0 b1 b2 b3 : Int) (s : Int) (q : Bool) (wr : World) : Prop where
  m0 : wr.cell? ⟨w.heap.size, 0, none⟩ = some (.int .i64 R)
  m1 : wr.cell? ⟨w.heap.size, 1, none⟩ = some (.int .i64 C)
  m2 : wr.cell? ⟨w.heap.size, 2, none⟩ = some u
  b0 : wr.cell? ⟨w.heap.size + 1, 0, none⟩ = some (.int .i64 b0)
  b1 : wr.cell? ⟨w.heap.size + 1, 1, none⟩ = some (.int .i64 b1)
  b2 : wr.cell? ⟨w.heap.size + 1, 2, none⟩ = some (.int .i64 b2)
  b3 : wr.cell? ⟨w.heap.size + 1, 3, none⟩ = some (.int .i64 b3)
  s0 : wr.cell? ⟨w.heap.size + 2, 0, none⟩ = some (.int .i64 s)
  s1 : wr.frozen? ⟨w.heap.size + 2, 0, none⟩ = false
  q0 : wr.cell? ⟨w.heap.size + 3, 0, none⟩ = some (.bool q)
  q1 : wr.frozen? ⟨w.heap.size + 3, 0, none⟩ = false
  bel : Below w.heap.size w wr
  lt : w.heap.size + 3 < wr.heap.size
theorem TnSt.below {w wr W : World} {R C : Nat} {u : Value} {b0 b1 b2 b3 s : Int} {q : Bool} (h : TnSt w R C u b0 b1 b2 b3 s q wr) (hb : Below wr.heap.size wr W) : TnSt w R C u b0 b1 b2 b3 s q W := by
  have hlt := h.lt
  have hs := hb.size
  have e : ∀ k j, k ≤ 3 → W.cell? ⟨w.heap.size + k, j, none⟩ = wr.cell? ⟨w.heap.size + k, j, none⟩ := fun k j hk => hb.cell (p := ⟨w.heap.size + k, j, none⟩) (show w.heap.size + k < wr.heap.size by omega)
  have f : ∀ k j, k ≤ 3 → W.frozen? ⟨w.heap.size + k, j, none⟩ = wr.frozen? ⟨w.heap.size + k, j, none⟩ := fun k j hk => hb.frozen (p := ⟨w.heap.size + k, j, none⟩) (show w.heap.size + k < wr.heap.size by omega)
  exact ⟨(e 0 0 (by decide)).trans h.m0, (e 0 1 (by decide)).trans h.m1, (e 0 2 (by decide)).trans h.m2, (e 1 0 (by decide)).trans h.b0, (e 1 1 (by decide)).trans h.b1, (e 1 2 (by decide)).trans h.b2, (e 1 3 (by decide)).trans h.b3,
    (e 2 0 (by decide)).trans h.s0, (f 2 0 (by decide)).trans h.s1, (e 3 0 (by decide)).trans h.q0, (f 3 0 (by decide)).trans h.q1, h.bel.trans (hb.mono (by omega)), by omega⟩
theorem TnSt.put {w wr : World} {R C : Nat} {u : Value} {b0 b1 b2 b3 s : Int} {q : Bool} (h : TnSt w R C u b0 b1 b2 b3 s q wr) (s' : Int) (q' : Bool) :
    TnSt w R C u b0 b1 b2 b3 s' q' ((wr.setCell ⟨w.heap.size + 2, 0, none⟩ (.int .i64 s')).setCell ⟨w.heap.size + 3, 0, none⟩ (.bool q')) := by
  have hlt := h.lt
  refine ⟨by simp [go_sem, h.m0], by simp [go_sem, h.m1], by simp [go_sem, h.m2], by simp [go_sem, h.b0], by simp [go_sem, h.b1], by simp [go_sem, h.b2], by simp [go_sem, h.b3], by simp [go_sem, h.s0], by simp [go_sem, h.s1], by simp [go_sem, h.q0], by simp [go_sem, h.q1], ?_, by simp; omega⟩
  exact (h.bel.setCell (p := ⟨w.heap.size + 2, 0, none⟩) (show w.heap.size ≤ w.heap.size + 2 by omega) _).setCell (p := ⟨w.heap.size + 3, 0, none⟩) (show w.heap.size ≤ w.heap.size + 3 by omega) _
set_option maxHeartbeats 2000000 in
theorem fAdd (R C r c : Nat) (d : Bool) (sg ri ci : Int) (zs : List Int) (u : Value) (b0 b1 b2 b3 s : Int) (q : Bool) (w W : World) (hm : MapOk R C zs) (hv : IntsV w u zs) (hst : TnSt w R C u b0 b1 b2 b3 s q W) (hsg : sg = 1 ∨ sg = -1) (hs1 : -1000000000 ≤ s) (hs2 : s ≤ 1000000000)
    (hr : toR r d < R) (hc : toC c d < C) (hri : ri = r) (hci : ci = c) {x y s' : Int} {q' : Bool} (hx : zAt C (intAt zs) r c = x) (hy : zAt C (intAt zs) (toR r d) (toC c d) = y) (hs' : s + sg * wrP (y - x) = s') (hq' : (q && (nvB x && nvB y)) = q') :
    Calls Tryd.prog 88 #[.int .i64 sg, .int .i64 ri, .int .i64 ci, .bool d, .pointer (some ⟨w.heap.size, 0, none⟩), .pointer (some ⟨w.heap.size + 2, 0, none⟩), .pointer (some ⟨w.heap.size + 3, 0, none⟩)] W fun e w' => e = .returned (.tuple #[]) ∧ TnSt w R C u b0 b1 b2 b3 s' q' w' := by
  subst hri hci
  have HST := Lib.hid (fStep R C r c d zs u W hm (hv.below hst.bel) hr hc hx hy)
  obtain ⟨n1, n2⟩ := wrP_bd (y - x)
  generalize wrP (y - x) = n at *
  generalize (nvB x && nvB y) = f at *
  have HS := Lib.hid hst
  have m0 := hst.m0
  have m1 := hst.m1
  have m2 := hst.m2
  have s0 := hst.s0
  have s1 := hst.s1
  have q0 := hst.q0
  have q1 := hst.q1
  have hlt := hst.lt
  obtain ⟨-, a, cap, rfl, -⟩ := hv
  have HSS := Lib.hid hs'
  have HQQ := Lib.hid hq'
  obtain ⟨p3, p4⟩ : -2048 ≤ sg * n ∧ sg * n ≤ 2048 := by rcases hsg with rfl | rfl <;> omega
  clear hst hm hx hy hr hc hs' hq' hsg
  cases q
  · go_enter Tryd.func88, Tryd.ntmps88
    go_wp2_with (first | (go_at_call 60; (with_reducible refine (HST.out).mono ?_); rintro e w' ⟨rfl, hb⟩; obtain ⟨p1, rfl⟩ := later_of_below hb; clear hb))
    go_end0
    refine ⟨rfl, ?_⟩
    rw [← HSS.out, ← HQQ.out]
    exact (HS.out.below (below_later W p1)).put _ _
  · go_enter Tryd.func88, Tryd.ntmps88
    go_wp2_with (first | (go_at_call 60; (with_reducible refine (HST.out).mono ?_); rintro e w' ⟨rfl, hb⟩; obtain ⟨p1, rfl⟩ := later_of_below hb; clear hb))
    go_end0
    refine ⟨rfl, ?_⟩
    rw [← HSS.out, ← HQQ.out]
    exact (HS.out.below (below_later W p1)).put _ _
/-! Whether all pixels of a border are told. -/
def okR (z : Nat → Nat → Int) (r c : Nat) : Bool := nvB (z r c) && nvB (z r (c + 1))
def okD (z : Nat → Nat → Int) (r c : Nat) : Bool := nvB (z r c) && nvB (z (r + 1) c)
def whWd (z : Nat → Nat → Int) (r0 c0 h : Nat) : Nat → Bool
  | 0 => true
  | k + 1 => (whWd z r0 c0 h k && okR z r0 (c0 + k)) && okR z (r0 + h) (c0 + k)
def whHi (z : Nat → Nat → Int) (r0 c0 w : Nat) (b : Bool) : Nat → Bool
  | 0 => b
  | k + 1 => (whHi z r0 c0 w b k && okD z (r0 + k) (c0 + w)) && okD z (r0 + k) c0
def wholeP (z : Nat → Nat → Int) (r0 c0 h w : Nat) : Bool := whHi z r0 c0 w (whWd z r0 c0 h w) h
theorem sumWd_succ (z : Nat → Nat → Int) (r0 c0 h k : Nat) : sumWd z r0 c0 h k + 1 * wrP (z r0 (c0 + k + 1) - z r0 (c0 + k)) + -1 * wrP (z (r0 + h) (c0 + k + 1) - z (r0 + h) (c0 + k)) = sumWd z r0 c0 h (k + 1) := by
  unfold sumWd
  rw [sum]
  unfold sR
  omega
theorem sumHi_succ (z : Nat → Nat → Int) (r0 c0 w k : Nat) (t : Int) : t + sumHi z r0 c0 w k + 1 * wrP (z (r0 + k + 1) (c0 + w) - z (r0 + k) (c0 + w)) + -1 * wrP (z (r0 + k + 1) c0 - z (r0 + k) c0) = t + sumHi z r0 c0 w (k + 1) := by
  unfold sumHi
  rw [sum]
  unfold sD
  omega
theorem wp_worldT {P : Program} {c : Code} {Q : Exit → Act → World → Prop} {a : Act} {w : World} (F : World → Prop) (hf : F w) (h : ∀ W, F W → Code.wp P c Q a W) : Code.wp P c Q a w := h w hf
set_option maxRecDepth 20000 in
set_option maxHeartbeats 4000000 in
theorem fTurns (R C r0 c0 h wd : Nat) (zs : List Int) (u : Value) (w : World) (hm : MapOk R C zs) (hv : IntsV w u zs) (hr : r0 + h < R) (hc : c0 + wd < C) {n : Int} {q : Bool} (hn : (aroundP (zAt C (intAt zs)) r0 c0 h wd).tdiv 4096 = n) (hq : wholeP (zAt C (intAt zs)) r0 c0 h wd = q) :
    Calls Tryd.prog 55 #[.agg #[.int .i64 R, .int .i64 C, u], .agg #[.int .i64 r0, .int .i64 c0, .int .i64 h, .int .i64 wd]] w fun e w' => e = .returned (.tuple #[.int .i64 n, .bool q]) ∧ Below w.heap.size w w' := by
  have HM := Lib.hid hm
  have HV := Lib.hid hv
  have hR := hm.r2
  have hC := hm.c2
  obtain ⟨z, hz⟩ : ∃ z, zAt C (intAt zs) = z := ⟨_, rfl⟩
  have HZ := Lib.hid (show ∀ r c, zAt C (intAt zs) r c = z r c from fun r c => by rw [hz])
  rw [hz] at hn hq
  have HN := Lib.hid hn
  have HQ := Lib.hid hq
  obtain ⟨hl, a, cap, rfl, -⟩ := hv
  clear hm hz hn hq hl
  go_enter Tryd.func55, Tryd.ntmps55
  go_wp2
  refine wp_worldT (fun W => TnSt w R C (.slice a zs.length cap) r0 c0 h wd 0 true W) ⟨by simp [go_sem], by simp [go_sem], by simp [go_sem], by simp [go_sem], by simp [go_sem], by simp [go_sem], by simp [go_sem], by simp [go_sem], by simp [go_sem], by simp [go_sem], by simp [go_sem], (by (repeat' (first | with_reducible exact Below.refl _ _ | (with_reducible refine below_later_of ?_ ?_ _) | (with_reducible refine Below.alloc ?_ ?_ _) | (with_reducible refine Below.setCell ?_ ?_ _) | (with_reducible refine Below.drew ?_) | (simp; done) | (simp; omega) | omega))), by simp⟩ ?_
  rintro W0 hst
  have HS0 := Lib.hid hst
  clear hst
  go_loopw [14] (fun i wr => ∃ k : Nat, k ≤ wd ∧ i = .int .i64 k ∧ TnSt w R C (.slice a zs.length cap) r0 c0 h wd (sumWd z r0 c0 h k) (whWd z r0 c0 h k) wr) (fun i _ => wd - (intOf i).toNat)
  case atStart => exact ⟨0, Nat.zero_le _, rfl, HS0.out⟩
  case round =>
    obtain ⟨k, hk, rfl, hst⟩ := hrel
    obtain ⟨bd1, bd2⟩ := sumWd_bd z r0 c0 h k
    by_cases hlt : k < wd
    · have hdk : decide ((k : Int) < (wd : Int)) = true := by simp; omega
      have m0 := hst.m0; have b0 := hst.b0; have b1 := hst.b1; have b2 := hst.b2; have b3 := hst.b3
      have hltw := hst.lt
      have HA1 := Lib.hid (show ∀ ri ci : Int, ri = (r0 : Int) → ci = ((c0 + k : Nat) : Int) → _ from fun ri ci h1 h2 => fAdd R C r0 (c0 + k) false 1 ri ci zs _ r0 c0 h wd _ _ w wr HM.out HV.out hst (.inl rfl) (by omega) (by omega) (by simp only [toR, Bool.false_eq_true, if_false]; omega) (by simp only [toC, Bool.false_eq_true, if_false]; omega) h1 h2 (HZ.out _ _) (HZ.out _ _) rfl rfl)
      have st1 := wrP_bd (z r0 (c0 + k + 1) - z r0 (c0 + k))
      have HA2 := Lib.hid (show ∀ W, TnSt w R C (.slice a zs.length cap) r0 c0 h wd (sumWd z r0 c0 h k + 1 * wrP (z (toR r0 false) (toC (c0 + k) false) - z r0 (c0 + k))) (whWd z r0 c0 h k && (nvB (z r0 (c0 + k)) && nvB (z (toR r0 false) (toC (c0 + k) false)))) W → ∀ ri ci : Int, ri = ((r0 + h : Nat) : Int) → ci = ((c0 + k : Nat) : Int) → _ from fun W hst ri ci h1 h2 => fAdd R C (r0 + h) (c0 + k) false (-1) ri ci zs _ r0 c0 h wd _ _ w W HM.out HV.out hst (.inr rfl) (by simp only [toR, toC, Bool.false_eq_true, if_false]; omega) (by simp only [toR, toC, Bool.false_eq_true, if_false]; omega) (by simp only [toR, Bool.false_eq_true, if_false]; omega) (by simp only [toC, Bool.false_eq_true, if_false]; omega) h1 h2 (HZ.out _ _) (HZ.out _ _) (sumWd_succ z r0 c0 h k) rfl)
      clear hst st1 bd1 bd2
      go_wp2_with (first | (go_at_call 88; (with_reducible refine (HA1.out _ _ (by omega) (by omega)).mono ?_); rintro e w1 ⟨rfl, hst1⟩; have HS1 := Lib.hid hst1; have e0 := hst1.b0; have e1 := hst1.b1; have e2 := hst1.b2; have e3 := hst1.b3; have hlt1 := hst1.lt; clear hst1) | (go_at_call 88; (with_reducible refine (HA2.out _ HS1.out _ _ (by omega) (by omega)).mono ?_); rintro e w2 ⟨rfl, hst2⟩; have HS2 := Lib.hid hst2; clear hst2))
      go_roundw
      case rel => exact ⟨k + 1, by omega, by go_num, HS2.out⟩
      case measure => simp [intOf]; omega
    · obtain rfl : k = wd := by omega
      have hdk : decide ((k : Int) < (k : Int)) = false := by simp
      have m0 := hst.m0; have b0 := hst.b0; have b1 := hst.b1; have b2 := hst.b2; have b3 := hst.b3
      have hltw := hst.lt
      have HS3 := Lib.hid hst
      obtain ⟨T, hT⟩ : ∃ T, sumWd z r0 c0 h k = T := ⟨_, rfl⟩
      rw [hT] at bd1 bd2 HS3
      have HT := Lib.hid hT
      obtain ⟨B, hB⟩ : ∃ B, whWd z r0 c0 h k = B := ⟨_, rfl⟩
      rw [hB] at HS3
      have HB := Lib.hid hB
      clear hst hT hB
      go_wp2
      go_loopw [39] (fun i wr => ∃ j : Nat, j ≤ h ∧ i = .int .i64 j ∧ TnSt w R C (.slice a zs.length cap) r0 c0 h k (T + sumHi z r0 c0 k j) (whHi z r0 c0 k B j) wr) (fun i _ => h - (intOf i).toNat)
      case atStart => exact ⟨0, Nat.zero_le _, rfl, by have := HS3.out; unfold sumHi whHi; rw [sum, Int.add_zero]; exact this⟩
      case round =>
        clear b0 b1 b2 b3 hltw m0
        obtain ⟨j, hj, rfl, hst⟩ := hrel
        obtain ⟨bd3, bd4⟩ := sumHi_bd z r0 c0 k j
        by_cases hlt2 : j < h
        · have hdj : decide ((j : Int) < (h : Int)) = true := by simp; omega
          have m0 := hst.m0; have b0 := hst.b0; have b1 := hst.b1; have b2 := hst.b2; have b3 := hst.b3
          have hltw := hst.lt
          have HA1 := Lib.hid (show ∀ ri ci : Int, ri = ((r0 + j : Nat) : Int) → ci = ((c0 + k : Nat) : Int) → _ from fun ri ci h1 h2 => fAdd R C (r0 + j) (c0 + k) true 1 ri ci zs _ r0 c0 h k _ _ w wr HM.out HV.out hst (.inl rfl) (by omega) (by omega) (by simp only [toR, if_true]; omega) (by simp only [toC, if_true]; omega) h1 h2 (HZ.out _ _) (HZ.out _ _) rfl rfl)
          have st1 := wrP_bd (z (r0 + j + 1) (c0 + k) - z (r0 + j) (c0 + k))
          have HA2 := Lib.hid (show ∀ W, TnSt w R C (.slice a zs.length cap) r0 c0 h k (T + sumHi z r0 c0 k j + 1 * wrP (z (toR (r0 + j) true) (toC (c0 + k) true) - z (r0 + j) (c0 + k))) (whHi z r0 c0 k B j && (nvB (z (r0 + j) (c0 + k)) && nvB (z (toR (r0 + j) true) (toC (c0 + k) true)))) W → ∀ ri ci : Int, ri = ((r0 + j : Nat) : Int) → ci = (c0 : Int) → _ from fun W hst ri ci h1 h2 => fAdd R C (r0 + j) c0 true (-1) ri ci zs _ r0 c0 h k _ _ w W HM.out HV.out hst (.inr rfl) (by simp only [toR, toC, if_true]; omega) (by simp only [toR, toC, if_true]; omega) (by simp only [toR, if_true]; omega) (by simp only [toC, if_true]; omega) h1 h2 (HZ.out _ _) (HZ.out _ _) (sumHi_succ z r0 c0 k j T) rfl)
          clear hst st1 bd3 bd4
          go_wp2_with (first | (go_at_call 88; (with_reducible refine (HA1.out _ _ (by omega) (by omega)).mono ?_); rintro e w1 ⟨rfl, hst1⟩; have HS1 := Lib.hid hst1; have e0 := hst1.b0; have e1 := hst1.b1; have e2 := hst1.b2; have e3 := hst1.b3; have hlt1 := hst1.lt; clear hst1) | (go_at_call 88; (with_reducible refine (HA2.out _ HS1.out _ _ (by omega) (by omega)).mono ?_); rintro e w2 ⟨rfl, hst2⟩; have HS2 := Lib.hid hst2; clear hst2))
          go_roundw
          case rel => exact ⟨j + 1, by omega, by go_num, HS2.out⟩
          case measure => simp [intOf]; omega
        · obtain rfl : j = h := by omega
          have hdj : decide ((j : Int) < (j : Int)) = false := by simp
          have hbel := hst.bel
          have HBE := Lib.hid hbel
          have s0 := hst.s0
          have q0 := hst.q0
          have hltw := hst.lt
          have HQ2 := Lib.hid (show whHi z r0 c0 k B j = q from by rw [← HB.out]; exact HQ.out)
          have HN2 := Lib.hid (show (T + sumHi z r0 c0 k j).tdiv 4096 = n from by rw [← HT.out]; exact HN.out)
          generalize whHi z r0 c0 k B j = qq at *
          obtain ⟨bd5, bd6⟩ : -1000000 ≤ T + sumHi z r0 c0 k j ∧ T + sumHi z r0 c0 k j ≤ 1000000 := by omega
          clear bd3 bd4
          generalize T + sumHi z r0 c0 k j = t at *
          obtain ⟨td1, td2⟩ := tdiv_bd t 4096
          obtain ⟨td3, td4⟩ : -1000000 ≤ t.tdiv 4096 ∧ t.tdiv 4096 ≤ 1000000 := by omega
          clear td1 td2
          clear hst hbel
          go_wp2
          refine wp_region_calm (by kernel_rfl) (by kernel_rfl) ?_
          repeat (go_big_quiet_step (fail))
          refine wpQuiet_nil ?_
          rintro _ ⟨pz, rfl⟩
          go_wp2
          go_ret2
          exact ⟨by rw [← HN2.out, ← HQ2.out]; rfl, HBE.out.trans (by (repeat' (first | with_reducible exact Below.refl _ _ | (with_reducible refine below_later_of ?_ ?_ _) | (with_reducible refine Below.alloc ?_ ?_ _) | (with_reducible refine Below.setCell ?_ ?_ _) | (with_reducible refine Below.drew ?_) | (simp; done) | (simp; omega) | omega)))⟩
end Go.Proofs.YtfiioadmpjmmgaaDoor
