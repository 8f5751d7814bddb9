/- Chapter 1: responses: how far a range goes on; around. -/
import Derived.Test.YtakohhlmomgegaaDoorU86
import Derived.Test.YtakohhlmomgegaaDoorU63
namespace Go.Proofs.YtakohhlmomgegaaDoor
set_option linter.unusedVariables false
set_option linter.unusedSimpArgs false
open Go.RowKit Ieee Ntt
theorem any_worldR {G : World → Prop} {w : World} (F : World → Prop) (hf : F w) (h : ∀ W, F W → G W) : G w := h w hf
/-- Downwards and upwards as long as steps go on. -/
def downP (g : Nat → Nat → Bool) : Nat → Nat
  | 0 => 0
  | k + 1 => if g (k + 1) k then downP g k else k + 1
def raiseP (g : Nat → Nat → Bool) : Nat → Nat → Nat
  | 0, k => k
  | m + 1, k => if g k (k + 1) then raiseP g m (k + 1) else k
theorem downP_le (g : Nat → Nat → Bool) : ∀ k, downP g k ≤ k
  | 0 => Nat.le_refl _
  | k + 1 => by
    have := downP_le g k
    unfold downP
    split <;> omega
theorem raiseP_le (g : Nat → Nat → Bool) : ∀ m k, k ≤ raiseP g m k ∧ raiseP g m k ≤ k + m
  | 0, k => ⟨Nat.le_refl _, Nat.le_refl _⟩
  | m + 1, k => by
    have := raiseP_le g m (k + 1)
    unfold raiseP
    split <;> omega
/-- At least half the energy; less energy. -/
def gH (E : Nat → Int) (e0 : Int) (_i j : Nat) : Bool := decide (2 * E j ≥ e0)
def gL (E : Nat → Int) (i j : Nat) : Bool := decide (E j < E i)
set_option maxHeartbeats 1000000 in
theorem resp1 (R B : Nat) (e0 : Int) (b o S cap : Nat) (F : Nat → Nat × Nat) (i j : Nat) (w : World) (hS : S ≤ 64) (_hi : i < S) (hj : j < S) (hr : w.cell? ⟨R, 0, none⟩ = some (.slice (some ⟨b, o, none⟩) S cap)) (hbw : b < w.heap.size) (hRw : R < w.heap.size) (hF : SumsAt w b o S F) (hs : SmallD S F (xD F) (yD F) 1000000000) (hBw : B < w.heap.size) (he : w.cell? ⟨B, 1, none⟩ = some (.int .i64 e0)) :
    Calls Tryd.prog 121 #[.int .i64 i, .int .i64 j, .pointer (some ⟨R, 0, none⟩), .pointer (some ⟨B, 0, none⟩)] w fun e w' => e = .returned (.bool (gH (eng F) e0 i j)) ∧ Below w.heap.size w w' := by
  have cj := hF j hj
  obtain ⟨z1, z2⟩ := eng_bd hs hj
  unfold gH
  obtain ⟨z, hz⟩ : ∃ z, eng F j = z := ⟨_, rfl⟩
  have HE := Lib.hid (fun w => energy_any hs hj w hz)
  rw [hz] at z1 z2 ⊢
  obtain ⟨c, hc⟩ : ∃ c, decide (2 * z ≥ e0) = c := ⟨_, rfl⟩
  rw [hc]
  clear hF hs hz
  go_enter Tryd.func121, Tryd.ntmps121
  go_wp2
  refine wp_region_calm (by kernel_rfl) (by kernel_rfl) ?_
  repeat (go_big_quiet_step (first | (go_at_call 117; with_reducible exact calm_same (HE.out _))))
  refine wpQuiet_nil ?_
  rintro _ ⟨pp, rfl⟩
  go_wp2
  go_ret
  exact ⟨rfl, (by (repeat' (first | with_reducible exact Below.refl _ _ | (with_reducible refine below_later_of ?_ ?_ _) | (with_reducible refine Below.alloc ?_ ?_ _) | (with_reducible refine Below.setCell ?_ ?_ _) | (with_reducible refine Below.drew ?_) | (simp; done) | (simp; omega) | omega)))⟩
set_option maxHeartbeats 1000000 in
theorem resp2 (R : Nat) (b o S cap : Nat) (F : Nat → Nat × Nat) (i j : Nat) (w : World) (hS : S ≤ 64) (hi : i < S) (hj : j < S) (hr : w.cell? ⟨R, 0, none⟩ = some (.slice (some ⟨b, o, none⟩) S cap)) (hbw : b < w.heap.size) (hRw : R < w.heap.size) (hF : SumsAt w b o S F) (hs : SmallD S F (xD F) (yD F) 1000000000) :
    Calls Tryd.prog 122 #[.int .i64 i, .int .i64 j, .pointer (some ⟨R, 0, none⟩)] w fun e w' => e = .returned (.bool (gL (eng F) i j)) ∧ Below w.heap.size w w' := by
  have cj := hF j hj
  have ci := hF i hi
  unfold gL
  obtain ⟨z, hz⟩ : ∃ z, eng F j = z := ⟨_, rfl⟩
  obtain ⟨y, hy⟩ : ∃ y, eng F i = y := ⟨_, rfl⟩
  have HE := Lib.hid (fun w => energy_any hs hj w hz)
  have HE2 := Lib.hid (fun w => energy_any hs hi w hy)
  rw [hz, hy]
  obtain ⟨c, hc⟩ : ∃ c, decide (z < y) = c := ⟨_, rfl⟩
  rw [hc]
  clear hF hs hz hy
  go_enter Tryd.func122, Tryd.ntmps122
  go_wp2
  refine wp_region_calm (by kernel_rfl) (by kernel_rfl) ?_
  repeat (go_big_quiet_step (first | (go_at_call 117; with_reducible exact calm_same (HE.out _)) | (go_at_call 117; with_reducible exact calm_same (HE2.out _))))
  refine wpQuiet_nil ?_
  rintro _ ⟨pp, rfl⟩
  go_wp2
  go_ret
  exact ⟨rfl, (by (repeat' (first | with_reducible exact Below.refl _ _ | (with_reducible refine below_later_of ?_ ?_ _) | (with_reducible refine Below.alloc ?_ ?_ _) | (with_reducible refine Below.setCell ?_ ?_ _) | (with_reducible refine Below.drew ?_) | (simp; done) | (simp; omega) | omega)))⟩
/-- The range that around builds. -/
structure RgSt (w : World) (lo hi : Nat) (wr : World) : Prop where
  c0 : wr.cell? ⟨w.heap.size + 1, 0, none⟩ = some (.int .i64 lo)
  c1 : wr.cell? ⟨w.heap.size + 1, 1, none⟩ = some (.int .i64 hi)
  f0 : wr.frozen? ⟨w.heap.size + 1, 0, none⟩ = false
  f1 : wr.frozen? ⟨w.heap.size + 1, 1, none⟩ = false
  r0 : wr.cell? ⟨w.heap.size, 0, none⟩ = some (.int .i64 0)
  r1 : wr.cell? ⟨w.heap.size, 1, none⟩ = some (.int .i64 0)
  g0 : wr.frozen? ⟨w.heap.size, 0, none⟩ = false
  g1 : wr.frozen? ⟨w.heap.size, 1, none⟩ = false
  bel : Below w.heap.size w wr
  lt : w.heap.size + 1 < wr.heap.size
theorem RgSt.below {w wr W : World} {lo hi : Nat} (h : RgSt w lo hi wr) (hb : Below wr.heap.size wr W) : RgSt w lo hi W := by
  have hlt := h.lt
  have hs := hb.size
  have q : ∀ j, W.cell? ⟨w.heap.size + 1, j, none⟩ = wr.cell? ⟨w.heap.size + 1, j, none⟩ := fun j => hb.cell (p := ⟨w.heap.size + 1, j, none⟩) hlt
  have q2 : ∀ j, W.frozen? ⟨w.heap.size + 1, j, none⟩ = wr.frozen? ⟨w.heap.size + 1, j, none⟩ := fun j => hb.frozen (p := ⟨w.heap.size + 1, j, none⟩) hlt
  have r : ∀ j, W.cell? ⟨w.heap.size, j, none⟩ = wr.cell? ⟨w.heap.size, j, none⟩ := fun j => hb.cell (p := ⟨w.heap.size, j, none⟩) (show w.heap.size < wr.heap.size by omega)
  have r2 : ∀ j, W.frozen? ⟨w.heap.size, j, none⟩ = wr.frozen? ⟨w.heap.size, j, none⟩ := fun j => hb.frozen (p := ⟨w.heap.size, j, none⟩) (show w.heap.size < wr.heap.size by omega)
  exact ⟨(q 0).trans h.c0, (q 1).trans h.c1, (q2 0).trans h.f0, (q2 1).trans h.f1, (r 0).trans h.r0, (r 1).trans h.r1, (r2 0).trans h.g0, (r2 1).trans h.g1, h.bel.trans (hb.mono (by omega)), by omega⟩
theorem RgSt.put0 {w wr : World} {lo hi : Nat} (h : RgSt w lo hi wr) (v : Nat) : RgSt w v hi (wr.setCell ⟨w.heap.size + 1, 0, none⟩ (.int .i64 v)) := by
  obtain ⟨c0, c1, f0, f1, r0, r1, g0, g1, bel, lt⟩ := h
  exact ⟨by simp [go_sem, c0], by simp [go_sem, c1], by simp [go_sem, f0], by simp [go_sem, f1], by simp [go_sem, r0], by simp [go_sem, r1], by simp [go_sem, g0], by simp [go_sem, g1], bel.setCell (p := ⟨w.heap.size + 1, 0, none⟩) (show w.heap.size ≤ w.heap.size + 1 by omega) _, by simpa [World.setCell] using lt⟩
theorem RgSt.put1 {w wr : World} {lo hi : Nat} (h : RgSt w lo hi wr) (v : Nat) : RgSt w lo v (wr.setCell ⟨w.heap.size + 1, 1, none⟩ (.int .i64 v)) := by
  obtain ⟨c0, c1, f0, f1, r0, r1, g0, g1, bel, lt⟩ := h
  exact ⟨by simp [go_sem, c0], by simp [go_sem, c1], by simp [go_sem, f0], by simp [go_sem, f1], by simp [go_sem, r0], by simp [go_sem, r1], by simp [go_sem, g0], by simp [go_sem, g1], bel.setCell (p := ⟨w.heap.size + 1, 1, none⟩) (show w.heap.size ≤ w.heap.size + 1 by omega) _, by simpa [World.setCell] using lt⟩

set_option maxRecDepth 20000 in
set_option maxHeartbeats 4000000 in
theorem around1 (R B : Nat) (e0 : Int) (b o S cap : Nat) (F : Nat → Nat × Nat) (p : Nat) (lst : Int) (w : World) (hlst : lst = (S : Int) - 1) (hS : S ≤ 64) (hp : p < S) (hr : w.cell? ⟨R, 0, none⟩ = some (.slice (some ⟨b, o, none⟩) S cap)) (hbw : b < w.heap.size) (hRw : R < w.heap.size) (hF : SumsAt w b o S F) (hs : SmallD S F (xD F) (yD F) 1000000000) (hBw : B < w.heap.size) (he : w.cell? ⟨B, 1, none⟩ = some (.int .i64 e0)) :
    Calls Tryd.prog 120 #[.int .i64 p, .int .i64 lst, .func (.func 121) #[] #[.pointer (some ⟨R, 0, none⟩), .pointer (some ⟨B, 0, none⟩)]] w fun e w' => e = .returned (.agg #[.int .i64 (downP (gH (eng F) e0) p), .int .i64 (raiseP (gH (eng F) e0) (S - 1 - p) p)]) ∧ Below w.heap.size w w' := by
  obtain ⟨last, hlast⟩ : ∃ last, S = last + 1 := ⟨S - 1, by omega⟩
  obtain rfl : lst = (last : Int) := by omega
  obtain ⟨g, hg⟩ : ∃ g, g = gH (eng F) e0 := ⟨_, rfl⟩
  have HGG := Lib.hid (show ∀ (i j : Nat) (x y : Int), x = (i : Int) → y = (j : Int) → i < S → j < S → ∀ W, Below w.heap.size w W → Calls Tryd.prog 121 #[.int .i64 x, .int .i64 y, .pointer (some ⟨R, 0, none⟩), .pointer (some ⟨B, 0, none⟩)] W fun e w' => e = .returned (.bool (g i j)) ∧ Below W.heap.size W w' from fun i j x y hx hy hi hj W hW => by
    subst hx hy
    rw [hg]
    exact resp1 R B e0 b o S cap F i j W hS hi hj ((hW.cell (p := ⟨R, 0, none⟩) hRw).trans hr) (by have := hW.size; omega) (by have := hW.size; omega) (hF.below hbw hW) hs (by have := hW.size; omega) ((hW.cell (p := ⟨B, 1, none⟩) hBw).trans he))
  rw [← hg, show S - 1 - p = last - p by omega]
  have hpl : p ≤ last := by omega
  clear hg hr hF hs hlst he
  go_enter Tryd.func120, Tryd.ntmps120
  go_wp2
  refine any_worldR (fun W => RgSt w p p W) ⟨by simp [go_sem], by simp [go_sem], by simp [go_sem], by simp [go_sem], by simp [go_sem], by simp [go_sem], by simp [go_sem], by simp [go_sem], (by (repeat' (first | with_reducible exact Below.refl _ _ | (with_reducible refine below_later_of ?_ ?_ _) | (with_reducible refine Below.alloc ?_ ?_ _) | (with_reducible refine Below.setCell ?_ ?_ _) | (with_reducible refine Below.drew ?_) | (simp; done) | (simp; omega) | omega))), by simp⟩ ?_
  rintro W2 hst
  have HST := Lib.hid hst
  clear hst
  go_loopw [] (fun wr => ∃ lo : Nat, lo ≤ p ∧ downP g lo = downP g p ∧ RgSt w lo p wr) (fun wr => (intOf ((wr.cell? ⟨w.heap.size + 1, 0, none⟩).getD undef)).toNat)
  case atStart => exact ⟨p, Nat.le_refl _, rfl, HST.out⟩
  case round =>
    obtain ⟨lo, hlo, hdn, hst⟩ := hrel
    have HS := Lib.hid hst
    have HDN := Lib.hid hdn
    have c0 := hst.c0
    have f0 := hst.f0
    have hlt := hst.lt
    have hbel := hst.bel
    clear hst hdn
    rcases lo with _ | m
    · have HEND := Lib.hid (show downP g p = 0 by rw [← HDN.out]; rfl)
      have hd0 : decide ((0 : Int) > 0) = false := by decide
      clear hbel
      go_wp2
      refine any_worldR (fun W => RgSt w (downP g p) p W) (by rw [HEND.out]; exact HS.out.below (by (repeat' (first | with_reducible exact Below.refl _ _ | (with_reducible refine below_later_of ?_ ?_ _) | (with_reducible refine Below.alloc ?_ ?_ _) | (with_reducible refine Below.setCell ?_ ?_ _) | (with_reducible refine Below.drew ?_) | (simp; done) | (simp; omega) | omega)))) ?_
      rintro W3 hst3
      have hdb := downP_le g p
      obtain ⟨q, hq⟩ : ∃ q, downP g p = q := ⟨_, rfl⟩
      rw [hq] at hst3 hdb
      have HQ := Lib.hid hq
      clear hq
      have HST3 := Lib.hid hst3
      clear hst3 HEND HDN HS c0 f0
      go_loopw [] (fun wr => ∃ hi : Nat, p ≤ hi ∧ hi ≤ last ∧ raiseP g (last - hi) hi = raiseP g (last - p) p ∧ RgSt w q hi wr) (fun wr => last - (intOf ((wr.cell? ⟨w.heap.size + 1, 1, none⟩).getD undef)).toNat)
      case atStart => exact ⟨p, Nat.le_refl _, hpl, rfl, HST3.out⟩
      case round =>
        obtain ⟨hi, hhi, hhl, hup, hst⟩ := hrel
        have HS := Lib.hid hst
        have HUP := Lib.hid hup
        have c0 := hst.c0
        have c1 := hst.c1
        have f1 := hst.f1
        have r0 := hst.r0
        have r1 := hst.r1
        have g0 := hst.g0
        have g1 := hst.g1
        have hlt := hst.lt
        have hbel := hst.bel
        clear hup
        by_cases hc : hi < last
        · have hd1 : decide ((hi : Int) < (last : Int)) = true := by simp; omega
          have HG := Lib.hid (HGG.out hi (hi + 1) (hi : Int) ((hi : Int) + 1) rfl (by omega) (by omega) (by omega))
          have HB := Lib.hid hbel
          obtain ⟨m, hm⟩ : ∃ m, last - hi = m + 1 := ⟨last - hi - 1, by omega⟩
          rcases (show g hi (hi + 1) = false ∨ g hi (hi + 1) = true by cases g hi (hi + 1) <;> simp) with h1 | h1
          · have HEND := Lib.hid (show raiseP g (last - p) p = hi by rw [← HUP.out, hm]; unfold raiseP; rw [h1]; rfl)
            rw [h1] at HG
            clear h1 hbel hst hm
            go_wp2_with (first | (go_at_call 121; (with_reducible refine (HG.out _ (HB.out.trans (by (repeat' (first | with_reducible exact Below.refl _ _ | (with_reducible refine below_later_of ?_ ?_ _) | (with_reducible refine Below.alloc ?_ ?_ _) | (with_reducible refine Below.setCell ?_ ?_ _) | (with_reducible refine Below.drew ?_) | (simp; done) | (simp; omega) | omega))))).mono ?_); rintro e w' ⟨rfl, hb⟩; obtain ⟨pq, rfl⟩ := later_of_below hb; clear hb))
            refine bodyPost_ret ?_ rfl ⟨by rw [HEND.out, HQ.out], HB.out.trans (by (repeat' (first | with_reducible exact Below.refl _ _ | (with_reducible refine below_later_of ?_ ?_ _) | (with_reducible refine Below.alloc ?_ ?_ _) | (with_reducible refine Below.setCell ?_ ?_ _) | (with_reducible refine Below.drew ?_) | (simp; done) | (simp; omega) | omega)))⟩
            first | (simp [results, Tryd.results120, go_sem, r0, r1]; done) | simp [results, Tryd.results120, go_sem, r0, r1, ↓IntWalk.iteOmega]
          · have HNX := Lib.hid (show raiseP g (last - (hi + 1)) (hi + 1) = raiseP g (last - p) p by rw [← HUP.out, hm, show last - (hi + 1) = m by omega, raiseP, h1]; rfl)
            rw [h1] at HG
            clear h1 hbel hst hm
            go_wp2_with (first | (go_at_call 121; (with_reducible refine (HG.out _ (HB.out.trans (by (repeat' (first | with_reducible exact Below.refl _ _ | (with_reducible refine below_later_of ?_ ?_ _) | (with_reducible refine Below.alloc ?_ ?_ _) | (with_reducible refine Below.setCell ?_ ?_ _) | (with_reducible refine Below.drew ?_) | (simp; done) | (simp; omega) | omega))))).mono ?_); rintro e w' ⟨rfl, hb⟩; obtain ⟨pq, rfl⟩ := later_of_below hb; clear hb))
            go_roundw
            case rel => exact ⟨hi + 1, by omega, by omega, HNX.out, (HS.out.below (by (repeat' (first | with_reducible exact Below.refl _ _ | (with_reducible refine below_later_of ?_ ?_ _) | (with_reducible refine Below.alloc ?_ ?_ _) | (with_reducible refine Below.setCell ?_ ?_ _) | (with_reducible refine Below.drew ?_) | (simp; done) | (simp; omega) | omega)))).put1 (hi + 1)⟩
            case measure => (first | (simp [go_sem, intOf, c1]; done) | simp [go_sem, intOf, c1, ↓IntWalk.iteOmega]); omega
        · obtain rfl : hi = last := by omega
          have hd1 : decide ((hi : Int) < (hi : Int)) = false := by simp
          have HEND := Lib.hid (show raiseP g (hi - p) p = hi by rw [← HUP.out, Nat.sub_self]; rfl)
          have HB := Lib.hid hbel
          clear hbel hst
          go_wp2
          refine bodyPost_ret ?_ rfl ⟨by rw [HEND.out, HQ.out], HB.out.trans (by (repeat' (first | with_reducible exact Below.refl _ _ | (with_reducible refine below_later_of ?_ ?_ _) | (with_reducible refine Below.alloc ?_ ?_ _) | (with_reducible refine Below.setCell ?_ ?_ _) | (with_reducible refine Below.drew ?_) | (simp; done) | (simp; omega) | omega)))⟩
          first | (simp [results, Tryd.results120, go_sem, r0, r1]; done) | simp [results, Tryd.results120, go_sem, r0, r1, ↓IntWalk.iteOmega]
    · have hd0 : decide (((m + 1 : Nat) : Int) > 0) = true := by simp
      have HG := Lib.hid (HGG.out (m + 1) m ((m : Int) + 1) (m : Int) (by omega) rfl (by omega) (by omega))
      have HB := Lib.hid hbel
      rcases (show g (m + 1) m = false ∨ g (m + 1) m = true by cases g (m + 1) m <;> simp) with h1 | h1
      · have HEND := Lib.hid (show downP g p = m + 1 by rw [← HDN.out]; unfold downP; rw [h1]; rfl)
        rw [h1] at HG
        clear h1 hbel
        go_wp2_with (first | (go_at_call 121; (with_reducible refine (HG.out _ (HB.out.trans (by (repeat' (first | with_reducible exact Below.refl _ _ | (with_reducible refine below_later_of ?_ ?_ _) | (with_reducible refine Below.alloc ?_ ?_ _) | (with_reducible refine Below.setCell ?_ ?_ _) | (with_reducible refine Below.drew ?_) | (simp; done) | (simp; omega) | omega))))).mono ?_); rintro e w' ⟨rfl, hb⟩; obtain ⟨pq, rfl⟩ := later_of_below hb; clear hb))
        refine any_worldR (fun W => RgSt w (downP g p) p W) (by rw [HEND.out]; exact HS.out.below (by (repeat' (first | with_reducible exact Below.refl _ _ | (with_reducible refine below_later_of ?_ ?_ _) | (with_reducible refine Below.alloc ?_ ?_ _) | (with_reducible refine Below.setCell ?_ ?_ _) | (with_reducible refine Below.drew ?_) | (simp; done) | (simp; omega) | omega)))) ?_
        rintro W3 hst3
        have hdb := downP_le g p
        obtain ⟨q, hq⟩ : ∃ q, downP g p = q := ⟨_, rfl⟩
        rw [hq] at hst3 hdb
        have HQ := Lib.hid hq
        clear hq
        have HST3 := Lib.hid hst3
        clear hst3 HEND HDN HS c0 f0
        go_loopw [] (fun wr => ∃ hi : Nat, p ≤ hi ∧ hi ≤ last ∧ raiseP g (last - hi) hi = raiseP g (last - p) p ∧ RgSt w q hi wr) (fun wr => last - (intOf ((wr.cell? ⟨w.heap.size + 1, 1, none⟩).getD undef)).toNat)
        case atStart => exact ⟨p, Nat.le_refl _, hpl, rfl, HST3.out⟩
        case round =>
          obtain ⟨hi, hhi, hhl, hup, hst⟩ := hrel
          have HS := Lib.hid hst
          have HUP := Lib.hid hup
          have c0 := hst.c0
          have c1 := hst.c1
          have f1 := hst.f1
          have r0 := hst.r0
          have r1 := hst.r1
          have g0 := hst.g0
          have g1 := hst.g1
          have hlt := hst.lt
          have hbel := hst.bel
          clear hup
          by_cases hc : hi < last
          · have hd1 : decide ((hi : Int) < (last : Int)) = true := by simp; omega
            have HG := Lib.hid (HGG.out hi (hi + 1) (hi : Int) ((hi : Int) + 1) rfl (by omega) (by omega) (by omega))
            have HB := Lib.hid hbel
            obtain ⟨m, hm⟩ : ∃ m, last - hi = m + 1 := ⟨last - hi - 1, by omega⟩
            rcases (show g hi (hi + 1) = false ∨ g hi (hi + 1) = true by cases g hi (hi + 1) <;> simp) with h1 | h1
            · have HEND := Lib.hid (show raiseP g (last - p) p = hi by rw [← HUP.out, hm]; unfold raiseP; rw [h1]; rfl)
              rw [h1] at HG
              clear h1 hbel hst hm
              go_wp2_with (first | (go_at_call 121; (with_reducible refine (HG.out _ (HB.out.trans (by (repeat' (first | with_reducible exact Below.refl _ _ | (with_reducible refine below_later_of ?_ ?_ _) | (with_reducible refine Below.alloc ?_ ?_ _) | (with_reducible refine Below.setCell ?_ ?_ _) | (with_reducible refine Below.drew ?_) | (simp; done) | (simp; omega) | omega))))).mono ?_); rintro e w' ⟨rfl, hb⟩; obtain ⟨pq, rfl⟩ := later_of_below hb; clear hb))
              refine bodyPost_ret ?_ rfl ⟨by rw [HEND.out, HQ.out], HB.out.trans (by (repeat' (first | with_reducible exact Below.refl _ _ | (with_reducible refine below_later_of ?_ ?_ _) | (with_reducible refine Below.alloc ?_ ?_ _) | (with_reducible refine Below.setCell ?_ ?_ _) | (with_reducible refine Below.drew ?_) | (simp; done) | (simp; omega) | omega)))⟩
              first | (simp [results, Tryd.results120, go_sem, r0, r1]; done) | simp [results, Tryd.results120, go_sem, r0, r1, ↓IntWalk.iteOmega]
            · have HNX := Lib.hid (show raiseP g (last - (hi + 1)) (hi + 1) = raiseP g (last - p) p by rw [← HUP.out, hm, show last - (hi + 1) = m by omega, raiseP, h1]; rfl)
              rw [h1] at HG
              clear h1 hbel hst hm
              go_wp2_with (first | (go_at_call 121; (with_reducible refine (HG.out _ (HB.out.trans (by (repeat' (first | with_reducible exact Below.refl _ _ | (with_reducible refine below_later_of ?_ ?_ _) | (with_reducible refine Below.alloc ?_ ?_ _) | (with_reducible refine Below.setCell ?_ ?_ _) | (with_reducible refine Below.drew ?_) | (simp; done) | (simp; omega) | omega))))).mono ?_); rintro e w' ⟨rfl, hb⟩; obtain ⟨pq, rfl⟩ := later_of_below hb; clear hb))
              go_roundw
              case rel => exact ⟨hi + 1, by omega, by omega, HNX.out, (HS.out.below (by (repeat' (first | with_reducible exact Below.refl _ _ | (with_reducible refine below_later_of ?_ ?_ _) | (with_reducible refine Below.alloc ?_ ?_ _) | (with_reducible refine Below.setCell ?_ ?_ _) | (with_reducible refine Below.drew ?_) | (simp; done) | (simp; omega) | omega)))).put1 (hi + 1)⟩
              case measure => (first | (simp [go_sem, intOf, c1]; done) | simp [go_sem, intOf, c1, ↓IntWalk.iteOmega]); omega
          · obtain rfl : hi = last := by omega
            have hd1 : decide ((hi : Int) < (hi : Int)) = false := by simp
            have HEND := Lib.hid (show raiseP g (hi - p) p = hi by rw [← HUP.out, Nat.sub_self]; rfl)
            have HB := Lib.hid hbel
            clear hbel hst
            go_wp2
            refine bodyPost_ret ?_ rfl ⟨by rw [HEND.out, HQ.out], HB.out.trans (by (repeat' (first | with_reducible exact Below.refl _ _ | (with_reducible refine below_later_of ?_ ?_ _) | (with_reducible refine Below.alloc ?_ ?_ _) | (with_reducible refine Below.setCell ?_ ?_ _) | (with_reducible refine Below.drew ?_) | (simp; done) | (simp; omega) | omega)))⟩
            first | (simp [results, Tryd.results120, go_sem, r0, r1]; done) | simp [results, Tryd.results120, go_sem, r0, r1, ↓IntWalk.iteOmega]
      · have HNX := Lib.hid (show downP g m = downP g p by rw [← HDN.out, downP, h1]; rfl)
        rw [h1] at HG
        clear h1 hbel
        go_wp2_with (first | (go_at_call 121; (with_reducible refine (HG.out _ (HB.out.trans (by (repeat' (first | with_reducible exact Below.refl _ _ | (with_reducible refine below_later_of ?_ ?_ _) | (with_reducible refine Below.alloc ?_ ?_ _) | (with_reducible refine Below.setCell ?_ ?_ _) | (with_reducible refine Below.drew ?_) | (simp; done) | (simp; omega) | omega))))).mono ?_); rintro e w' ⟨rfl, hb⟩; obtain ⟨pq, rfl⟩ := later_of_below hb; clear hb))
        go_roundw
        case rel => exact ⟨m, by omega, HNX.out, (HS.out.below (by (repeat' (first | with_reducible exact Below.refl _ _ | (with_reducible refine below_later_of ?_ ?_ _) | (with_reducible refine Below.alloc ?_ ?_ _) | (with_reducible refine Below.setCell ?_ ?_ _) | (with_reducible refine Below.drew ?_) | (simp; done) | (simp; omega) | omega)))).put0 m⟩
        case measure => (first | (simp [go_sem, intOf, c0]; done) | simp [go_sem, intOf, c0, ↓IntWalk.iteOmega]) <;> omega

set_option maxRecDepth 20000 in
set_option maxHeartbeats 4000000 in
theorem around2 (R : Nat) (b o S cap : Nat) (F : Nat → Nat × Nat) (p : Nat) (lst : Int) (w : World) (hlst : lst = (S : Int) - 1) (hS : S ≤ 64) (hp : p < S) (hr : w.cell? ⟨R, 0, none⟩ = some (.slice (some ⟨b, o, none⟩) S cap)) (hbw : b < w.heap.size) (hRw : R < w.heap.size) (hF : SumsAt w b o S F) (hs : SmallD S F (xD F) (yD F) 1000000000) :
    Calls Tryd.prog 120 #[.int .i64 p, .int .i64 lst, .func (.func 122) #[] #[.pointer (some ⟨R, 0, none⟩)]] w fun e w' => e = .returned (.agg #[.int .i64 (downP (gL (eng F)) p), .int .i64 (raiseP (gL (eng F)) (S - 1 - p) p)]) ∧ Below w.heap.size w w' := by
  obtain ⟨last, hlast⟩ : ∃ last, S = last + 1 := ⟨S - 1, by omega⟩
  obtain rfl : lst = (last : Int) := by omega
  obtain ⟨g, hg⟩ : ∃ g, g = gL (eng F) := ⟨_, rfl⟩
  have HGG := Lib.hid (show ∀ (i j : Nat) (x y : Int), x = (i : Int) → y = (j : Int) → i < S → j < S → ∀ W, Below w.heap.size w W → Calls Tryd.prog 122 #[.int .i64 x, .int .i64 y, .pointer (some ⟨R, 0, none⟩)] W fun e w' => e = .returned (.bool (g i j)) ∧ Below W.heap.size W w' from fun i j x y hx hy hi hj W hW => by
    subst hx hy
    rw [hg]
    exact resp2 R b o S cap F i j W hS hi hj ((hW.cell (p := ⟨R, 0, none⟩) hRw).trans hr) (by have := hW.size; omega) (by have := hW.size; omega) (hF.below hbw hW) hs)
  rw [← hg, show S - 1 - p = last - p by omega]
  have hpl : p ≤ last := by omega
  clear hg hr hF hs hlst
  go_enter Tryd.func120, Tryd.ntmps120
  go_wp2
  refine any_worldR (fun W => RgSt w p p W) ⟨by simp [go_sem], by simp [go_sem], by simp [go_sem], by simp [go_sem], by simp [go_sem], by simp [go_sem], by simp [go_sem], by simp [go_sem], (by (repeat' (first | with_reducible exact Below.refl _ _ | (with_reducible refine below_later_of ?_ ?_ _) | (with_reducible refine Below.alloc ?_ ?_ _) | (with_reducible refine Below.setCell ?_ ?_ _) | (with_reducible refine Below.drew ?_) | (simp; done) | (simp; omega) | omega))), by simp⟩ ?_
  rintro W2 hst
  have HST := Lib.hid hst
  clear hst
  go_loopw [] (fun wr => ∃ lo : Nat, lo ≤ p ∧ downP g lo = downP g p ∧ RgSt w lo p wr) (fun wr => (intOf ((wr.cell? ⟨w.heap.size + 1, 0, none⟩).getD undef)).toNat)
  case atStart => exact ⟨p, Nat.le_refl _, rfl, HST.out⟩
  case round =>
    obtain ⟨lo, hlo, hdn, hst⟩ := hrel
    have HS := Lib.hid hst
    have HDN := Lib.hid hdn
    have c0 := hst.c0
    have f0 := hst.f0
    have hlt := hst.lt
    have hbel := hst.bel
    clear hst hdn
    rcases lo with _ | m
    · have HEND := Lib.hid (show downP g p = 0 by rw [← HDN.out]; rfl)
      have hd0 : decide ((0 : Int) > 0) = false := by decide
      clear hbel
      go_wp2
      refine any_worldR (fun W => RgSt w (downP g p) p W) (by rw [HEND.out]; exact HS.out.below (by (repeat' (first | with_reducible exact Below.refl _ _ | (with_reducible refine below_later_of ?_ ?_ _) | (with_reducible refine Below.alloc ?_ ?_ _) | (with_reducible refine Below.setCell ?_ ?_ _) | (with_reducible refine Below.drew ?_) | (simp; done) | (simp; omega) | omega)))) ?_
      rintro W3 hst3
      have hdb := downP_le g p
      obtain ⟨q, hq⟩ : ∃ q, downP g p = q := ⟨_, rfl⟩
      rw [hq] at hst3 hdb
      have HQ := Lib.hid hq
      clear hq
      have HST3 := Lib.hid hst3
      clear hst3 HEND HDN HS c0 f0
      go_loopw [] (fun wr => ∃ hi : Nat, p ≤ hi ∧ hi ≤ last ∧ raiseP g (last - hi) hi = raiseP g (last - p) p ∧ RgSt w q hi wr) (fun wr => last - (intOf ((wr.cell? ⟨w.heap.size + 1, 1, none⟩).getD undef)).toNat)
      case atStart => exact ⟨p, Nat.le_refl _, hpl, rfl, HST3.out⟩
      case round =>
        obtain ⟨hi, hhi, hhl, hup, hst⟩ := hrel
        have HS := Lib.hid hst
        have HUP := Lib.hid hup
        have c0 := hst.c0
        have c1 := hst.c1
        have f1 := hst.f1
        have r0 := hst.r0
        have r1 := hst.r1
        have g0 := hst.g0
        have g1 := hst.g1
        have hlt := hst.lt
        have hbel := hst.bel
        clear hup
        by_cases hc : hi < last
        · have hd1 : decide ((hi : Int) < (last : Int)) = true := by simp; omega
          have HG := Lib.hid (HGG.out hi (hi + 1) (hi : Int) ((hi : Int) + 1) rfl (by omega) (by omega) (by omega))
          have HB := Lib.hid hbel
          obtain ⟨m, hm⟩ : ∃ m, last - hi = m + 1 := ⟨last - hi - 1, by omega⟩
          rcases (show g hi (hi + 1) = false ∨ g hi (hi + 1) = true by cases g hi (hi + 1) <;> simp) with h1 | h1
          · have HEND := Lib.hid (show raiseP g (last - p) p = hi by rw [← HUP.out, hm]; unfold raiseP; rw [h1]; rfl)
            rw [h1] at HG
            clear h1 hbel hst hm
            go_wp2_with (first | (go_at_call 122; (with_reducible refine (HG.out _ (HB.out.trans (by (repeat' (first | with_reducible exact Below.refl _ _ | (with_reducible refine below_later_of ?_ ?_ _) | (with_reducible refine Below.alloc ?_ ?_ _) | (with_reducible refine Below.setCell ?_ ?_ _) | (with_reducible refine Below.drew ?_) | (simp; done) | (simp; omega) | omega))))).mono ?_); rintro e w' ⟨rfl, hb⟩; obtain ⟨pq, rfl⟩ := later_of_below hb; clear hb))
            refine bodyPost_ret ?_ rfl ⟨by rw [HEND.out, HQ.out], HB.out.trans (by (repeat' (first | with_reducible exact Below.refl _ _ | (with_reducible refine below_later_of ?_ ?_ _) | (with_reducible refine Below.alloc ?_ ?_ _) | (with_reducible refine Below.setCell ?_ ?_ _) | (with_reducible refine Below.drew ?_) | (simp; done) | (simp; omega) | omega)))⟩
            first | (simp [results, Tryd.results120, go_sem, r0, r1]; done) | simp [results, Tryd.results120, go_sem, r0, r1, ↓IntWalk.iteOmega]
          · have HNX := Lib.hid (show raiseP g (last - (hi + 1)) (hi + 1) = raiseP g (last - p) p by rw [← HUP.out, hm, show last - (hi + 1) = m by omega, raiseP, h1]; rfl)
            rw [h1] at HG
            clear h1 hbel hst hm
            go_wp2_with (first | (go_at_call 122; (with_reducible refine (HG.out _ (HB.out.trans (by (repeat' (first | with_reducible exact Below.refl _ _ | (with_reducible refine below_later_of ?_ ?_ _) | (with_reducible refine Below.alloc ?_ ?_ _) | (with_reducible refine Below.setCell ?_ ?_ _) | (with_reducible refine Below.drew ?_) | (simp; done) | (simp; omega) | omega))))).mono ?_); rintro e w' ⟨rfl, hb⟩; obtain ⟨pq, rfl⟩ := later_of_below hb; clear hb))
            go_roundw
            case rel => exact ⟨hi + 1, by omega, by omega, HNX.out, (HS.out.below (by (repeat' (first | with_reducible exact Below.refl _ _ | (with_reducible refine below_later_of ?_ ?_ _) | (with_reducible refine Below.alloc ?_ ?_ _) | (with_reducible refine Below.setCell ?_ ?_ _) | (with_reducible refine Below.drew ?_) | (simp; done) | (simp; omega) | omega)))).put1 (hi + 1)⟩
            case measure => (first | (simp [go_sem, intOf, c1]; done) | simp [go_sem, intOf, c1, ↓IntWalk.iteOmega]); omega
        · obtain rfl : hi = last := by omega
          have hd1 : decide ((hi : Int) < (hi : Int)) = false := by simp
          have HEND := Lib.hid (show raiseP g (hi - p) p = hi by rw [← HUP.out, Nat.sub_self]; rfl)
          have HB := Lib.hid hbel
          clear hbel hst
          go_wp2
          refine bodyPost_ret ?_ rfl ⟨by rw [HEND.out, HQ.out], HB.out.trans (by (repeat' (first | with_reducible exact Below.refl _ _ | (with_reducible refine below_later_of ?_ ?_ _) | (with_reducible refine Below.alloc ?_ ?_ _) | (with_reducible refine Below.setCell ?_ ?_ _) | (with_reducible refine Below.drew ?_) | (simp; done) | (simp; omega) | omega)))⟩
          first | (simp [results, Tryd.results120, go_sem, r0, r1]; done) | simp [results, Tryd.results120, go_sem, r0, r1, ↓IntWalk.iteOmega]
    · have hd0 : decide (((m + 1 : Nat) : Int) > 0) = true := by simp
      have HG := Lib.hid (HGG.out (m + 1) m ((m : Int) + 1) (m : Int) (by omega) rfl (by omega) (by omega))
      have HB := Lib.hid hbel
      rcases (show g (m + 1) m = false ∨ g (m + 1) m = true by cases g (m + 1) m <;> simp) with h1 | h1
      · have HEND := Lib.hid (show downP g p = m + 1 by rw [← HDN.out]; unfold downP; rw [h1]; rfl)
        rw [h1] at HG
        clear h1 hbel
        go_wp2_with (first | (go_at_call 122; (with_reducible refine (HG.out _ (HB.out.trans (by (repeat' (first | with_reducible exact Below.refl _ _ | (with_reducible refine below_later_of ?_ ?_ _) | (with_reducible refine Below.alloc ?_ ?_ _) | (with_reducible refine Below.setCell ?_ ?_ _) | (with_reducible refine Below.drew ?_) | (simp; done) | (simp; omega) | omega))))).mono ?_); rintro e w' ⟨rfl, hb⟩; obtain ⟨pq, rfl⟩ := later_of_below hb; clear hb))
        refine any_worldR (fun W => RgSt w (downP g p) p W) (by rw [HEND.out]; exact HS.out.below (by (repeat' (first | with_reducible exact Below.refl _ _ | (with_reducible refine below_later_of ?_ ?_ _) | (with_reducible refine Below.alloc ?_ ?_ _) | (with_reducible refine Below.setCell ?_ ?_ _) | (with_reducible refine Below.drew ?_) | (simp; done) | (simp; omega) | omega)))) ?_
        rintro W3 hst3
        have hdb := downP_le g p
        obtain ⟨q, hq⟩ : ∃ q, downP g p = q := ⟨_, rfl⟩
        rw [hq] at hst3 hdb
        have HQ := Lib.hid hq
        clear hq
        have HST3 := Lib.hid hst3
        clear hst3 HEND HDN HS c0 f0
        go_loopw [] (fun wr => ∃ hi : Nat, p ≤ hi ∧ hi ≤ last ∧ raiseP g (last - hi) hi = raiseP g (last - p) p ∧ RgSt w q hi wr) (fun wr => last - (intOf ((wr.cell? ⟨w.heap.size + 1, 1, none⟩).getD undef)).toNat)
        case atStart => exact ⟨p, Nat.le_refl _, hpl, rfl, HST3.out⟩
        case round =>
          obtain ⟨hi, hhi, hhl, hup, hst⟩ := hrel
          have HS := Lib.hid hst
          have HUP := Lib.hid hup
          have c0 := hst.c0
          have c1 := hst.c1
          have f1 := hst.f1
          have r0 := hst.r0
          have r1 := hst.r1
          have g0 := hst.g0
          have g1 := hst.g1
          have hlt := hst.lt
          have hbel := hst.bel
          clear hup
          by_cases hc : hi < last
          · have hd1 : decide ((hi : Int) < (last : Int)) = true := by simp; omega
            have HG := Lib.hid (HGG.out hi (hi + 1) (hi : Int) ((hi : Int) + 1) rfl (by omega) (by omega) (by omega))
            have HB := Lib.hid hbel
            obtain ⟨m, hm⟩ : ∃ m, last - hi = m + 1 := ⟨last - hi - 1, by omega⟩
            rcases (show g hi (hi + 1) = false ∨ g hi (hi + 1) = true by cases g hi (hi + 1) <;> simp) with h1 | h1
            · have HEND := Lib.hid (show raiseP g (last - p) p = hi by rw [← HUP.out, hm]; unfold raiseP; rw [h1]; rfl)
              rw [h1] at HG
              clear h1 hbel hst hm
              go_wp2_with (first | (go_at_call 122; (with_reducible refine (HG.out _ (HB.out.trans (by (repeat' (first | with_reducible exact Below.refl _ _ | (with_reducible refine below_later_of ?_ ?_ _) | (with_reducible refine Below.alloc ?_ ?_ _) | (with_reducible refine Below.setCell ?_ ?_ _) | (with_reducible refine Below.drew ?_) | (simp; done) | (simp; omega) | omega))))).mono ?_); rintro e w' ⟨rfl, hb⟩; obtain ⟨pq, rfl⟩ := later_of_below hb; clear hb))
              refine bodyPost_ret ?_ rfl ⟨by rw [HEND.out, HQ.out], HB.out.trans (by (repeat' (first | with_reducible exact Below.refl _ _ | (with_reducible refine below_later_of ?_ ?_ _) | (with_reducible refine Below.alloc ?_ ?_ _) | (with_reducible refine Below.setCell ?_ ?_ _) | (with_reducible refine Below.drew ?_) | (simp; done) | (simp; omega) | omega)))⟩
              first | (simp [results, Tryd.results120, go_sem, r0, r1]; done) | simp [results, Tryd.results120, go_sem, r0, r1, ↓IntWalk.iteOmega]
            · have HNX := Lib.hid (show raiseP g (last - (hi + 1)) (hi + 1) = raiseP g (last - p) p by rw [← HUP.out, hm, show last - (hi + 1) = m by omega, raiseP, h1]; rfl)
              rw [h1] at HG
              clear h1 hbel hst hm
              go_wp2_with (first | (go_at_call 122; (with_reducible refine (HG.out _ (HB.out.trans (by (repeat' (first | with_reducible exact Below.refl _ _ | (with_reducible refine below_later_of ?_ ?_ _) | (with_reducible refine Below.alloc ?_ ?_ _) | (with_reducible refine Below.setCell ?_ ?_ _) | (with_reducible refine Below.drew ?_) | (simp; done) | (simp; omega) | omega))))).mono ?_); rintro e w' ⟨rfl, hb⟩; obtain ⟨pq, rfl⟩ := later_of_below hb; clear hb))
              go_roundw
              case rel => exact ⟨hi + 1, by omega, by omega, HNX.out, (HS.out.below (by (repeat' (first | with_reducible exact Below.refl _ _ | (with_reducible refine below_later_of ?_ ?_ _) | (with_reducible refine Below.alloc ?_ ?_ _) | (with_reducible refine Below.setCell ?_ ?_ _) | (with_reducible refine Below.drew ?_) | (simp; done) | (simp; omega) | omega)))).put1 (hi + 1)⟩
              case measure => (first | (simp [go_sem, intOf, c1]; done) | simp [go_sem, intOf, c1, ↓IntWalk.iteOmega]); omega
          · obtain rfl : hi = last := by omega
            have hd1 : decide ((hi : Int) < (hi : Int)) = false := by simp
            have HEND := Lib.hid (show raiseP g (hi - p) p = hi by rw [← HUP.out, Nat.sub_self]; rfl)
            have HB := Lib.hid hbel
            clear hbel hst
            go_wp2
            refine bodyPost_ret ?_ rfl ⟨by rw [HEND.out, HQ.out], HB.out.trans (by (repeat' (first | with_reducible exact Below.refl _ _ | (with_reducible refine below_later_of ?_ ?_ _) | (with_reducible refine Below.alloc ?_ ?_ _) | (with_reducible refine Below.setCell ?_ ?_ _) | (with_reducible refine Below.drew ?_) | (simp; done) | (simp; omega) | omega)))⟩
            first | (simp [results, Tryd.results120, go_sem, r0, r1]; done) | simp [results, Tryd.results120, go_sem, r0, r1, ↓IntWalk.iteOmega]
      · have HNX := Lib.hid (show downP g m = downP g p by rw [← HDN.out, downP, h1]; rfl)
        rw [h1] at HG
        clear h1 hbel
        go_wp2_with (first | (go_at_call 122; (with_reducible refine (HG.out _ (HB.out.trans (by (repeat' (first | with_reducible exact Below.refl _ _ | (with_reducible refine below_later_of ?_ ?_ _) | (with_reducible refine Below.alloc ?_ ?_ _) | (with_reducible refine Below.setCell ?_ ?_ _) | (with_reducible refine Below.drew ?_) | (simp; done) | (simp; omega) | omega))))).mono ?_); rintro e w' ⟨rfl, hb⟩; obtain ⟨pq, rfl⟩ := later_of_below hb; clear hb))
        go_roundw
        case rel => exact ⟨m, by omega, HNX.out, (HS.out.below (by (repeat' (first | with_reducible exact Below.refl _ _ | (with_reducible refine below_later_of ?_ ?_ _) | (with_reducible refine Below.alloc ?_ ?_ _) | (with_reducible refine Below.setCell ?_ ?_ _) | (with_reducible refine Below.drew ?_) | (simp; done) | (simp; omega) | omega)))).put0 m⟩
        case measure => (first | (simp [go_sem, intOf, c0]; done) | simp [go_sem, intOf, c0, ↓IntWalk.iteOmega]) <;> omega
end Go.Proofs.YtakohhlmomgegaaDoor
