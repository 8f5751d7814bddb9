/- Chapter 1: the law TopTwoCompressions returns true. -/
import Derived.Test.YtelchmimhnpkaaaU37
import Derived.Deep.CutRange
import Derived.Deep.RegionHeld3
namespace Go.Proofs.Ytelchmimhnpkaaa
set_option linter.unusedVariables false
open Go.RowKit Ntt
theorem wp_worldL {P : Program} {c : Code} {Q : Exit → Act → World → Prop} {a : Act} {w : World} (F : World → Prop) (hf : F w) (h : ∀ W, F W → Code.wp P c Q a W) : Code.wp P c Q a w := h w hf
/-- Block B holds an image, with its samples. -/
def ImgAt (W : World) (B : Nat) (L S : Int) (a : Option Addr) (n c : Nat) (f : Nat → Nat × Nat) : Prop :=
  ImgBlk W B L S a n c ∧ n ≤ c ∧ B < W.heap.size ∧ (0 < n → ∃ g, a = some ⟨g, 0, none⟩ ∧ g < W.heap.size ∧ SamplesAt W g 0 n f)
theorem ImgAt.below {W W' : World} {B : Nat} {L S : Int} {a : Option Addr} {n c : Nat} {f : Nat → Nat × Nat} (h : ImgAt W B L S a n c f) (hb : Below W.heap.size W W') : ImgAt W' B L S a n c f := by
  obtain ⟨h1, h2, h3, h4⟩ := h
  refine ⟨h1.below h3 hb, h2, by have := hb.size; omega, fun h0 => ?_⟩
  obtain ⟨g, g1, g2, g3⟩ := h4 h0
  exact ⟨g, g1, by have := hb.size; omega, g3.below g2 hb⟩
theorem own_step {W W' : World} {B n : Nat} {a : Option Addr} {f : Nat → Nat × Nat} (h : 0 < n → ∃ g, a = some ⟨g, 0, none⟩ ∧ B ≤ g ∧ g < W.heap.size ∧ SamplesAt W g 0 n f) (hb : Below W.heap.size W W') : 0 < n → ∃ g, a = some ⟨g, 0, none⟩ ∧ B ≤ g ∧ g < W'.heap.size ∧ SamplesAt W' g 0 n f := fun h0 => by
  obtain ⟨g, h1, h2, h3, h4⟩ := h h0
  exact ⟨g, h1, h2, by have := hb.size; omega, h4.below h3 hb⟩
theorem codeAt_own {W W' : World} {B n : Nat} {a : Option Addr} {f : Nat → Nat × Nat} (h : 0 < n → ∃ g, a = some ⟨g, 0, none⟩ ∧ B ≤ g ∧ g < W.heap.size ∧ SamplesAt W g 0 n f) (hb : Below W.heap.size W W') : CodeAt W' n f a := fun h0 => by
  obtain ⟨g, h1, -, h3, h4⟩ := h h0
  exact ⟨g, 0, h1, by have := hb.size; omega, h4.below h3 hb⟩
theorem imgAt_own {W W' : World} {B b n c : Nat} {L S : Int} {a : Option Addr} {f : Nat → Nat × Nat} (hi : ImgBlk W' B L S a n c) (hc : n ≤ c) (hB : B < W'.heap.size) (h : 0 < n → ∃ g, a = some ⟨g, 0, none⟩ ∧ b ≤ g ∧ g < W.heap.size ∧ SamplesAt W g 0 n f) (hb : Below W.heap.size W W') : ImgAt W' B L S a n c f :=
  ⟨hi, hc, hB, fun h0 => by
    obtain ⟨g, h1, -, h3, h4⟩ := h h0
    exact ⟨g, h1, by have := hb.size; omega, h4.below h3 hb⟩⟩
set_option maxRecDepth 20000 in
set_option maxHeartbeats 40000000 in
theorem topTwo_any (x : Scn) (w : World) (hs : x.At w) : Calls Try.prog 3 #[.agg #[.int .i64 x.L, .int .i64 x.S, .slice x.pa x.m x.pc, .slice x.ca x.mc x.cc]] w fun e w' => e = .returned (.bool true) ∧ Below w.heap.size w w' := by
  rcases (show smallB x = false ∨ smallB x = true by cases smallB x <;> simp) with hq | hq
  · have HSM := Lib.hid (fun w => lSmall x w hq)
    clear hs hq
    go_enter Try.func3, Try.ntmps3
    go_wp2_with (first | (go_at_call 9; (with_reducible refine (compressed_any _).mono ?_); rintro e w' ⟨rfl, hb⟩; obtain ⟨pp, rfl⟩ := later_of_below hb; clear hb) | (go_at_call 10; (with_reducible refine (HSM.out _).mono ?_); rintro e w' ⟨rfl, hb⟩; obtain ⟨pp2, rfl⟩ := later_of_below hb; clear hb))
    go_ret
    exact ⟨rfl, (by (repeat' (first | with_reducible exact Below.refl _ _ | (with_reducible refine below_later_of ?_ ?_ _) | (with_reducible refine Below.alloc ?_ ?_ _) | (with_reducible refine Below.setCell ?_ ?_ _) | (with_reducible refine Below.drew ?_) | (simp; done) | (simp; omega) | omega)))⟩
  · have HSM := Lib.hid (fun w => lSmall x w hq)
    obtain ⟨q1, q2⟩ := smallB_ok hq
    by_cases hl : 4 < x.L
    · have hd : decide ((4 : Int) < x.L) = true := by simpa using hl
      clear hs hq
      go_enter Try.func3, Try.ntmps3
      go_wp2_with (first | (go_at_call 9; (with_reducible refine (compressed_any _).mono ?_); rintro e w' ⟨rfl, hb⟩; obtain ⟨pp, rfl⟩ := later_of_below hb; clear hb) | (go_at_call 10; (with_reducible refine (HSM.out _).mono ?_); rintro e w' ⟨rfl, hb⟩; obtain ⟨pp2, rfl⟩ := later_of_below hb; clear hb))
      go_ret
      exact ⟨rfl, (by (repeat' (first | with_reducible exact Below.refl _ _ | (with_reducible refine below_later_of ?_ ?_ _) | (with_reducible refine Below.alloc ?_ ?_ _) | (with_reducible refine Below.setCell ?_ ?_ _) | (with_reducible refine Below.drew ?_) | (simp; done) | (simp; omega) | omega)))⟩
    · have hd : decide ((4 : Int) < x.L) = false := by simpa using hl
      have HIM := Lib.hid (show ∀ W, Below w.heap.size w W → _ from fun W hW => lImage x W (by omega) (hs.below hW))
      have HCD := Lib.hid (show ∀ W, Below w.heap.size w W → _ from fun W hW => lCode x W (by omega) (hs.below hW))
      clear hs hq
      go_enter Try.func3, Try.ntmps3
      go_wp2_with (first | (go_at_call 9; (with_reducible refine (compressed_any _).mono ?_); rintro e w' ⟨rfl, hb⟩; obtain ⟨pp, rfl⟩ := later_of_below hb; clear hb) | (go_at_call 10; (with_reducible refine (HSM.out _).mono ?_); rintro e w' ⟨rfl, hb⟩; obtain ⟨pp2, rfl⟩ := later_of_below hb; clear hb))
      refine wp_worldL (fun W => (W.cell? ⟨w.heap.size, 0, none⟩ = some (.int .i64 x.L) ∧ W.cell? ⟨w.heap.size, 1, none⟩ = some (.int .i64 x.S) ∧ W.cell? ⟨w.heap.size, 2, none⟩ = some (.slice x.pa x.m x.pc) ∧ W.cell? ⟨w.heap.size, 3, none⟩ = some (.slice x.ca x.mc x.cc)) ∧ Below w.heap.size w W ∧ w.heap.size < W.heap.size) ⟨⟨(by (first | (simp [go_sem]; done) | simp [go_sem, ↓IntWalk.iteOmega])), (by (first | (simp [go_sem]; done) | simp [go_sem, ↓IntWalk.iteOmega])), (by (first | (simp [go_sem]; done) | simp [go_sem, ↓IntWalk.iteOmega])), (by (first | (simp [go_sem]; done) | simp [go_sem, ↓IntWalk.iteOmega]))⟩, (by (repeat' (first | with_reducible exact Below.refl _ _ | (with_reducible refine below_later_of ?_ ?_ _) | (with_reducible refine Below.alloc ?_ ?_ _) | (with_reducible refine Below.setCell ?_ ?_ _) | (with_reducible refine Below.drew ?_) | (simp; done) | (simp; omega) | omega))), by simp; omega⟩ ?_
      rintro W2 ⟨⟨k0, k1, k2, k3⟩, hb2, hs2⟩
      have HIM2 := Lib.hid (show ∀ W, Below W2.heap.size W2 W → _ from fun W hW => HIM.out W (hb2.trans (hW.mono hb2.size)))
      have HCD2 := Lib.hid (show ∀ W, Below W2.heap.size W2 W → _ from fun W hW => HCD.out W (hb2.trans (hW.mono hb2.size)))
      have HB2 := Lib.hid hb2
      clear hb2
      go_cut [3, 4] from 30 to 34 (fun X Y wx => ∃ B a1 c1 a2 c2, X = .pointer (some ⟨B, 0, none⟩) ∧ Y = .slice a2 (x.mc / 2) c2 ∧ ImgAt wx B x.L x.S a1 (x.m / 2) c1 (smp x.p) ∧ CodeAt wx (x.mc / 2) (smp x.q) a2 ∧ Below W2.heap.size W2 wx)
      case first =>
        go_region_held3 (fun w' => w'.cell? ⟨w.heap.size, 0, none⟩ = some (.int .i64 x.L) ∧ w'.cell? ⟨w.heap.size, 1, none⟩ = some (.int .i64 x.S) ∧ w'.cell? ⟨w.heap.size, 2, none⟩ = some (.slice x.pa x.m x.pc) ∧ w'.cell? ⟨w.heap.size, 3, none⟩ = some (.slice x.ca x.mc x.cc)) (first | exact ⟨k0, k1, k2, k3⟩ | ((first | (simp [go_sem, k0, k1, k2, k3]; done) | simp [go_sem, k0, k1, k2, k3, ↓IntWalk.iteOmega]); done)) (first | (go_at_call 11; (with_reducible refine (HIM2.out _ (by (repeat' (first | with_reducible exact Below.refl _ _ | (with_reducible refine below_later_of ?_ ?_ _) | (with_reducible refine Below.alloc ?_ ?_ _) | (with_reducible refine Below.setCell ?_ ?_ _) | (with_reducible refine Below.drew ?_) | (simp; done) | (simp; omega) | omega)))).mono ?_); rintro e w' ⟨a1, c1, rfl, ha, hcap, hb⟩; have HA1 := Lib.hid ha; clear ha; obtain ⟨p3, rfl⟩ := later_of_below hb; clear hb) | (go_at_call 12; (with_reducible refine (HCD2.out _ (by (repeat' (first | with_reducible exact Below.refl _ _ | (with_reducible refine below_later_of ?_ ?_ _) | (with_reducible refine Below.alloc ?_ ?_ _) | (with_reducible refine Below.setCell ?_ ?_ _) | (with_reducible refine Below.drew ?_) | (simp; done) | (simp; omega) | omega)))).mono ?_); rintro e w' ⟨a2, c2, rfl, ha, hb⟩; have HA2 := Lib.hid ha; clear ha; obtain ⟨p4, rfl⟩ := later_of_below hb; clear hb))
        all_goals
          rename_i hheld
          clear hheld
          go_wp2_with fail
          go_meet
          refine ⟨_, a1, c1, a2, c2, rfl, rfl, ?_, ?_, (by (repeat' (first | with_reducible exact Below.refl _ _ | (with_reducible refine below_later_of ?_ ?_ _) | (with_reducible refine Below.alloc ?_ ?_ _) | (with_reducible refine Below.setCell ?_ ?_ _) | (with_reducible refine Below.drew ?_) | (simp; done) | (simp; omega) | omega)))⟩
          · first
              | (refine imgAt_own ⟨(by (first | (simp [go_sem]; done) | simp [go_sem, ↓IntWalk.iteOmega])), (by (first | (simp [go_sem]; done) | simp [go_sem, ↓IntWalk.iteOmega])), (by (first | (simp [go_sem]; done) | simp [go_sem, ↓IntWalk.iteOmega]))⟩ hcap (by simp <;> omega) HA1.out ?_; (repeat' (first | with_reducible exact Below.refl _ _ | (with_reducible refine below_later_of ?_ ?_ _) | (with_reducible refine Below.alloc ?_ ?_ _) | (with_reducible refine Below.setCell ?_ ?_ _) | (with_reducible refine Below.drew ?_) | (simp; done) | (simp; omega) | omega)); done)
              | (refine imgAt_own ⟨(by (first | (simp [go_sem]; done) | simp [go_sem, ↓IntWalk.iteOmega])), (by (first | (simp [go_sem]; done) | simp [go_sem, ↓IntWalk.iteOmega])), (by (first | (simp [go_sem]; done) | simp [go_sem, ↓IntWalk.iteOmega]))⟩ hcap (by simp <;> omega) (own_set (own_set (own_set (own_step HA1.out ?_) ?_ _) ?_ _) ?_ _) (Below.refl _ _) <;> first | (simp; done) | (simp; omega) | ((repeat' (first | with_reducible exact Below.refl _ _ | (with_reducible refine below_later_of ?_ ?_ _) | (with_reducible refine Below.alloc ?_ ?_ _) | (with_reducible refine Below.setCell ?_ ?_ _) | (with_reducible refine Below.drew ?_) | (simp; done) | (simp; omega) | omega)); done))
          · first
              | (refine codeAt_own HA2.out ?_; (repeat' (first | with_reducible exact Below.refl _ _ | (with_reducible refine below_later_of ?_ ?_ _) | (with_reducible refine Below.alloc ?_ ?_ _) | (with_reducible refine Below.setCell ?_ ?_ _) | (with_reducible refine Below.drew ?_) | (simp; done) | (simp; omega) | omega)); done)
              | (refine codeAt_own (own_set (own_set (own_set (own_step HA2.out ?_) ?_ _) ?_ _) ?_ _) (Below.refl _ _) <;> first | (simp; done) | (simp; omega) | ((repeat' (first | with_reducible exact Below.refl _ _ | (with_reducible refine below_later_of ?_ ?_ _) | (with_reducible refine Below.alloc ?_ ?_ _) | (with_reducible refine Below.setCell ?_ ?_ _) | (with_reducible refine Below.drew ?_) | (simp; done) | (simp; omega) | omega)); done))
      case rest =>
        obtain ⟨B1, a1, c1, a2, c2, rfl, rfl, hi1, hcd, hb⟩ := hcut
        obtain ⟨W3, hW3⟩ : ∃ W3 : World, W3 = wc := ⟨_, rfl⟩
        subst hW3
        have hs3 := hb.size
        have k0' := (hb.cell (p := ⟨w.heap.size, 0, none⟩) hs2).trans k0
        have k1' := (hb.cell (p := ⟨w.heap.size, 1, none⟩) hs2).trans k1
        have k2' := (hb.cell (p := ⟨w.heap.size, 2, none⟩) hs2).trans k2
        have k3' := (hb.cell (p := ⟨w.heap.size, 3, none⟩) hs2).trans k3
        have HIM3 := Lib.hid (show ∀ W, Below W3.heap.size W3 W → _ from fun W hW => HIM2.out W (hb.trans (hW.mono hb.size)))
        have HCD3 := Lib.hid (show ∀ W, Below W3.heap.size W3 W → _ from fun W hW => HCD2.out W (hb.trans (hW.mono hb.size)))
        have HI1 := Lib.hid hi1
        have HC1 := Lib.hid hcd
        have HB3 := Lib.hid (HB2.out.trans (hb.mono HB2.out.size))
        clear hb hi1 hcd k0 k1 k2 k3 HIM2 HCD2 HIM HCD
        go_wp2
        go_cut [5, 6] from 34 to 42 (fun X Y wx => ∃ B l s n' a c e0, X = .pointer (some ⟨B, 0, none⟩) ∧ Y = .int .i64 e0 ∧ ImgBlk wx B l s a n' c ∧ (e0 = 0 → CompOk wx 0 x.L x.S (x.m / 2) (x.mc / 2) (smp x.p) (smp x.q) l s n' a) ∧ B < wx.heap.size ∧ Below W3.heap.size W3 wx)
        case first =>
          go_region_held3 (fun w' => w'.cell? ⟨w.heap.size, 0, none⟩ = some (.int .i64 x.L) ∧ w'.cell? ⟨w.heap.size, 1, none⟩ = some (.int .i64 x.S) ∧ w'.cell? ⟨w.heap.size, 2, none⟩ = some (.slice x.pa x.m x.pc) ∧ w'.cell? ⟨w.heap.size, 3, none⟩ = some (.slice x.ca x.mc x.cc)) (first | exact ⟨k0', k1', k2', k3'⟩ | ((first | (simp [go_sem, k0', k1', k2', k3']; done) | simp [go_sem, k0', k1', k2', k3', ↓IntWalk.iteOmega]); done)) (first | (go_at_call 11; (with_reducible refine (HIM3.out _ (by (repeat' (first | with_reducible exact Below.refl _ _ | (with_reducible refine below_later_of ?_ ?_ _) | (with_reducible refine Below.alloc ?_ ?_ _) | (with_reducible refine Below.setCell ?_ ?_ _) | (with_reducible refine Below.drew ?_) | (simp; done) | (simp; omega) | omega)))).mono ?_); rintro e w' ⟨a3, c3, rfl, ha, -, hb⟩; have HA3 := Lib.hid ha; clear ha; obtain ⟨p5, rfl⟩ := later_of_below hb; clear hb) | (go_at_call 12; (with_reducible refine (HCD3.out _ (by (repeat' (first | with_reducible exact Below.refl _ _ | (with_reducible refine below_later_of ?_ ?_ _) | (with_reducible refine Below.alloc ?_ ?_ _) | (with_reducible refine Below.setCell ?_ ?_ _) | (with_reducible refine Below.drew ?_) | (simp; done) | (simp; omega) | omega)))).mono ?_); rintro e w' ⟨a4, c4, rfl, ha, hb⟩; have HA4 := Lib.hid ha; clear ha; obtain ⟨p6, rfl⟩ := later_of_below hb; clear hb) | (go_at_call 13; (with_reducible refine (compress_law x.L x.S (x.m / 2) c3 (x.mc / 2) c4 (smp x.p) (smp x.q) a3 a4 _ (by omega) (by omega) (dataAt_own HA3.out (by (repeat' (first | with_reducible exact Below.refl _ _ | (with_reducible refine below_later_of ?_ ?_ _) | (with_reducible refine Below.alloc ?_ ?_ _) | (with_reducible refine Below.setCell ?_ ?_ _) | (with_reducible refine Below.drew ?_) | (simp; done) | (simp; omega) | omega)))) (codeAt_own HA4.out (by (repeat' (first | with_reducible exact Below.refl _ _ | (with_reducible refine below_later_of ?_ ?_ _) | (with_reducible refine Below.alloc ?_ ?_ _) | (with_reducible refine Below.setCell ?_ ?_ _) | (with_reducible refine Below.drew ?_) | (simp; done) | (simp; omega) | omega))))).mono ?_); rintro e w' ⟨l5, s5, n5, a5, c5, e5, rfl, hok, hb⟩; have HOK := Lib.hid hok; clear hok; obtain ⟨p7, rfl⟩ := later_of_below hb; clear hb))
          all_goals
            rename_i hheld
            clear hheld
            go_wp2_with fail
            go_meet
            refine ⟨_, l5, s5, n5, a5, c5, e5, rfl, rfl, ⟨(by (first | (simp [go_sem]; done) | simp [go_sem, ↓IntWalk.iteOmega])), (by (first | (simp [go_sem]; done) | simp [go_sem, ↓IntWalk.iteOmega])), (by (first | (simp [go_sem]; done) | simp [go_sem, ↓IntWalk.iteOmega]))⟩, fun h => ?_, by simp <;> omega, (by (repeat' (first | with_reducible exact Below.refl _ _ | (with_reducible refine below_later_of ?_ ?_ _) | (with_reducible refine Below.alloc ?_ ?_ _) | (with_reducible refine Below.setCell ?_ ?_ _) | (with_reducible refine Below.drew ?_) | (simp; done) | (simp; omega) | omega)))⟩
            first
              | (refine ((HOK.out h).below ?_).mono (Nat.zero_le _); (repeat' (first | with_reducible exact Below.refl _ _ | (with_reducible refine below_later_of ?_ ?_ _) | (with_reducible refine Below.alloc ?_ ?_ _) | (with_reducible refine Below.setCell ?_ ?_ _) | (with_reducible refine Below.drew ?_) | (simp; done) | (simp; omega) | omega)); done)
              | (refine (CompOk.set (CompOk.set (CompOk.set (HOK.out h) ?_ _) ?_ _) ?_ _).mono (Nat.zero_le _) <;> simp <;> omega)
        case rest =>
          obtain ⟨B2, l, s, n', a5, c5, e0, rfl, rfl, hi2, hok, hB2, hb⟩ := hcut
          obtain ⟨W4, hW4⟩ : ∃ W4 : World, W4 = wc := ⟨_, rfl⟩
          subst hW4
          have HI2 := Lib.hid hi2
          have HB4 := Lib.hid (HB3.out.trans (hb.mono HB3.out.size))
          have HI1' := Lib.hid (HI1.out.below hb)
          have HC1' := Lib.hid (HC1.out.below hb)
          have hs4 := hb.size
          clear hb hi2 HB3 HI1 HC1 HIM3 HCD3 k0' k1' k2' k3'
          by_cases h0 : e0 = 0
          · subst h0
            obtain ⟨L0, S0, hL, hS, ⟨b1, b2, b3, b4, b5, b6⟩, hn, rfl, rfl, hn', hX, hU, D, hD, hDok, hFA⟩ := hok rfl
            obtain ⟨C, hC⟩ : ∃ C, x.mc / 2 = C := ⟨_, rfl⟩
            obtain ⟨n, hnn⟩ : ∃ n, x.m / 2 = n := ⟨_, rfl⟩
            rw [hC] at b3 b4 b6 hU hDok HC1' HI2 ⊢
            rw [hC] at hn'
            rw [hnn] at hn hX HI1'
            obtain ⟨SS, hSS⟩ : ∃ SS, S0 + 1 - C = SS := ⟨_, rfl⟩
            rw [hSS] at hn' hDok HI2
            have hSi : (S0 : Int) - (C : Int) + 1 = (SS : Int) := by omega
            have hc1 := HI1'.out
            rw [hL, hS] at hc1
            obtain ⟨⟨m0, m1, m2⟩, hcap, hB1, hsm⟩ := hc1
            have hnp : 0 < n := by rw [hn]; exact Nat.mul_pos b1 (by omega)
            obtain ⟨g1, rfl, hg1, hs1⟩ := hsm hnp
            obtain ⟨cb, coff, rfl, hcb, hcs⟩ := HC1'.out b3
            have hnp' : 0 < D.length := by rw [hD, hn', ← hSS]; exact Nat.mul_pos b1 (by omega)
            obtain ⟨g5, rfl, -, hg5, hd5⟩ := hFA hnp'
            obtain ⟨f0, f1, f2⟩ := HI2.out
            have hp1 : 0 ≤ (L0 : Int) * (SS : Int) := Int.mul_nonneg (by omega) (by omega)
            have hp2 : (L0 : Int) * (SS : Int) ≤ 4096 := by
              have := Int.mul_le_mul (show (L0 : Int) ≤ 64 by omega) (show (SS : Int) ≤ 64 by omega) (by omega) (by decide)
              omega
            have hlen : ((n' : Int) != (L0 : Int) * (SS : Int)) = false := by rw [hn', Int.natCast_mul]; exact bne_self_eq_false _
            have hsb : ((SS : Int) != (S0 : Int) - (C : Int) + 1) = false := by rw [hSi]; exact bne_self_eq_false _
            have HX := Lib.hid hX
            have HU := Lib.hid hU
            have HD := Lib.hid hD
            have HDOK := Lib.hid hDok
            have HD5 := Lib.hid hd5
            have HN := Lib.hid hn
            have HN' := Lib.hid hn'
            have HSS := Lib.hid hSS
            have hss64 : SS ≤ 64 := by omega
            have HS1 := Lib.hid hs1
            have HPU := Lib.hid (show ∀ W, Below W4.heap.size W4 W → ∀ b, Calls Try.prog 14 #[.slice (some ⟨cb, coff, none⟩) C c2, .bool b] W (PartPost (partF C (xB (smp x.q)) (yB (smp x.q)) b) W) from fun W hW b => parted_law C cb coff c2 _ _ _ b W (by omega) (by have := hW.size; omega) (hcs.below hcb hW) (partsOf_small (by decide) HU.out))
            clear hok hsm hs1 hcs hX hU hD hDok hd5 hFA hn hn' hSS hSi hL hS hC hnn
            go_wp2_with (first | (go_at_call 14; (with_reducible refine (HPU.out _ (by (repeat' (first | with_reducible exact Below.refl _ _ | (with_reducible refine below_later_of ?_ ?_ _) | (with_reducible refine Below.alloc ?_ ?_ _) | (with_reducible refine Below.setCell ?_ ?_ _) | (with_reducible refine Below.drew ?_) | (simp; done) | (simp; omega) | omega))) false).mono ?_); rintro e w' ⟨v7, rfl, hv, hb⟩; have HV7 := Lib.hid hv; clear hv; obtain ⟨p8, rfl⟩ := later_of_below hb; clear hb) | (go_at_call 14; (with_reducible refine (HPU.out _ (by (repeat' (first | with_reducible exact Below.refl _ _ | (with_reducible refine below_later_of ?_ ?_ _) | (with_reducible refine Below.alloc ?_ ?_ _) | (with_reducible refine Below.setCell ?_ ?_ _) | (with_reducible refine Below.drew ?_) | (simp; done) | (simp; omega) | omega))) true).mono ?_); rintro e w' ⟨v8, rfl, hv, hb⟩; have HV8 := Lib.hid hv; clear hv; obtain ⟨p9, rfl⟩ := later_of_below hb; clear hb))
            refine wp_worldL (fun W => (IntsV W v7 (rowL (partF C (xB (smp x.q)) (yB (smp x.q)) false)) ∧ IntsV W v8 (rowL (partF C (xB (smp x.q)) (yB (smp x.q)) true))) ∧ Below W4.heap.size W4 W) ⟨⟨HV7.out.below (by (repeat' (first | with_reducible exact Below.refl _ _ | (with_reducible refine below_later_of ?_ ?_ _) | (with_reducible refine Below.alloc ?_ ?_ _) | (with_reducible refine Below.setCell ?_ ?_ _) | (with_reducible refine Below.drew ?_) | (simp; done) | (simp; omega) | omega))), HV8.out⟩, (by (repeat' (first | with_reducible exact Below.refl _ _ | (with_reducible refine below_later_of ?_ ?_ _) | (with_reducible refine Below.alloc ?_ ?_ _) | (with_reducible refine Below.setCell ?_ ?_ _) | (with_reducible refine Below.drew ?_) | (simp; done) | (simp; omega) | omega)))⟩ ?_
            rintro W5 ⟨⟨hv7, hv8⟩, hb5⟩
            clear HV7 HV8
            have HV7 := Lib.hid hv7
            have HV8 := Lib.hid hv8
            have hs5 := hb5.size
            have HB5 := Lib.hid (HB4.out.trans (hb5.mono HB4.out.size))
            have HM := Lib.hid (show (W5.cell? ⟨B1, 0, none⟩ = some (.int .i64 L0) ∧ W5.cell? ⟨B1, 1, none⟩ = some (.int .i64 S0) ∧ W5.cell? ⟨B1, 2, none⟩ = some (.slice (some ⟨g1, 0, none⟩) n c1)) ∧ W5.cell? ⟨B2, 1, none⟩ = some (.int .i64 SS) ∧ W5.cell? ⟨B2, 2, none⟩ = some (.slice (some ⟨g5, 0, none⟩) n' c5) from
              ⟨⟨(hb5.cell (p := ⟨B1, 0, none⟩) hB1).trans m0, (hb5.cell (p := ⟨B1, 1, none⟩) hB1).trans m1, (hb5.cell (p := ⟨B1, 2, none⟩) hB1).trans m2⟩, (hb5.cell (p := ⟨B2, 1, none⟩) hB2).trans f1, (hb5.cell (p := ⟨B2, 2, none⟩) hB2).trans f2⟩)
            have HS5 := Lib.hid (HS1.out.below hg1 hb5)
            have HD5' := Lib.hid (show ∀ j z, D[j]? = some z → W5.cell? ⟨g5, j, none⟩ = some (.complex .f64 z.1 z.2) from fun j z hz => (hb5.cell (p := ⟨g5, j, none⟩) hg5).trans (HD5.out j z hz))
            have hg5' : g5 < W5.heap.size := by omega
            have hB1' : B1 < W5.heap.size := by omega
            have hB2' : B2 < W5.heap.size := by omega
            have hg1' : g1 < W5.heap.size := by omega
            clear hv7 hv8 hb5 m0 m1 m2 f0 f1 f2 HI2 HPU HC1' HI1' HS1 HD5 HB4 hcb
            go_loopw [9] (fun i wr => ∃ k : Nat, k ≤ L0 ∧ i = .int .i64 k ∧ Below W5.heap.size W5 wr) (fun i _ => L0 - (intOf i).toNat)
            case atStart => exact ⟨0, Nat.zero_le _, rfl, Below.refl _ _⟩
            case round =>
              obtain ⟨k, hk, rfl, hbx⟩ := hrel
              have HBX := Lib.hid hbx
              have hsx := hbx.size
              obtain ⟨⟨m0, m1, m2⟩, f1, f2⟩ := HM.out
              replace m0 := (hbx.cell (p := ⟨B1, 0, none⟩) hB1').trans m0
              replace m1 := (hbx.cell (p := ⟨B1, 1, none⟩) hB1').trans m1
              replace m2 := (hbx.cell (p := ⟨B1, 2, none⟩) hB1').trans m2
              by_cases hlt : k < L0
              · have hdk : decide (k < L0) = true := by simpa using hlt
                obtain ⟨M, hM⟩ : ∃ M, k * S0 = M := ⟨_, rfl⟩
                have hMi : (k : Int) * (S0 : Int) = (M : Int) := by rw [← hM, Int.natCast_mul]
                have hMj : ((k : Int) + 1) * (S0 : Int) = (M : Int) + (S0 : Int) := by rw [Int.add_mul, hMi, Int.one_mul]
                have hMn : M + S0 ≤ n := by
                  have h1 : (k + 1) * S0 ≤ L0 * S0 := Nat.mul_le_mul_right _ hlt
                  rw [Nat.add_mul, Nat.one_mul, hM] at h1
                  have := HN.out
                  omega
                have hn4 : n ≤ 4096 := by
                  have := HN.out
                  have h1 : L0 * S0 ≤ 64 * 64 := Nat.mul_le_mul b2 b5
                  omega
                clear hbx f1 f2
                have HMM := Lib.hid hM
                clear hM
                have HSM2 := Lib.hid (show SamplesAt W5 g1 M S0 (fun k => smp x.p (M + k)) from fun k hk => by have := HS5.out (M + k) (by omega); rwa [Nat.zero_add] at this)
                have HPO := Lib.hid (show PartsOf S0 (fun k => smp x.p (M + k)) (fun i => xB (smp x.p) (M + i)) (fun i => yB (smp x.p) (M + i)) from fun k hk => partsOf_small (by decide) HX.out (M + k) (by omega))
                have HPR := Lib.hid (show ∀ W, Below wr.heap.size wr W → ∀ b, Calls Try.prog 14 #[.slice (some ⟨g1, M, none⟩) S0 (c1 - M), .bool b] W (PartPost (partF S0 (fun i => xB (smp x.p) (M + i)) (fun i => yB (smp x.p) (M + i)) b) W) from fun W hW b =>
                  have hb5 := HBX.out.trans (hW.mono hsx)
                  parted_law S0 g1 M (c1 - M) _ _ _ b W (by omega) (by have := hb5.size; omega) (HSM2.out.below hg1' hb5) HPO.out)
                have HC7 := Lib.hid (show ∀ W, Below wr.heap.size wr W → _ from fun W hW => copy_law _ v7 W (HV7.out.below (HBX.out.trans (hW.mono hsx))))
                have HC8 := Lib.hid (show ∀ W, Below wr.heap.size wr W → _ from fun W hW => copy_law _ v8 W (HV8.out.below (HBX.out.trans (hW.mono hsx))))
                go_upto_region 17 with (first | (go_at_call 14; (with_reducible refine (HPR.out _ (by (repeat' (first | with_reducible exact Below.refl _ _ | (with_reducible refine below_later_of ?_ ?_ _) | (with_reducible refine Below.alloc ?_ ?_ _) | (with_reducible refine Below.setCell ?_ ?_ _) | (with_reducible refine Below.drew ?_) | (simp; done) | (simp; omega) | omega))) _).mono ?_); rintro e w' ⟨vr, rfl, hv, hb⟩; have HVR := Lib.hid hv; clear hv; obtain ⟨q8, rfl⟩ := later_of_below hb; clear hb) | (go_at_call 16; (with_reducible refine (HC7.out _ (by (repeat' (first | with_reducible exact Below.refl _ _ | (with_reducible refine below_later_of ?_ ?_ _) | (with_reducible refine Below.alloc ?_ ?_ _) | (with_reducible refine Below.setCell ?_ ?_ _) | (with_reducible refine Below.drew ?_) | (simp; done) | (simp; omega) | omega)))).mono ?_); rintro e w' ⟨vc, rfl, hv, hb⟩; have HVC := Lib.hid hv; clear hv; obtain ⟨q9, rfl⟩ := later_of_below hb; clear hb) | (go_at_call 16; (with_reducible refine (HC8.out _ (by (repeat' (first | with_reducible exact Below.refl _ _ | (with_reducible refine below_later_of ?_ ?_ _) | (with_reducible refine Below.alloc ?_ ?_ _) | (with_reducible refine Below.setCell ?_ ?_ _) | (with_reducible refine Below.drew ?_) | (simp; done) | (simp; omega) | omega)))).mono ?_); rintro e w' ⟨vc, rfl, hv, hb⟩; have HVC := Lib.hid hv; clear hv; obtain ⟨q9, rfl⟩ := later_of_below hb; clear hb) | (go_at_call 15; (with_reducible refine (corr_law _ _ _ _ _ (HVR.out.below (by (repeat' (first | with_reducible exact Below.refl _ _ | (with_reducible refine below_later_of ?_ ?_ _) | (with_reducible refine Below.alloc ?_ ?_ _) | (with_reducible refine Below.setCell ?_ ?_ _) | (with_reducible refine Below.drew ?_) | (simp; done) | (simp; omega) | omega)))) (HVC.out.below (by (repeat' (first | with_reducible exact Below.refl _ _ | (with_reducible refine below_later_of ?_ ?_ _) | (with_reducible refine Below.alloc ?_ ?_ _) | (with_reducible refine Below.setCell ?_ ?_ _) | (with_reducible refine Below.drew ?_) | (simp; done) | (simp; omega) | omega)))) (partF_bd _ _ _ _) (partF_bd _ _ _ _)).mono ?_); rintro e w' ⟨ga, ea, rfl, hi, hb⟩; have HGa := Lib.hid hi; clear hi HVR HVC; obtain ⟨ra, rfl⟩ := later_of_below hb; clear hb))
                go_upto_region 18 with (first | (go_at_call 14; (with_reducible refine (HPR.out _ (by (repeat' (first | with_reducible exact Below.refl _ _ | (with_reducible refine below_later_of ?_ ?_ _) | (with_reducible refine Below.alloc ?_ ?_ _) | (with_reducible refine Below.setCell ?_ ?_ _) | (with_reducible refine Below.drew ?_) | (simp; done) | (simp; omega) | omega))) _).mono ?_); rintro e w' ⟨vr, rfl, hv, hb⟩; have HVR := Lib.hid hv; clear hv; obtain ⟨q8, rfl⟩ := later_of_below hb; clear hb) | (go_at_call 16; (with_reducible refine (HC7.out _ (by (repeat' (first | with_reducible exact Below.refl _ _ | (with_reducible refine below_later_of ?_ ?_ _) | (with_reducible refine Below.alloc ?_ ?_ _) | (with_reducible refine Below.setCell ?_ ?_ _) | (with_reducible refine Below.drew ?_) | (simp; done) | (simp; omega) | omega)))).mono ?_); rintro e w' ⟨vc, rfl, hv, hb⟩; have HVC := Lib.hid hv; clear hv; obtain ⟨q9, rfl⟩ := later_of_below hb; clear hb) | (go_at_call 16; (with_reducible refine (HC8.out _ (by (repeat' (first | with_reducible exact Below.refl _ _ | (with_reducible refine below_later_of ?_ ?_ _) | (with_reducible refine Below.alloc ?_ ?_ _) | (with_reducible refine Below.setCell ?_ ?_ _) | (with_reducible refine Below.drew ?_) | (simp; done) | (simp; omega) | omega)))).mono ?_); rintro e w' ⟨vc, rfl, hv, hb⟩; have HVC := Lib.hid hv; clear hv; obtain ⟨q9, rfl⟩ := later_of_below hb; clear hb) | (go_at_call 15; (with_reducible refine (corr_law _ _ _ _ _ (HVR.out.below (by (repeat' (first | with_reducible exact Below.refl _ _ | (with_reducible refine below_later_of ?_ ?_ _) | (with_reducible refine Below.alloc ?_ ?_ _) | (with_reducible refine Below.setCell ?_ ?_ _) | (with_reducible refine Below.drew ?_) | (simp; done) | (simp; omega) | omega)))) (HVC.out.below (by (repeat' (first | with_reducible exact Below.refl _ _ | (with_reducible refine below_later_of ?_ ?_ _) | (with_reducible refine Below.alloc ?_ ?_ _) | (with_reducible refine Below.setCell ?_ ?_ _) | (with_reducible refine Below.drew ?_) | (simp; done) | (simp; omega) | omega)))) (partF_bd _ _ _ _) (partF_bd _ _ _ _)).mono ?_); rintro e w' ⟨gb, eb, rfl, hi, hb⟩; have HGb := Lib.hid hi; clear hi HVR HVC; obtain ⟨rb, rfl⟩ := later_of_below hb; clear hb))
                go_upto_region 19 with (first | (go_at_call 14; (with_reducible refine (HPR.out _ (by (repeat' (first | with_reducible exact Below.refl _ _ | (with_reducible refine below_later_of ?_ ?_ _) | (with_reducible refine Below.alloc ?_ ?_ _) | (with_reducible refine Below.setCell ?_ ?_ _) | (with_reducible refine Below.drew ?_) | (simp; done) | (simp; omega) | omega))) _).mono ?_); rintro e w' ⟨vr, rfl, hv, hb⟩; have HVR := Lib.hid hv; clear hv; obtain ⟨q8, rfl⟩ := later_of_below hb; clear hb) | (go_at_call 16; (with_reducible refine (HC7.out _ (by (repeat' (first | with_reducible exact Below.refl _ _ | (with_reducible refine below_later_of ?_ ?_ _) | (with_reducible refine Below.alloc ?_ ?_ _) | (with_reducible refine Below.setCell ?_ ?_ _) | (with_reducible refine Below.drew ?_) | (simp; done) | (simp; omega) | omega)))).mono ?_); rintro e w' ⟨vc, rfl, hv, hb⟩; have HVC := Lib.hid hv; clear hv; obtain ⟨q9, rfl⟩ := later_of_below hb; clear hb) | (go_at_call 16; (with_reducible refine (HC8.out _ (by (repeat' (first | with_reducible exact Below.refl _ _ | (with_reducible refine below_later_of ?_ ?_ _) | (with_reducible refine Below.alloc ?_ ?_ _) | (with_reducible refine Below.setCell ?_ ?_ _) | (with_reducible refine Below.drew ?_) | (simp; done) | (simp; omega) | omega)))).mono ?_); rintro e w' ⟨vc, rfl, hv, hb⟩; have HVC := Lib.hid hv; clear hv; obtain ⟨q9, rfl⟩ := later_of_below hb; clear hb) | (go_at_call 15; (with_reducible refine (corr_law _ _ _ _ _ (HVR.out.below (by (repeat' (first | with_reducible exact Below.refl _ _ | (with_reducible refine below_later_of ?_ ?_ _) | (with_reducible refine Below.alloc ?_ ?_ _) | (with_reducible refine Below.setCell ?_ ?_ _) | (with_reducible refine Below.drew ?_) | (simp; done) | (simp; omega) | omega)))) (HVC.out.below (by (repeat' (first | with_reducible exact Below.refl _ _ | (with_reducible refine below_later_of ?_ ?_ _) | (with_reducible refine Below.alloc ?_ ?_ _) | (with_reducible refine Below.setCell ?_ ?_ _) | (with_reducible refine Below.drew ?_) | (simp; done) | (simp; omega) | omega)))) (partF_bd _ _ _ _) (partF_bd _ _ _ _)).mono ?_); rintro e w' ⟨gc, ec, rfl, hi, hb⟩; have HGc := Lib.hid hi; clear hi HVR HVC; obtain ⟨rc, rfl⟩ := later_of_below hb; clear hb))
                go_upto_region 20 with (first | (go_at_call 14; (with_reducible refine (HPR.out _ (by (repeat' (first | with_reducible exact Below.refl _ _ | (with_reducible refine below_later_of ?_ ?_ _) | (with_reducible refine Below.alloc ?_ ?_ _) | (with_reducible refine Below.setCell ?_ ?_ _) | (with_reducible refine Below.drew ?_) | (simp; done) | (simp; omega) | omega))) _).mono ?_); rintro e w' ⟨vr, rfl, hv, hb⟩; have HVR := Lib.hid hv; clear hv; obtain ⟨q8, rfl⟩ := later_of_below hb; clear hb) | (go_at_call 16; (with_reducible refine (HC7.out _ (by (repeat' (first | with_reducible exact Below.refl _ _ | (with_reducible refine below_later_of ?_ ?_ _) | (with_reducible refine Below.alloc ?_ ?_ _) | (with_reducible refine Below.setCell ?_ ?_ _) | (with_reducible refine Below.drew ?_) | (simp; done) | (simp; omega) | omega)))).mono ?_); rintro e w' ⟨vc, rfl, hv, hb⟩; have HVC := Lib.hid hv; clear hv; obtain ⟨q9, rfl⟩ := later_of_below hb; clear hb) | (go_at_call 16; (with_reducible refine (HC8.out _ (by (repeat' (first | with_reducible exact Below.refl _ _ | (with_reducible refine below_later_of ?_ ?_ _) | (with_reducible refine Below.alloc ?_ ?_ _) | (with_reducible refine Below.setCell ?_ ?_ _) | (with_reducible refine Below.drew ?_) | (simp; done) | (simp; omega) | omega)))).mono ?_); rintro e w' ⟨vc, rfl, hv, hb⟩; have HVC := Lib.hid hv; clear hv; obtain ⟨q9, rfl⟩ := later_of_below hb; clear hb) | (go_at_call 15; (with_reducible refine (corr_law _ _ _ _ _ (HVR.out.below (by (repeat' (first | with_reducible exact Below.refl _ _ | (with_reducible refine below_later_of ?_ ?_ _) | (with_reducible refine Below.alloc ?_ ?_ _) | (with_reducible refine Below.setCell ?_ ?_ _) | (with_reducible refine Below.drew ?_) | (simp; done) | (simp; omega) | omega)))) (HVC.out.below (by (repeat' (first | with_reducible exact Below.refl _ _ | (with_reducible refine below_later_of ?_ ?_ _) | (with_reducible refine Below.alloc ?_ ?_ _) | (with_reducible refine Below.setCell ?_ ?_ _) | (with_reducible refine Below.drew ?_) | (simp; done) | (simp; omega) | omega)))) (partF_bd _ _ _ _) (partF_bd _ _ _ _)).mono ?_); rintro e w' ⟨gd, ed, rfl, hi, hb⟩; have HGd := Lib.hid hi; clear hi HVR HVC; obtain ⟨rd, rfl⟩ := later_of_below hb; clear hb))
                go_wp2
                refine wp_worldL (fun W => (IntsAtF W ga 128 (corP S0 C (fun i => xB (smp x.p) (M + i)) (fun i => yB (smp x.p) (M + i)) (xB (smp x.q)) (yB (smp x.q)) false false) ∧ IntsAtF W gb 128 (corP S0 C (fun i => xB (smp x.p) (M + i)) (fun i => yB (smp x.p) (M + i)) (xB (smp x.q)) (yB (smp x.q)) true true) ∧
                  IntsAtF W gc 128 (corP S0 C (fun i => xB (smp x.p) (M + i)) (fun i => yB (smp x.p) (M + i)) (xB (smp x.q)) (yB (smp x.q)) true false) ∧ IntsAtF W gd 128 (corP S0 C (fun i => xB (smp x.p) (M + i)) (fun i => yB (smp x.p) (M + i)) (xB (smp x.q)) (yB (smp x.q)) false true)) ∧ Below wr.heap.size wr W)
                  ⟨⟨HGa.out.below (by (repeat' (first | with_reducible exact Below.refl _ _ | (with_reducible refine below_later_of ?_ ?_ _) | (with_reducible refine Below.alloc ?_ ?_ _) | (with_reducible refine Below.setCell ?_ ?_ _) | (with_reducible refine Below.drew ?_) | (simp; done) | (simp; omega) | omega))), HGb.out.below (by (repeat' (first | with_reducible exact Below.refl _ _ | (with_reducible refine below_later_of ?_ ?_ _) | (with_reducible refine Below.alloc ?_ ?_ _) | (with_reducible refine Below.setCell ?_ ?_ _) | (with_reducible refine Below.drew ?_) | (simp; done) | (simp; omega) | omega))), HGc.out.below (by (repeat' (first | with_reducible exact Below.refl _ _ | (with_reducible refine below_later_of ?_ ?_ _) | (with_reducible refine Below.alloc ?_ ?_ _) | (with_reducible refine Below.setCell ?_ ?_ _) | (with_reducible refine Below.drew ?_) | (simp; done) | (simp; omega) | omega))), HGd.out⟩, (by (repeat' (first | with_reducible exact Below.refl _ _ | (with_reducible refine below_later_of ?_ ?_ _) | (with_reducible refine Below.alloc ?_ ?_ _) | (with_reducible refine Below.setCell ?_ ?_ _) | (with_reducible refine Below.drew ?_) | (simp; done) | (simp; omega) | omega)))⟩ ?_
                rintro W6 ⟨⟨ia, ib, ic, id'⟩, hb6⟩
                have HI6 := Lib.hid (And.intro ia (And.intro ib (And.intro ic id')))
                have HB6 := Lib.hid (HBX.out.trans (hb6.mono hsx))
                have hs6 := hb6.size
                clear ia ib ic id' hb6 m0 m1 m2 HGa HGb HGc HGd HPR HC7 HC8 HSM2 HPO
                go_loopw [19] (fun i wz => ∃ s : Nat, s ≤ SS ∧ i = .int .i64 s ∧ Below W6.heap.size W6 wz) (fun i _ => SS - (intOf i).toNat)
                case atStart => exact ⟨0, Nat.zero_le _, rfl, Below.refl _ _⟩
                case round =>
                  obtain ⟨s, hs, rfl, hbz⟩ := hrel
                  have HBZ := Lib.hid hbz
                  have hsz := hbz.size
                  have hb5z := HB6.out.trans (hbz.mono (by omega))
                  have f1' := (hb5z.cell (p := ⟨B2, 1, none⟩) hB2').trans HM.out.2.1
                  by_cases hls : s < SS
                  · have hds : decide (s < SS) = true := by simpa using hls
                    have f2' := (hb5z.cell (p := ⟨B2, 2, none⟩) hB2').trans HM.out.2.2
                    obtain ⟨N, hN⟩ : ∃ N, k * SS = N := ⟨_, rfl⟩
                    have hNi : (k : Int) * (SS : Int) = (N : Int) := by rw [← hN, Int.natCast_mul]
                    have hNn : N + s < n' := by
                      have h1 : (k + 1) * SS ≤ L0 * SS := Nat.mul_le_mul_right _ hlt
                      rw [Nat.add_mul, Nat.one_mul, hN] at h1
                      have := HN'.out
                      omega
                    have hn5 : n' ≤ 4096 := by
                      have := HN'.out
                      have h1 : L0 * SS ≤ 64 * 64 := Nat.mul_le_mul b2 (by have := HSS.out; omega)
                      omega
                    have hDj : D[N + s]? = some (D.getD (N + s) (0, 0)) := by
                      have := HD.out
                      simp [show N + s < D.length by omega]
                    have hbn := HDOK.out _ _ hDj
                    have cz := (hb5z.cell (p := ⟨g5, N + s, none⟩) hg5').trans (HD5'.out _ _ hDj)
                    have e1 : (N + s) / SS = k := by rw [← hN, Nat.mul_comm, Nat.mul_add_div (by omega), Nat.div_eq_of_lt hls, Nat.add_zero]
                    have e2 : (N + s) % SS = s := by rw [← hN, Nat.mul_comm, Nat.mul_add_mod, Nat.mod_eq_of_lt hls]
                    rw [e1, e2, HMM.out] at hbn
                    obtain ⟨⟨la, ia⟩, ⟨lb, ib⟩, ⟨lc, ic⟩, ⟨ld, id'⟩⟩ := HI6.out
                    have ca := (hbz.cell (p := ⟨ga, s, none⟩) la).trans (ia s (by omega))
                    have cb' := (hbz.cell (p := ⟨gb, s, none⟩) lb).trans (ib s (by omega))
                    have cc := (hbz.cell (p := ⟨gc, s, none⟩) lc).trans (ic s (by omega))
                    have cd := (hbz.cell (p := ⟨gd, s, none⟩) ld).trans (id' s (by omega))
                    have hre := line_re (fun i => xB (smp x.p) (M + i)) (fun i => yB (smp x.p) (M + i)) (xB (smp x.q)) (yB (smp x.q)) (n := S0) (C := C) (s := s) (by have := HSS.out; omega) (by omega) (xB (smp x.p)) (yB (smp x.p)) M (fun _ => rfl) (fun _ => rfl) (reP_bd HX.out HU.out (by have := HSS.out; omega) (Nat.le_refl _) (by omega)).1
                    have him := line_im (fun i => xB (smp x.p) (M + i)) (fun i => yB (smp x.p) (M + i)) (xB (smp x.q)) (yB (smp x.q)) (n := S0) (C := C) (s := s) (by have := HSS.out; omega) (by omega) (xB (smp x.p)) (yB (smp x.p)) M (fun _ => rfl) (fun _ => rfl) (reP_bd HX.out HU.out (by have := HSS.out; omega) (Nat.le_refl _) (by omega)).2
                    obtain ⟨a0, a1⟩ := corP_bd S0 C (fun i => xB (smp x.p) (M + i)) (fun i => yB (smp x.p) (M + i)) (xB (smp x.q)) (yB (smp x.q)) false false s
                    obtain ⟨b0, b1'⟩ := corP_bd S0 C (fun i => xB (smp x.p) (M + i)) (fun i => yB (smp x.p) (M + i)) (xB (smp x.q)) (yB (smp x.q)) true true s
                    obtain ⟨c0, c1'⟩ := corP_bd S0 C (fun i => xB (smp x.p) (M + i)) (fun i => yB (smp x.p) (M + i)) (xB (smp x.q)) (yB (smp x.q)) true false s
                    obtain ⟨d0, d1⟩ := corP_bd S0 C (fun i => xB (smp x.p) (M + i)) (fun i => yB (smp x.p) (M + i)) (xB (smp x.q)) (yB (smp x.q)) false true s
                    generalize corP S0 C (fun i => xB (smp x.p) (M + i)) (fun i => yB (smp x.p) (M + i)) (xB (smp x.q)) (yB (smp x.q)) false false s = av at ca hre a0 a1
                    generalize corP S0 C (fun i => xB (smp x.p) (M + i)) (fun i => yB (smp x.p) (M + i)) (xB (smp x.q)) (yB (smp x.q)) true true s = bv at cb' hre b0 b1'
                    generalize corP S0 C (fun i => xB (smp x.p) (M + i)) (fun i => yB (smp x.p) (M + i)) (xB (smp x.q)) (yB (smp x.q)) true false s = cv at cc him c0 c1'
                    generalize corP S0 C (fun i => xB (smp x.p) (M + i)) (fun i => yB (smp x.p) (M + i)) (xB (smp x.q)) (yB (smp x.q)) false true s = dv at cd him d0 d1
                    rw [← hre, ← him] at hbn
                    have HG1 := Lib.hid (fun W => signed_any (av + bv) W (by omega) (by omega))
                    have HG2 := Lib.hid (fun W => signed_any (cv - dv) W (by omega) (by omega))
                    generalize D.getD (N + s) (0, 0) = z at cz hbn
                    obtain ⟨z1, z2⟩ := z
                    generalize signedP (av + bv) = u1 at hbn HG1
                    generalize signedP (cv - dv) = u2 at hbn HG2
                    have HSU := Lib.hid (show ∀ W, Calls Try.prog 17 #[.int .i64 u1, .int .i64 u2] W fun e w' => e = .returned (.complex .f64 z1 z2) ∧ W = w' from fun W => by
                      have := bSum u1 u2 W
                      rwa [← hbn.re, ← hbn.im] at this)
                    have o1 : (FloatKind.f64.format.order z1 z1 == some Ordering.eq) = true := by
                      rw [show FloatKind.f64.format.order z1 z1 = some (compare u1 u1) from order_num _ hbn.cnum.re hbn.cnum.re, beq_eq_iff]; simp
                    have o2 : (FloatKind.f64.format.order z2 z2 == some Ordering.eq) = true := by
                      rw [show FloatKind.f64.format.order z2 z2 = some (compare u2 u2) from order_num _ hbn.cnum.im hbn.cnum.im, beq_eq_iff]; simp
                    dsimp only at cz
                    have hgz : g5 < wr.heap.size := by have := hb5z.size; omega
                    have hBz : B2 < wr.heap.size := by have := hb5z.size; omega
                    have hga : ga < wr.heap.size := by omega
                    have hgb : gb < wr.heap.size := by omega
                    have hgc : gc < wr.heap.size := by omega
                    have hgd : gd < wr.heap.size := by omega
                    have hN4 : N + s ≤ 4096 := by omega
                    clear hbz hb5z hDj hbn e1 e2 ia ib ic id' la lb lc ld hre him hN
                    go_wp2
                    refine wp_region_calm (by kernel_rfl) (by kernel_rfl) ?_
                    repeat (go_big_quiet_step (first | (go_at_call 18; exact calm_same (HG1.out _)) | (go_at_call 18; exact calm_same (HG2.out _)) | (go_at_call 17; exact calm_same (HSU.out _))))
                    refine wpQuiet_nil ?_
                    rintro _ ⟨pz, rfl⟩
                    go_wp2
                    go_roundw
                    case rel => exact ⟨s + 1, by omega, by go_num, HBZ.out.trans (below_mono_of hsz (by (repeat' (first | with_reducible exact Below.refl _ _ | (with_reducible refine below_later_of ?_ ?_ _) | (with_reducible refine Below.alloc ?_ ?_ _) | (with_reducible refine Below.setCell ?_ ?_ _) | (with_reducible refine Below.drew ?_) | (simp; done) | (simp; omega) | omega))))⟩
                    case measure => simp [intOf]; omega
                  · obtain rfl : s = SS := by omega
                    have hds : decide (s < s) = false := by simp
                    clear hbz hb5z
                    go_wp2
                    go_roundw
                    case rel => exact ⟨k + 1, by omega, by go_num, HB6.out.trans (HBZ.out.mono (by omega))⟩
                    case measure => simp [intOf]; omega
              · obtain rfl : k = L0 := by omega
                have hdk : decide (k < k) = false := by simp
                clear hbx f1 f2
                go_wp2
                go_ret
                exact ⟨rfl, HB5.out.trans (HBX.out.mono HB5.out.size)⟩
          · have hne : (e0 != 0) = true := by simpa using h0
            clear hok h0
            go_wp2
            go_ret
            exact ⟨rfl, HB4.out.trans (by (repeat' (first | with_reducible exact Below.refl _ _ | (with_reducible refine below_later_of ?_ ?_ _) | (with_reducible refine Below.alloc ?_ ?_ _) | (with_reducible refine Below.setCell ?_ ?_ _) | (with_reducible refine Below.drew ?_) | (simp; done) | (simp; omega) | omega)))⟩
end Go.Proofs.Ytelchmimhnpkaaa
