/- Chapter 1: the reference's Shifted. -/
import Derived.Test.YtakohhlmomgegaaDoorU97
import Derived.Test.YtakohhlmomgegaaDoorU90
import Derived.Test.YtakohhlmomgegaaDoorU63
import Derived.Deep.AppendLies
import Derived.Deep.RegionLaw
namespace Go.Proofs.YtakohhlmomgegaaDoor
set_option linter.unusedVariables false
set_option linter.unusedSimpArgs false
open Go.RowKit Ntt
theorem wp_worldW98 {P : Program} {c : Code} {Q : Exit → Act → World → Prop} {a : Act} {w : World} (F : World → Prop) (hf : F w) (h : ∀ W, F W → Code.wp P c Q a W) : Code.wp P c Q a w := h w hf
theorem shX_bd {f : Nat → Nat × Nat} {n : Nat} (hsf : SmallS n f (xB f) (yB f) 2047) {L S l s : Nat} {p q : Int} (hn : n = L * S) : (-2047 ≤ (shX f L S p q l s).1 ∧ (shX f L S p q l s).1 ≤ 2047) ∧ -2047 ≤ (shX f L S p q l s).2 ∧ (shX f L S p q l s).2 ≤ 2047 := by
  unfold shX
  split
  case isTrue h =>
    rw [Bool.and_eq_true] at h
    obtain ⟨t1, t2⟩ := inE_iff.1 h.1
    obtain ⟨t3, t4⟩ := inE_iff.1 h.2
    generalize (l : Int) - p = x at t1 t2 ⊢
    generalize (s : Int) - q = y at t3 t4 ⊢
    obtain ⟨X, rfl⟩ := Int.eq_ofNat_of_zero_le t1
    obtain ⟨Y, rfl⟩ := Int.eq_ofNat_of_zero_le t3
    have h3 : (X + 1) * S ≤ L * S := Nat.mul_le_mul_right _ (by omega)
    rw [Nat.add_mul, Nat.one_mul] at h3
    rw [show ((X : Int) * (S : Int) + (Y : Int)).toNat = X * S + Y by rw [← Int.natCast_mul, ← Int.natCast_add, Int.toNat_natCast]]
    obtain ⟨-, h4, h5⟩ := hsf (X * S + Y) (by omega)
    exact ⟨h4, h5⟩
  case isFalse => exact ⟨by decide, by decide⟩
set_option maxRecDepth 20000 in
set_option maxHeartbeats 4000000 in
theorem rShifted (L S : Nat) (b off n cap : Nat) (f : Nat → Nat × Nat) (p q : Int) (w : World) (hL1 : 1 ≤ L) (hL : L ≤ 64) (hS1 : 1 ≤ S) (hS : S ≤ 64) (hn : n = L * S) (hbw : b < w.heap.size) (hf : SamplesAt w b off n f) (hsf : SmallS n f (xB f) (yB f) 2047) (hp : -64 ≤ p ∧ p ≤ 64) (hq : -64 ≤ q ∧ q ≤ 64) :
    Calls Tryd.prog 68 #[.agg #[.int .i64 L, .int .i64 S, .slice (some ⟨b, off, none⟩) n cap], .agg #[.int .i64 p, .int .i64 q]] w fun e w' =>
      ∃ a c, e = .returned (.agg #[.int .i64 L, .int .i64 S, .slice a n c]) ∧ OwnC w' w.heap.size n (shB f L S p q) a ∧ n ≤ c ∧ Below w.heap.size w w' := by
  obtain ⟨i0, hi0, hz0, hz1, hz2⟩ := info_parts infoC32
  obtain ⟨hp1, hp2⟩ := hp
  obtain ⟨hq1, hq2⟩ := hq
  have HF := Lib.hid hf
  have HSF := Lib.hid hsf
  have HN := Lib.hid hn
  obtain ⟨G, hG⟩ : ∃ G, shB f L S p q = G := ⟨_, rfl⟩
  have HGG := Lib.hid (show ∀ l s, s < S → G (l * S + s) = smpI (shX f L S p q l s).1 (shX f L S p q l s).2 from fun l s hs => by
    rw [← hG]
    unfold shB
    rw [Nat.mul_comm l S, Nat.mul_add_div (by omega), Nat.div_eq_of_lt hs, Nat.mul_add_mod, Nat.mod_eq_of_lt hs, Nat.add_zero])
  have HBD := Lib.hid (fun l s => shX_bd (l := l) (s := s) (p := p) (q := q) hsf hn)
  rw [hG]
  clear hf hsf hn hG
  go_enter Tryd.func68, Tryd.ntmps68
  go_wp2
  refine wp_worldW98 (fun W => ∃ W1, Below w.heap.size w W1 ∧ W1.heap.size = w.heap.size + 2 ∧ (W1.cell? ⟨w.heap.size, 0, none⟩ = some (.int .i64 L) ∧ W1.cell? ⟨w.heap.size, 1, none⟩ = some (.int .i64 S) ∧ W1.cell? ⟨w.heap.size, 2, none⟩ = some (.slice (some ⟨b, off, none⟩) n cap)) ∧ (W1.cell? ⟨w.heap.size + 1, 0, none⟩ = some (.int .i64 p) ∧ W1.cell? ⟨w.heap.size + 1, 1, none⟩ = some (.int .i64 q)) ∧ TriSt W1 (w.heap.size + 2) (w.heap.size + 3) L S 63 (.slice none 0 0) (csF G 0) W)
    ⟨(w.alloc (.cells #[.int .i64 L, .int .i64 S, .slice (some ⟨b, off, none⟩) n cap] 38)).alloc (.cells #[.int .i64 p, .int .i64 q] 66), (by (repeat' (first | with_reducible exact Below.refl _ _ | (with_reducible refine below_later_of ?_ ?_ _) | (with_reducible refine Below.alloc ?_ ?_ _) | (with_reducible refine Below.setCell ?_ ?_ _) | (with_reducible refine Below.drew ?_) | (simp; done) | (simp; omega) | omega))), by simp, ⟨by simp [go_sem], by simp [go_sem], by simp [go_sem]⟩, ⟨by simp [go_sem], by simp [go_sem]⟩, by simp [go_sem], by simp [go_sem], by simp [go_sem], by simp [go_sem], by simp [go_sem], by simp [go_sem], by simp [go_sem], by simp [go_sem], by simp [go_sem], by simp [go_sem], World.ownsRow_nil _ _ _ _, (by (repeat' (first | with_reducible exact Below.refl _ _ | (with_reducible refine below_later_of ?_ ?_ _) | (with_reducible refine Below.alloc ?_ ?_ _) | (with_reducible refine Below.setCell ?_ ?_ _) | (with_reducible refine Below.drew ?_) | (simp; done) | (simp; omega) | omega))), by simp, by omega⟩ ?_
  rintro W2 ⟨W1, hb1, hsz1, ⟨a0, a1, a2⟩, ⟨b0, b1⟩, hst⟩
  have HST := Lib.hid hst
  have HB1 := Lib.hid hb1
  have HA := Lib.hid (And.intro a0 (And.intro a1 (And.intro a2 (And.intro b0 b1))))
  have hW2 := hst.bel.size
  clear hst hb1 a0 a1 a2 b0 b1
  go_loopw [6] (fun i wr => ∃ (l : Nat) (v : Value), l ≤ L ∧ i = .int .i64 l ∧ TriSt W1 (w.heap.size + 2) (w.heap.size + 3) L S 63 v (csF G (l * S)) wr) (fun i _ => L - (intOf i).toNat)
  case atStart => exact ⟨0, _, Nat.zero_le _, rfl, by rw [Nat.zero_mul]; exact HST.out⟩
  case round =>
    obtain ⟨l, v, hl, rfl, hst⟩ := hrel
    have HS1 := Lib.hid hst
    have x0 := (hst.bel.cell (p := ⟨w.heap.size, 0, none⟩) (show w.heap.size < w.heap.size + 2 by omega)).trans HA.out.1
    by_cases hlt : l < L
    · have hdl : decide ((l : Int) < (L : Int)) = true := by simp; omega
      clear hst
      go_wp2
      go_loopw [7] (fun i wr => ∃ (s : Nat) (v : Value), s ≤ S ∧ i = .int .i64 s ∧ TriSt W1 (w.heap.size + 2) (w.heap.size + 3) L S 63 v (csF G (l * S + s)) wr) (fun i _ => S - (intOf i).toNat)
      case atStart => exact ⟨0, v, Nat.zero_le _, rfl, HS1.out⟩
      case round =>
        clear x0
        obtain ⟨s, v, hs, rfl, hst⟩ := hrel
        have HS2 := Lib.hid hst
        have x0 := (hst.bel.cell (p := ⟨w.heap.size, 0, none⟩) (show w.heap.size < w.heap.size + 2 by omega)).trans HA.out.1
        have x1 := (hst.bel.cell (p := ⟨w.heap.size, 1, none⟩) (show w.heap.size < w.heap.size + 2 by omega)).trans HA.out.2.1
        have x2 := (hst.bel.cell (p := ⟨w.heap.size, 2, none⟩) (show w.heap.size < w.heap.size + 2 by omega)).trans HA.out.2.2.1
        have y0 := (hst.bel.cell (p := ⟨w.heap.size + 1, 0, none⟩) (show w.heap.size + 1 < w.heap.size + 2 by omega)).trans HA.out.2.2.2.1
        have y1 := (hst.bel.cell (p := ⟨w.heap.size + 1, 1, none⟩) (show w.heap.size + 1 < w.heap.size + 2 by omega)).trans HA.out.2.2.2.2
        by_cases hst2 : s < S
        · have hds : decide ((s : Int) < (S : Int)) = true := by simp; omega
          have HCW := Lib.hid (show ∀ j, j < n → wr.cell? ⟨b, off + j, none⟩ = some (.complex .f32 (f j).1 (f j).2) from fun j hj => (hst.bel.cell (p := ⟨b, off + j, none⟩) (show b < w.heap.size + 2 by omega)).trans ((HB1.out.cell (p := ⟨b, off + j, none⟩) hbw).trans (HF.out j hj)))
          have hltO := hst.lt
          have hg0 := HGG.out l s hst2
          have hb0 := HBD.out l s
          obtain ⟨r, hr⟩ : ∃ r, shX f L S p q l s = r := ⟨_, rfl⟩
          rw [hr] at hg0 hb0
          have HG0 := Lib.hid hg0
          have HB0 := Lib.hid hb0
          have HR := Lib.hid hr
          clear hst hg0 hb0 hr
          obtain ⟨x, hx⟩ : ∃ x : Int, (l : Int) - p = x := ⟨_, rfl⟩
          obtain ⟨y, hy⟩ : ∃ y : Int, (s : Int) - q = y := ⟨_, rfl⟩
          have hx1 : -128 ≤ x := by omega
          have hx2 : x ≤ 128 := by omega
          have hy1 : -128 ≤ y := by omega
          have hy2 : y ≤ 128 := by omega
          have HE := Lib.hid (show r = if inE 0 ((L : Int) - 1) x && inE 0 ((S : Int) - 1) y then (xB f (x * S + y).toNat, yB f (x * S + y).toNat) else (0, 0) by rw [← HR.out]; unfold shX; rw [hx, hy])
          rcases (show inE 0 ((L : Int) - 1) x = false ∨ inE 0 ((L : Int) - 1) x = true by cases inE 0 ((L : Int) - 1) x <;> simp) with i1 | i1
          · have H1 := Lib.hid (fun w => bWithin _ _ _ w i1)
            obtain rfl : r = (0, 0) := by rw [HE.out, i1]; rfl
            clear i1
            go_wp2_with (first | (go_at_call 30; (with_reducible refine (H1.out _).mono ?_); rintro e w' ⟨rfl, rfl⟩))
            refine wp_worldW98 (fun W => TriSt W1 (w.heap.size + 2) (w.heap.size + 3) L S 63 v (csF G (l * S + s)) W) (HS2.out.below (by (repeat' (first | with_reducible exact Below.refl _ _ | (with_reducible refine below_later_of ?_ ?_ _) | (with_reducible refine Below.alloc ?_ ?_ _) | (with_reducible refine Below.setCell ?_ ?_ _) | (with_reducible refine Below.drew ?_) | (simp; done) | (simp; omega) | omega)))) ?_
            rintro W4 hst4
            have HS4 := Lib.hid hst4
            have hltO4 := hst4.lt
            have c2 := hst4.c2
            have f2 := hst4.f2
            have hg := HG0.out
            obtain ⟨⟨z1, z2⟩, z3, z4⟩ := HB0.out
            try dsimp only at hg z1 z2 z3 z4
            have hc1 : -10000 ≤ (0 : Int) ∧ (0 : Int) ≤ 10000 := by omega
            have hc2 : -10000 ≤ (0 : Int) ∧ (0 : Int) ≤ 10000 := by omega
            have HSM := Lib.hid (fun w => bSample 0 0 w hc1 hc2)
            obtain ⟨re, hre⟩ : ∃ re, (smpI 0 0).1 = re := ⟨_, rfl⟩
            obtain ⟨im, him⟩ : ∃ im, (smpI 0 0).2 = im := ⟨_, rfl⟩
            have hg2 : G (l * S + s) = (re, im) := by rw [hg, ← hre, ← him]
            rw [hre, him] at HSM
            have hown0 := hst4.own
            rw [csF_len] at hown0
            have HOW2 := Lib.hid hown0
            have HSN := Lib.hid (show ∀ (g' cc' : Nat) (w1 : World) (o : Obj), w1.ownsRow (w.heap.size + 3 + 1) 63 1 (.slice (some ⟨g', 0, none⟩) (l * S + s + 1) cc') (l * S + s + 1) (csF G (l * S + s) ++ [.complex .f32 re im]) → (W4.drew.alloc o).grownBy w1 v.ownBlock → TriSt W1 (w.heap.size + 2) (w.heap.size + 3) L S 63 (.slice (some ⟨g', 0, none⟩) (l * S + s + 1) cc') (csF G (l * S + (s + 1))) (w1.setCell ⟨w.heap.size + 3, 2, none⟩ (.slice (some ⟨g', 0, none⟩) (l * S + s + 1) cc')) from fun g' cc' w1 o h1 h2 => by
              rw [← Nat.add_assoc, csF_snoc, hg2]
              exact (HS4.out.below (Below.refl _ _).drew).put (by rw [csF_len]; exact h1) h2)
            have HSL := Lib.hid (show ∀ (w1 : World) (o : Obj), (W4.drew.alloc o).grownBy w1 v.ownBlock → w1.cell? ⟨w.heap.size + 3, 2, none⟩ = some v ∧ w1.frozen? ⟨w.heap.size + 3, 2, none⟩ = false from fun w1 o h => (HS4.out.below (Below.refl _ _).drew).still h)
            have hlen : (l * S + s) ≤ 10000 := by
              have h1 : l * S ≤ 64 * 64 := Nat.mul_le_mul (by omega) hS
              omega
            clear hst4 hg hg2 hre him hown0 x0 x1 x2 y0 y1
            go_wp2_with fail
            go_region_law (first | (refine step_append_lies _ rfl (.tmp 66) (.tmp 70) 30 rfl (w.heap.size + 3 + 1) 63 i0 (.complex .f32 0 0) 1 8 Tryd.underlying30 hi0 hz0 hz1 hz2 rfl (by decide) v (l * S + s) (csF G (l * S + s)) (by simp [Act.eval, Act.put]) (by first | exact (HOW2.out.alloc _).drew | exact HOW2.out.drew.alloc _) ⟨W4.heap.size, 0, none⟩ 1 1 [.complex .f32 re im] (by simp [Act.eval, Act.put]) rfl (by intro j u hj; rcases j with _ | j; (focus (simp at hj; subst hj; (first | (simp [Addr.add, go_sem]; done) | simp [Addr.add, go_sem, ↓IntWalk.iteOmega]))); (focus (simp at hj))) (by intro u hu; simp at hu; subst hu; rfl) (by decide) (by unfold maxLen; omega) (by omega) (by first | omega | (simp; omega)) _ rfl ?_; intro g' cc' w1 hown' hgrow _ _; have HN2 := Lib.hid (HSN.out _ _ _ _ hown' hgrow); obtain ⟨hcb, hfb⟩ := HSL.out _ _ hgrow; clear hown' hgrow) | (go_simp; (go_at_call 41; (with_reducible refine (HSM.out _).mono ?_); rintro e w' ⟨rfl, rfl⟩)))
            all_goals
              go_wp2
              go_roundw
              case rel => exact ⟨s + 1, _, by omega, by go_num, HN2.out⟩
              case measure => simp [intOf]; omega
          rcases (show inE 0 ((S : Int) - 1) y = false ∨ inE 0 ((S : Int) - 1) y = true by cases inE 0 ((S : Int) - 1) y <;> simp) with i2 | i2
          · have H1 := Lib.hid (fun w => bWithin _ _ _ w i1)
            have H2 := Lib.hid (fun w => bWithin _ _ _ w i2)
            obtain rfl : r = (0, 0) := by rw [HE.out, i1, i2]; rfl
            clear i1 i2
            go_wp2_with (first | (go_at_call 30; (with_reducible refine (H1.out _).mono ?_); rintro e w' ⟨rfl, rfl⟩) | (go_at_call 30; (with_reducible refine (H2.out _).mono ?_); rintro e w' ⟨rfl, rfl⟩))
            refine wp_worldW98 (fun W => TriSt W1 (w.heap.size + 2) (w.heap.size + 3) L S 63 v (csF G (l * S + s)) W) (HS2.out.below (by (repeat' (first | with_reducible exact Below.refl _ _ | (with_reducible refine below_later_of ?_ ?_ _) | (with_reducible refine Below.alloc ?_ ?_ _) | (with_reducible refine Below.setCell ?_ ?_ _) | (with_reducible refine Below.drew ?_) | (simp; done) | (simp; omega) | omega)))) ?_
            rintro W4 hst4
            have HS4 := Lib.hid hst4
            have hltO4 := hst4.lt
            have c2 := hst4.c2
            have f2 := hst4.f2
            have hg := HG0.out
            obtain ⟨⟨z1, z2⟩, z3, z4⟩ := HB0.out
            try dsimp only at hg z1 z2 z3 z4
            have hc1 : -10000 ≤ (0 : Int) ∧ (0 : Int) ≤ 10000 := by omega
            have hc2 : -10000 ≤ (0 : Int) ∧ (0 : Int) ≤ 10000 := by omega
            have HSM := Lib.hid (fun w => bSample 0 0 w hc1 hc2)
            obtain ⟨re, hre⟩ : ∃ re, (smpI 0 0).1 = re := ⟨_, rfl⟩
            obtain ⟨im, him⟩ : ∃ im, (smpI 0 0).2 = im := ⟨_, rfl⟩
            have hg2 : G (l * S + s) = (re, im) := by rw [hg, ← hre, ← him]
            rw [hre, him] at HSM
            have hown0 := hst4.own
            rw [csF_len] at hown0
            have HOW2 := Lib.hid hown0
            have HSN := Lib.hid (show ∀ (g' cc' : Nat) (w1 : World) (o : Obj), w1.ownsRow (w.heap.size + 3 + 1) 63 1 (.slice (some ⟨g', 0, none⟩) (l * S + s + 1) cc') (l * S + s + 1) (csF G (l * S + s) ++ [.complex .f32 re im]) → (W4.drew.alloc o).grownBy w1 v.ownBlock → TriSt W1 (w.heap.size + 2) (w.heap.size + 3) L S 63 (.slice (some ⟨g', 0, none⟩) (l * S + s + 1) cc') (csF G (l * S + (s + 1))) (w1.setCell ⟨w.heap.size + 3, 2, none⟩ (.slice (some ⟨g', 0, none⟩) (l * S + s + 1) cc')) from fun g' cc' w1 o h1 h2 => by
              rw [← Nat.add_assoc, csF_snoc, hg2]
              exact (HS4.out.below (Below.refl _ _).drew).put (by rw [csF_len]; exact h1) h2)
            have HSL := Lib.hid (show ∀ (w1 : World) (o : Obj), (W4.drew.alloc o).grownBy w1 v.ownBlock → w1.cell? ⟨w.heap.size + 3, 2, none⟩ = some v ∧ w1.frozen? ⟨w.heap.size + 3, 2, none⟩ = false from fun w1 o h => (HS4.out.below (Below.refl _ _).drew).still h)
            have hlen : (l * S + s) ≤ 10000 := by
              have h1 : l * S ≤ 64 * 64 := Nat.mul_le_mul (by omega) hS
              omega
            clear hst4 hg hg2 hre him hown0 x0 x1 x2 y0 y1
            go_wp2_with fail
            go_region_law (first | (refine step_append_lies _ rfl (.tmp 66) (.tmp 70) 30 rfl (w.heap.size + 3 + 1) 63 i0 (.complex .f32 0 0) 1 8 Tryd.underlying30 hi0 hz0 hz1 hz2 rfl (by decide) v (l * S + s) (csF G (l * S + s)) (by simp [Act.eval, Act.put]) (by first | exact (HOW2.out.alloc _).drew | exact HOW2.out.drew.alloc _) ⟨W4.heap.size, 0, none⟩ 1 1 [.complex .f32 re im] (by simp [Act.eval, Act.put]) rfl (by intro j u hj; rcases j with _ | j; (focus (simp at hj; subst hj; (first | (simp [Addr.add, go_sem]; done) | simp [Addr.add, go_sem, ↓IntWalk.iteOmega]))); (focus (simp at hj))) (by intro u hu; simp at hu; subst hu; rfl) (by decide) (by unfold maxLen; omega) (by omega) (by first | omega | (simp; omega)) _ rfl ?_; intro g' cc' w1 hown' hgrow _ _; have HN2 := Lib.hid (HSN.out _ _ _ _ hown' hgrow); obtain ⟨hcb, hfb⟩ := HSL.out _ _ hgrow; clear hown' hgrow) | (go_simp; (go_at_call 41; (with_reducible refine (HSM.out _).mono ?_); rintro e w' ⟨rfl, rfl⟩)))
            all_goals
              go_wp2
              go_roundw
              case rel => exact ⟨s + 1, _, by omega, by go_num, HN2.out⟩
              case measure => simp [intOf]; omega
          · have H1 := Lib.hid (fun w => bWithin _ _ _ w i1)
            have H2 := Lib.hid (fun w => bWithin _ _ _ w i2)
            obtain ⟨t1, t2⟩ := inE_iff.1 i1
            obtain ⟨t3, t4⟩ := inE_iff.1 i2
            obtain ⟨X, rfl⟩ := Int.eq_ofNat_of_zero_le t1
            obtain ⟨Y, rfl⟩ := Int.eq_ofNat_of_zero_le t3
            obtain ⟨i, hi⟩ : ∃ i, X * S + Y = i := ⟨_, rfl⟩
            have hii : (X : Int) * (S : Int) + (Y : Int) = (i : Int) := by rw [← hi, Int.natCast_add, Int.natCast_mul]
            have hin : i < n := by
              have h3 : (X + 1) * S ≤ L * S := Nat.mul_le_mul_right _ (by omega)
              rw [Nat.add_mul, Nat.one_mul] at h3
              have := HN.out
              omega
            obtain rfl : r = (xB f i, yB f i) := by rw [HE.out, i1, i2, hii]; rfl
            have ci := HCW.out i hin
            obtain ⟨⟨u1, u2, u3, u4⟩, ⟨u5, u6⟩, u7, u8⟩ := HSF.out i hin
            have HP1 := Lib.hid (fun w => rParts (f i).1 (f i).2 _ _ w (flI_single u1 (by omega) (by omega)) (flI_single u2 (by omega) (by omega)))
            have hij : (X : Int) * (S : Int) + (s : Int) - q = (i : Int) := by omega
            obtain ⟨r1, r2⟩ : (0 : Int) ≤ (X : Int) * (S : Int) ∧ (X : Int) * (S : Int) ≤ 4096 := ⟨Int.mul_nonneg (by omega) (by omega), by
              have := Int.mul_le_mul (show (X : Int) ≤ 64 by omega) (show (S : Int) ≤ 64 by omega) (by omega) (by decide)
              omega⟩
            clear i1 i2 u1 u2 u3 u4 hi
            go_wp2_with (first | (go_at_call 30; (with_reducible refine (H1.out _).mono ?_); rintro e w' ⟨rfl, rfl⟩) | (go_at_call 30; (with_reducible refine (H2.out _).mono ?_); rintro e w' ⟨rfl, rfl⟩) | (go_at_call 84; (with_reducible refine (HP1.out _).mono ?_); rintro e w' ⟨rfl, rfl⟩))
            refine wp_worldW98 (fun W => TriSt W1 (w.heap.size + 2) (w.heap.size + 3) L S 63 v (csF G (l * S + s)) W) (HS2.out.below (by (repeat' (first | with_reducible exact Below.refl _ _ | (with_reducible refine below_later_of ?_ ?_ _) | (with_reducible refine Below.alloc ?_ ?_ _) | (with_reducible refine Below.setCell ?_ ?_ _) | (with_reducible refine Below.drew ?_) | (simp; done) | (simp; omega) | omega)))) ?_
            rintro W4 hst4
            have HS4 := Lib.hid hst4
            have hltO4 := hst4.lt
            have c2 := hst4.c2
            have f2 := hst4.f2
            have hg := HG0.out
            obtain ⟨⟨z1, z2⟩, z3, z4⟩ := HB0.out
            try dsimp only at hg z1 z2 z3 z4
            have hc1 : -10000 ≤ (xB f i) ∧ (xB f i) ≤ 10000 := by omega
            have hc2 : -10000 ≤ (yB f i) ∧ (yB f i) ≤ 10000 := by omega
            have HSM := Lib.hid (fun w => bSample _ _ w hc1 hc2)
            obtain ⟨re, hre⟩ : ∃ re, (smpI (xB f i) (yB f i)).1 = re := ⟨_, rfl⟩
            obtain ⟨im, him⟩ : ∃ im, (smpI (xB f i) (yB f i)).2 = im := ⟨_, rfl⟩
            have hg2 : G (l * S + s) = (re, im) := by rw [hg, ← hre, ← him]
            rw [hre, him] at HSM
            have hown0 := hst4.own
            rw [csF_len] at hown0
            have HOW2 := Lib.hid hown0
            have HSN := Lib.hid (show ∀ (g' cc' : Nat) (w1 : World) (o : Obj), w1.ownsRow (w.heap.size + 3 + 1) 63 1 (.slice (some ⟨g', 0, none⟩) (l * S + s + 1) cc') (l * S + s + 1) (csF G (l * S + s) ++ [.complex .f32 re im]) → (W4.drew.alloc o).grownBy w1 v.ownBlock → TriSt W1 (w.heap.size + 2) (w.heap.size + 3) L S 63 (.slice (some ⟨g', 0, none⟩) (l * S + s + 1) cc') (csF G (l * S + (s + 1))) (w1.setCell ⟨w.heap.size + 3, 2, none⟩ (.slice (some ⟨g', 0, none⟩) (l * S + s + 1) cc')) from fun g' cc' w1 o h1 h2 => by
              rw [← Nat.add_assoc, csF_snoc, hg2]
              exact (HS4.out.below (Below.refl _ _).drew).put (by rw [csF_len]; exact h1) h2)
            have HSL := Lib.hid (show ∀ (w1 : World) (o : Obj), (W4.drew.alloc o).grownBy w1 v.ownBlock → w1.cell? ⟨w.heap.size + 3, 2, none⟩ = some v ∧ w1.frozen? ⟨w.heap.size + 3, 2, none⟩ = false from fun w1 o h => (HS4.out.below (Below.refl _ _).drew).still h)
            have hlen : (l * S + s) ≤ 10000 := by
              have h1 : l * S ≤ 64 * 64 := Nat.mul_le_mul (by omega) hS
              omega
            clear hst4 hg hg2 hre him hown0 x0 x1 x2 y0 y1
            go_wp2_with fail
            go_region_law (first | (refine step_append_lies _ rfl (.tmp 66) (.tmp 70) 30 rfl (w.heap.size + 3 + 1) 63 i0 (.complex .f32 0 0) 1 8 Tryd.underlying30 hi0 hz0 hz1 hz2 rfl (by decide) v (l * S + s) (csF G (l * S + s)) (by simp [Act.eval, Act.put]) (by first | exact (HOW2.out.alloc _).drew | exact HOW2.out.drew.alloc _) ⟨W4.heap.size, 0, none⟩ 1 1 [.complex .f32 re im] (by simp [Act.eval, Act.put]) rfl (by intro j u hj; rcases j with _ | j; (focus (simp at hj; subst hj; (first | (simp [Addr.add, go_sem]; done) | simp [Addr.add, go_sem, ↓IntWalk.iteOmega]))); (focus (simp at hj))) (by intro u hu; simp at hu; subst hu; rfl) (by decide) (by unfold maxLen; omega) (by omega) (by first | omega | (simp; omega)) _ rfl ?_; intro g' cc' w1 hown' hgrow _ _; have HN2 := Lib.hid (HSN.out _ _ _ _ hown' hgrow); obtain ⟨hcb, hfb⟩ := HSL.out _ _ hgrow; clear hown' hgrow) | (go_simp; (go_at_call 41; (with_reducible refine (HSM.out _).mono ?_); rintro e w' ⟨rfl, rfl⟩)))
            all_goals
              go_wp2
              go_roundw
              case rel => exact ⟨s + 1, _, by omega, by go_num, HN2.out⟩
              case measure => simp [intOf]; omega
        · obtain rfl : s = S := by omega
          have hds : decide ((s : Int) < (s : Int)) = false := by simp
          clear hst
          go_wp2
          go_roundw
          case rel => exact ⟨l + 1, v, by omega, by go_num, by rw [Nat.add_mul, Nat.one_mul]; exact HS2.out⟩
          case measure => simp [intOf]; omega
    · obtain rfl : l = L := by omega
      have hdl : decide ((l : Int) < (l : Int)) = false := by simp
      have hown := hst.own
      rw [csF_len, ← HN.out] at hown
      obtain ⟨a', c', rfl⟩ := own_slice hown
      have hcap := own_cap hown
      obtain ⟨e0, e1, e2, -, r0, r1, r2, g0, g1, g2, -, hbel, -, -⟩ := hst
      have HOW := Lib.hid hown
      have HBE := Lib.hid (HB1.out.trans (hbel.mono (by omega)))
      clear hown hbel
      go_wp2
      refine bodyPost_ret ?_ rfl ⟨a', c', rfl, OwnC.mono (OwnC.set (OwnC.set (OwnC.set (ownC_row HOW.out) ?_ _) ?_ _) ?_ _) ?_, hcap, HBE.out.trans (by (repeat' (first | with_reducible exact Below.refl _ _ | (with_reducible refine below_later_of ?_ ?_ _) | (with_reducible refine Below.alloc ?_ ?_ _) | (with_reducible refine Below.setCell ?_ ?_ _) | (with_reducible refine Below.drew ?_) | (simp; done) | (simp; omega) | omega)))⟩
      · first | (simp [results, Tryd.results68, go_sem, r0, r1, r2]; done) | simp [results, Tryd.results68, go_sem, r0, r1, r2, ↓IntWalk.iteOmega]
      all_goals first | omega | (simp <;> omega)
end Go.Proofs.YtakohhlmomgegaaDoor
