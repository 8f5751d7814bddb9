/- Chapter 1: the reference's Focus. -/
import Derived.Test.YtakohhlmomgegaaDoorU83
namespace Go.Proofs.YtakohhlmomgegaaDoor
set_option linter.unusedVariables false
set_option linter.unusedSimpArgs false
open Go.RowKit Ieee Ntt
/-- What the reference's Focus says of a right field and code. -/
def RFoc (L S : Int) (n : Nat) (F : Nat → Nat × Nat) (e0 : Int) (w : World) (e : Ending) (w' : World) : Prop :=
  ∃ l s n' a c, e = .returned (.tuple #[.agg #[.int .i64 l, .int .i64 s, .slice a n' c], .int .i64 e0]) ∧ (e0 = 0 → l = L ∧ s = S ∧ n' = n ∧ OwnS w' w.heap.size n F a) ∧ (e0 ≠ 0 → l = 0 ∧ s = 0 ∧ n' = 0) ∧ Below w.heap.size w w'
set_option maxRecDepth 20000 in
set_option maxHeartbeats 4000000 in
theorem rFocus_run (L S C L0 : Nat) (b off n cap cb coff ccap : Nat) (f fc : Nat → Nat × Nat) (w : World) (hL0 : L0 ≤ 64) (hL : L + C = L0 + 1) (hC : 1 ≤ C) (hS1 : 1 ≤ S) (hs1 : S ≤ 64) (hCL : C ≤ L0) (hn : n = L0 * S)
    (hbw : b < w.heap.size) (hcw : cb < w.heap.size) (hf : SumsAt w b off n f) (hfc : SamplesAt w cb coff C fc) (hX : SmallD n f (xD f) (yD f) 1000000000) (hU : SmallS C fc (xB fc) (yB fc) 3)
    {e0 : Int} (h0 : (∀ i, i < L * S → goodF (xD f) (yD f) (xB fc) (yB fc) S C i = true) → e0 = 0) (h8 : ∀ i, i < L * S → goodF (xD f) (yD f) (xB fc) (yB fc) S C i = false → e0 = 8) :
    Calls Tryd.prog 51 #[.agg #[.int .i64 L0, .int .i64 S, .slice (some ⟨b, off, none⟩) n cap], .slice (some ⟨cb, coff, none⟩) C ccap] w (RFoc L S (L * S) (focB (xD f) (yD f) (xB fc) (yB fc) S C) e0 w) := by
  obtain ⟨i0, hi0, hz0, hz1, hz2⟩ := info_parts infoC
  have HF := Lib.hid hf
  have HFC := Lib.hid hfc
  have HX := Lib.hid hX
  have HU := Lib.hid hU
  have HN := Lib.hid hn
  have HH0 := Lib.hid h0
  have HH8 := Lib.hid h8
  have hl1 : L ≤ 64 := by omega
  have hSi : (L0 : Int) - C + 1 = L := by omega
  have hdC : decide (L0 < C) = false := by simp; omega
  have HLC := Lib.hid hL
  generalize xD f = X at HX HH0 HH8 ⊢
  generalize yD f = Y at HX HH0 HH8 ⊢
  generalize xB fc = U at HU HH0 HH8 ⊢
  generalize yB fc = V at HU HH0 HH8 ⊢
  obtain ⟨F, hF⟩ : ∃ F, F = focB X Y U V S C := ⟨_, rfl⟩
  have HFF := Lib.hid (show ∀ l s, s < S → F (l * S + s) = (f64I (reF X Y U V S l s C), f64I (imF X Y U V S l s C)) from fun l s hs => by
    rw [hF]
    unfold focB
    rw [Nat.mul_comm l S, Nat.mul_add_div (by omega), Nat.div_eq_of_lt hs, Nat.mul_add_mod, Nat.mod_eq_of_lt hs, Nat.add_zero])
  obtain ⟨G, hG⟩ : ∃ G, G = goodF X Y U V S C := ⟨_, rfl⟩
  have HGG := Lib.hid (show ∀ l s, s < S → G (l * S + s) = (inE (-1000000000) 1000000000 (reF X Y U V S l s C) && inE (-1000000000) 1000000000 (imF X Y U V S l s C)) from fun l s hs => by
    rw [hG]
    unfold goodF
    rw [Nat.mul_comm l S, Nat.mul_add_div (by omega), Nat.div_eq_of_lt hs, Nat.mul_add_mod, Nat.mod_eq_of_lt hs, Nat.add_zero])
  rw [← hF]
  rw [← hG] at HH0 HH8
  clear hf hfc hX hU hn hL hF hG h0 h8
  go_enter Tryd.func51, Tryd.ntmps51
  go_wp2
  refine wp_worldK (fun W => ∃ W1, Below w.heap.size w W1 ∧ W1.heap.size = w.heap.size + 1 ∧ (W1.cell? ⟨w.heap.size, 1, none⟩ = some (.int .i64 S) ∧ W1.cell? ⟨w.heap.size, 2, none⟩ = some (.slice (some ⟨b, off, none⟩) n cap)) ∧ TriSt W1 (w.heap.size + 1) (w.heap.size + 1 + 1) L S 49 (.slice none 0 0) (cvF F 0) W)
    ⟨w.alloc (.cells #[.int .i64 L0, .int .i64 S, .slice (some ⟨b, off, none⟩) n cap] 34), (by (repeat' (first | with_reducible exact Below.refl _ _ | (with_reducible refine below_later_of ?_ ?_ _) | (with_reducible refine Below.alloc ?_ ?_ _) | (with_reducible refine Below.setCell ?_ ?_ _) | (with_reducible refine Below.drew ?_) | (simp; done) | (simp; omega) | omega))), by simp, ⟨by simp [go_sem], by simp [go_sem]⟩, by simp [go_sem], by simp [go_sem], by simp [go_sem], by simp [go_sem], by simp [go_sem], by simp [go_sem], by simp [go_sem], by simp [go_sem], by simp [go_sem], by simp [go_sem], World.ownsRow_nil _ _ _ _, (by (repeat' (first | with_reducible exact Below.refl _ _ | (with_reducible refine below_later_of ?_ ?_ _) | (with_reducible refine Below.alloc ?_ ?_ _) | (with_reducible refine Below.setCell ?_ ?_ _) | (with_reducible refine Below.drew ?_) | (simp; done) | (simp; omega) | omega))), by simp, by omega⟩ ?_
  rintro W2 ⟨W1, hb1, hsz1, ⟨q1, q2⟩, hst⟩
  have HST := Lib.hid hst
  have HB1 := Lib.hid hb1
  have Q1 := Lib.hid q1
  have Q2 := Lib.hid q2
  clear hst hb1 q1 q2
  go_loopw [7] (fun i wr => ∃ (l : Nat) (v : Value), l ≤ L ∧ i = .int .i64 l ∧ TriSt W1 (w.heap.size + 1) (w.heap.size + 1 + 1) L S 49 v (cvF F (l * S)) wr ∧ ∀ i, i < l * S → G i = true) (fun i _ => L - (intOf i).toNat)
  case atStart => exact ⟨0, _, Nat.zero_le _, rfl, by rw [Nat.zero_mul]; exact HST.out, fun i hi => absurd hi (by simp)⟩
  case round =>
    obtain ⟨l, v, hl, rfl, hst, hgg⟩ := hrel
    have HG1 := Lib.hid hgg
    clear hgg
    have HS1 := Lib.hid hst
    have c0 := hst.c0
    by_cases hlt : l < L
    · have hdl : decide ((l : Int) < (L : Int)) = true := by simp; omega
      clear hst
      go_wp2
      go_loopw [8] (fun i wr => ∃ (s : Nat) (v : Value), s ≤ S ∧ i = .int .i64 s ∧ TriSt W1 (w.heap.size + 1) (w.heap.size + 1 + 1) L S 49 v (cvF F (l * S + s)) wr ∧ ∀ i, i < l * S + s → G i = true) (fun i _ => S - (intOf i).toNat)
      case atStart => exact ⟨0, v, Nat.zero_le _, rfl, HS1.out, HG1.out⟩
      case round =>
        clear c0
        obtain ⟨s, v, hs, rfl, hst, hgg⟩ := hrel
        have HG2 := Lib.hid hgg
        clear hgg
        have HS2 := Lib.hid hst
        have c1 := hst.c1
        by_cases hst2 : s < S
        · have hds : decide ((s : Int) < (S : Int)) = true := by simp; omega
          have k1 := (hst.bel.cell (p := ⟨w.heap.size, 1, none⟩) (Nat.lt_succ_self _)).trans Q1.out
          have k2 := (hst.bel.cell (p := ⟨w.heap.size, 2, none⟩) (Nat.lt_succ_self _)).trans Q2.out
          have HCW := Lib.hid (show ∀ j, j < n → wr.cell? ⟨b, off + j, none⟩ = some (.complex .f64 (f j).1 (f j).2) from fun j hj => (hst.bel.cell (p := ⟨b, off + j, none⟩) (show b < w.heap.size + 1 by omega)).trans ((HB1.out.cell (p := ⟨b, off + j, none⟩) hbw).trans (HF.out j hj)))
          have HCC := Lib.hid (show ∀ j, j < C → wr.cell? ⟨cb, coff + j, none⟩ = some (.complex .f32 (fc j).1 (fc j).2) from fun j hj => (hst.bel.cell (p := ⟨cb, coff + j, none⟩) (show cb < w.heap.size + 1 by omega)).trans ((HB1.out.cell (p := ⟨cb, coff + j, none⟩) hcw).trans (HFC.out j hj)))
          clear hst
          go_wp2
          go_loop [9, 10, 11] (fun x y i => ∃ k : Nat, k ≤ C ∧ i = .int .i64 k ∧ x = .int .i64 (reF X Y U V S l s k) ∧ y = .int .i64 (imF X Y U V S l s k)) (fun _ _ i => C - (intOf i).toNat)
          case atStart => exact ⟨0, Nat.zero_le _, rfl, rfl, rfl⟩
          case round =>
            obtain ⟨k, hk, rfl, rfl, rfl⟩ := hrel
            by_cases hkc : k < C
            · have hdk : decide ((k : Int) < (C : Int)) = true := by simp; omega
              obtain ⟨j, hj⟩ : ∃ j, (l + k) * S + s = j := ⟨_, rfl⟩
              obtain ⟨z1, z2⟩ : (0 : Int) ≤ ((l : Int) + (k : Int)) * (S : Int) ∧ ((l : Int) + (k : Int)) * (S : Int) ≤ 8192 := ⟨Int.mul_nonneg (by omega) (by omega), by
                have := Int.mul_le_mul (show (l : Int) + (k : Int) ≤ 128 by omega) (show (S : Int) ≤ 64 by omega) (by omega) (by decide)
                omega⟩
              have hidx : ((l : Int) + (k : Int)) * (S : Int) + (s : Int) = (j : Int) := by rw [← hj, Int.natCast_add, Int.natCast_mul, Int.natCast_add]
              have hin : j < n := by rw [← hj]; exact idx_lt HLC.out hlt hkc hst2 HN.out
              obtain ⟨sx, ⟨bx1, bx2⟩, by1, by2⟩ := HX.out _ hin
              obtain ⟨su, ⟨bu1, bu2⟩, bv1, bv2⟩ := HU.out _ hkc
              have HP1 := Lib.hid (fun w => bParts (f j).1 (f j).2 (X j) (Y j) w (flI_double sx.re (by omega) (by omega)) (flI_double sx.im (by omega) (by omega)))
              have HP2 := Lib.hid (fun w => rParts (fc k).1 (fc k).2 (U k) (V k) w (sNum_flI su).1 (sNum_flI su).2)
              have HTI := Lib.hid (fun w => rTimes (X j) (Y j) (U k) (V k) w (by omega) (by omega) (by omega) (by omega))
              obtain ⟨⟨e1, e2⟩, e3, e4⟩ := reF_bd (k := k) HX.out HU.out HLC.out hlt hst2 HN.out hk (by omega)
              have m1 := mul_bd2 (x := X j) (y := U k) (A := 1000000000) (B := 3) ⟨bx1, bx2⟩ ⟨bu1, bu2⟩
              have m2 := mul_bd2 (x := Y j) (y := V k) (A := 1000000000) (B := 3) ⟨by1, by2⟩ ⟨bv1, bv2⟩
              have m3 := mul_bd2 (x := Y j) (y := U k) (A := 1000000000) (B := 3) ⟨by1, by2⟩ ⟨bu1, bu2⟩
              have m4 := mul_bd2 (x := X j) (y := V k) (A := 1000000000) (B := 3) ⟨bx1, bx2⟩ ⟨bv1, bv2⟩
              simp only [Int.reduceMul] at m1 m2 m3 m4
              have ca := HCW.out j hin
              have cc := HCC.out k hkc
              have HRE := Lib.hid (reF_succ X Y U V S l s k)
              have HIM := Lib.hid (imF_succ X Y U V S l s k)
              rw [hj] at HRE HIM
              obtain ⟨p1, p2⟩ : -6000000000 ≤ X j * U k + Y j * V k ∧ X j * U k + Y j * V k ≤ 6000000000 := by omega
              obtain ⟨p3, p4⟩ : -6000000000 ≤ Y j * U k - X j * V k ∧ Y j * U k - X j * V k ≤ 6000000000 := by omega
              generalize X j * U k + Y j * V k = p at HTI HRE p1 p2
              generalize Y j * U k - X j * V k = q at HTI HIM p3 p4
              generalize reF X Y U V S l s k = re at e1 e2 HRE ⊢
              generalize imF X Y U V S l s k = im at e3 e4 HIM ⊢
              generalize X j = xx at HP1 HTI
              generalize Y j = yy at HP1 HTI
              generalize U k = uu at HP2 HTI
              generalize V k = vv at HP2 HTI
              clear hj sx su bx1 bx2 by1 by2 bu1 bu2 bv1 bv2 m1 m2 m3 m4
              go_wp2_with (first | (go_at_call 90; (with_reducible refine (HP1.out _).mono ?_); rintro e w' ⟨rfl, rfl⟩) | (go_at_call 84; (with_reducible refine (HP2.out _).mono ?_); rintro e w' ⟨rfl, rfl⟩) | (go_at_call 85; (with_reducible refine (HTI.out _).mono ?_); rintro e w' ⟨rfl, rfl⟩))
              go_round
              case rel => exact ⟨k + 1, by omega, by go_num, by rw [HRE.out], by rw [HIM.out]⟩
              case measure => simp [intOf]; omega
            · obtain rfl : k = C := by omega
              have hdk : decide ((k : Int) < (k : Int)) = false := by simp
              have hgk := HGG.out l s hst2
              have hnl : l * S + s < L * S := by
                have h1 : (l + 1) * S ≤ L * S := Nat.mul_le_mul_right _ hlt
                rw [Nat.add_mul, Nat.one_mul] at h1
                omega
              rcases (show G (l * S + s) = false ∨ G (l * S + s) = true by cases G (l * S + s) <;> simp) with hg | hg
              · have h8 := HH8.out _ hnl hg
                have hne : e0 ≠ 0 := by omega
                have HR8 := Lib.hid h8
                rw [hg] at hgk
                have hww : inE (-1000000000) 1000000000 (reF X Y U V S l s k) = false ∨ (inE (-1000000000) 1000000000 (reF X Y U V S l s k) = true ∧ inE (-1000000000) 1000000000 (imF X Y U V S l s k) = false) := by
                  cases h1 : inE (-1000000000) 1000000000 (reF X Y U V S l s k)
                  · exact Or.inl rfl
                  · rw [h1] at hgk
                    exact Or.inr ⟨rfl, by simpa using hgk.symm⟩
                have r0 := HS2.out.r0
                have r1 := HS2.out.r1
                have r2 := HS2.out.r2
                have g0 := HS2.out.g0
                have g1 := HS2.out.g1
                have g2 := HS2.out.g2
                have hro := HS2.out.ro
                have hltO := HS2.out.lt
                generalize reF X Y U V S l s k = rr at hww ⊢
                generalize imF X Y U V S l s k = ii at hww ⊢
                clear hgk hg h8 k1 k2 c1
                rcases hww with h1 | ⟨h1, h2⟩
                · have HW1 := Lib.hid h1
                  clear h1
                  go_wp2_with (first | (go_at_call 30; (with_reducible refine (bWithin _ _ _ _ HW1.out).mono ?_); rintro e w' ⟨rfl, rfl⟩))
                  refine bodyPost_ret ?_ rfl ⟨0, 0, 0, none, 0, rfl, fun h => absurd h hne, fun _ => ⟨rfl, rfl, rfl⟩, (HB1.out.trans (HS2.out.bel.mono (by omega))).trans (by (repeat' (first | with_reducible exact Below.refl _ _ | (with_reducible refine below_later_of ?_ ?_ _) | (with_reducible refine Below.alloc ?_ ?_ _) | (with_reducible refine Below.setCell ?_ ?_ _) | (with_reducible refine Below.drew ?_) | (simp; done) | (simp; omega) | omega)))⟩
                  rw [HR8.out]
                  first | (simp [results, Tryd.results51, go_sem, r0, r1, r2]; done) | simp [results, Tryd.results51, go_sem, r0, r1, r2, ↓IntWalk.iteOmega]
                · have HW1 := Lib.hid h1
                  have HW2 := Lib.hid h2
                  clear h1 h2
                  go_wp2_with (first | (go_at_call 30; (with_reducible refine (bWithin _ _ _ _ HW1.out).mono ?_); rintro e w' ⟨rfl, rfl⟩) | (go_at_call 30; (with_reducible refine (bWithin _ _ _ _ HW2.out).mono ?_); rintro e w' ⟨rfl, rfl⟩))
                  refine bodyPost_ret ?_ rfl ⟨0, 0, 0, none, 0, rfl, fun h => absurd h hne, fun _ => ⟨rfl, rfl, rfl⟩, (HB1.out.trans (HS2.out.bel.mono (by omega))).trans (by (repeat' (first | with_reducible exact Below.refl _ _ | (with_reducible refine below_later_of ?_ ?_ _) | (with_reducible refine Below.alloc ?_ ?_ _) | (with_reducible refine Below.setCell ?_ ?_ _) | (with_reducible refine Below.drew ?_) | (simp; done) | (simp; omega) | omega)))⟩
                  rw [HR8.out]
                  first | (simp [results, Tryd.results51, go_sem, r0, r1, r2]; done) | simp [results, Tryd.results51, go_sem, r0, r1, r2, ↓IntWalk.iteOmega]
              · have HGK := Lib.hid hg
                rw [hg] at hgk
                obtain ⟨hw1, hw2⟩ : inE (-1000000000) 1000000000 (reF X Y U V S l s k) = true ∧ inE (-1000000000) 1000000000 (imF X Y U V S l s k) = true := by simpa using hgk.symm
                clear hg hgk
                have HSM := Lib.hid (fun w => bSum (reF X Y U V S l s k) (imF X Y U V S l s k) w)
                have hfe := HFF.out l s hst2
                obtain ⟨re, hre⟩ : ∃ re, f64I (reF X Y U V S l s k) = re := ⟨_, rfl⟩
                obtain ⟨im, him⟩ : ∃ im, f64I (imF X Y U V S l s k) = im := ⟨_, rfl⟩
                rw [hre, him] at hfe HSM
                have HFE := Lib.hid hfe
                have HW1 := Lib.hid hw1
                have HW2 := Lib.hid hw2
                clear hw1 hw2
                generalize reF X Y U V S l s k = rr at HSM HW1 ⊢
                generalize imF X Y U V S l s k = ii at HSM HW2 ⊢
                have c2 := HS2.out.c2
                have f2 := HS2.out.f2
                have hown0 := HS2.out.own
                rw [cvF_len] at hown0
                have HOW2 := Lib.hid hown0
                have HSN := Lib.hid (show ∀ (g' cc' : Nat) (w1 : World) (o : Obj), w1.ownsRow (w.heap.size + 1 + 1 + 1) 49 1 (.slice (some ⟨g', 0, none⟩) (l * S + s + 1) cc') (l * S + s + 1) (cvF F (l * S + s) ++ [.complex .f64 re im]) → (wr.drew.alloc o).grownBy w1 v.ownBlock → TriSt W1 (w.heap.size + 1) (w.heap.size + 1 + 1) L S 49 (.slice (some ⟨g', 0, none⟩) (l * S + s + 1) cc') (cvF F (l * S + (s + 1))) (w1.setCell ⟨w.heap.size + 1 + 1, 2, none⟩ (.slice (some ⟨g', 0, none⟩) (l * S + s + 1) cc')) from fun g' cc' w1 o h1 h2 => by
                  rw [← Nat.add_assoc, cvF_snoc, hfe]
                  exact (HS2.out.below (Below.refl _ _).drew).put (by rw [cvF_len]; exact h1) h2)
                have HSL := Lib.hid (show ∀ (w1 : World) (o : Obj), (wr.drew.alloc o).grownBy w1 v.ownBlock → w1.cell? ⟨w.heap.size + 1 + 1, 2, none⟩ = some v ∧ w1.frozen? ⟨w.heap.size + 1 + 1, 2, none⟩ = false from fun w1 o h => (HS2.out.below (Below.refl _ _).drew).still h)
                have hltO := HS2.out.lt
                have hlen : (l * S + s) ≤ 10000 := by
                  have h1 : l * S ≤ 64 * 64 := Nat.mul_le_mul (by omega) hs1
                  omega
                clear hfe hre him k1 k2 c1 hown0
                go_wp2_with (first | (go_at_call 30; (with_reducible refine (bWithin _ _ _ _ HW1.out).mono ?_); rintro e w' ⟨rfl, rfl⟩) | (go_at_call 30; (with_reducible refine (bWithin _ _ _ _ HW2.out).mono ?_); rintro e w' ⟨rfl, rfl⟩))
                go_region_law (first | (refine step_append_lies _ rfl (.tmp 99) (.tmp 103) 32 rfl (w.heap.size + 1 + 1 + 1) 49 i0 (.complex .f64 0 0) 1 16 Tryd.underlying32 hi0 hz0 hz1 hz2 rfl (by decide) v (l * S + s) (cvF F (l * S + s)) (by simp [Act.eval, Act.put]) (by first | exact (HOW2.out.alloc _).drew | exact HOW2.out.drew.alloc _) ⟨wr.heap.size, 0, none⟩ 1 1 [.complex .f64 re im] (by simp [Act.eval, Act.put]) rfl (by intro j u hj; rcases j with _ | j; (focus (simp at hj; subst hj; (first | (simp [Addr.add, go_sem]; done) | simp [Addr.add, go_sem, ↓IntWalk.iteOmega]))); (focus (simp at hj))) (by intro u hu; simp at hu; subst hu; rfl) (by decide) (by unfold maxLen; omega) (by omega) (by first | omega | (simp; omega)) _ rfl ?_; intro g' cc' w1 hown' hgrow _ _; have HN2 := Lib.hid (show TriSt W1 (w.heap.size + 1) (w.heap.size + 1 + 1) L S 49 (.slice (some ⟨g', 0, none⟩) (l * S + s + 1) cc') (cvF F (l * S + (s + 1))) _ from HSN.out _ _ _ _ hown' hgrow); obtain ⟨hcb, hfb⟩ := HSL.out _ _ hgrow; clear hown' hgrow) | (go_simp; (go_at_call 42; (with_reducible refine (HSM.out _).mono ?_); rintro e w' ⟨rfl, rfl⟩)))
                all_goals
                  go_wp2
                  go_roundw
                  case rel => exact ⟨s + 1, _, by omega, by go_num, HN2.out, fun i hi => by
                    by_cases h : i < l * S + s
                    · exact HG2.out i h
                    · obtain rfl : i = l * S + s := by omega
                      exact HGK.out⟩
                  case measure => simp [intOf]; omega
        · obtain rfl : s = S := by omega
          have hds : decide ((s : Int) < (s : Int)) = false := by simp
          clear hst
          go_wp2
          go_roundw
          case rel => exact ⟨l + 1, v, by omega, by go_num, by rw [Nat.add_mul, Nat.one_mul]; exact HS2.out, by rw [Nat.add_mul, Nat.one_mul]; exact HG2.out⟩
          case measure => simp [intOf]; omega
    · obtain rfl : l = L := by omega
      have hdl : decide ((l : Int) < (l : Int)) = false := by simp
      have hown := hst.own
      rw [cvF_len] at hown
      obtain ⟨a', c', rfl⟩ := own_slice hown
      obtain ⟨e0, e1, e2, -, r0, r1, r2, g0, g1, g2, -, hbel, -, -⟩ := hst
      have HOW := Lib.hid hown
      have HBE := Lib.hid (HB1.out.trans (hbel.mono (by omega)))
      have HR0 := Lib.hid (HH0.out HG1.out)
      clear hown hbel
      go_wp2
      refine bodyPost_ret ?_ rfl ⟨_, _, _, a', c', rfl, fun _ => ⟨rfl, rfl, rfl, OwnS.mono (OwnS.set (OwnS.set (OwnS.set (ownS_row HOW.out) ?_ _) ?_ _) ?_ _) ?_⟩, fun h => absurd HR0.out h, HBE.out.trans (by (repeat' (first | with_reducible exact Below.refl _ _ | (with_reducible refine below_later_of ?_ ?_ _) | (with_reducible refine Below.alloc ?_ ?_ _) | (with_reducible refine Below.setCell ?_ ?_ _) | (with_reducible refine Below.drew ?_) | (simp; done) | (simp; omega) | omega)))⟩
      · rw [HR0.out]
        first | (simp [results, Tryd.results51, go_sem, r0, r1, r2]; done) | simp [results, Tryd.results51, go_sem, r0, r1, r2, ↓IntWalk.iteOmega]
      all_goals first | omega | (simp <;> omega)
set_option maxHeartbeats 1000000 in
theorem rFocus_short (L0 S : Int) (n cap C ccap : Nat) (a ca : Option Addr) (w : World) (h : L0 < C) :
    Calls Tryd.prog 51 #[.agg #[.int .i64 L0, .int .i64 S, .slice a n cap], .slice ca C ccap] w fun e w' => e = .returned (.tuple #[.agg #[.int .i64 0, .int .i64 0, .slice none 0 0], .int .i64 10]) ∧ Below w.heap.size w w' := by
  have hd : decide (L0 < (C : Int)) = true := by simpa using h
  clear h
  go_enter Tryd.func51, Tryd.ntmps51
  go_wp2
  refine bodyPost_ret ?_ rfl ⟨rfl, (by (repeat' (first | with_reducible exact Below.refl _ _ | (with_reducible refine below_later_of ?_ ?_ _) | (with_reducible refine Below.alloc ?_ ?_ _) | (with_reducible refine Below.setCell ?_ ?_ _) | (with_reducible refine Below.drew ?_) | (simp; done) | (simp; omega) | omega)))⟩
  first | (simp [results, Tryd.results51, go_sem]; done) | simp [results, Tryd.results51, go_sem, ↓IntWalk.iteOmega]
end Go.Proofs.YtakohhlmomgegaaDoor
