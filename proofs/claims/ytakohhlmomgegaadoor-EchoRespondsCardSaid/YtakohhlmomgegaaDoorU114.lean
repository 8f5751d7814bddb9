/- Chapter 1: the reference's Response. -/
import Derived.Test.YtakohhlmomgegaaDoorU113
import Derived.Deep.CutRange
import Derived.Deep.CutBlock
namespace Go.Proofs.YtakohhlmomgegaaDoor
set_option linter.unusedVariables false
set_option linter.unusedSimpArgs false
open Go.RowKit Ieee Ntt
/-- The first greatest energy above 0. -/
def grR (E : Nat → Int) : Nat → Nat × Int
  | 0 => (0, 0)
  | k + 1 => if (grR E k).2 < E k then (k, E k) else grR E k
theorem grR_zero (E : Nat → Int) : ∀ k, (grR E k).2 = 0 → (grR E k).1 = 0
  | 0, _ => rfl
  | k + 1, h => by
    have h0 : 0 ≤ (grR E k).2 := by
      have : ∀ k, 0 ≤ (grR E k).2 := fun k => by
        induction k with
        | zero => exact Int.le_refl _
        | succ k ih => unfold grR; split <;> (try simp only) <;> omega
      exact this k
    unfold grR at h ⊢
    split at h
    · rename_i c
      simp only at h
      omega
    · rename_i c
      rw [if_neg c]
      exact grR_zero E k h
theorem grR_eq {E : Nat → Int} {n : Nat} (h : ∀ j, j < n → 0 ≤ E j) : ∀ k, 1 ≤ k → k ≤ n → grR E k = grP E k
  | 0, h1, _ => by omega
  | k + 1, _, hk => by
    rcases Nat.eq_zero_or_pos k with rfl | hp
    · have h0 := h 0 (by omega)
      show (if (0 : Int) < E 0 then ((0 : Nat), E 0) else (0, 0)) = (if E 0 < E 0 then (0, E 0) else (0, E 0))
      rw [if_neg (Int.lt_irrefl _)]
      by_cases hc : 0 < E 0
      · rw [if_pos hc]
      · rw [if_neg hc, show E 0 = 0 by omega]
    · have ih := grR_eq h k hp (by omega)
      unfold grR grP
      rw [ih]
theorem any_worldT {G : World → Prop} {w : World} (F : World → Prop) (hf : F w) (h : ∀ W, F W → G W) : G w := h w hf
def RRPost (E : Nat → Int) (S : Nat) (w : World) (e : Ending) (w' : World) : Prop :=
  (grP E S).2 = 0 ∧ e = .returned (.tuple #[.agg #[.int .i64 0, .int .i64 0, .int .i64 0, .int .i64 0, .int .i64 0, .int .i64 0, .int .i64 0], .bool false]) ∧ Below w.heap.size w w' ∨
  (grP E S).2 ≠ 0 ∧ e = .returned (.tuple #[.agg #[.int .i64 (grP E S).1, .int .i64 (grP E S).2, .int .i64 (downP (gH E (grP E S).2) (grP E S).1), .int .i64 (raiseP (gH E (grP E S).2) (S - 1 - (grP E S).1) (grP E S).1), .int .i64 (downP (gL E) (grP E S).1), .int .i64 (raiseP (gL E) (S - 1 - (grP E S).1) (grP E S).1), .int .i64 (sideP E (downP (gL E) (grP E S).1) (raiseP (gL E) (S - 1 - (grP E S).1) (grP E S).1) S)], .bool true]) ∧ Below w.heap.size w w'
set_option maxRecDepth 20000 in
set_option maxHeartbeats 8000000 in
theorem rResponse (L S n b off cap l : Nat) (f : Nat → Nat × Nat) (w : World) (hn : n = L * S) (hL : L ≤ 64) (hS : S ≤ 64) (hS1 : 1 ≤ S) (hbw : b < w.heap.size) (hf : SumsAt w b off n f) (hX : SmallD n f (xD f) (yD f) 1000000000) (hl : l < L) :
    Calls Tryd.prog 71 #[.agg #[.int .i64 L, .int .i64 S, .slice (some ⟨b, off, none⟩) n cap], .int .i64 l] w (RRPost (eng (lineF f S l)) S w) := by
  have HEN := Lib.hid (show ∀ (s : Nat) (x : Int), x = (s : Int) → s < S → ∀ W, Below w.heap.size w W → Calls Tryd.prog 64 #[.agg #[.int .i64 L, .int .i64 S, .slice (some ⟨b, off, none⟩) n cap], .int .i64 l, .int .i64 x] W fun e w' => e = .returned (.int .i64 (eng (lineF f S l) s)) ∧ Below W.heap.size W w' from fun s x hx hs W hW => by
    subst hx
    exact rEnergy L S n b off cap f l s W hn hS hL (by have := hW.size; omega) (hf.below hbw hW) hX hl hs rfl rfl)
  have HEB := Lib.hid (show ∀ s, s < S → 0 ≤ eng (lineF f S l) s ∧ eng (lineF f S l) s ≤ 2000000000000000000 from fun s hs => eng_bd hX (k := l * S + s) (by
    have h1 : (l + 1) * S ≤ L * S := Nat.mul_le_mul_right _ hl
    rw [Nat.add_mul, Nat.one_mul] at h1
    omega))
  have hgr := grR_eq (E := eng (lineF f S l)) (n := S) (fun j hj => (HEB.out j hj).1) S hS1 (Nat.le_refl _)
  have hgl := grP_lt (eng (lineF f S l)) (n := S) hS1 S (Nat.le_refl _)
  unfold RRPost
  rw [← hgr] at hgl ⊢
  generalize eng (lineF f S l) = E at *
  clear hf hX hn hgr
  go_enter Tryd.func71, Tryd.ntmps71
  go_wp2
  refine any_worldT (fun W => ∃ W1, Below w.heap.size w W1 ∧ W1.heap.size = w.heap.size + 1 ∧ (W1.cell? ⟨w.heap.size, 0, none⟩ = some (.int .i64 L) ∧ W1.cell? ⟨w.heap.size, 1, none⟩ = some (.int .i64 S) ∧ W1.cell? ⟨w.heap.size, 2, none⟩ = some (.slice (some ⟨b, off, none⟩) n cap)) ∧ PtSt W1 (w.heap.size + 1) (w.heap.size + 1) (w.heap.size + 1 + 1) (.int .i64 0) (pt7 0 0 0 0 0 0 0) W)
    ⟨w.alloc (.cells #[.int .i64 L, .int .i64 S, .slice (some ⟨b, off, none⟩) n cap] 34), (by (repeat' (first | with_reducible exact Below.refl _ _ | (with_reducible refine below_later_of ?_ ?_ _) | (with_reducible refine Below.alloc ?_ ?_ _) | (with_reducible refine Below.setCell ?_ ?_ _) | (with_reducible refine Below.drew ?_) | (simp; done) | (simp; omega) | omega))), by simp, ⟨by simp [go_sem], by simp [go_sem], by simp [go_sem]⟩, (fun j hj => by rcases j with _ | _ | _ | _ | _ | _ | _ | j <;> first | (simp [go_sem, pt7]; done) | ((first | (simp [go_sem, pt7]; done) | simp [go_sem, pt7, ↓IntWalk.iteOmega]); done) | omega), (fun j hj => by rcases j with _ | _ | _ | _ | _ | _ | _ | j <;> first | (simp [go_sem, pt7]; done) | ((first | (simp [go_sem, pt7]; done) | simp [go_sem, pt7, ↓IntWalk.iteOmega]); done) | omega), (fun j hj => by rcases j with _ | _ | _ | _ | _ | _ | _ | j <;> first | (simp [go_sem, pt7]; done) | ((first | (simp [go_sem, pt7]; done) | simp [go_sem, pt7, ↓IntWalk.iteOmega]); done) | omega), (fun j hj => by rcases j with _ | _ | _ | _ | _ | _ | _ | j <;> first | (simp [go_sem, pt7]; done) | ((first | (simp [go_sem, pt7]; done) | simp [go_sem, pt7, ↓IntWalk.iteOmega]); done) | omega), by simp [go_sem], (by (repeat' (first | with_reducible exact Below.refl _ _ | (with_reducible refine below_later_of ?_ ?_ _) | (with_reducible refine Below.alloc ?_ ?_ _) | (with_reducible refine Below.setCell ?_ ?_ _) | (with_reducible refine Below.drew ?_) | (simp; done) | (simp; omega) | omega))), by simp, by omega, by omega, by simp⟩ ?_
  rintro W2 ⟨W1, hb1, hs1, hA, hst⟩
  have HST := Lib.hid hst
  have HB1 := Lib.hid hb1
  have HA := Lib.hid hA
  have HS1 := Lib.hid hs1
  clear hst hb1 hA hs1
  go_loopw [7] (fun i wr => ∃ s : Nat, s ≤ S ∧ i = .int .i64 s ∧ PtSt W1 (w.heap.size + 1) (w.heap.size + 1) (w.heap.size + 1 + 1) (.int .i64 0) (pt7 (grR E s).1 (grR E s).2 0 0 0 0 0) wr) (fun i _ => S - (intOf i).toNat)
  case atStart => exact ⟨0, Nat.zero_le _, rfl, HST.out⟩
  case round =>
    obtain ⟨s, hs, rfl, hst⟩ := hrel
    have HS := Lib.hid hst
    have hsz := HS1.out
    have x0 := (hst.bel.cell (p := ⟨w.heap.size, 0, none⟩) (show w.heap.size < W1.heap.size by omega)).trans HA.out.1
    have x1 := (hst.bel.cell (p := ⟨w.heap.size, 1, none⟩) (show w.heap.size < W1.heap.size by omega)).trans HA.out.2.1
    have x2 := (hst.bel.cell (p := ⟨w.heap.size, 2, none⟩) (show w.heap.size < W1.heap.size by omega)).trans HA.out.2.2
    have HB := Lib.hid (HB1.out.trans (hst.bel.mono (by omega)))
    have hlt := hst.lt
    have HGS := Lib.hid (show grR E (s + 1) = if (grR E s).2 < E s then (s, E s) else grR E s from rfl)
    obtain ⟨gg, hgg⟩ : ∃ g, grR E s = g := ⟨_, rfl⟩
    rw [hgg] at HGS HS hst
    have HGG := Lib.hid hgg
    obtain ⟨gk, gm⟩ := gg
    have c0 : wr.cell? ⟨w.heap.size + 1 + 1, 0, none⟩ = some (.int .i64 gk) := hst.cel 0 (by decide)
    have c1 : wr.cell? ⟨w.heap.size + 1 + 1, 1, none⟩ = some (.int .i64 gm) := hst.cel 1 (by decide)
    have f0 := hst.frz 0 (by decide)
    have f1 := hst.frz 1 (by decide)
    clear hst hsz hgg
    by_cases hc : s < S
    · have hds : decide ((s : Int) < (S : Int)) = true := by simp; omega
      have HE1 := Lib.hid (HEN.out s s rfl hc)
      obtain ⟨z, hz⟩ : ∃ z, E s = z := ⟨_, rfl⟩
      rw [hz] at HE1 HGS
      clear hz
      by_cases hg : gm < z
      · have hd : decide (z > gm) = true := by simpa using hg
        have HGN := Lib.hid (show grR E (s + 1) = (s, z) by rw [HGS.out]; exact if_pos hg)
        clear hg
        go_wp2_with (first | (go_at_call 64; (with_reducible refine (HE1.out _ (HB.out.trans (by (repeat' (first | with_reducible exact Below.refl _ _ | (with_reducible refine below_later_of ?_ ?_ _) | (with_reducible refine Below.alloc ?_ ?_ _) | (with_reducible refine Below.setCell ?_ ?_ _) | (with_reducible refine Below.drew ?_) | (simp; done) | (simp; omega) | omega))))).mono ?_); rintro e w' ⟨rfl, hb⟩; obtain ⟨pq, rfl⟩ := later_of_below hb; clear hb))
        go_roundw
        case rel => exact ⟨s + 1, by omega, by go_num, by rw [HGN.out]; exact ((HS.out.below (by (repeat' (first | with_reducible exact Below.refl _ _ | (with_reducible refine below_later_of ?_ ?_ _) | (with_reducible refine Below.alloc ?_ ?_ _) | (with_reducible refine Below.setCell ?_ ?_ _) | (with_reducible refine Below.drew ?_) | (simp; done) | (simp; omega) | omega)))).put (c' := pt7 s gm 0 0 0 0 0) 0 s (by intro i hi; rcases i with _ | _ | _ | _ | _ | _ | _ | i <;> first | rfl | omega)).put 1 z (by intro i hi; rcases i with _ | _ | _ | _ | _ | _ | _ | i <;> first | rfl | omega)⟩
        case measure => simp [intOf]; omega
      · have hd : decide (z > gm) = false := by simpa using hg
        have HGN := Lib.hid (show grR E (s + 1) = (gk, gm) by rw [HGS.out]; exact if_neg hg)
        clear hg
        go_wp2_with (first | (go_at_call 64; (with_reducible refine (HE1.out _ (HB.out.trans (by (repeat' (first | with_reducible exact Below.refl _ _ | (with_reducible refine below_later_of ?_ ?_ _) | (with_reducible refine Below.alloc ?_ ?_ _) | (with_reducible refine Below.setCell ?_ ?_ _) | (with_reducible refine Below.drew ?_) | (simp; done) | (simp; omega) | omega))))).mono ?_); rintro e w' ⟨rfl, hb⟩; obtain ⟨pq, rfl⟩ := later_of_below hb; clear hb))
        go_roundw
        case rel => exact ⟨s + 1, by omega, by go_num, by rw [HGN.out]; exact HS.out.below (by (repeat' (first | with_reducible exact Below.refl _ _ | (with_reducible refine below_later_of ?_ ?_ _) | (with_reducible refine Below.alloc ?_ ?_ _) | (with_reducible refine Below.setCell ?_ ?_ _) | (with_reducible refine Below.drew ?_) | (simp; done) | (simp; omega) | omega)))⟩
        case measure => simp [intOf]; omega
    · obtain rfl : S = s := by omega
      have hds : decide ((S : Int) < (S : Int)) = false := by simp
      rw [HGG.out] at hgl
      obtain ⟨hpk, hem⟩ := hgl
      dsimp only at hpk hem
      have hgb := HEB.out gk hpk
      rw [← hem] at hgb
      obtain ⟨hg0, hg1⟩ := hgb
      clear hem
      go_upto_region 8 with fail
      refine any_worldT (fun W => PtSt W1 (w.heap.size + 1) (w.heap.size + 1) (w.heap.size + 1 + 1) (.int .i64 0) (pt7 gk gm 0 0 0 0 0) W) (HS.out.below (by (repeat' (first | with_reducible exact Below.refl _ _ | (with_reducible refine below_later_of ?_ ?_ _) | (with_reducible refine Below.alloc ?_ ?_ _) | (with_reducible refine Below.setCell ?_ ?_ _) | (with_reducible refine Below.drew ?_) | (simp; done) | (simp; omega) | omega)))) ?_
      rintro W3 hst
      have HN := Lib.hid hst
      have hlt3 := hst.lt
      have HB3 := Lib.hid (HB1.out.trans (hst.bel.mono (by have := HS1.out; omega)))
      have c0 : W3.cell? ⟨w.heap.size + 1 + 1, 0, none⟩ = some (.int .i64 gk) := hst.cel 0 (by decide)
      have c1 : W3.cell? ⟨w.heap.size + 1 + 1, 1, none⟩ = some (.int .i64 gm) := hst.cel 1 (by decide)
      by_cases h0 : gm = 0
      · have hd : (gm == 0) = true := by simpa using h0
        have H0 := Lib.hid h0
        have r0 := hst.res 0 (by decide)
        have r1 := hst.res 1 (by decide)
        have r2 := hst.res 2 (by decide)
        have r3 := hst.res 3 (by decide)
        have r4 := hst.res 4 (by decide)
        have r5 := hst.res 5 (by decide)
        have r6 := hst.res 6 (by decide)
        have q0 := hst.rfz 0 (by decide)
        have q1 := hst.rfz 1 (by decide)
        have q2 := hst.rfz 2 (by decide)
        have q3 := hst.rfz 3 (by decide)
        have q4 := hst.rfz 4 (by decide)
        have q5 := hst.rfz 5 (by decide)
        have q6 := hst.rfz 6 (by decide)
        clear hst h0
        go_wp2
        refine bodyPost_ret ?_ rfl (.inl ⟨by rw [HGG.out]; exact H0.out, rfl, HB3.out.trans (by (repeat' (first | with_reducible exact Below.refl _ _ | (with_reducible refine below_later_of ?_ ?_ _) | (with_reducible refine Below.alloc ?_ ?_ _) | (with_reducible refine Below.setCell ?_ ?_ _) | (with_reducible refine Below.drew ?_) | (simp; done) | (simp; omega) | omega)))⟩)
        first | (simp [results, Tryd.results71, go_sem, r0, r1, r2, r3, r4, r5, r6]; done) | simp [results, Tryd.results71, go_sem, r0, r1, r2, r3, r4, r5, r6, ↓IntWalk.iteOmega]
      · have hd : (gm == 0) = false := by simpa using h0
        have H0 := Lib.hid h0
        have c2 : W3.cell? ⟨w.heap.size + 1 + 1, 2, none⟩ = some (.int .i64 0) := hst.cel 2 (by decide)
        have c3 : W3.cell? ⟨w.heap.size + 1 + 1, 3, none⟩ = some (.int .i64 0) := hst.cel 3 (by decide)
        have c4 : W3.cell? ⟨w.heap.size + 1 + 1, 4, none⟩ = some (.int .i64 0) := hst.cel 4 (by decide)
        have c5 : W3.cell? ⟨w.heap.size + 1 + 1, 5, none⟩ = some (.int .i64 0) := hst.cel 5 (by decide)
        have f2 := hst.frz 2 (by decide)
        have f3 := hst.frz 3 (by decide)
        have f4 := hst.frz 4 (by decide)
        have f5 := hst.frz 5 (by decide)
        clear hst h0
        go_upto_block 2 with fail
        refine any_worldT (fun W => PtSt W1 (w.heap.size + 1) (w.heap.size + 1) (w.heap.size + 1 + 1) (.int .i64 0) (pt7 gk gm gk gk gk gk 0) W) (((((HN.out.below (by (repeat' (first | with_reducible exact Below.refl _ _ | (with_reducible refine below_later_of ?_ ?_ _) | (with_reducible refine Below.alloc ?_ ?_ _) | (with_reducible refine Below.setCell ?_ ?_ _) | (with_reducible refine Below.drew ?_) | (simp; done) | (simp; omega) | omega)))).put (c' := pt7 gk gm gk 0 0 0 0) 2 gk (by intro i hi; rcases i with _ | _ | _ | _ | _ | _ | _ | i <;> first | rfl | omega)).put (c' := pt7 gk gm gk gk 0 0 0) 3 gk (by intro i hi; rcases i with _ | _ | _ | _ | _ | _ | _ | i <;> first | rfl | omega)).put (c' := pt7 gk gm gk gk gk 0 0) 4 gk (by intro i hi; rcases i with _ | _ | _ | _ | _ | _ | _ | i <;> first | rfl | omega)).put 5 gk (by intro i hi; rcases i with _ | _ | _ | _ | _ | _ | _ | i <;> first | rfl | omega)) ?_
        rintro W4 hst
        have HN := Lib.hid hst
        clear hst c0 c1 c2 c3 c4 c5 f2 f3 f4 f5
        go_cut [1] from 44 to 67 (fun X wx => X = .int .i64 l ∧ PtSt W1 (w.heap.size + 1) (w.heap.size + 1) (w.heap.size + 1 + 1) (.int .i64 0) (pt7 gk gm (downP (gH E gm) gk) gk gk gk 0) wx)
        case first =>
          go_wp2_with fail
          go_loopw [] (fun wr => ∃ x : Nat, x ≤ gk ∧ downP (gH E gm) x = downP (gH E gm) gk ∧ PtSt W1 (w.heap.size + 1) (w.heap.size + 1) (w.heap.size + 1 + 1) (.int .i64 0) (pt7 gk gm x gk gk gk 0) wr) (fun wr => (intOf ((wr.cell? ⟨w.heap.size + 1 + 1, 2, none⟩).getD undef)).toNat)
          case atStart => exact ⟨gk, Nat.le_refl _, rfl, HN.out⟩
          case round =>
            obtain ⟨x, hx, hdn, hst⟩ := hrel
            have cx : wr.cell? ⟨w.heap.size + 1 + 1, 2, none⟩ = some (.int .i64 x) := hst.cel 2 (by decide)
            have fx := hst.frz 2 (by decide)
            have c1 : wr.cell? ⟨w.heap.size + 1 + 1, 1, none⟩ = some (.int .i64 gm) := hst.cel 1 (by decide)
            have hsz := HS1.out
            have x0 := (hst.bel.cell (p := ⟨w.heap.size, 0, none⟩) (show w.heap.size < W1.heap.size by omega)).trans HA.out.1
            have x1 := (hst.bel.cell (p := ⟨w.heap.size, 1, none⟩) (show w.heap.size < W1.heap.size by omega)).trans HA.out.2.1
            have x2 := (hst.bel.cell (p := ⟨w.heap.size, 2, none⟩) (show w.heap.size < W1.heap.size by omega)).trans HA.out.2.2
            have HB := Lib.hid (HB1.out.trans (hst.bel.mono (by omega)))
            have hlt := hst.lt
            have HS := Lib.hid hst
            clear hsz
            have HDN := Lib.hid hdn
            clear hst hdn
            rcases x with _ | m
            · have HEND := Lib.hid (show downP (gH E gm) gk = 0 by rw [← HDN.out]; rfl)
              have hd0 : decide ((0 : Int) > 0) = false := by decide
              go_wp2
              refine wp_region_calm (by kernel_rfl) (by kernel_rfl) ?_
              repeat (go_big_quiet_step (fail))
              refine wpQuiet_nil ?_
              rintro _ ⟨pz, rfl⟩
              go_wp2_with fail
              go_meet
              exact ⟨rfl, by rw [HEND.out]; exact HS.out.below (by (repeat' (first | with_reducible exact Below.refl _ _ | (with_reducible refine below_later_of ?_ ?_ _) | (with_reducible refine Below.alloc ?_ ?_ _) | (with_reducible refine Below.setCell ?_ ?_ _) | (with_reducible refine Below.drew ?_) | (simp; done) | (simp; omega) | omega)))⟩
            · have hd0 : decide (((m + 1 : Nat) : Int) > 0) = true := by simp
              have HE1 := Lib.hid (HEN.out m (m : Int) rfl (by omega))
              have hb1 := HEB.out m (by omega)
              have HGD := Lib.hid (show (gH E gm) (m + 1) m = decide (2 * E m ≥ gm) from rfl)
              obtain ⟨z, hz⟩ : ∃ z, E m = z := ⟨_, rfl⟩
              rw [hz] at HE1 hb1
              rw [hz] at HGD
              obtain ⟨z1, z2⟩ := hb1
              clear hz
              rcases (show decide (2 * z ≥ gm) = false ∨ decide (2 * z ≥ gm) = true by cases decide (2 * z ≥ gm) <;> simp) with h1 | h1
              · have HEND := Lib.hid (show downP (gH E gm) gk = m + 1 by rw [← HDN.out]; unfold downP; rw [HGD.out, h1]; rfl)
                go_wp2
                refine wp_region_calm (by kernel_rfl) (by kernel_rfl) ?_
                repeat (go_big_quiet_step (first | (go_at_call 64; with_reducible exact calm_of (HE1.out _ (HB.out.trans (by (repeat' (first | with_reducible exact Below.refl _ _ | (with_reducible refine below_later_of ?_ ?_ _) | (with_reducible refine Below.alloc ?_ ?_ _) | (with_reducible refine Below.setCell ?_ ?_ _) | (with_reducible refine Below.drew ?_) | (simp; done) | (simp; omega) | omega))))))))
                refine wpQuiet_nil ?_
                rintro _ ⟨pz, rfl⟩
                go_wp2_with fail
                go_meet
                exact ⟨rfl, by rw [HEND.out]; exact HS.out.below (by (repeat' (first | with_reducible exact Below.refl _ _ | (with_reducible refine below_later_of ?_ ?_ _) | (with_reducible refine Below.alloc ?_ ?_ _) | (with_reducible refine Below.setCell ?_ ?_ _) | (with_reducible refine Below.drew ?_) | (simp; done) | (simp; omega) | omega)))⟩
              · have HNX := Lib.hid (show downP (gH E gm) m = downP (gH E gm) gk by rw [← HDN.out, downP, HGD.out, h1]; rfl)
                go_wp2
                refine wp_region_calm (by kernel_rfl) (by kernel_rfl) ?_
                repeat (go_big_quiet_step (first | (go_at_call 64; with_reducible exact calm_of (HE1.out _ (HB.out.trans (by (repeat' (first | with_reducible exact Below.refl _ _ | (with_reducible refine below_later_of ?_ ?_ _) | (with_reducible refine Below.alloc ?_ ?_ _) | (with_reducible refine Below.setCell ?_ ?_ _) | (with_reducible refine Below.drew ?_) | (simp; done) | (simp; omega) | omega))))))))
                refine wpQuiet_nil ?_
                rintro _ ⟨pz, rfl⟩
                go_wp2
                go_roundw
                case rel => exact ⟨m, by omega, HNX.out, (HS.out.below (by (repeat' (first | with_reducible exact Below.refl _ _ | (with_reducible refine below_later_of ?_ ?_ _) | (with_reducible refine Below.alloc ?_ ?_ _) | (with_reducible refine Below.setCell ?_ ?_ _) | (with_reducible refine Below.drew ?_) | (simp; done) | (simp; omega) | omega)))).put 2 m (by intro i hi; rcases i with _ | _ | _ | _ | _ | _ | _ | i <;> first | rfl | omega)⟩
                case measure => (first | (simp [go_sem, intOf, cx]; done) | simp [go_sem, intOf, cx, ↓IntWalk.iteOmega]) <;> omega
        case rest =>
          obtain ⟨rfl, hst⟩ := hcut
          obtain ⟨h1, hh1⟩ : ∃ x, downP (gH E gm) gk = x := ⟨_, rfl⟩
          rw [hh1] at hst
          have Hh1 := Lib.hid hh1
          have HN := Lib.hid hst
          clear hst hh1
          go_upto_block 4 with fail
          go_cut [1] from 67 to 93 (fun X wx => X = .int .i64 l ∧ PtSt W1 (w.heap.size + 1) (w.heap.size + 1) (w.heap.size + 1 + 1) (.int .i64 0) (pt7 gk gm h1 (raiseP (gH E gm) (S - 1 - gk) gk) gk gk 0) wx)
          case first =>
            go_wp2_with fail
            go_loopw [] (fun wr => ∃ x : Nat, gk ≤ x ∧ x + 1 ≤ S ∧ raiseP (gH E gm) (S - 1 - x) x = raiseP (gH E gm) (S - 1 - gk) gk ∧ PtSt W1 (w.heap.size + 1) (w.heap.size + 1) (w.heap.size + 1 + 1) (.int .i64 0) (pt7 gk gm h1 x gk gk 0) wr) (fun wr => S - (intOf ((wr.cell? ⟨w.heap.size + 1 + 1, 3, none⟩).getD undef)).toNat)
            case atStart => exact ⟨gk, Nat.le_refl _, hpk, rfl, HN.out⟩
            case round =>
              obtain ⟨x, hx, hxs, hup, hst⟩ := hrel
              have cx : wr.cell? ⟨w.heap.size + 1 + 1, 3, none⟩ = some (.int .i64 x) := hst.cel 3 (by decide)
              have fx := hst.frz 3 (by decide)
              have c1 : wr.cell? ⟨w.heap.size + 1 + 1, 1, none⟩ = some (.int .i64 gm) := hst.cel 1 (by decide)
              have hsz := HS1.out
              have x0 := (hst.bel.cell (p := ⟨w.heap.size, 0, none⟩) (show w.heap.size < W1.heap.size by omega)).trans HA.out.1
              have x1 := (hst.bel.cell (p := ⟨w.heap.size, 1, none⟩) (show w.heap.size < W1.heap.size by omega)).trans HA.out.2.1
              have x2 := (hst.bel.cell (p := ⟨w.heap.size, 2, none⟩) (show w.heap.size < W1.heap.size by omega)).trans HA.out.2.2
              have HB := Lib.hid (HB1.out.trans (hst.bel.mono (by omega)))
              have hlt := hst.lt
              have HS := Lib.hid hst
              clear hsz
              have HUP := Lib.hid hup
              clear hst hup
              by_cases hc : x + 1 < S
              · have hd0 : decide ((x : Int) < (S : Int) - 1) = true := by simp; omega
                have HE1 := Lib.hid (HEN.out (x + 1) ((x : Int) + 1) (by omega) (by omega))
                have hb1 := HEB.out (x + 1) (by omega)
                obtain ⟨r, hr⟩ : ∃ r, S - 1 - x = r + 1 := ⟨S - 1 - x - 1, by omega⟩
                have HGD := Lib.hid (show (gH E gm) x (x + 1) = decide (2 * E (x + 1) ≥ gm) from rfl)
                obtain ⟨z, hz⟩ : ∃ z, E (x + 1) = z := ⟨_, rfl⟩
                rw [hz] at HE1 hb1
                rw [hz] at HGD
                obtain ⟨z1, z2⟩ := hb1
                clear hz
                rcases (show decide (2 * z ≥ gm) = false ∨ decide (2 * z ≥ gm) = true by cases decide (2 * z ≥ gm) <;> simp) with h1 | h1
                · have HEND := Lib.hid (show raiseP (gH E gm) (S - 1 - gk) gk = x by rw [← HUP.out, hr]; unfold raiseP; rw [HGD.out, h1]; rfl)
                  clear hr
                  go_wp2
                  refine wp_region_calm (by kernel_rfl) (by kernel_rfl) ?_
                  repeat (go_big_quiet_step (first | (go_at_call 64; with_reducible exact calm_of (HE1.out _ (HB.out.trans (by (repeat' (first | with_reducible exact Below.refl _ _ | (with_reducible refine below_later_of ?_ ?_ _) | (with_reducible refine Below.alloc ?_ ?_ _) | (with_reducible refine Below.setCell ?_ ?_ _) | (with_reducible refine Below.drew ?_) | (simp; done) | (simp; omega) | omega))))))))
                  refine wpQuiet_nil ?_
                  rintro _ ⟨pz, rfl⟩
                  go_wp2_with fail
                  go_meet
                  exact ⟨rfl, by rw [HEND.out]; exact HS.out.below (by (repeat' (first | with_reducible exact Below.refl _ _ | (with_reducible refine below_later_of ?_ ?_ _) | (with_reducible refine Below.alloc ?_ ?_ _) | (with_reducible refine Below.setCell ?_ ?_ _) | (with_reducible refine Below.drew ?_) | (simp; done) | (simp; omega) | omega)))⟩
                · have HNX := Lib.hid (show raiseP (gH E gm) (S - 1 - (x + 1)) (x + 1) = raiseP (gH E gm) (S - 1 - gk) gk by rw [← HUP.out, hr, show S - 1 - (x + 1) = r by omega, raiseP, HGD.out, h1]; rfl)
                  clear hr
                  go_wp2
                  refine wp_region_calm (by kernel_rfl) (by kernel_rfl) ?_
                  repeat (go_big_quiet_step (first | (go_at_call 64; with_reducible exact calm_of (HE1.out _ (HB.out.trans (by (repeat' (first | with_reducible exact Below.refl _ _ | (with_reducible refine below_later_of ?_ ?_ _) | (with_reducible refine Below.alloc ?_ ?_ _) | (with_reducible refine Below.setCell ?_ ?_ _) | (with_reducible refine Below.drew ?_) | (simp; done) | (simp; omega) | omega))))))))
                  refine wpQuiet_nil ?_
                  rintro _ ⟨pz, rfl⟩
                  go_wp2
                  go_roundw
                  case rel => exact ⟨x + 1, by omega, by omega, HNX.out, (HS.out.below (by (repeat' (first | with_reducible exact Below.refl _ _ | (with_reducible refine below_later_of ?_ ?_ _) | (with_reducible refine Below.alloc ?_ ?_ _) | (with_reducible refine Below.setCell ?_ ?_ _) | (with_reducible refine Below.drew ?_) | (simp; done) | (simp; omega) | omega)))).put 3 ((x + 1 : Nat) : Int) (by intro i hi; rcases i with _ | _ | _ | _ | _ | _ | _ | i <;> first | rfl | omega)⟩
                  case measure => (first | (simp [go_sem, intOf, cx]; done) | simp [go_sem, intOf, cx, ↓IntWalk.iteOmega]) <;> omega
              · have HEND := Lib.hid (show raiseP (gH E gm) (S - 1 - gk) gk = x by rw [← HUP.out, show S - 1 - x = 0 by omega]; rfl)
                have hd0 : decide ((x : Int) < (S : Int) - 1) = false := by simp; omega
                go_wp2
                refine wp_region_calm (by kernel_rfl) (by kernel_rfl) ?_
                repeat (go_big_quiet_step (fail))
                refine wpQuiet_nil ?_
                rintro _ ⟨pz, rfl⟩
                go_wp2_with fail
                go_meet
                exact ⟨rfl, by rw [HEND.out]; exact HS.out.below (by (repeat' (first | with_reducible exact Below.refl _ _ | (with_reducible refine below_later_of ?_ ?_ _) | (with_reducible refine Below.alloc ?_ ?_ _) | (with_reducible refine Below.setCell ?_ ?_ _) | (with_reducible refine Below.drew ?_) | (simp; done) | (simp; omega) | omega)))⟩
          case rest =>
            obtain ⟨rfl, hst⟩ := hcut
            obtain ⟨h2, hh2⟩ : ∃ x, raiseP (gH E gm) (S - 1 - gk) gk = x := ⟨_, rfl⟩
            rw [hh2] at hst
            have Hh2 := Lib.hid hh2
            have HN := Lib.hid hst
            clear hst hh2
            go_upto_block 6 with fail
            go_cut [1] from 93 to 119 (fun X wx => X = .int .i64 l ∧ PtSt W1 (w.heap.size + 1) (w.heap.size + 1) (w.heap.size + 1 + 1) (.int .i64 0) (pt7 gk gm h1 h2 (downP (gL E) gk) gk 0) wx)
            case first =>
              go_wp2_with fail
              go_loopw [] (fun wr => ∃ x : Nat, x ≤ gk ∧ downP (gL E) x = downP (gL E) gk ∧ PtSt W1 (w.heap.size + 1) (w.heap.size + 1) (w.heap.size + 1 + 1) (.int .i64 0) (pt7 gk gm h1 h2 x gk 0) wr) (fun wr => (intOf ((wr.cell? ⟨w.heap.size + 1 + 1, 4, none⟩).getD undef)).toNat)
              case atStart => exact ⟨gk, Nat.le_refl _, rfl, HN.out⟩
              case round =>
                obtain ⟨x, hx, hdn, hst⟩ := hrel
                have cx : wr.cell? ⟨w.heap.size + 1 + 1, 4, none⟩ = some (.int .i64 x) := hst.cel 4 (by decide)
                have fx := hst.frz 4 (by decide)
                have c1 : wr.cell? ⟨w.heap.size + 1 + 1, 1, none⟩ = some (.int .i64 gm) := hst.cel 1 (by decide)
                have hsz := HS1.out
                have x0 := (hst.bel.cell (p := ⟨w.heap.size, 0, none⟩) (show w.heap.size < W1.heap.size by omega)).trans HA.out.1
                have x1 := (hst.bel.cell (p := ⟨w.heap.size, 1, none⟩) (show w.heap.size < W1.heap.size by omega)).trans HA.out.2.1
                have x2 := (hst.bel.cell (p := ⟨w.heap.size, 2, none⟩) (show w.heap.size < W1.heap.size by omega)).trans HA.out.2.2
                have HB := Lib.hid (HB1.out.trans (hst.bel.mono (by omega)))
                have hlt := hst.lt
                have HS := Lib.hid hst
                clear hsz
                have HDN := Lib.hid hdn
                clear hst hdn
                rcases x with _ | m
                · have HEND := Lib.hid (show downP (gL E) gk = 0 by rw [← HDN.out]; rfl)
                  have hd0 : decide ((0 : Int) > 0) = false := by decide
                  go_wp2
                  refine wp_region_calm (by kernel_rfl) (by kernel_rfl) ?_
                  repeat (go_big_quiet_step (fail))
                  refine wpQuiet_nil ?_
                  rintro _ ⟨pz, rfl⟩
                  go_wp2_with fail
                  go_meet
                  exact ⟨rfl, by rw [HEND.out]; exact HS.out.below (by (repeat' (first | with_reducible exact Below.refl _ _ | (with_reducible refine below_later_of ?_ ?_ _) | (with_reducible refine Below.alloc ?_ ?_ _) | (with_reducible refine Below.setCell ?_ ?_ _) | (with_reducible refine Below.drew ?_) | (simp; done) | (simp; omega) | omega)))⟩
                · have hd0 : decide (((m + 1 : Nat) : Int) > 0) = true := by simp
                  have HE1 := Lib.hid (HEN.out m (m : Int) rfl (by omega))
                  have hb1 := HEB.out m (by omega)
                  have HE2 := Lib.hid (HEN.out (m + 1) ((m : Int) + 1) (by omega) (by omega))
                  have HGD := Lib.hid (show (gL E) (m + 1) m = decide (E m < E (m + 1)) from rfl)
                  obtain ⟨z, hz⟩ : ∃ z, E m = z := ⟨_, rfl⟩
                  obtain ⟨y, hy⟩ : ∃ y, E (m + 1) = y := ⟨_, rfl⟩
                  rw [hy] at HE2
                  rw [hz] at HE1 hb1
                  rw [hz, hy] at HGD
                  obtain ⟨z1, z2⟩ := hb1
                  clear hz hy
                  rcases (show decide (z < y) = false ∨ decide (z < y) = true by cases decide (z < y) <;> simp) with h1 | h1
                  · have HEND := Lib.hid (show downP (gL E) gk = m + 1 by rw [← HDN.out]; unfold downP; rw [HGD.out, h1]; rfl)
                    go_wp2
                    refine wp_region_calm (by kernel_rfl) (by kernel_rfl) ?_
                    repeat (go_big_quiet_step (first | (go_at_call 64; with_reducible exact calm_of (HE1.out _ (HB.out.trans (by (repeat' (first | with_reducible exact Below.refl _ _ | (with_reducible refine below_later_of ?_ ?_ _) | (with_reducible refine Below.alloc ?_ ?_ _) | (with_reducible refine Below.setCell ?_ ?_ _) | (with_reducible refine Below.drew ?_) | (simp; done) | (simp; omega) | omega)))))) | (go_at_call 64; with_reducible exact calm_of (HE2.out _ (HB.out.trans (by (repeat' (first | with_reducible exact Below.refl _ _ | (with_reducible refine below_later_of ?_ ?_ _) | (with_reducible refine Below.alloc ?_ ?_ _) | (with_reducible refine Below.setCell ?_ ?_ _) | (with_reducible refine Below.drew ?_) | (simp; done) | (simp; omega) | omega))))))))
                    refine wpQuiet_nil ?_
                    rintro _ ⟨pz, rfl⟩
                    go_wp2_with fail
                    go_meet
                    exact ⟨rfl, by rw [HEND.out]; exact HS.out.below (by (repeat' (first | with_reducible exact Below.refl _ _ | (with_reducible refine below_later_of ?_ ?_ _) | (with_reducible refine Below.alloc ?_ ?_ _) | (with_reducible refine Below.setCell ?_ ?_ _) | (with_reducible refine Below.drew ?_) | (simp; done) | (simp; omega) | omega)))⟩
                  · have HNX := Lib.hid (show downP (gL E) m = downP (gL E) gk by rw [← HDN.out, downP, HGD.out, h1]; rfl)
                    go_wp2
                    refine wp_region_calm (by kernel_rfl) (by kernel_rfl) ?_
                    repeat (go_big_quiet_step (first | (go_at_call 64; with_reducible exact calm_of (HE1.out _ (HB.out.trans (by (repeat' (first | with_reducible exact Below.refl _ _ | (with_reducible refine below_later_of ?_ ?_ _) | (with_reducible refine Below.alloc ?_ ?_ _) | (with_reducible refine Below.setCell ?_ ?_ _) | (with_reducible refine Below.drew ?_) | (simp; done) | (simp; omega) | omega)))))) | (go_at_call 64; with_reducible exact calm_of (HE2.out _ (HB.out.trans (by (repeat' (first | with_reducible exact Below.refl _ _ | (with_reducible refine below_later_of ?_ ?_ _) | (with_reducible refine Below.alloc ?_ ?_ _) | (with_reducible refine Below.setCell ?_ ?_ _) | (with_reducible refine Below.drew ?_) | (simp; done) | (simp; omega) | omega))))))))
                    refine wpQuiet_nil ?_
                    rintro _ ⟨pz, rfl⟩
                    go_wp2
                    go_roundw
                    case rel => exact ⟨m, by omega, HNX.out, (HS.out.below (by (repeat' (first | with_reducible exact Below.refl _ _ | (with_reducible refine below_later_of ?_ ?_ _) | (with_reducible refine Below.alloc ?_ ?_ _) | (with_reducible refine Below.setCell ?_ ?_ _) | (with_reducible refine Below.drew ?_) | (simp; done) | (simp; omega) | omega)))).put 4 m (by intro i hi; rcases i with _ | _ | _ | _ | _ | _ | _ | i <;> first | rfl | omega)⟩
                    case measure => (first | (simp [go_sem, intOf, cx]; done) | simp [go_sem, intOf, cx, ↓IntWalk.iteOmega]) <;> omega
            case rest =>
              obtain ⟨rfl, hst⟩ := hcut
              obtain ⟨g1, hg1⟩ : ∃ x, downP (gL E) gk = x := ⟨_, rfl⟩
              rw [hg1] at hst
              have Hg1 := Lib.hid hg1
              have HN := Lib.hid hst
              clear hst hg1
              go_upto_block 8 with fail
              go_cut [1] from 119 to 148 (fun X wx => X = .int .i64 l ∧ PtSt W1 (w.heap.size + 1) (w.heap.size + 1) (w.heap.size + 1 + 1) (.int .i64 0) (pt7 gk gm h1 h2 g1 (raiseP (gL E) (S - 1 - gk) gk) 0) wx)
              case first =>
                go_wp2_with fail
                go_loopw [] (fun wr => ∃ x : Nat, gk ≤ x ∧ x + 1 ≤ S ∧ raiseP (gL E) (S - 1 - x) x = raiseP (gL E) (S - 1 - gk) gk ∧ PtSt W1 (w.heap.size + 1) (w.heap.size + 1) (w.heap.size + 1 + 1) (.int .i64 0) (pt7 gk gm h1 h2 g1 x 0) wr) (fun wr => S - (intOf ((wr.cell? ⟨w.heap.size + 1 + 1, 5, none⟩).getD undef)).toNat)
                case atStart => exact ⟨gk, Nat.le_refl _, hpk, rfl, HN.out⟩
                case round =>
                  obtain ⟨x, hx, hxs, hup, hst⟩ := hrel
                  have cx : wr.cell? ⟨w.heap.size + 1 + 1, 5, none⟩ = some (.int .i64 x) := hst.cel 5 (by decide)
                  have fx := hst.frz 5 (by decide)
                  have c1 : wr.cell? ⟨w.heap.size + 1 + 1, 1, none⟩ = some (.int .i64 gm) := hst.cel 1 (by decide)
                  have hsz := HS1.out
                  have x0 := (hst.bel.cell (p := ⟨w.heap.size, 0, none⟩) (show w.heap.size < W1.heap.size by omega)).trans HA.out.1
                  have x1 := (hst.bel.cell (p := ⟨w.heap.size, 1, none⟩) (show w.heap.size < W1.heap.size by omega)).trans HA.out.2.1
                  have x2 := (hst.bel.cell (p := ⟨w.heap.size, 2, none⟩) (show w.heap.size < W1.heap.size by omega)).trans HA.out.2.2
                  have HB := Lib.hid (HB1.out.trans (hst.bel.mono (by omega)))
                  have hlt := hst.lt
                  have HS := Lib.hid hst
                  clear hsz
                  have HUP := Lib.hid hup
                  clear hst hup
                  by_cases hc : x + 1 < S
                  · have hd0 : decide ((x : Int) < (S : Int) - 1) = true := by simp; omega
                    have HE1 := Lib.hid (HEN.out (x + 1) ((x : Int) + 1) (by omega) (by omega))
                    have hb1 := HEB.out (x + 1) (by omega)
                    obtain ⟨r, hr⟩ : ∃ r, S - 1 - x = r + 1 := ⟨S - 1 - x - 1, by omega⟩
                    have HE2 := Lib.hid (HEN.out x (x : Int) rfl (by omega))
                    have HGD := Lib.hid (show (gL E) x (x + 1) = decide (E (x + 1) < E x) from rfl)
                    obtain ⟨z, hz⟩ : ∃ z, E (x + 1) = z := ⟨_, rfl⟩
                    obtain ⟨y, hy⟩ : ∃ y, E x = y := ⟨_, rfl⟩
                    rw [hy] at HE2
                    rw [hz] at HE1 hb1
                    rw [hz, hy] at HGD
                    obtain ⟨z1, z2⟩ := hb1
                    clear hz hy
                    rcases (show decide (z < y) = false ∨ decide (z < y) = true by cases decide (z < y) <;> simp) with h1 | h1
                    · have HEND := Lib.hid (show raiseP (gL E) (S - 1 - gk) gk = x by rw [← HUP.out, hr]; unfold raiseP; rw [HGD.out, h1]; rfl)
                      clear hr
                      go_wp2
                      refine wp_region_calm (by kernel_rfl) (by kernel_rfl) ?_
                      repeat (go_big_quiet_step (first | (go_at_call 64; with_reducible exact calm_of (HE1.out _ (HB.out.trans (by (repeat' (first | with_reducible exact Below.refl _ _ | (with_reducible refine below_later_of ?_ ?_ _) | (with_reducible refine Below.alloc ?_ ?_ _) | (with_reducible refine Below.setCell ?_ ?_ _) | (with_reducible refine Below.drew ?_) | (simp; done) | (simp; omega) | omega)))))) | (go_at_call 64; with_reducible exact calm_of (HE2.out _ (HB.out.trans (by (repeat' (first | with_reducible exact Below.refl _ _ | (with_reducible refine below_later_of ?_ ?_ _) | (with_reducible refine Below.alloc ?_ ?_ _) | (with_reducible refine Below.setCell ?_ ?_ _) | (with_reducible refine Below.drew ?_) | (simp; done) | (simp; omega) | omega))))))))
                      refine wpQuiet_nil ?_
                      rintro _ ⟨pz, rfl⟩
                      go_wp2_with fail
                      go_meet
                      exact ⟨rfl, by rw [HEND.out]; exact HS.out.below (by (repeat' (first | with_reducible exact Below.refl _ _ | (with_reducible refine below_later_of ?_ ?_ _) | (with_reducible refine Below.alloc ?_ ?_ _) | (with_reducible refine Below.setCell ?_ ?_ _) | (with_reducible refine Below.drew ?_) | (simp; done) | (simp; omega) | omega)))⟩
                    · have HNX := Lib.hid (show raiseP (gL E) (S - 1 - (x + 1)) (x + 1) = raiseP (gL E) (S - 1 - gk) gk by rw [← HUP.out, hr, show S - 1 - (x + 1) = r by omega, raiseP, HGD.out, h1]; rfl)
                      clear hr
                      go_wp2
                      refine wp_region_calm (by kernel_rfl) (by kernel_rfl) ?_
                      repeat (go_big_quiet_step (first | (go_at_call 64; with_reducible exact calm_of (HE1.out _ (HB.out.trans (by (repeat' (first | with_reducible exact Below.refl _ _ | (with_reducible refine below_later_of ?_ ?_ _) | (with_reducible refine Below.alloc ?_ ?_ _) | (with_reducible refine Below.setCell ?_ ?_ _) | (with_reducible refine Below.drew ?_) | (simp; done) | (simp; omega) | omega)))))) | (go_at_call 64; with_reducible exact calm_of (HE2.out _ (HB.out.trans (by (repeat' (first | with_reducible exact Below.refl _ _ | (with_reducible refine below_later_of ?_ ?_ _) | (with_reducible refine Below.alloc ?_ ?_ _) | (with_reducible refine Below.setCell ?_ ?_ _) | (with_reducible refine Below.drew ?_) | (simp; done) | (simp; omega) | omega))))))))
                      refine wpQuiet_nil ?_
                      rintro _ ⟨pz, rfl⟩
                      go_wp2
                      go_roundw
                      case rel => exact ⟨x + 1, by omega, by omega, HNX.out, (HS.out.below (by (repeat' (first | with_reducible exact Below.refl _ _ | (with_reducible refine below_later_of ?_ ?_ _) | (with_reducible refine Below.alloc ?_ ?_ _) | (with_reducible refine Below.setCell ?_ ?_ _) | (with_reducible refine Below.drew ?_) | (simp; done) | (simp; omega) | omega)))).put 5 ((x + 1 : Nat) : Int) (by intro i hi; rcases i with _ | _ | _ | _ | _ | _ | _ | i <;> first | rfl | omega)⟩
                      case measure => (first | (simp [go_sem, intOf, cx]; done) | simp [go_sem, intOf, cx, ↓IntWalk.iteOmega]) <;> omega
                  · have HEND := Lib.hid (show raiseP (gL E) (S - 1 - gk) gk = x by rw [← HUP.out, show S - 1 - x = 0 by omega]; rfl)
                    have hd0 : decide ((x : Int) < (S : Int) - 1) = false := by simp; omega
                    go_wp2
                    refine wp_region_calm (by kernel_rfl) (by kernel_rfl) ?_
                    repeat (go_big_quiet_step (fail))
                    refine wpQuiet_nil ?_
                    rintro _ ⟨pz, rfl⟩
                    go_wp2_with fail
                    go_meet
                    exact ⟨rfl, by rw [HEND.out]; exact HS.out.below (by (repeat' (first | with_reducible exact Below.refl _ _ | (with_reducible refine below_later_of ?_ ?_ _) | (with_reducible refine Below.alloc ?_ ?_ _) | (with_reducible refine Below.setCell ?_ ?_ _) | (with_reducible refine Below.drew ?_) | (simp; done) | (simp; omega) | omega)))⟩
              case rest =>
                obtain ⟨rfl, hst⟩ := hcut
                obtain ⟨g2, hg2⟩ : ∃ x, raiseP (gL E) (S - 1 - gk) gk = x := ⟨_, rfl⟩
                rw [hg2] at hst
                have Hg2 := Lib.hid hg2
                have HN := Lib.hid hst
                clear hst hg2
                go_wp2_with fail
                go_loopw [9] (fun i wr => ∃ s : Nat, s ≤ S ∧ i = .int .i64 s ∧ PtSt W1 (w.heap.size + 1) (w.heap.size + 1) (w.heap.size + 1 + 1) (.int .i64 0) (pt7 gk gm h1 h2 g1 g2 (sideP E g1 g2 s)) wr) (fun i _ => S - (intOf i).toNat)
                case atStart => exact ⟨0, Nat.zero_le _, rfl, HN.out⟩
                case round =>
                  obtain ⟨s, hs, rfl, hst⟩ := hrel
                  have c1 : wr.cell? ⟨w.heap.size + 1 + 1, 1, none⟩ = some (.int .i64 gm) := hst.cel 1 (by decide)
                  have hsz := HS1.out
                  have x0 := (hst.bel.cell (p := ⟨w.heap.size, 0, none⟩) (show w.heap.size < W1.heap.size by omega)).trans HA.out.1
                  have x1 := (hst.bel.cell (p := ⟨w.heap.size, 1, none⟩) (show w.heap.size < W1.heap.size by omega)).trans HA.out.2.1
                  have x2 := (hst.bel.cell (p := ⟨w.heap.size, 2, none⟩) (show w.heap.size < W1.heap.size by omega)).trans HA.out.2.2
                  have HB := Lib.hid (HB1.out.trans (hst.bel.mono (by omega)))
                  have hlt := hst.lt
                  have HS := Lib.hid hst
                  clear hsz
                  have c4 : wr.cell? ⟨w.heap.size + 1 + 1, 4, none⟩ = some (.int .i64 g1) := hst.cel 4 (by decide)
                  have c5 : wr.cell? ⟨w.heap.size + 1 + 1, 5, none⟩ = some (.int .i64 g2) := hst.cel 5 (by decide)
                  have HSP := Lib.hid (show sideP E g1 g2 (s + 1) = if inE g1 g2 s then sideP E g1 g2 s else max (sideP E g1 g2 s) (E s) from rfl)
                  obtain ⟨sd, hsd⟩ : ∃ x, sideP E g1 g2 s = x := ⟨_, rfl⟩
                  rw [hsd] at HSP HS
                  have c6 : wr.cell? ⟨w.heap.size + 1 + 1, 6, none⟩ = some (.int .i64 sd) := by rw [← hsd]; exact hst.cel 6 (by decide)
                  have f6 := hst.frz 6 (by decide)
                  by_cases hc : s < S
                  · have hds : decide ((s : Int) < (S : Int)) = true := by simp; omega
                    have HE1 := Lib.hid (HEN.out s s rfl hc)
                    obtain ⟨z, hz⟩ : ∃ z, E s = z := ⟨_, rfl⟩
                    rw [hz] at HE1 HSP
                    clear hst hsd hz
                    rcases (show inE g1 g2 s = true ∨ inE g1 g2 s = false by cases inE g1 g2 s <;> simp) with hi | hi
                    · have HWI := Lib.hid (fun w => bWithin _ _ _ w hi)
                      have HSE := Lib.hid (show sideP E g1 g2 (s + 1) = sd by rw [HSP.out, hi]; rfl)
                      clear hi
                      go_wp2_with (first | (go_at_call 30; (with_reducible refine (HWI.out _).mono ?_); rintro e w' ⟨rfl, rfl⟩))
                      go_roundw
                      case rel => exact ⟨s + 1, by omega, by go_num, by rw [HSE.out]; exact HS.out.below (by (repeat' (first | with_reducible exact Below.refl _ _ | (with_reducible refine below_later_of ?_ ?_ _) | (with_reducible refine Below.alloc ?_ ?_ _) | (with_reducible refine Below.setCell ?_ ?_ _) | (with_reducible refine Below.drew ?_) | (simp; done) | (simp; omega) | omega)))⟩
                      case measure => simp [intOf]; omega
                    · have HWI := Lib.hid (fun w => bWithin _ _ _ w hi)
                      have HSE := Lib.hid (show sideP E g1 g2 (s + 1) = max sd z by rw [HSP.out, hi]; rfl)
                      clear hi
                      go_wp2_with (first | (go_at_call 30; (with_reducible refine (HWI.out _).mono ?_); rintro e w' ⟨rfl, rfl⟩))
                      refine wp_region_calm_tail 8 (by kernel_rfl) (by kernel_rfl) ?_
                      simp only [List.take_succ_cons, List.take_zero, List.drop_succ_cons, List.drop_zero]
                      repeat (go_big_quiet_step (first | (go_at_call 64; with_reducible exact calm_of (HE1.out _ (HB.out.trans (by (repeat' (first | with_reducible exact Below.refl _ _ | (with_reducible refine below_later_of ?_ ?_ _) | (with_reducible refine Below.alloc ?_ ?_ _) | (with_reducible refine Below.setCell ?_ ?_ _) | (with_reducible refine Below.drew ?_) | (simp; done) | (simp; omega) | omega))))))))
                      refine wpQuiet_nil ?_
                      rintro _ ⟨pz, rfl⟩
                      go_wp2
                      go_roundw
                      case rel => exact ⟨s + 1, by omega, by go_num, by rw [HSE.out]; exact (HS.out.below (by (repeat' (first | with_reducible exact Below.refl _ _ | (with_reducible refine below_later_of ?_ ?_ _) | (with_reducible refine Below.alloc ?_ ?_ _) | (with_reducible refine Below.setCell ?_ ?_ _) | (with_reducible refine Below.drew ?_) | (simp; done) | (simp; omega) | omega)))).put 6 _ (by intro i hi; rcases i with _ | _ | _ | _ | _ | _ | _ | i <;> first | rfl | omega)⟩
                      case measure => simp [intOf]; omega
                  · obtain rfl : S = s := by omega
                    have hds : decide ((S : Int) < (S : Int)) = false := by simp
                    have c0 : wr.cell? ⟨w.heap.size + 1 + 1, 0, none⟩ = some (.int .i64 gk) := hst.cel 0 (by decide)
                    have c2 : wr.cell? ⟨w.heap.size + 1 + 1, 2, none⟩ = some (.int .i64 h1) := hst.cel 2 (by decide)
                    have c3 : wr.cell? ⟨w.heap.size + 1 + 1, 3, none⟩ = some (.int .i64 h2) := hst.cel 3 (by decide)
                    have r0 := hst.res 0 (by decide)
                    have r1 := hst.res 1 (by decide)
                    have r2 := hst.res 2 (by decide)
                    have r3 := hst.res 3 (by decide)
                    have r4 := hst.res 4 (by decide)
                    have r5 := hst.res 5 (by decide)
                    have r6 := hst.res 6 (by decide)
                    have q0 := hst.rfz 0 (by decide)
                    have q1 := hst.rfz 1 (by decide)
                    have q2 := hst.rfz 2 (by decide)
                    have q3 := hst.rfz 3 (by decide)
                    have q4 := hst.rfz 4 (by decide)
                    have q5 := hst.rfz 5 (by decide)
                    have q6 := hst.rfz 6 (by decide)
                    have HSD := Lib.hid hsd
                    clear hst hsd
                    go_wp2
                    refine bodyPost_ret ?_ rfl (.inr ⟨by rw [HGG.out]; exact H0.out, by simp only [HGG.out, Hh1.out, Hh2.out, Hg1.out, Hg2.out, HSD.out]; rfl, HB.out.trans (by (repeat' (first | with_reducible exact Below.refl _ _ | (with_reducible refine below_later_of ?_ ?_ _) | (with_reducible refine Below.alloc ?_ ?_ _) | (with_reducible refine Below.setCell ?_ ?_ _) | (with_reducible refine Below.drew ?_) | (simp; done) | (simp; omega) | omega)))⟩)
                    first | (simp [results, Tryd.results71, go_sem, r0, r1, r2, r3, r4, r5, r6]; done) | simp [results, Tryd.results71, go_sem, r0, r1, r2, r3, r4, r5, r6, ↓IntWalk.iteOmega]
end Go.Proofs.YtakohhlmomgegaaDoor
