/- Chapter 1's door seat: the law EchoTurning returns true. -/
import Derived.Test.YtakohhlmomgegaaDoorQ10
import Derived.Test.YtakohhlmomgegaaDoorU72
import Derived.Test.YtakohhlmomgegaaDoorU89
import Derived.Test.YtakohhlmomgegaaDoorU90
import Derived.Test.YtakohhlmomgegaaDoorU67
import Derived.Deep.AppendLies
import Derived.Deep.RegionLaw
namespace Go.Proofs.YtakohhlmomgegaaDoor
set_option linter.unusedVariables false
set_option linter.unusedSimpArgs false
open Go.RowKit Ntt
theorem wp_worldT2 {P : Program} {c : Code} {Q : Exit → Act → World → Prop} {a : Act} {w : World} (F : World → Prop) (hf : F w) (h : ∀ W, F W → Code.wp P c Q a W) : Code.wp P c Q a w := h w hf
/-- Is one of the first k parts, of those that make pairs, not 0? -/
def someB (a : Nat → Int) (S k : Nat) : Bool := (List.range k).any fun j => decide (j < S * 2) && (a j != 0)
theorem someB_succ (a : Nat → Int) (S k : Nat) : someB a S (k + 1) = (someB a S k || (decide (k < S * 2) && (a k != 0))) := by
  unfold someB
  rw [List.range_succ, List.any_append]
  simp
theorem someB_ex {a : Nat → Int} {S k : Nat} (h : someB a S k = true) : ∃ j, j < S * 2 ∧ a j ≠ 0 := by
  unfold someB at h
  rw [List.any_eq_true] at h
  obtain ⟨j, -, hj⟩ := h
  simp at hj
  exact ⟨j, hj.1, hj.2⟩
set_option maxRecDepth 20000 in
set_option maxHeartbeats 8000000 in
theorem turning_any (zs : List Int) (v : Value) (lines quarters : Int) (w : World) (hv : IntsX w v zs) (hq : -9223372036854775808 ≤ quarters ∧ quarters ≤ 9223372036854775807) (ht : Tab w) :
    Calls Tryd.prog 11 #[v, .int .i64 lines, .int .i64 quarters] w fun e w' => e = .returned (.bool true) ∧ Below w.heap.size w w' := by
  obtain ⟨i0, hi0, hz0, hz1, hz2⟩ := info_parts infoC32
  have HT := Lib.hid ht
  clear ht
  obtain ⟨n, hn⟩ : ∃ n, zs.length = n := ⟨_, rfl⟩
  by_cases c1 : n < 2
  · obtain ⟨⟨a, cap, rfl, -⟩, -⟩ := hv
    rw [hn]
    clear hn
    go_enter Tryd.func11, Tryd.ntmps11
    go_wp2_with (first | (go_at_call 17; (with_reducible refine (awake_any _ (HT.out.below (by (repeat' (first | with_reducible exact Below.refl _ _ | (with_reducible refine below_later_of ?_ ?_ _) | (with_reducible refine Below.alloc ?_ ?_ _) | (with_reducible refine Below.setCell ?_ ?_ _) | (with_reducible refine Below.drew ?_) | (simp; done) | (simp; omega) | omega))))).mono ?_); rintro e w' ⟨rfl, hb⟩; obtain ⟨pq, rfl⟩ := later_of_below hb; clear hb))
    all_goals
      go_ret
      exact ⟨rfl, (by (repeat' (first | with_reducible exact Below.refl _ _ | (with_reducible refine below_later_of ?_ ?_ _) | (with_reducible refine Below.alloc ?_ ?_ _) | (with_reducible refine Below.setCell ?_ ?_ _) | (with_reducible refine Below.drew ?_) | (simp; done) | (simp; omega) | omega)))⟩
  by_cases c2 : 120 < n
  · obtain ⟨⟨a, cap, rfl, -⟩, -⟩ := hv
    rw [hn]
    clear hn
    go_enter Tryd.func11, Tryd.ntmps11
    go_wp2_with (first | (go_at_call 17; (with_reducible refine (awake_any _ (HT.out.below (by (repeat' (first | with_reducible exact Below.refl _ _ | (with_reducible refine below_later_of ?_ ?_ _) | (with_reducible refine Below.alloc ?_ ?_ _) | (with_reducible refine Below.setCell ?_ ?_ _) | (with_reducible refine Below.drew ?_) | (simp; done) | (simp; omega) | omega))))).mono ?_); rintro e w' ⟨rfl, hb⟩; obtain ⟨pq, rfl⟩ := later_of_below hb; clear hb))
    all_goals
      go_ret
      exact ⟨rfl, (by (repeat' (first | with_reducible exact Below.refl _ _ | (with_reducible refine below_later_of ?_ ?_ _) | (with_reducible refine Below.alloc ?_ ?_ _) | (with_reducible refine Below.setCell ?_ ?_ _) | (with_reducible refine Below.drew ?_) | (simp; done) | (simp; omega) | omega)))⟩
  rcases (show inE 2 6 lines = false ∨ inE 2 6 lines = true by cases inE 2 6 lines <;> simp) with c3 | c3
  · obtain ⟨⟨a, cap, rfl, -⟩, -⟩ := hv
    rw [hn]
    have HW1 := Lib.hid c3
    clear hn c3
    go_enter Tryd.func11, Tryd.ntmps11
    go_wp2_with (first | (go_at_call 17; (with_reducible refine (awake_any _ (HT.out.below (by (repeat' (first | with_reducible exact Below.refl _ _ | (with_reducible refine below_later_of ?_ ?_ _) | (with_reducible refine Below.alloc ?_ ?_ _) | (with_reducible refine Below.setCell ?_ ?_ _) | (with_reducible refine Below.drew ?_) | (simp; done) | (simp; omega) | omega))))).mono ?_); rintro e w' ⟨rfl, hb⟩; obtain ⟨pq, rfl⟩ := later_of_below hb; clear hb) | (go_at_call 30; (with_reducible refine (bWithin _ _ _ _ HW1.out).mono ?_); rintro e w' ⟨rfl, rfl⟩))
    all_goals
      go_ret
      exact ⟨rfl, (by (repeat' (first | with_reducible exact Below.refl _ _ | (with_reducible refine below_later_of ?_ ?_ _) | (with_reducible refine Below.alloc ?_ ?_ _) | (with_reducible refine Below.setCell ?_ ?_ _) | (with_reducible refine Below.drew ?_) | (simp; done) | (simp; omega) | omega)))⟩
  obtain ⟨g1, g2⟩ := inE_iff.1 c3
  have HW1 := Lib.hid c3
  obtain ⟨L, rfl⟩ := Int.eq_ofNat_of_zero_le (show 0 ≤ lines by omega)
  obtain ⟨-, a', cap, rfl, h4⟩ := hv.ints (by omega)
  obtain ⟨b, off, rfl, hbw, hc⟩ := h4 (by omega)
  rw [hn] at hc ⊢
  have HC := Lib.hid hc
  obtain ⟨S, hS⟩ : ∃ S, n / 2 = S := ⟨_, rfl⟩
  have hSi : (n : Int) / 2 = (S : Int) := by omega
  have hS1 : 1 ≤ S := by omega
  have hS2 : S ≤ 60 := by omega
  have hSn : S * 2 ≤ n := by omega
  have HAO := Lib.hid (show ∀ j, n ≤ j → intAt zs j = 0 from fun j hj => by unfold intAt; rw [List.getElem?_eq_none (by omega)]; rfl)
  generalize intAt zs = A at HC HAO
  clear hc h4 hv hn c3 hS
  go_enter Tryd.func11, Tryd.ntmps11
  go_wp2_with (first | (go_at_call 17; (with_reducible refine (awake_any _ (HT.out.below (by (repeat' (first | with_reducible exact Below.refl _ _ | (with_reducible refine below_later_of ?_ ?_ _) | (with_reducible refine Below.alloc ?_ ?_ _) | (with_reducible refine Below.setCell ?_ ?_ _) | (with_reducible refine Below.drew ?_) | (simp; done) | (simp; omega) | omega))))).mono ?_); rintro e w' ⟨rfl, hb⟩; obtain ⟨pq, rfl⟩ := later_of_below hb; clear hb) | (go_at_call 30; (with_reducible refine (bWithin _ _ _ _ HW1.out).mono ?_); rintro e w' ⟨rfl, rfl⟩))
  refine wp_worldT2 (fun W => Below w.heap.size w W) (by (repeat' (first | with_reducible exact Below.refl _ _ | (with_reducible refine below_later_of ?_ ?_ _) | (with_reducible refine Below.alloc ?_ ?_ _) | (with_reducible refine Below.setCell ?_ ?_ _) | (with_reducible refine Below.drew ?_) | (simp; done) | (simp; omega) | omega))) ?_
  rintro W0 hb0
  have HB0 := Lib.hid hb0
  have HCW := Lib.hid (show ∀ k, k < n → W0.cell? ⟨b, off + k, none⟩ = some (.int .i64 (A k)) from fun k hk => (hb0.cell (p := ⟨b, off + k, none⟩) hbw).trans (HC.out k hk))
  have hbW : b < W0.heap.size := by have := hb0.size; omega
  clear hb0
  go_loop [7, 8] (fun x i => ∃ k : Nat, k ≤ n ∧ i = .int .i64 k ∧ x = .bool (someB A S k) ∧ ∀ j, j < k → inE (-2047) 2047 (A j) = true) (fun _ i => n - (intOf i).toNat)
  case atStart => exact ⟨0, Nat.zero_le _, rfl, rfl, fun j hj => by omega⟩
  case round =>
    obtain ⟨k, hk, rfl, rfl, hz⟩ := hrel
    have HZ := Lib.hid hz
    by_cases hlt : k < n
    · have hck := HCW.out k hlt
      have hdk : decide ((k : Int) < (n : Int)) = true := by simp; omega
      rcases (show inE (-2047) 2047 (A k) = false ∨ inE (-2047) 2047 (A k) = true by cases inE (-2047) 2047 (A k) <;> simp) with hi | hi
      · have HW2 := Lib.hid hi
        clear hz hi
        go_wp2_with (first | (go_at_call 30; (with_reducible refine (bWithin _ _ _ _ HW2.out).mono ?_); rintro e w' ⟨rfl, rfl⟩))
        go_ret
        exact ⟨rfl, HB0.out⟩
      · have HW2 := Lib.hid hi
        have HSB := Lib.hid (someB_succ A S k)
        have HZ2 := Lib.hid (show ∀ j, j < k + 1 → inE (-2047) 2047 (A j) = true from fun j hj => if e : j = k then e ▸ hi else hz j (by omega))
        clear hz hi
        cases hsb : someB A S k
        · rw [hsb] at HSB
          clear hsb
          by_cases hks : k < S * 2
          · have hds : decide ((k : Int) < (S : Int) * 2) = true := by simp; omega
            have HSB2 := Lib.hid (show someB A S (k + 1) = (A k != 0) by rw [HSB.out, decide_eq_true hks]; simp)
            clear HSB
            go_wp2_with (first | (go_at_call 30; (with_reducible refine (bWithin _ _ _ _ HW2.out).mono ?_); rintro e w' ⟨rfl, rfl⟩))
            go_round
            case rel => exact ⟨k + 1, by omega, by go_num, by rw [HSB2.out], HZ2.out⟩
            case measure => simp [intOf]; omega
          · have hds : decide ((k : Int) < (S : Int) * 2) = false := by simp; omega
            have HSB2 := Lib.hid (show someB A S (k + 1) = false by rw [HSB.out, decide_eq_false hks]; simp)
            clear HSB
            go_wp2_with (first | (go_at_call 30; (with_reducible refine (bWithin _ _ _ _ HW2.out).mono ?_); rintro e w' ⟨rfl, rfl⟩))
            go_round
            case rel => exact ⟨k + 1, by omega, by go_num, by rw [HSB2.out], HZ2.out⟩
            case measure => simp [intOf]; omega
        · rw [hsb] at HSB
          have HSB2 := Lib.hid (show someB A S (k + 1) = true by rw [HSB.out]; simp)
          clear hsb HSB
          go_wp2_with (first | (go_at_call 30; (with_reducible refine (bWithin _ _ _ _ HW2.out).mono ?_); rintro e w' ⟨rfl, rfl⟩))
          go_round
          case rel => exact ⟨k + 1, by omega, by go_num, by rw [HSB2.out], HZ2.out⟩
          case measure => simp [intOf]; omega
    · obtain rfl : n = k := by omega
      have hdk : decide ((n : Int) < (n : Int)) = false := by simp
      clear hz
      cases hsb : someB A S n
      · clear hsb
        go_wp2
        go_ret
        exact ⟨rfl, HB0.out⟩
      · obtain ⟨j0, hj0, hjn⟩ := someB_ex hsb
        have hA : ∀ j, -2047 ≤ A j ∧ A j ≤ 2047 := fun j => by
          by_cases h : j < n
          · exact inE_iff.1 (HZ.out j h)
          · rw [HAO.out j (by omega)]; decide
        obtain ⟨q, hqq⟩ : ∃ q : Nat, quarters % 4 = (q : Int) := Int.eq_ofNat_of_zero_le (Int.emod_nonneg _ (by decide))
        have hq4 : q < 4 := by
          have := Int.emod_lt_of_pos quarters (show (0 : Int) < 4 by decide)
          omega
        have HMO := Lib.hid (show ∀ w, Calls Tryd.prog 40 #[.int .i64 quarters, .int .i64 4] w fun e w' => e = .returned (.int .i64 q) ∧ w = w' from fun w => by rw [← hqq]; exact bMod quarters 4 w (by decide) (by decide) hq.1 hq.2)
        obtain ⟨hdE, hdV⟩ := turning (a := A) (q := q) (S := S) (L := L) (n := L * S) hA hS1 hS2 (by omega) (by omega) hq4 rfl hj0 hjn
        have HDE := Lib.hid hdE
        have HDV := Lib.hid hdV
        have HWR := Lib.hid (fun w => bWrap (1024 * (q : Int)) w (by omega) (by omega) (v := wrapP (1024 * (q : Int))) rfl)
        obtain ⟨G, hG⟩ : ∃ G, tG A q S = G := ⟨_, rfl⟩
        have HGG := Lib.hid (show ∀ l s, s < S → G (l * S + s) = smpI (rot (q * l % 4) (A (2 * s), A (2 * s + 1))).1 (rot (q * l % 4) (A (2 * s), A (2 * s + 1))).2 from fun l s hs => by
          rw [← hG]
          unfold tG tz
          rw [Nat.mul_comm l S, Nat.mul_add_div (by omega), Nat.div_eq_of_lt hs, Nat.mul_add_mod, Nat.mod_eq_of_lt hs, Nat.add_zero])
        rw [hG] at HDE HDV
        have HA := Lib.hid hA
        clear hsb hG hdE hdV hjn hqq hq hA
        go_wp2_with (first | (go_at_call 40; (with_reducible refine (HMO.out _).mono ?_); rintro e w' ⟨rfl, rfl⟩))
        refine wp_worldT2 (fun W => BldSt W0 W0.heap.size L S 63 (.slice none 0 0) (csF G 0) W)
          ⟨by simp [go_sem], by simp [go_sem], by simp [go_sem], by simp [go_sem], World.ownsRow_nil _ _ _ _, (by (repeat' (first | with_reducible exact Below.refl _ _ | (with_reducible refine below_later_of ?_ ?_ _) | (with_reducible refine Below.alloc ?_ ?_ _) | (with_reducible refine Below.setCell ?_ ?_ _) | (with_reducible refine Below.drew ?_) | (simp; done) | (simp; omega) | omega))), by simp⟩ ?_
        rintro W2 hst
        have HSZ := Lib.hid HB0.out.size
        generalize hO : W0.heap.size = O at hst hbW HSZ ⊢
        have HST := Lib.hid hst
        clear hst
        go_loopw [11] (fun i wr => ∃ (l : Nat) (v : Value), l ≤ L ∧ i = .int .i64 l ∧ BldSt W0 O L S 63 v (csF G (l * S)) wr) (fun i _ => L - (intOf i).toNat)
        case atStart => exact ⟨0, _, Nat.zero_le _, rfl, by rw [Nat.zero_mul]; exact HST.out⟩
        case round =>
          obtain ⟨l, v, hl, rfl, hst⟩ := hrel
          have HS1 := Lib.hid hst
          by_cases hlt : l < L
          · have hdl : decide ((l : Int) < (L : Int)) = true := by simp; omega
            clear hst
            go_wp2
            go_loopw [12] (fun i wr => ∃ (s : Nat) (v : Value), s ≤ S ∧ i = .int .i64 s ∧ BldSt W0 O L S 63 v (csF G (l * S + s)) wr) (fun i _ => S - (intOf i).toNat)
            case atStart => exact ⟨0, v, Nat.zero_le _, rfl, HS1.out⟩
            case round =>
              obtain ⟨s, v, hs, rfl, hst⟩ := hrel
              have HS2 := Lib.hid hst
              have c1 := hst.c1
              have hltO := hst.lt
              by_cases hst2 : s < S
              · have hds : decide ((s : Int) < (S : Int)) = true := by simp; omega
                obtain ⟨j0, hj0⟩ : ∃ j0, 2 * s = j0 := ⟨_, rfl⟩
                obtain ⟨j1, hj1⟩ : ∃ j1, 2 * s + 1 = j1 := ⟨_, rfl⟩
                have hidx : (2 : Int) * (s : Int) = (j0 : Int) := by omega
                have hidx1 : (j0 : Int) + 1 = (j1 : Int) := by omega
                have hjn0 : j0 < n := by omega
                have hjn1 : j1 < n := by omega
                have e0 := (hst.bel.cell (p := ⟨b, off + j0, none⟩) hbW).trans (HCW.out j0 hjn0)
                have e1 := (hst.bel.cell (p := ⟨b, off + j1, none⟩) hbW).trans (HCW.out j1 hjn1)
                have hbr : b < wr.heap.size := by omega
                have b0 := HA.out j0
                have b1 := HA.out j1
                have hg := HGG.out l s hst2
                rw [hj1, hj0] at hg
                generalize A j0 = x0 at e0 b0 hg
                generalize A j1 = y0 at e1 b1 hg
                clear hst
                go_wp2
                refine wp_region_calm (by kernel_rfl) (by kernel_rfl) ?_
                repeat (go_big_quiet_step (fail))
                refine wpQuiet_nil ?_
                rintro _ ⟨pq, rfl⟩
                go_wp2
                refine wp_worldT2 (fun W => BldSt W0 O L S 63 v (csF G (l * S + s)) W) (HS2.out.below (by (repeat' (first | with_reducible exact Below.refl _ _ | (with_reducible refine below_later_of ?_ ?_ _) | (with_reducible refine Below.alloc ?_ ?_ _) | (with_reducible refine Below.setCell ?_ ?_ _) | (with_reducible refine Below.drew ?_) | (simp; done) | (simp; omega) | omega)))) ?_
                rintro W4 hst4
                have HS4 := Lib.hid hst4
                have hltO4 := hst4.lt
                clear hst4
                obtain ⟨M, hM⟩ : ∃ M, q * l % 4 = M := ⟨_, rfl⟩
                rw [hM] at hg
                have hMi : ((q : Int) * (l : Int)) % 4 = (M : Int) := by rw [← hM, Int.natCast_emod, Int.natCast_mul]; rfl
                obtain ⟨z1, z2⟩ : (0 : Int) ≤ (q : Int) * (l : Int) ∧ (q : Int) * (l : Int) ≤ 24 := ⟨Int.mul_nonneg (by omega) (by omega), by
                  have := Int.mul_le_mul (show (q : Int) ≤ 4 by omega) (show (l : Int) ≤ 6 by omega) (by omega) (by decide)
                  omega⟩
                have hMt : ((q : Int) * (l : Int)).tmod 4 = (M : Int) := by rw [Int.tmod_eq_emod_of_nonneg z1]; exact hMi
                go_loop [13, 14, 15] (fun x y i => ∃ k : Nat, k ≤ M ∧ i = .int .i64 k ∧ x = .int .i64 (rot k (x0, y0)).1 ∧ y = .int .i64 (rot k (x0, y0)).2) (fun _ _ i => M - (intOf i).toNat)
                case atStart => exact ⟨0, Nat.zero_le _, rfl, rfl, rfl⟩
                case round =>
                  obtain ⟨k, hk, rfl, rfl, rfl⟩ := hrel
                  by_cases hkc : k < M
                  · have hdk : decide ((k : Int) < (M : Int)) = true := by simp; omega
                    obtain ⟨⟨r1, r2⟩, r3, r4⟩ := rot_bd k (z := (x0, y0)) ⟨b0, b1⟩
                    have HR1 := Lib.hid (show (rot (k + 1) (x0, y0)).1 = -(rot k (x0, y0)).2 from rfl)
                    have HR2 := Lib.hid (show (rot (k + 1) (x0, y0)).2 = (rot k (x0, y0)).1 from rfl)
                    generalize (rot k (x0, y0)).1 = xx at r1 r2 HR2 ⊢
                    generalize (rot k (x0, y0)).2 = yy at r3 r4 HR1 ⊢
                    go_wp2
                    go_round
                    case rel => exact ⟨k + 1, by omega, by go_num, by rw [HR1.out], by rw [HR2.out]⟩
                    case measure => simp [intOf]; omega
                  · obtain rfl : k = M := by omega
                    have hdk : decide ((k : Int) < (k : Int)) = false := by simp
                    obtain ⟨⟨r1, r2⟩, r3, r4⟩ := rot_bd k (z := (x0, y0)) ⟨b0, b1⟩
                    have HSM := Lib.hid (fun w => bSample (rot k (x0, y0)).1 (rot k (x0, y0)).2 w (by omega) (by omega))
                    generalize (rot k (x0, y0)).1 = xx at r1 r2 HSM hg ⊢
                    generalize (rot k (x0, y0)).2 = yy at r3 r4 HSM hg ⊢
                    obtain ⟨re, hre⟩ : ∃ re, (smpI xx yy).1 = re := ⟨_, rfl⟩
                    obtain ⟨im, him⟩ : ∃ im, (smpI xx yy).2 = im := ⟨_, rfl⟩
                    have hg2 : G (l * S + s) = (re, im) := by rw [hg, ← hre, ← him]
                    rw [hre, him] at HSM
                    have c2 := HS4.out.c2
                    have f2 := HS4.out.f2
                    have hown0 := HS4.out.own
                    rw [csF_len] at hown0
                    have HOW2 := Lib.hid hown0
                    have HSN := Lib.hid (show ∀ (g' cc' : Nat) (w1 : World) (o : Obj), w1.ownsRow (O + 1) 63 1 (.slice (some ⟨g', 0, none⟩) (l * S + s + 1) cc') (l * S + s + 1) (csF G (l * S + s) ++ [.complex .f32 re im]) → (W4.drew.alloc o).grownBy w1 v.ownBlock → BldSt W0 O L S 63 (.slice (some ⟨g', 0, none⟩) (l * S + s + 1) cc') (csF G (l * S + (s + 1))) (w1.setCell ⟨O, 2, none⟩ (.slice (some ⟨g', 0, none⟩) (l * S + s + 1) cc')) from fun g' cc' w1 o h1 h2 => by
                      rw [← Nat.add_assoc, csF_snoc, hg2]
                      exact (HS4.out.below (Below.refl _ _).drew).put (by rw [csF_len]; exact h1) h2)
                    have HSL := Lib.hid (show ∀ (w1 : World) (o : Obj), (W4.drew.alloc o).grownBy w1 v.ownBlock → w1.cell? ⟨O, 2, none⟩ = some v ∧ w1.frozen? ⟨O, 2, none⟩ = false from fun w1 o h => (HS4.out.below (Below.refl _ _).drew).still h)
                    have hlen : (l * S + s) ≤ 10000 := by
                      have h1 : l * S ≤ 6 * 60 := Nat.mul_le_mul (by omega) hS2
                      omega
                    clear hg hg2 hre him c1 hown0 hj0 hj1 e0 e1
                    go_wp2_with fail
                    go_region_law (first | (refine step_append_lies _ rfl (.tmp 104) (.tmp 108) 30 rfl (O + 1) 63 i0 (.complex .f32 0 0) 1 8 Tryd.underlying30 hi0 hz0 hz1 hz2 rfl (by decide) v (l * S + s) (csF G (l * S + s)) (by simp [Act.eval, Act.put]) (by first | exact (HOW2.out.alloc _).drew | exact HOW2.out.drew.alloc _) ⟨W4.heap.size, 0, none⟩ 1 1 [.complex .f32 re im] (by simp [Act.eval, Act.put]) rfl (by intro j u hj; rcases j with _ | j; (focus (simp at hj; subst hj; (first | (simp [Addr.add, go_sem]; done) | simp [Addr.add, go_sem, ↓IntWalk.iteOmega]))); (focus (simp at hj))) (by intro u hu; simp at hu; subst hu; rfl) (by decide) (by unfold maxLen; omega) (by omega) (by first | omega | (simp; omega)) _ rfl ?_; intro g' cc' w1 hown' hgrow _ _; have HN2 := Lib.hid (show BldSt W0 O L S 63 (.slice (some ⟨g', 0, none⟩) (l * S + s + 1) cc') (csF G (l * S + (s + 1))) _ from HSN.out _ _ _ _ hown' hgrow); obtain ⟨hcb, hfb⟩ := HSL.out _ _ hgrow; clear hown' hgrow) | (go_simp; (go_at_call 41; (with_reducible refine (HSM.out _).mono ?_); rintro e w' ⟨rfl, rfl⟩)))
                    all_goals
                      go_wp2
                      go_roundw
                      case rel => exact ⟨s + 1, _, by omega, by go_num, HN2.out⟩
                      case measure => simp [intOf]; omega
              · obtain rfl : s = S := by omega
                have hds : decide ((s : Int) < (s : Int)) = false := by simp
                clear hst
                go_wp2
                go_roundw
                case rel => exact ⟨l + 1, v, by omega, by go_num, by rw [Nat.add_mul, Nat.one_mul]; exact HS2.out⟩
                case measure => simp [intOf]; omega
          · obtain rfl : l = L := by omega
            have hdl : decide ((l : Int) < (l : Int)) = false := by simp
            have hown := hst.own
            rw [csF_len] at hown
            obtain ⟨a', c', rfl⟩ := own_slice hown
            obtain ⟨e0, e1, e2, -, -, hbel, hltO⟩ := hst
            have hLS : l * S ≤ 360 := Nat.mul_le_mul (show l ≤ 6 by omega) hS2
            have hLp : 0 < l * S := Nat.mul_pos (by omega) (by omega)
            have HBE := Lib.hid (HB0.out.trans (hbel.mono (by have := HSZ.out; omega)))
            have hszz : w.heap.size ≤ wr.heap.size := HBE.out.size
            have HDA := Lib.hid (show DataAt wr (l : Int) S (l * S) G a' from fun _ => by
              obtain ⟨g, h1, -, h2, h3⟩ := ownC_row hown hLp
              exact ⟨g, 0, h1, h2, h3⟩)
            have hcap := own_cap hown
            have HDP := Lib.hid (fun W (hb : Below wr.heap.size wr W) => doppler_any (l : Int) S (l * S) c' G a' W (by omega) hcap (HDA.out.below hb) HDE.out HDV.out)
            clear hown hbel HDA HDE HDV hcap
            generalize wrapP (1024 * (q : Int)) = pv at HDP HWR
            go_wp2_with (first | (go_at_call 52; (with_reducible refine (HDP.out _ (by (repeat' (first | with_reducible exact Below.refl _ _ | (with_reducible refine below_later_of ?_ ?_ _) | (with_reducible refine Below.alloc ?_ ?_ _) | (with_reducible refine Below.setCell ?_ ?_ _) | (with_reducible refine Below.drew ?_) | (simp; done) | (simp; omega) | omega)))).mono ?_); rintro e w' ⟨rfl, hb⟩; obtain ⟨pz, rfl⟩ := later_of_below hb; clear hb) | (go_at_call 45; (with_reducible refine (HWR.out _).mono ?_); rintro e w' ⟨rfl, rfl⟩))
            all_goals
              go_ret
              exact ⟨rfl, HBE.out.trans (below_mono_of hszz (by (repeat' (first | with_reducible exact Below.refl _ _ | (with_reducible refine below_later_of ?_ ?_ _) | (with_reducible refine Below.alloc ?_ ?_ _) | (with_reducible refine Below.setCell ?_ ?_ _) | (with_reducible refine Below.drew ?_) | (simp; done) | (simp; omega) | omega))))⟩
end Go.Proofs.YtakohhlmomgegaaDoor
