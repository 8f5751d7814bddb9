/- Chapter 4: the reference: errors of maps, pixels, steps, turns, residues. -/
import Derived.Test.YtfiioadmpjmmgaaDoorX8
import Derived.Test.YtfiioadmpjmmgaaDoorX4
import Derived.Test.YtfiioadmpjmmgaaDoorZH
namespace Go.Proofs.YtfiioadmpjmmgaaDoor
set_option linter.unusedVariables false
set_option linter.unusedSimpArgs false
open Go.RowKit Ntt
set_option maxHeartbeats 400000 in
theorem bWrp (n : Int) (w : World) (h1 : -9223372036854775808 ≤ n) (h2 : n ≤ 9223372036854775807) {v : Int} (hv : wrP n = v) : Calls Tryd.prog 62 #[.int .i64 n] w fun e w' => e = .returned (.int .i64 v) ∧ w = w' := by
  have HM1 := Lib.hid (fun w => bMod n 4096 w (by decide) (by decide) h1 h2)
  have a1 := Int.emod_nonneg n (show (4096 : Int) ≠ 0 by decide)
  have a2 := Int.emod_lt_of_pos n (show (0 : Int) < 4096 by decide)
  have HM2 := Lib.hid (fun w => bMod (n % 4096 + 2048) 4096 w (by decide) (by decide) (by omega) (by omega))
  have HF := Lib.hid (show (n % 4096 + 2048) % 4096 - 2048 = v by rw [wrP_two]; exact hv)
  have b1 := Int.emod_nonneg (n % 4096 + 2048) (show (4096 : Int) ≠ 0 by decide)
  have b2 := Int.emod_lt_of_pos (n % 4096 + 2048) (show (0 : Int) < 4096 by decide)
  generalize n % 4096 = q at *
  generalize (q + 2048) % 4096 = p at *
  clear hv
  go_enter Tryd.func62, Tryd.ntmps62
  go_wp2_with (first | (go_at_call 91; (with_reducible refine (HM1.out _).mono ?_); rintro e w' ⟨rfl, rfl⟩) | (go_at_call 91; (with_reducible refine (HM2.out _).mono ?_); rintro e w' ⟨rfl, rfl⟩))
  go_ret
  exact ⟨ret_intE HF.out, rfl⟩
set_option maxHeartbeats 1000000 in
theorem rSize4 (l s n : Int) (w : World) {e0 : Int} (he : sizeE l s n = e0) :
    Calls Tryd.prog 58 #[.int .i64 l, .int .i64 s, .int .i64 n] w fun e w' => e = .returned (.int .i64 e0) ∧ w = w' := by
  subst he
  rcases (show inE 1 64 l = false ∨ inE 1 64 l = true by cases inE 1 64 l <;> simp) with h1 | h1
  · have HF := Lib.hid (show sizeE l s n = 2 by unfold sizeE; rw [h1]; rfl)
    have H1 := Lib.hid h1
    clear h1
    go_enter Tryd.func58, Tryd.ntmps58
    go_wp2_with (first | (go_at_call 27; (with_reducible refine (bWithin l _ _ _ H1.out).mono ?_); rintro e w' ⟨rfl, rfl⟩))
    go_ret
    exact ⟨ret_intE HF.out.symm, rfl⟩
  · rcases (show inE 1 64 s = false ∨ inE 1 64 s = true by cases inE 1 64 s <;> simp) with h2 | h2
    · have HF := Lib.hid (show sizeE l s n = 2 by unfold sizeE; rw [h1, h2]; rfl)
      have H1 := Lib.hid h1
      have H2 := Lib.hid h2
      clear h1 h2
      go_enter Tryd.func58, Tryd.ntmps58
      go_wp2_with (first | (go_at_call 27; (with_reducible refine (bWithin l _ _ _ H1.out).mono ?_); rintro e w' ⟨rfl, rfl⟩) | (go_at_call 27; (with_reducible refine (bWithin s _ _ _ H2.out).mono ?_); rintro e w' ⟨rfl, rfl⟩))
      go_ret
      exact ⟨ret_intE HF.out.symm, rfl⟩
    · obtain ⟨a1, a2⟩ := inE_iff.1 h1
      obtain ⟨b1, b2⟩ := inE_iff.1 h2
      obtain ⟨m1, m2⟩ : 0 ≤ l * s ∧ l * s ≤ 4096 := ⟨Int.mul_nonneg (by omega) (by omega), by
        have := Int.mul_le_mul a2 b2 (by omega) (by decide)
        omega⟩
      have H1 := Lib.hid h1
      have H2 := Lib.hid h2
      by_cases hn : n = l * s
      · have HF := Lib.hid (show sizeE l s n = 0 by unfold sizeE; rw [h1, h2, if_pos (show (true && true) = true from rfl), if_pos hn])
        have hb : (n != l * s) = false := by simpa using hn
        clear h1 h2 hn
        go_enter Tryd.func58, Tryd.ntmps58
        go_wp2_with (first | (go_at_call 27; (with_reducible refine (bWithin l _ _ _ H1.out).mono ?_); rintro e w' ⟨rfl, rfl⟩) | (go_at_call 27; (with_reducible refine (bWithin s _ _ _ H2.out).mono ?_); rintro e w' ⟨rfl, rfl⟩))
        go_ret
        exact ⟨ret_intE HF.out.symm, rfl⟩
      · have HF := Lib.hid (show sizeE l s n = 10 by unfold sizeE; rw [h1, h2, if_pos (show (true && true) = true from rfl), if_neg hn])
        have hb : (n != l * s) = true := by simpa using hn
        clear h1 h2 hn
        go_enter Tryd.func58, Tryd.ntmps58
        go_wp2_with (first | (go_at_call 27; (with_reducible refine (bWithin l _ _ _ H1.out).mono ?_); rintro e w' ⟨rfl, rfl⟩) | (go_at_call 27; (with_reducible refine (bWithin s _ _ _ H2.out).mono ?_); rintro e w' ⟨rfl, rfl⟩))
        go_ret
        exact ⟨ret_intE HF.out.symm, rfl⟩
set_option maxRecDepth 20000 in
set_option maxHeartbeats 2000000 in
theorem rCheckMap (R C : Int) (zs : List Int) (v : Value) (w : World) (hl : zs.length ≤ 100000) (hv : IntsV w v zs) {i0 : Nat} {e0 : Int} (he : mapE R C zs = (i0, e0)) :
    Calls Tryd.prog 23 #[.agg #[.int .i64 R, .int .i64 C, v]] w fun e w' => e = .returned (.tuple #[.int .i64 i0, .int .i64 e0]) ∧ Below w.heap.size w w' := by
  obtain ⟨z, hz⟩ : ∃ z, sizeE R C zs.length = z := ⟨_, rfl⟩
  have HS := Lib.hid (fun w => rSize4 R C zs.length w hz)
  obtain ⟨-, a, cap, rfl, h4⟩ := hv
  have H4 := Lib.hid h4
  obtain ⟨n, hn⟩ : ∃ n, zs.length = n := ⟨_, rfl⟩
  clear h4
  by_cases h0 : z = 0
  · subst h0
    have HE := Lib.hid (show firstE zs.length (mapG zs) = (i0, e0) by rw [← he]; unfold mapE; rw [if_pos hz])
    rw [hn] at hl HE H4 HS ⊢
    clear hz he
    go_enter Tryd.func23, Tryd.ntmps23
    go_wp2_with (first | (go_at_call 58; (with_reducible refine (HS.out _).mono ?_); rintro e w' ⟨rfl, rfl⟩))
    go_loop [5] (fun i => ∃ k : Nat, k ≤ n ∧ i = .int .i64 k ∧ ∀ j, j < k → mapG zs j = 0) (fun i => n - (intOf i).toNat)
    case atStart => exact ⟨0, Nat.zero_le _, rfl, fun j hj => absurd hj (Nat.not_lt_zero _)⟩
    case round =>
      obtain ⟨k, hk, rfl, hz⟩ := hrel
      have HZ := Lib.hid hz
      clear hz
      by_cases hlt : k < n
      · have hdk : decide ((k : Int) < (n : Int)) = true := by simp; omega
        have hk0 : (0 : Int) ≤ (k : Int) := by omega
        have hk1 : (k : Int) < (n : Int) := by omega
        obtain ⟨b, off, rfl, hbw, hc⟩ := H4.out (by omega)
        have ck := hc k hlt
        clear hc
        rcases (show phOk (intAt zs k) = false ∨ phOk (intAt zs k) = true by cases phOk (intAt zs k) <;> simp) with h0 | h0
        · have h1 : mapG zs k = 2 := by unfold mapG; rw [h0]; rfl
          have hE := (firstE_hit hlt HZ.out (by rw [h1]; decide)).symm.trans HE.out
          rw [h1] at hE
          obtain ⟨rfl, rfl⟩ := Prod.mk.inj hE
          have hp : (intAt zs k != 1000000000000) = true ∧ inE (-100000000) 100000000 (intAt zs k) = false := by
            unfold phOk at h0
            simp only [Bool.or_eq_false_iff, decide_eq_false_iff_not] at h0
            exact ⟨by simpa using h0.1, h0.2⟩
          obtain ⟨hp1, hp2⟩ := hp
          have HW := Lib.hid hp2
          clear h0 h1 hE HE HZ hp2
          generalize intAt zs k = p at *
          go_wp2_with (first | (go_at_call 27; (with_reducible refine (bWithin _ _ _ _ HW.out).mono ?_); rintro e w' ⟨rfl, rfl⟩))
          go_ret2
          exact ⟨rfl, (by (repeat' (first | with_reducible exact Below.refl _ _ | (with_reducible refine below_later_of ?_ ?_ _) | (with_reducible refine Below.alloc ?_ ?_ _) | (with_reducible refine Below.setCell ?_ ?_ _) | (with_reducible refine Below.drew ?_) | (simp; done) | (simp; omega) | omega)))⟩
        · have H0 := Lib.hid (show mapG zs k = 0 by unfold mapG; rw [h0]; rfl)
          by_cases hp : intAt zs k = 1000000000000
          · have hp1 : (intAt zs k != 1000000000000) = false := by simpa using hp
            clear h0 hp
            generalize intAt zs k = p at ck hp1
            go_wp2
            go_round
            case rel => exact ⟨k + 1, by omega, by go_num, fun j hj => by rcases Nat.lt_succ_iff_lt_or_eq.1 hj with h | rfl; exact HZ.out j h; exact H0.out⟩
            case measure => simp [intOf]; omega
          · have hp1 : (intAt zs k != 1000000000000) = true := by simpa using hp
            have HW := Lib.hid (show inE (-100000000) 100000000 (intAt zs k) = true by unfold phOk at h0; rw [decide_eq_false hp] at h0; exact h0)
            clear h0 hp
            generalize intAt zs k = p at ck hp1 HW
            go_wp2_with (first | (go_at_call 27; (with_reducible refine (bWithin _ _ _ _ HW.out).mono ?_); rintro e w' ⟨rfl, rfl⟩))
            go_round
            case rel => exact ⟨k + 1, by omega, by go_num, fun j hj => by rcases Nat.lt_succ_iff_lt_or_eq.1 hj with h | rfl; exact HZ.out j h; exact H0.out⟩
            case measure => simp [intOf]; omega
      · obtain rfl : k = n := by omega
        have hdk : decide ((k : Int) < (k : Int)) = false := by simp
        have hE := (firstE_ok HZ.out).symm.trans HE.out
        obtain ⟨rfl, rfl⟩ := Prod.mk.inj hE
        clear HE HZ hE
        go_wp2
        go_ret2
        exact ⟨rfl, (by (repeat' (first | with_reducible exact Below.refl _ _ | (with_reducible refine below_later_of ?_ ?_ _) | (with_reducible refine Below.alloc ?_ ?_ _) | (with_reducible refine Below.setCell ?_ ?_ _) | (with_reducible refine Below.drew ?_) | (simp; done) | (simp; omega) | omega)))⟩
  · have he' : (0, z) = (i0, e0) := by rw [← he]; unfold mapE; rw [hz, if_neg h0]
    obtain ⟨rfl, rfl⟩ := Prod.mk.inj he'
    have hne : (z != 0) = true := by simpa using h0
    clear hz he he' h0 hn
    go_enter Tryd.func23, Tryd.ntmps23
    go_wp2_with (first | (go_at_call 58; (with_reducible refine (HS.out _).mono ?_); rintro e w' ⟨rfl, rfl⟩))
    go_ret2
    exact ⟨rfl, (by (repeat' (first | with_reducible exact Below.refl _ _ | (with_reducible refine below_later_of ?_ ?_ _) | (with_reducible refine Below.alloc ?_ ?_ _) | (with_reducible refine Below.setCell ?_ ?_ _) | (with_reducible refine Below.drew ?_) | (simp; done) | (simp; omega) | omega)))⟩
set_option maxHeartbeats 1000000 in
theorem rIsPixel (R C : Nat) (r c : Int) (n cap : Nat) (a : Option Addr) (w : World) (h1 : R ≤ 64) (h2 : C ≤ 64) {q : Bool} (hq : pixB R C r c = q) :
    Calls Tryd.prog 59 #[.agg #[.int .i64 R, .int .i64 C, .slice a n cap], .int .i64 r, .int .i64 c] w fun e w' => e = .returned (.bool q) ∧ Below w.heap.size w w' := by
  unfold pixB at hq
  obtain ⟨q1, hq1⟩ : ∃ q1, inE 0 ((R : Int) - 1) r = q1 := ⟨_, rfl⟩
  obtain ⟨q2, hq2⟩ : ∃ q2, inE 0 ((C : Int) - 1) c = q2 := ⟨_, rfl⟩
  rw [hq1, hq2] at hq
  subst hq
  have H1 := Lib.hid hq1
  have H2 := Lib.hid hq2
  clear hq1 hq2
  cases q1
  · go_enter Tryd.func59, Tryd.ntmps59
    go_wp2_with (first | (go_at_call 27; (with_reducible refine (bWithin _ _ _ _ H1.out).mono ?_); rintro e w' ⟨rfl, rfl⟩))
    go_ret
    exact ⟨rfl, (by (repeat' (first | with_reducible exact Below.refl _ _ | (with_reducible refine below_later_of ?_ ?_ _) | (with_reducible refine Below.alloc ?_ ?_ _) | (with_reducible refine Below.setCell ?_ ?_ _) | (with_reducible refine Below.drew ?_) | (simp; done) | (simp; omega) | omega)))⟩
  · go_enter Tryd.func59, Tryd.ntmps59
    go_wp2_with (first | (go_at_call 27; (with_reducible refine (bWithin _ _ _ _ H1.out).mono ?_); rintro e w' ⟨rfl, rfl⟩) | (go_at_call 27; (with_reducible refine (bWithin _ _ _ _ H2.out).mono ?_); rintro e w' ⟨rfl, rfl⟩))
    go_ret
    exact ⟨by simp, (by (repeat' (first | with_reducible exact Below.refl _ _ | (with_reducible refine below_later_of ?_ ?_ _) | (with_reducible refine Below.alloc ?_ ?_ _) | (with_reducible refine Below.setCell ?_ ?_ _) | (with_reducible refine Below.drew ?_) | (simp; done) | (simp; omega) | omega)))⟩
set_option maxHeartbeats 1000000 in
theorem rAt (R C r c : Nat) (ri ci : Int) (zs : List Int) (v : Value) (w : World) (hm : MapOk R C zs) (hv : IntsV w v zs) (hr : r < R) (hc : c < C) (hri : ri = r) (hci : ci = c) {p : Int} (hp : zAt C (intAt zs) r c = p) :
    Calls Tryd.prog 61 #[.agg #[.int .i64 R, .int .i64 C, v], .int .i64 ri, .int .i64 ci] w fun e w' => e = .returned (.int .i64 p) ∧ Below w.heap.size w w' := by
  subst hri hci
  have hi := hm.idx hr hc
  have hsz := hm.size
  obtain ⟨i, hi2⟩ : ∃ i, r * C + c = i := ⟨_, rfl⟩
  have hx := idx_cast hi2
  unfold zAt at hp
  rw [hi2] at hi hp
  obtain ⟨-, a, cap, rfl, h4⟩ := hv
  obtain ⟨b, off, rfl, hbw, hce⟩ := h4 (by omega)
  have ci := hce i hi
  rw [hp] at ci
  have h1 := hm.c2
  have h2 := hm.r2
  have hq : 0 ≤ (r : Int) * C ∧ (r : Int) * C ≤ 4096 := ⟨Int.mul_nonneg (by omega) (by omega), by omega⟩
  obtain ⟨q1, q2⟩ := hq
  clear h4 hce hm hp hi2
  generalize zs.length = n at *
  have hi1 : (i : Int) < (n : Int) := by omega
  go_enter Tryd.func61, Tryd.ntmps61
  go_wp2
  go_ret
  exact ⟨rfl, (by (repeat' (first | with_reducible exact Below.refl _ _ | (with_reducible refine below_later_of ?_ ?_ _) | (with_reducible refine Below.alloc ?_ ?_ _) | (with_reducible refine Below.setCell ?_ ?_ _) | (with_reducible refine Below.drew ?_) | (simp; done) | (simp; omega) | omega)))⟩
/-- A step between two phases: the number, and the error. -/
def stV (p q : Int) : Int := if nvB p && nvB q then wrP (q - p) else 0
def stE (p q : Int) : Int := if nvB p && nvB q then 0 else 31
set_option maxHeartbeats 1000000 in
theorem rStep_out (R C : Nat) (r c : Int) (d : Bool) (n cap : Nat) (a : Option Addr) (w : World) (h1 : R ≤ 64) (h2 : C ≤ 64) (hq : pixB R C r c = false) :
    Calls Tryd.prog 30 #[.agg #[.int .i64 R, .int .i64 C, .slice a n cap], .int .i64 r, .int .i64 c, .bool d] w fun e w' => e = .returned (.tuple #[.int .i64 0, .int .i64 2]) ∧ Below w.heap.size w w' := by
  have HP1 := Lib.hid (show ∀ W, Below w.heap.size w W → _ from fun W _ => rIsPixel R C r c n cap a W h1 h2 hq)
  clear hq
  cases d
  · go_enter Tryd.func30, Tryd.ntmps30
    go_wp2_with (first | (go_at_call 59; (with_reducible refine (HP1.out _ (by (repeat' (first | with_reducible exact Below.refl _ _ | (with_reducible refine below_later_of ?_ ?_ _) | (with_reducible refine Below.alloc ?_ ?_ _) | (with_reducible refine Below.setCell ?_ ?_ _) | (with_reducible refine Below.drew ?_) | (simp; done) | (simp; omega) | omega)))).mono ?_); rintro e w' ⟨rfl, hb⟩; obtain ⟨p1, rfl⟩ := later_of_below hb; clear hb))
    go_ret2
    exact ⟨rfl, (by (repeat' (first | with_reducible exact Below.refl _ _ | (with_reducible refine below_later_of ?_ ?_ _) | (with_reducible refine Below.alloc ?_ ?_ _) | (with_reducible refine Below.setCell ?_ ?_ _) | (with_reducible refine Below.drew ?_) | (simp; done) | (simp; omega) | omega)))⟩
  · go_enter Tryd.func30, Tryd.ntmps30
    go_wp2_with (first | (go_at_call 59; (with_reducible refine (HP1.out _ (by (repeat' (first | with_reducible exact Below.refl _ _ | (with_reducible refine below_later_of ?_ ?_ _) | (with_reducible refine Below.alloc ?_ ?_ _) | (with_reducible refine Below.setCell ?_ ?_ _) | (with_reducible refine Below.drew ?_) | (simp; done) | (simp; omega) | omega)))).mono ?_); rintro e w' ⟨rfl, hb⟩; obtain ⟨p1, rfl⟩ := later_of_below hb; clear hb))
    go_ret2
    exact ⟨rfl, (by (repeat' (first | with_reducible exact Below.refl _ _ | (with_reducible refine below_later_of ?_ ?_ _) | (with_reducible refine Below.alloc ?_ ?_ _) | (with_reducible refine Below.setCell ?_ ?_ _) | (with_reducible refine Below.drew ?_) | (simp; done) | (simp; omega) | omega)))⟩
theorem pixB_in {R C r c : Nat} (hr : r < R) (hc : c < C) : pixB R C r c = true := by unfold pixB inE; simp; omega
theorem pixB_nat {R C : Nat} {r c : Int} (h : pixB R C r c = true) : ∃ r' c' : Nat, r = r' ∧ c = c' ∧ r' < R ∧ c' < C := by
  unfold pixB inE at h
  simp only [Bool.and_eq_true, decide_eq_true_eq] at h
  obtain ⟨r', rfl⟩ := Int.eq_ofNat_of_zero_le (show 0 ≤ r by omega)
  obtain ⟨c', rfl⟩ := Int.eq_ofNat_of_zero_le (show 0 ≤ c by omega)
  exact ⟨r', c', rfl, rfl, by omega, by omega⟩
set_option maxHeartbeats 1000000 in
theorem rStep_edge (R C r c : Nat) (d : Bool) (n cap : Nat) (a : Option Addr) (w : World) (h1 : R ≤ 64) (h2 : C ≤ 64) (hr : r < R) (hc : c < C) (hn : ¬ (toR r d < R ∧ toC c d < C)) :
    Calls Tryd.prog 30 #[.agg #[.int .i64 R, .int .i64 C, .slice a n cap], .int .i64 r, .int .i64 c, .bool d] w fun e w' => e = .returned (.tuple #[.int .i64 0, .int .i64 2]) ∧ Below w.heap.size w w' := by
  have HP1 := Lib.hid (show ∀ W, Below w.heap.size w W → _ from fun W _ => rIsPixel R C r c n cap a W h1 h2 (pixB_in hr hc))
  have hq : pixB R C (toR r d : Nat) (toC c d : Nat) = false := by
    rw [Bool.eq_false_iff]
    intro h
    obtain ⟨r', c', e1, e2, h3, h4⟩ := pixB_nat h
    exact hn ⟨by omega, by omega⟩
  have HP2 := Lib.hid (show ∀ W, Below w.heap.size w W → _ from fun W _ => rIsPixel R C (toR r d : Nat) (toC c d : Nat) n cap a W h1 h2 hq)
  clear hq hn
  cases d
  · simp only [toR, toC, Bool.false_eq_true, if_false] at HP2
    have e2 : ((c + 1 : Nat) : Int) = (c : Int) + 1 := by omega
    rw [e2] at HP2
    go_enter Tryd.func30, Tryd.ntmps30
    go_wp2_with (first | (go_at_call 59; (with_reducible refine (HP1.out _ (by (repeat' (first | with_reducible exact Below.refl _ _ | (with_reducible refine below_later_of ?_ ?_ _) | (with_reducible refine Below.alloc ?_ ?_ _) | (with_reducible refine Below.setCell ?_ ?_ _) | (with_reducible refine Below.drew ?_) | (simp; done) | (simp; omega) | omega)))).mono ?_); rintro e w' ⟨rfl, hb⟩; obtain ⟨p1, rfl⟩ := later_of_below hb; clear hb) | (go_at_call 59; (with_reducible refine (HP2.out _ (by (repeat' (first | with_reducible exact Below.refl _ _ | (with_reducible refine below_later_of ?_ ?_ _) | (with_reducible refine Below.alloc ?_ ?_ _) | (with_reducible refine Below.setCell ?_ ?_ _) | (with_reducible refine Below.drew ?_) | (simp; done) | (simp; omega) | omega)))).mono ?_); rintro e w' ⟨rfl, hb⟩; obtain ⟨p2, rfl⟩ := later_of_below hb; clear hb))
    go_ret2
    exact ⟨rfl, (by (repeat' (first | with_reducible exact Below.refl _ _ | (with_reducible refine below_later_of ?_ ?_ _) | (with_reducible refine Below.alloc ?_ ?_ _) | (with_reducible refine Below.setCell ?_ ?_ _) | (with_reducible refine Below.drew ?_) | (simp; done) | (simp; omega) | omega)))⟩
  · simp only [toR, toC, if_true] at HP2
    have e2 : ((r + 1 : Nat) : Int) = (r : Int) + 1 := by omega
    rw [e2] at HP2
    go_enter Tryd.func30, Tryd.ntmps30
    go_wp2_with (first | (go_at_call 59; (with_reducible refine (HP1.out _ (by (repeat' (first | with_reducible exact Below.refl _ _ | (with_reducible refine below_later_of ?_ ?_ _) | (with_reducible refine Below.alloc ?_ ?_ _) | (with_reducible refine Below.setCell ?_ ?_ _) | (with_reducible refine Below.drew ?_) | (simp; done) | (simp; omega) | omega)))).mono ?_); rintro e w' ⟨rfl, hb⟩; obtain ⟨p1, rfl⟩ := later_of_below hb; clear hb) | (go_at_call 59; (with_reducible refine (HP2.out _ (by (repeat' (first | with_reducible exact Below.refl _ _ | (with_reducible refine below_later_of ?_ ?_ _) | (with_reducible refine Below.alloc ?_ ?_ _) | (with_reducible refine Below.setCell ?_ ?_ _) | (with_reducible refine Below.drew ?_) | (simp; done) | (simp; omega) | omega)))).mono ?_); rintro e w' ⟨rfl, hb⟩; obtain ⟨p2, rfl⟩ := later_of_below hb; clear hb))
    go_ret2
    exact ⟨rfl, (by (repeat' (first | with_reducible exact Below.refl _ _ | (with_reducible refine below_later_of ?_ ?_ _) | (with_reducible refine Below.alloc ?_ ?_ _) | (with_reducible refine Below.setCell ?_ ?_ _) | (with_reducible refine Below.drew ?_) | (simp; done) | (simp; omega) | omega)))⟩
set_option maxRecDepth 20000 in
set_option maxHeartbeats 2000000 in
theorem rStep_in (R C r c : Nat) (d : Bool) (ri ci : Int) (zs : List Int) (v : Value) (w : World) (hm : MapOk R C zs) (hv : IntsV w v zs) (hr : toR r d < R) (hc : toC c d < C) (hri : ri = r) (hci : ci = c) {p q : Int} (hp : zAt C (intAt zs) r c = p) (hq : zAt C (intAt zs) (toR r d) (toC c d) = q) :
    Calls Tryd.prog 30 #[.agg #[.int .i64 R, .int .i64 C, v], .int .i64 ri, .int .i64 ci, .bool d] w fun e w' => e = .returned (.tuple #[.int .i64 (stV p q), .int .i64 (stE p q)]) ∧ Below w.heap.size w w' := by
  have hr0 : r < R := by unfold toR at hr; split at hr <;> omega
  have hc0 : c < C := by unfold toC at hc; split at hc <;> omega
  subst hri hci
  have b1 := hm.bd (r * C + c)
  have b2 := hm.bd (toR r d * C + toC c d)
  have c2 := hm.c2
  have r2 := hm.r2
  have HA1 := Lib.hid (show ∀ W, Below w.heap.size w W → _ from fun W hW => rAt R C r c r c zs v W hm (hv.below hW) hr0 hc0 rfl rfl hp)
  have HA2 := Lib.hid (show ∀ W, Below w.heap.size w W → _ from fun W hW => rAt R C (toR r d) (toC c d) _ _ zs v W hm (hv.below hW) hr hc rfl rfl hq)
  unfold zAt at hp hq
  rw [hp] at b1
  rw [hq] at b2
  have HWR := Lib.hid (fun W => bWrp (q - p) W (by omega) (by omega) (v := wrP (q - p)) rfl)
  obtain ⟨-, a, cap, rfl, -⟩ := hv
  have HP1 := Lib.hid (show ∀ W, Below w.heap.size w W → _ from fun W _ => rIsPixel R C r c zs.length cap a W r2 c2 (pixB_in hr0 hc0))
  have HP2 := Lib.hid (show ∀ W, Below w.heap.size w W → _ from fun W _ => rIsPixel R C _ _ zs.length cap a W r2 c2 (pixB_in hr hc))
  obtain ⟨b3, b4⟩ := b1
  obtain ⟨b5, b6⟩ := b2
  have HV := Lib.hid (show stV p q = if nvB p && nvB q then wrP (q - p) else 0 from rfl)
  have HE := Lib.hid (show stE p q = if nvB p && nvB q then 0 else 31 from rfl)
  clear hm hp hq
  generalize wrP (q - p) = n at *
  have e2 : ((c + 1 : Nat) : Int) = (c : Int) + 1 := by omega
  have e3 : ((r + 1 : Nat) : Int) = (r : Int) + 1 := by omega
  have hx : (p = 1000000000000 ∨ p ≠ 1000000000000) := Classical.em _
  have hy : (q = 1000000000000 ∨ q ≠ 1000000000000) := Classical.em _
  rcases hx with h1 | h1
  · have d1 : (p == 1000000000000) = true := by simpa using h1
    have HF1 := Lib.hid (show stV p q = 0 by rw [HV.out]; unfold nvB; simp [h1])
    have HF2 := Lib.hid (show stE p q = 31 by rw [HE.out]; unfold nvB; simp [h1])
    clear h1 hy HV HE
    cases d
    · simp only [toR, toC, Bool.false_eq_true, if_false] at HA2 HP2 hr hc
      rw [e2] at HA2 HP2
      go_enter Tryd.func30, Tryd.ntmps30
      go_wp2_with (first | (go_at_call 59; (with_reducible refine (HP1.out _ (by (repeat' (first | with_reducible exact Below.refl _ _ | (with_reducible refine below_later_of ?_ ?_ _) | (with_reducible refine Below.alloc ?_ ?_ _) | (with_reducible refine Below.setCell ?_ ?_ _) | (with_reducible refine Below.drew ?_) | (simp; done) | (simp; omega) | omega)))).mono ?_); rintro e w' ⟨rfl, hb⟩; obtain ⟨p1, rfl⟩ := later_of_below hb; clear hb) | (go_at_call 59; (with_reducible refine (HP2.out _ (by (repeat' (first | with_reducible exact Below.refl _ _ | (with_reducible refine below_later_of ?_ ?_ _) | (with_reducible refine Below.alloc ?_ ?_ _) | (with_reducible refine Below.setCell ?_ ?_ _) | (with_reducible refine Below.drew ?_) | (simp; done) | (simp; omega) | omega)))).mono ?_); rintro e w' ⟨rfl, hb⟩; obtain ⟨p2, rfl⟩ := later_of_below hb; clear hb))
      refine wp_region_calm (by kernel_rfl) (by kernel_rfl) ?_
      repeat (go_big_quiet_step (first | (go_at_call 61; with_reducible exact calm_of (HA1.out _ (by (repeat' (first | with_reducible exact Below.refl _ _ | (with_reducible refine below_later_of ?_ ?_ _) | (with_reducible refine Below.alloc ?_ ?_ _) | (with_reducible refine Below.setCell ?_ ?_ _) | (with_reducible refine Below.drew ?_) | (simp; done) | (simp; omega) | omega))))) | (go_at_call 61; with_reducible exact calm_of (HA2.out _ (by (repeat' (first | with_reducible exact Below.refl _ _ | (with_reducible refine below_later_of ?_ ?_ _) | (with_reducible refine Below.alloc ?_ ?_ _) | (with_reducible refine Below.setCell ?_ ?_ _) | (with_reducible refine Below.drew ?_) | (simp; done) | (simp; omega) | omega)))))))
      refine wpQuiet_nil ?_
      rintro _ ⟨pq, rfl⟩
      go_wp2_with (first | (go_at_call 62; (with_reducible refine (HWR.out _).mono ?_); rintro e w' ⟨rfl, rfl⟩))
      go_ret2
      exact ⟨by rw [HF1.out, HF2.out]; rfl, (by (repeat' (first | with_reducible exact Below.refl _ _ | (with_reducible refine below_later_of ?_ ?_ _) | (with_reducible refine Below.alloc ?_ ?_ _) | (with_reducible refine Below.setCell ?_ ?_ _) | (with_reducible refine Below.drew ?_) | (simp; done) | (simp; omega) | omega)))⟩
    · simp only [toR, toC, if_true] at HA2 HP2 hr hc
      rw [e3] at HA2 HP2
      go_enter Tryd.func30, Tryd.ntmps30
      go_wp2_with (first | (go_at_call 59; (with_reducible refine (HP1.out _ (by (repeat' (first | with_reducible exact Below.refl _ _ | (with_reducible refine below_later_of ?_ ?_ _) | (with_reducible refine Below.alloc ?_ ?_ _) | (with_reducible refine Below.setCell ?_ ?_ _) | (with_reducible refine Below.drew ?_) | (simp; done) | (simp; omega) | omega)))).mono ?_); rintro e w' ⟨rfl, hb⟩; obtain ⟨p1, rfl⟩ := later_of_below hb; clear hb) | (go_at_call 59; (with_reducible refine (HP2.out _ (by (repeat' (first | with_reducible exact Below.refl _ _ | (with_reducible refine below_later_of ?_ ?_ _) | (with_reducible refine Below.alloc ?_ ?_ _) | (with_reducible refine Below.setCell ?_ ?_ _) | (with_reducible refine Below.drew ?_) | (simp; done) | (simp; omega) | omega)))).mono ?_); rintro e w' ⟨rfl, hb⟩; obtain ⟨p2, rfl⟩ := later_of_below hb; clear hb))
      refine wp_region_calm (by kernel_rfl) (by kernel_rfl) ?_
      repeat (go_big_quiet_step (first | (go_at_call 61; with_reducible exact calm_of (HA1.out _ (by (repeat' (first | with_reducible exact Below.refl _ _ | (with_reducible refine below_later_of ?_ ?_ _) | (with_reducible refine Below.alloc ?_ ?_ _) | (with_reducible refine Below.setCell ?_ ?_ _) | (with_reducible refine Below.drew ?_) | (simp; done) | (simp; omega) | omega))))) | (go_at_call 61; with_reducible exact calm_of (HA2.out _ (by (repeat' (first | with_reducible exact Below.refl _ _ | (with_reducible refine below_later_of ?_ ?_ _) | (with_reducible refine Below.alloc ?_ ?_ _) | (with_reducible refine Below.setCell ?_ ?_ _) | (with_reducible refine Below.drew ?_) | (simp; done) | (simp; omega) | omega)))))))
      refine wpQuiet_nil ?_
      rintro _ ⟨pq, rfl⟩
      go_wp2_with (first | (go_at_call 62; (with_reducible refine (HWR.out _).mono ?_); rintro e w' ⟨rfl, rfl⟩))
      go_ret2
      exact ⟨by rw [HF1.out, HF2.out]; rfl, (by (repeat' (first | with_reducible exact Below.refl _ _ | (with_reducible refine below_later_of ?_ ?_ _) | (with_reducible refine Below.alloc ?_ ?_ _) | (with_reducible refine Below.setCell ?_ ?_ _) | (with_reducible refine Below.drew ?_) | (simp; done) | (simp; omega) | omega)))⟩
  · have d1 : (p == 1000000000000) = false := by simpa using h1
    rcases hy with h2 | h2
    · have d2 : (q == 1000000000000) = true := by simpa using h2
      have HF1 := Lib.hid (show stV p q = 0 by rw [HV.out]; unfold nvB; simp [h2])
      have HF2 := Lib.hid (show stE p q = 31 by rw [HE.out]; unfold nvB; simp [h2])
      clear h1 h2 HV HE
      cases d
      · simp only [toR, toC, Bool.false_eq_true, if_false] at HA2 HP2 hr hc
        rw [e2] at HA2 HP2
        go_enter Tryd.func30, Tryd.ntmps30
        go_wp2_with (first | (go_at_call 59; (with_reducible refine (HP1.out _ (by (repeat' (first | with_reducible exact Below.refl _ _ | (with_reducible refine below_later_of ?_ ?_ _) | (with_reducible refine Below.alloc ?_ ?_ _) | (with_reducible refine Below.setCell ?_ ?_ _) | (with_reducible refine Below.drew ?_) | (simp; done) | (simp; omega) | omega)))).mono ?_); rintro e w' ⟨rfl, hb⟩; obtain ⟨p1, rfl⟩ := later_of_below hb; clear hb) | (go_at_call 59; (with_reducible refine (HP2.out _ (by (repeat' (first | with_reducible exact Below.refl _ _ | (with_reducible refine below_later_of ?_ ?_ _) | (with_reducible refine Below.alloc ?_ ?_ _) | (with_reducible refine Below.setCell ?_ ?_ _) | (with_reducible refine Below.drew ?_) | (simp; done) | (simp; omega) | omega)))).mono ?_); rintro e w' ⟨rfl, hb⟩; obtain ⟨p2, rfl⟩ := later_of_below hb; clear hb))
        refine wp_region_calm (by kernel_rfl) (by kernel_rfl) ?_
        repeat (go_big_quiet_step (first | (go_at_call 61; with_reducible exact calm_of (HA1.out _ (by (repeat' (first | with_reducible exact Below.refl _ _ | (with_reducible refine below_later_of ?_ ?_ _) | (with_reducible refine Below.alloc ?_ ?_ _) | (with_reducible refine Below.setCell ?_ ?_ _) | (with_reducible refine Below.drew ?_) | (simp; done) | (simp; omega) | omega))))) | (go_at_call 61; with_reducible exact calm_of (HA2.out _ (by (repeat' (first | with_reducible exact Below.refl _ _ | (with_reducible refine below_later_of ?_ ?_ _) | (with_reducible refine Below.alloc ?_ ?_ _) | (with_reducible refine Below.setCell ?_ ?_ _) | (with_reducible refine Below.drew ?_) | (simp; done) | (simp; omega) | omega)))))))
        refine wpQuiet_nil ?_
        rintro _ ⟨pq, rfl⟩
        go_wp2_with (first | (go_at_call 62; (with_reducible refine (HWR.out _).mono ?_); rintro e w' ⟨rfl, rfl⟩))
        go_ret2
        exact ⟨by rw [HF1.out, HF2.out]; rfl, (by (repeat' (first | with_reducible exact Below.refl _ _ | (with_reducible refine below_later_of ?_ ?_ _) | (with_reducible refine Below.alloc ?_ ?_ _) | (with_reducible refine Below.setCell ?_ ?_ _) | (with_reducible refine Below.drew ?_) | (simp; done) | (simp; omega) | omega)))⟩
      · simp only [toR, toC, if_true] at HA2 HP2 hr hc
        rw [e3] at HA2 HP2
        go_enter Tryd.func30, Tryd.ntmps30
        go_wp2_with (first | (go_at_call 59; (with_reducible refine (HP1.out _ (by (repeat' (first | with_reducible exact Below.refl _ _ | (with_reducible refine below_later_of ?_ ?_ _) | (with_reducible refine Below.alloc ?_ ?_ _) | (with_reducible refine Below.setCell ?_ ?_ _) | (with_reducible refine Below.drew ?_) | (simp; done) | (simp; omega) | omega)))).mono ?_); rintro e w' ⟨rfl, hb⟩; obtain ⟨p1, rfl⟩ := later_of_below hb; clear hb) | (go_at_call 59; (with_reducible refine (HP2.out _ (by (repeat' (first | with_reducible exact Below.refl _ _ | (with_reducible refine below_later_of ?_ ?_ _) | (with_reducible refine Below.alloc ?_ ?_ _) | (with_reducible refine Below.setCell ?_ ?_ _) | (with_reducible refine Below.drew ?_) | (simp; done) | (simp; omega) | omega)))).mono ?_); rintro e w' ⟨rfl, hb⟩; obtain ⟨p2, rfl⟩ := later_of_below hb; clear hb))
        refine wp_region_calm (by kernel_rfl) (by kernel_rfl) ?_
        repeat (go_big_quiet_step (first | (go_at_call 61; with_reducible exact calm_of (HA1.out _ (by (repeat' (first | with_reducible exact Below.refl _ _ | (with_reducible refine below_later_of ?_ ?_ _) | (with_reducible refine Below.alloc ?_ ?_ _) | (with_reducible refine Below.setCell ?_ ?_ _) | (with_reducible refine Below.drew ?_) | (simp; done) | (simp; omega) | omega))))) | (go_at_call 61; with_reducible exact calm_of (HA2.out _ (by (repeat' (first | with_reducible exact Below.refl _ _ | (with_reducible refine below_later_of ?_ ?_ _) | (with_reducible refine Below.alloc ?_ ?_ _) | (with_reducible refine Below.setCell ?_ ?_ _) | (with_reducible refine Below.drew ?_) | (simp; done) | (simp; omega) | omega)))))))
        refine wpQuiet_nil ?_
        rintro _ ⟨pq, rfl⟩
        go_wp2_with (first | (go_at_call 62; (with_reducible refine (HWR.out _).mono ?_); rintro e w' ⟨rfl, rfl⟩))
        go_ret2
        exact ⟨by rw [HF1.out, HF2.out]; rfl, (by (repeat' (first | with_reducible exact Below.refl _ _ | (with_reducible refine below_later_of ?_ ?_ _) | (with_reducible refine Below.alloc ?_ ?_ _) | (with_reducible refine Below.setCell ?_ ?_ _) | (with_reducible refine Below.drew ?_) | (simp; done) | (simp; omega) | omega)))⟩
    · have d2 : (q == 1000000000000) = false := by simpa using h2
      have HF1 := Lib.hid (show stV p q = n by rw [HV.out]; unfold nvB; simp [h1, h2])
      have HF2 := Lib.hid (show stE p q = 0 by rw [HE.out]; unfold nvB; simp [h1, h2])
      clear h1 h2 HV HE
      cases d
      · simp only [toR, toC, Bool.false_eq_true, if_false] at HA2 HP2 hr hc
        rw [e2] at HA2 HP2
        go_enter Tryd.func30, Tryd.ntmps30
        go_wp2_with (first | (go_at_call 59; (with_reducible refine (HP1.out _ (by (repeat' (first | with_reducible exact Below.refl _ _ | (with_reducible refine below_later_of ?_ ?_ _) | (with_reducible refine Below.alloc ?_ ?_ _) | (with_reducible refine Below.setCell ?_ ?_ _) | (with_reducible refine Below.drew ?_) | (simp; done) | (simp; omega) | omega)))).mono ?_); rintro e w' ⟨rfl, hb⟩; obtain ⟨p1, rfl⟩ := later_of_below hb; clear hb) | (go_at_call 59; (with_reducible refine (HP2.out _ (by (repeat' (first | with_reducible exact Below.refl _ _ | (with_reducible refine below_later_of ?_ ?_ _) | (with_reducible refine Below.alloc ?_ ?_ _) | (with_reducible refine Below.setCell ?_ ?_ _) | (with_reducible refine Below.drew ?_) | (simp; done) | (simp; omega) | omega)))).mono ?_); rintro e w' ⟨rfl, hb⟩; obtain ⟨p2, rfl⟩ := later_of_below hb; clear hb))
        refine wp_region_calm (by kernel_rfl) (by kernel_rfl) ?_
        repeat (go_big_quiet_step (first | (go_at_call 61; with_reducible exact calm_of (HA1.out _ (by (repeat' (first | with_reducible exact Below.refl _ _ | (with_reducible refine below_later_of ?_ ?_ _) | (with_reducible refine Below.alloc ?_ ?_ _) | (with_reducible refine Below.setCell ?_ ?_ _) | (with_reducible refine Below.drew ?_) | (simp; done) | (simp; omega) | omega))))) | (go_at_call 61; with_reducible exact calm_of (HA2.out _ (by (repeat' (first | with_reducible exact Below.refl _ _ | (with_reducible refine below_later_of ?_ ?_ _) | (with_reducible refine Below.alloc ?_ ?_ _) | (with_reducible refine Below.setCell ?_ ?_ _) | (with_reducible refine Below.drew ?_) | (simp; done) | (simp; omega) | omega)))))))
        refine wpQuiet_nil ?_
        rintro _ ⟨pq, rfl⟩
        go_wp2_with (first | (go_at_call 62; (with_reducible refine (HWR.out _).mono ?_); rintro e w' ⟨rfl, rfl⟩))
        go_ret2
        exact ⟨by rw [HF1.out, HF2.out]; rfl, (by (repeat' (first | with_reducible exact Below.refl _ _ | (with_reducible refine below_later_of ?_ ?_ _) | (with_reducible refine Below.alloc ?_ ?_ _) | (with_reducible refine Below.setCell ?_ ?_ _) | (with_reducible refine Below.drew ?_) | (simp; done) | (simp; omega) | omega)))⟩
      · simp only [toR, toC, if_true] at HA2 HP2 hr hc
        rw [e3] at HA2 HP2
        go_enter Tryd.func30, Tryd.ntmps30
        go_wp2_with (first | (go_at_call 59; (with_reducible refine (HP1.out _ (by (repeat' (first | with_reducible exact Below.refl _ _ | (with_reducible refine below_later_of ?_ ?_ _) | (with_reducible refine Below.alloc ?_ ?_ _) | (with_reducible refine Below.setCell ?_ ?_ _) | (with_reducible refine Below.drew ?_) | (simp; done) | (simp; omega) | omega)))).mono ?_); rintro e w' ⟨rfl, hb⟩; obtain ⟨p1, rfl⟩ := later_of_below hb; clear hb) | (go_at_call 59; (with_reducible refine (HP2.out _ (by (repeat' (first | with_reducible exact Below.refl _ _ | (with_reducible refine below_later_of ?_ ?_ _) | (with_reducible refine Below.alloc ?_ ?_ _) | (with_reducible refine Below.setCell ?_ ?_ _) | (with_reducible refine Below.drew ?_) | (simp; done) | (simp; omega) | omega)))).mono ?_); rintro e w' ⟨rfl, hb⟩; obtain ⟨p2, rfl⟩ := later_of_below hb; clear hb))
        refine wp_region_calm (by kernel_rfl) (by kernel_rfl) ?_
        repeat (go_big_quiet_step (first | (go_at_call 61; with_reducible exact calm_of (HA1.out _ (by (repeat' (first | with_reducible exact Below.refl _ _ | (with_reducible refine below_later_of ?_ ?_ _) | (with_reducible refine Below.alloc ?_ ?_ _) | (with_reducible refine Below.setCell ?_ ?_ _) | (with_reducible refine Below.drew ?_) | (simp; done) | (simp; omega) | omega))))) | (go_at_call 61; with_reducible exact calm_of (HA2.out _ (by (repeat' (first | with_reducible exact Below.refl _ _ | (with_reducible refine below_later_of ?_ ?_ _) | (with_reducible refine Below.alloc ?_ ?_ _) | (with_reducible refine Below.setCell ?_ ?_ _) | (with_reducible refine Below.drew ?_) | (simp; done) | (simp; omega) | omega)))))))
        refine wpQuiet_nil ?_
        rintro _ ⟨pq, rfl⟩
        go_wp2_with (first | (go_at_call 62; (with_reducible refine (HWR.out _).mono ?_); rintro e w' ⟨rfl, rfl⟩))
        go_ret2
        exact ⟨by rw [HF1.out, HF2.out]; rfl, (by (repeat' (first | with_reducible exact Below.refl _ _ | (with_reducible refine below_later_of ?_ ?_ _) | (with_reducible refine Below.alloc ?_ ?_ _) | (with_reducible refine Below.setCell ?_ ?_ _) | (with_reducible refine Below.drew ?_) | (simp; done) | (simp; omega) | omega)))⟩
end Go.Proofs.YtfiioadmpjmmgaaDoor
