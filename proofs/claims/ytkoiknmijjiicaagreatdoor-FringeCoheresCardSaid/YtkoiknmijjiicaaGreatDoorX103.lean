/- base.Compare: two fractions by whole parts and what is left. -/
import Derived.Test.YtkoiknmijjiicaaGreatDoorXA
namespace Go.Proofs.YtkoiknmijjiicaaGreatDoor
set_option linter.unusedVariables false
set_option linter.unusedSimpArgs false
open Go.RowKit Ieee Ntt
/-- The order of n / d and m / k. -/
def cmpP (n d m k : Nat) : Int := if n * k < m * d then -1 else if m * d < n * k then 1 else 0
theorem cmp_lo {n d m k : Nat} (hd : 1 ≤ d) (hk : 1 ≤ k) (h : n / d < m / k) : cmpP n d m k = -1 := by
  have h1 : n < (n / d + 1) * d := by have := Nat.div_add_mod n d; have := Nat.mod_lt n (show d > 0 by omega); rw [Nat.add_mul, Nat.one_mul, Nat.mul_comm]; omega
  have h2 : m / k * k ≤ m := Nat.div_mul_le_self m k
  have h3 : n * k < (n / d + 1) * d * k := Nat.mul_lt_mul_of_pos_right h1 hk
  have h4 : (n / d + 1) * (d * k) ≤ m / k * (d * k) := Nat.mul_le_mul_right _ h
  have h5 : m / k * k * d ≤ m * d := Nat.mul_le_mul_right _ h2
  have h6 : m / k * k * d = m / k * (d * k) := by rw [Nat.mul_assoc, Nat.mul_comm k d]
  rw [Nat.mul_assoc] at h3
  unfold cmpP
  rw [if_pos (by omega)]
theorem cmp_hi {n d m k : Nat} (hd : 1 ≤ d) (hk : 1 ≤ k) (h : m / k < n / d) : cmpP n d m k = 1 := by
  have := cmp_lo hk hd h
  unfold cmpP at this ⊢
  split at this
  · rename_i c
    rw [if_neg (by omega), if_pos c]
  · split at this
    · cases this
    · cases this
theorem cmp_mid {n d m k : Nat} (h : n / d = m / k) : cmpP n d m k = cmpP (n % d) d (m % k) k := by
  have h1 := Nat.div_add_mod n d
  have h2 := Nat.div_add_mod m k
  have e1 : n * k = n / d * (d * k) + n % d * k := by
    have : n * k = (d * (n / d) + n % d) * k := by rw [h1]
    rw [this, Nat.add_mul]
    congr 1
    rw [Nat.mul_comm d, Nat.mul_assoc]
  have e2 : m * d = n / d * (d * k) + m % k * d := by
    have : m * d = (k * (m / k) + m % k) * d := by rw [h2]
    rw [this, Nat.add_mul, ← h]
    congr 1
    rw [Nat.mul_comm k, Nat.mul_assoc, Nat.mul_comm k]
  unfold cmpP
  rw [e1, e2]
  simp only [Nat.add_lt_add_iff_left]
theorem cmp_turn (r d s k : Nat) : cmpP k s d r = cmpP r d s k := by unfold cmpP; rw [Nat.mul_comm k r, Nat.mul_comm d s]
theorem cmp_0l {d s k : Nat} (hd : 1 ≤ d) (hs : 1 ≤ s) : cmpP 0 d s k = -1 := by
  unfold cmpP
  rw [if_pos]
  rw [Nat.zero_mul]
  exact Nat.mul_pos hs hd
theorem cmp_0r {r d k : Nat} (hk : 1 ≤ k) (hr : 1 ≤ r) : cmpP r d 0 k = 1 := by
  have : 0 < r * k := Nat.mul_pos hr hk
  unfold cmpP
  rw [Nat.zero_mul, if_neg (by omega), if_pos this]
theorem cmp_00 (d k : Nat) : cmpP 0 d 0 k = 0 := by unfold cmpP; simp
theorem cmp_le {n d m k : Nat} : cmpP n d m k ≤ 0 ↔ n * k ≤ m * d := by
  unfold cmpP
  split
  · simp; omega
  · split
    · simp; omega
    · simp; omega
theorem div_cast (n d : Nat) : (n : Int) / (d : Int) = ((n / d : Nat) : Int) := rfl
set_option maxRecDepth 20000 in
set_option maxHeartbeats 4000000 in
theorem bCompare (n d m k : Nat) (w : World) (hn : n ≤ 4611686018427387904) (hd : 1 ≤ d ∧ d ≤ 4611686018427387904) (hm : m ≤ 4611686018427387904) (hk : 1 ≤ k ∧ k ≤ 4611686018427387904) :
    Calls Tryz.prog 51 #[.int .i64 n, .int .i64 d, .int .i64 m, .int .i64 k] w fun e w' => e = .returned (.int .i64 (cmpP n d m k)) ∧ w = w' := by
  obtain ⟨c, hc⟩ : ∃ c, cmpP n d m k = c := ⟨_, rfl⟩
  rw [hc]
  go_enter Tryz.func51, Tryz.ntmps51
  go_wp2
  go_loop [0, 1, 2, 3] (fun i1 i2 i3 i4 => ∃ n d m k : Nat, i1 = .int .i64 n ∧ i2 = .int .i64 d ∧ i3 = .int .i64 m ∧ i4 = .int .i64 k ∧ n ≤ 4611686018427387904 ∧ (1 ≤ d ∧ d ≤ 4611686018427387904) ∧ m ≤ 4611686018427387904 ∧ (1 ≤ k ∧ k ≤ 4611686018427387904) ∧ cmpP n d m k = c) (fun _ i2 _ i4 => (intOf i2).toNat + (intOf i4).toNat)
  case atStart => exact ⟨n, d, m, k, rfl, rfl, rfl, rfl, hn, hd, hm, hk, hc⟩
  case round =>
    clear hn hd hm hk hc n d m k
    obtain ⟨n, d, m, k, rfl, rfl, rfl, rfl, hn, ⟨hd1, hd2⟩, hm, ⟨hk1, hk2⟩, hc⟩ := hrel
    obtain ⟨p, hp⟩ : ∃ p, n / d = p := ⟨_, rfl⟩
    obtain ⟨q, hq⟩ : ∃ q, m / k = q := ⟨_, rfl⟩
    have HF1 := Lib.hid (fun w => bFloorN (n : Int) (d : Int) w (by omega) (by omega) (by omega) (by omega) (v := (p : Int)) (by rw [div_cast, hp]))
    have HF2 := Lib.hid (fun w => bFloorN (m : Int) (k : Int) w (by omega) (by omega) (by omega) (by omega) (v := (q : Int)) (by rw [div_cast, hq]))
    rcases (show p < q ∨ q < p ∨ p = q by omega) with c1 | c1 | rfl
    · have HC := Lib.hid (show c = -1 by rw [← hc]; exact cmp_lo hd1 hk1 (by rw [hp, hq]; exact c1))
      have hl : decide ((p : Int) < (q : Int)) = true := by simp; omega
      have hlN : decide (p < q) = true := by simpa using c1
      clear hc hp hq
      go_wp2_with (first | (go_at_call 97; (with_reducible refine (HF1.out _).mono ?_); rintro e w' ⟨rfl, rfl⟩) | (go_at_call 97; (with_reducible refine (HF2.out _).mono ?_); rintro e w' ⟨rfl, rfl⟩))
      go_ret
      exact ⟨by rw [HC.out]; rfl, rfl⟩
    · have HC := Lib.hid (show c = 1 by rw [← hc]; exact cmp_hi hd1 hk1 (by rw [hp, hq]; exact c1))
      have hl : decide ((p : Int) < (q : Int)) = false := by simp; omega
      have hl2 : decide ((q : Int) < (p : Int)) = true := by simp; omega
      have hlN : decide (p < q) = false := by simp; omega
      have hl2N : decide (q < p) = true := by simpa using c1
      clear hc hp hq
      go_wp2_with (first | (go_at_call 97; (with_reducible refine (HF1.out _).mono ?_); rintro e w' ⟨rfl, rfl⟩) | (go_at_call 97; (with_reducible refine (HF2.out _).mono ?_); rintro e w' ⟨rfl, rfl⟩))
      go_ret
      exact ⟨by rw [HC.out]; rfl, rfl⟩
    · have hl : decide ((p : Int) < (p : Int)) = false := by simp
      rw [cmp_mid (hp.trans hq.symm)] at hc
      have h1 := Nat.div_add_mod n d
      have h2 := Nat.div_add_mod m k
      have h3 := Nat.mod_lt n (show d > 0 by omega)
      have h4 := Nat.mod_lt m (show k > 0 by omega)
      rw [hp] at h1
      rw [hq] at h2
      generalize n % d = r at *
      generalize m % k = s at *
      obtain ⟨u, hu⟩ : ∃ u, d * p = u := ⟨_, rfl⟩
      obtain ⟨v, hv⟩ : ∃ v, k * p = v := ⟨_, rfl⟩
      rw [hu] at h1
      rw [hv] at h2
      have hwu : IntKind.i64.wrap ((p : Int) * (d : Int)) = (u : Int) := by rw [← Int.natCast_mul, Nat.mul_comm, hu]; exact IntWalk.i64_in _ (by omega)
      have hwv : IntKind.i64.wrap ((p : Int) * (k : Int)) = (v : Int) := by rw [← Int.natCast_mul, Nat.mul_comm, hv]; exact IntWalk.i64_in _ (by omega)
      have hwr : IntKind.i64.wrap ((n : Int) - (u : Int)) = (r : Int) := by rw [show (n : Int) - (u : Int) = (r : Int) by omega]; exact IntWalk.i64_in _ (by omega)
      have hws : IntKind.i64.wrap ((m : Int) - (v : Int)) = (s : Int) := by rw [show (m : Int) - (v : Int) = (s : Int) by omega]; exact IntWalk.i64_in _ (by omega)
      have e1 : (n : Int) - (u : Int) = (r : Int) := by omega
      have e2 : (m : Int) - (v : Int) = (s : Int) := by omega
      clear hp hq hu hv h1 h2
      rcases (show r = 0 ∨ 1 ≤ r by omega) with rfl | hr
      · rcases (show s = 0 ∨ 1 ≤ s by omega) with rfl | hs
        · have HC := Lib.hid (show c = 0 by rw [← hc]; exact cmp_00 _ _)
          clear hc
          go_wp2_with (first | (go_at_call 97; (with_reducible refine (HF1.out _).mono ?_); rintro e w' ⟨rfl, rfl⟩) | (go_at_call 97; (with_reducible refine (HF2.out _).mono ?_); rintro e w' ⟨rfl, rfl⟩))
          go_ret
          exact ⟨by rw [HC.out]; rfl, rfl⟩
        · have HC := Lib.hid (show c = -1 by rw [← hc]; exact cmp_0l hd1 hs)
          have hs0 : ((s : Int) == 0) = false := by simp; omega
          have hs1 : decide (s = 0) = false := by simp; omega
          have hs2 : ¬ s = 0 := by omega
          clear hc
          go_wp2_with (first | (go_at_call 97; (with_reducible refine (HF1.out _).mono ?_); rintro e w' ⟨rfl, rfl⟩) | (go_at_call 97; (with_reducible refine (HF2.out _).mono ?_); rintro e w' ⟨rfl, rfl⟩))
          go_ret
          exact ⟨by rw [HC.out]; rfl, rfl⟩
      · have hr0 : ((r : Int) == 0) = false := by simp; omega
        have hr1 : decide (r = 0) = false := by simp; omega
        have hr2 : ¬ r = 0 := by omega
        rcases (show s = 0 ∨ 1 ≤ s by omega) with rfl | hs
        · have HC := Lib.hid (show c = 1 by rw [← hc]; exact cmp_0r hk1 hr)
          clear hc
          go_wp2_with (first | (go_at_call 97; (with_reducible refine (HF1.out _).mono ?_); rintro e w' ⟨rfl, rfl⟩) | (go_at_call 97; (with_reducible refine (HF2.out _).mono ?_); rintro e w' ⟨rfl, rfl⟩))
          go_ret
          exact ⟨by rw [HC.out]; rfl, rfl⟩
        · have hs0 : ((s : Int) == 0) = false := by simp; omega
          have hs1 : decide (s = 0) = false := by simp; omega
          have hs2 : ¬ s = 0 := by omega
          rw [← cmp_turn] at hc
          have HC := Lib.hid hc
          clear hc
          go_wp2_with (first | (go_at_call 97; (with_reducible refine (HF1.out _).mono ?_); rintro e w' ⟨rfl, rfl⟩) | (go_at_call 97; (with_reducible refine (HF2.out _).mono ?_); rintro e w' ⟨rfl, rfl⟩))
          go_round
          case rel => exact ⟨k, s, d, r, rfl, rfl, rfl, rfl, by omega, ⟨hs, by omega⟩, by omega, ⟨hr, by omega⟩, HC.out⟩
          case measure => simp [intOf]; omega
end Go.Proofs.YtkoiknmijjiicaaGreatDoor
