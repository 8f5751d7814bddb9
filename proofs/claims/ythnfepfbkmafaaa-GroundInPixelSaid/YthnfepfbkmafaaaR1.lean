import Derived.Test.YthnfepfbkmafaaaRows
import Derived.WalkKit
import Derived.WalkSpells
import Derived.WalkLawsBesides
import Derived.Lib.Hide
import Derived.Deep.LoopGhost
import Derived.Test.YthnfepfbkmafaaaL2
import Derived.Test.YthnfepfbkmafaaaP3
namespace Go.Proofs.Ythnfepfbkmafaaa
set_option linter.unusedVariables false
open Go.RowKit
set_option maxHeartbeats 400000 in
theorem bWithin (n lo hi : Int) (w : World) {c : Bool} (hc : inR lo hi n = c) :
    Calls Try.prog 34 #[.int .i64 n, .int .i64 lo, .int .i64 hi] w fun e w' => e = .returned (.bool c) ∧ w = w' := by
  subst hc
  unfold inR
  go_enter Try.func34, Try.ntmps34
  by_cases h1 : lo ≤ n
  · go_wp2
    go_ret
    exact ⟨by simp [h1], rfl⟩
  · have h2 : decide (lo ≤ n) = false := by simpa using h1
    go_wp2
    go_ret
    exact ⟨by simp, rfl⟩

set_option maxHeartbeats 400000 in
theorem bFloor (n b : Int) (w : World) (hb : 1 ≤ b) (hb2 : b ≤ 9223372036854775807) (h1 : -9223372036854775807 ≤ n) (h2 : n ≤ 9223372036854775807) :
    Calls Try.prog 55 #[.int .i64 n, .int .i64 b] w fun e w' => e = .returned (.int .i64 (n / b)) ∧ w = w' := by
  have hf := floor_of_tdiv n b hb
  have hq : n.tdiv b ≤ 9223372036854775807 ∧ -9223372036854775807 ≤ n.tdiv b := by
    have := Int.natAbs_tdiv_le_natAbs n b
    omega
  obtain ⟨q1, q2⟩ := hq
  by_cases hm : n.tmod b < 0
  · rw [if_pos hm] at hf
    have hq3 : -9223372036854775808 ≤ n.tdiv b - 1 := by omega
    have HF := Lib.hid hf
    clear hf
    have hn : n < 0 := by
      rcases Int.lt_or_le n 0 with h | h
      · exact h
      · exact absurd (Int.tmod_nonneg b h) (by omega)
    go_enter Try.func55, Try.ntmps55
    go_wp2
    go_ret
    exact ⟨ret_int HF.out, rfl⟩
  · rw [if_neg hm] at hf
    have HF := Lib.hid hf
    clear hf
    by_cases hn : 0 ≤ n
    · have h0 : 0 ≤ n % b := Int.emod_nonneg n (by omega)
      go_enter Try.func55, Try.ntmps55
      go_wp2
      go_ret
      exact ⟨ret_int HF.out, rfl⟩
    · go_enter Try.func55, Try.ntmps55
      go_wp2
      go_ret
      exact ⟨ret_int HF.out, rfl⟩

/-- Go's remainder, lifted. -/
theorem mod_of_tmod (n b : Int) (hb : 1 ≤ b) : (if n.tmod b < 0 then n.tmod b + b else n.tmod b) = n % b := by
  have h3 := Int.emod_nonneg n (show b ≠ 0 by omega)
  have h4 := Int.emod_lt_of_pos n (show 0 < b by omega)
  have hn : (b.natAbs : Int) = b := Int.natAbs_of_nonneg (by omega)
  rw [Int.tmod_eq_emod]
  by_cases h : 0 ≤ n ∨ b ∣ n
  · simp only [if_pos h]
    rw [if_neg (by omega)]; omega
  · simp only [if_neg h]
    have : n % b ≠ 0 := fun e => h (Or.inr (Int.dvd_of_emod_eq_zero e))
    rw [if_pos (by omega)]; omega
set_option maxHeartbeats 400000 in
theorem bMod (n b : Int) (w : World) (hb : 1 ≤ b) (hb2 : b ≤ 9223372036854775807) (h1 : -9223372036854775808 ≤ n) (h2 : n ≤ 9223372036854775807) :
    Calls Try.prog 54 #[.int .i64 n, .int .i64 b] w fun e w' => e = .returned (.int .i64 (n % b)) ∧ w = w' := by
  have hf := mod_of_tmod n b hb
  by_cases hm : n.tmod b < 0
  · rw [if_pos hm] at hf
    have hq3 : 0 ≤ n.tmod b + b := by rw [hf]; exact Int.emod_nonneg n (by omega)
    have HF := Lib.hid hf
    clear hf
    have hn : n < 0 := by
      rcases Int.lt_or_le n 0 with h | h
      · exact h
      · exact absurd (Int.tmod_nonneg b h) (by omega)
    go_enter Try.func54, Try.ntmps54
    go_wp2
    go_ret
    exact ⟨ret_int HF.out, rfl⟩
  · rw [if_neg hm] at hf
    have HF := Lib.hid hf
    clear hf
    by_cases hn : 0 ≤ n
    · have h0 : 0 ≤ n % b := Int.emod_nonneg n (by omega)
      go_enter Try.func54, Try.ntmps54
      go_wp2
      go_ret
      exact ⟨rfl, rfl⟩
    · go_enter Try.func54, Try.ntmps54
      go_wp2
      go_ret
      exact ⟨ret_int HF.out, rfl⟩

set_option maxHeartbeats 400000 in
theorem bSize (n : Int) (w : World) (h1 : -9223372036854775807 ≤ n) (h2 : n ≤ 9223372036854775807) :
    Calls Try.prog 124 #[.int .i64 n] w fun e w' => e = .returned (.int .i64 (max n (-n))) ∧ w = w' := by
  go_enter Try.func124, Try.ntmps124
  go_wp2
  go_ret
  exact ⟨rfl, rfl⟩

/-- What the root's loop holds: the bit of k rounds to come. -/
def bitOf : Nat → Int
  | 0 => 0
  | k + 1 => 2 ^ k
theorem bitOf_half (k : Nat) : (bitOf (k + 1)) / 2 = bitOf k := by
  cases k with
  | zero => rfl
  | succ k =>
    show ((2 : Int) ^ (k + 1)) / 2 = 2 ^ k
    rw [Int.pow_succ]; omega
theorem pow_le31 (k : Nat) (h : k ≤ 31) : (2 : Int) ^ k ≤ 2147483648 := by
  have : (2 : Nat) ^ k ≤ 2 ^ 31 := Nat.pow_le_pow_right (by omega) h
  have h2 : ((2 ^ k : Nat) : Int) ≤ ((2 ^ 31 : Nat) : Int) := Int.ofNat_le.2 this
  simpa using h2
set_option maxHeartbeats 1000000 in
theorem bRoot (n : Int) (w : World) (h0 : 0 ≤ n) (h1 : n ≤ 4000000000000000000) :
    Calls Try.prog 82 #[.int .i64 n] w fun e w' => e = .returned (.int .i64 (rootP n)) ∧ w = w' := by
  go_enter Try.func82, Try.ntmps82
  go_wp2
  go_loop [3, 4] (fun r b => ∃ (k : Nat) (x : Int), k ≤ 31 ∧ 0 ≤ x ∧ x + 2 ^ k ≤ 2147483648 ∧ rootGo n k x = rootP n ∧ r = .int .i64 x ∧ b = .int .i64 (bitOf k)) (fun r b => (intOf b).toNat)
  case atStart => exact ⟨31, 0, Nat.le_refl _, by omega, by decide, rfl, rfl, rfl⟩
  case round =>
    obtain ⟨k, x, hk, hx0, hx1, hg, rfl, rfl⟩ := hrel
    cases k with
    | zero =>
      have HG := Lib.hid hg
      clear hg
      simp only [bitOf]
      go_wp2
      go_ret
      exact ⟨ret_int HG.out, rfl⟩
    | succ k =>
      have hp : (0 : Int) < 2 ^ k := Int.pow_pos (by omega)
      have hl := pow_le31 k (by omega)
      have hpp : (2 : Int) ^ (k + 1) = 2 ^ k + 2 ^ k := by rw [Int.pow_succ]; omega
      rw [hpp] at hx1
      have hhalf := bitOf_half k
      have hmz : 0 ≤ bitOf k ∧ bitOf k < 2 ^ k := by
        cases k with
        | zero => exact ⟨by decide, by decide⟩
        | succ j =>
          have : (0 : Int) < 2 ^ j := Int.pow_pos (by omega)
          show 0 ≤ (2 : Int) ^ j ∧ (2 : Int) ^ j < 2 ^ (j + 1)
          rw [Int.pow_succ]; omega
      have hgo : rootGo n (k + 1) x = rootGo n k (if (x + 2 ^ k) * (x + 2 ^ k) ≤ n then x + 2 ^ k else x) := rfl
      rw [hgo] at hg
      show Code.wp _ _ _ _ _
      have hb : bitOf (k + 1) = 2 ^ k := rfl
      rw [hb] at hhalf ⊢
      clear hb hgo
      generalize hP : (2 : Int) ^ k = P2 at hp hl hx1 hg hmz hhalf ⊢
      obtain ⟨b1, b2⟩ := sq_bd (x + P2) 2147483648 (by omega) (by omega)
      simp only [Int.reduceMul] at b2
      by_cases hc : (x + P2) * (x + P2) ≤ n
      · rw [if_pos hc] at hg
        have HG := Lib.hid hg
        have HH := Lib.hid hhalf
        have HP := Lib.hid hP
        clear hg hhalf hP
        go_wp2
        go_round
        case rel => exact ⟨k, x + P2, by omega, by omega, by rw [HP.out]; omega, HG.out, rfl, by first | rw [HH.out] | (rw [← HH.out]; first | rfl | (congr 1; omega))⟩
        case measure => have := HH.out; simp [intOf]; omega
      · rw [if_neg hc] at hg
        have HG := Lib.hid hg
        have HH := Lib.hid hhalf
        have HP := Lib.hid hP
        clear hg hhalf hP
        go_wp2
        go_round
        case rel => exact ⟨k, x, by omega, by omega, by rw [HP.out]; omega, HG.out, rfl, by first | rw [HH.out] | (rw [← HH.out]; first | rfl | (congr 1; omega))⟩
        case measure => have := HH.out; simp [intOf]; omega
end Go.Proofs.Ythnfepfbkmafaaa
