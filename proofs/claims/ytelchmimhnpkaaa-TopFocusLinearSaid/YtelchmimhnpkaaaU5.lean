/- Chapter 1: powers modulo the prime, the roots, the inverses. -/
import Derived.Test.YtelchmimhnpkaaaProg
import Derived.Test.YtelchmimhnpkaaaZL
import Derived.Test.YtelchmimhnpkaaaZU
import Derived.WalkKit
import Derived.Lib.Hide
namespace Go.Proofs.Ytelchmimhnpkaaa
set_option linter.unusedVariables false
open Go.RowKit Ntt
theorem ret_intE {k : IntKind} {a b : Int} (h : a = b) : Ending.returned (.int k a) = .returned (.int k b) := by rw [h]
theorem pp_mul {a b : Int} (h1 : 0 ≤ a) (h2 : a < 998244353) (k1 : 0 ≤ b) (k2 : b < 998244353) : 0 ≤ a * b ∧ a * b ≤ 996491788296388609 := by
  refine ⟨Int.mul_nonneg h1 k1, ?_⟩
  have := Int.mul_le_mul (show a ≤ 998244353 by omega) (show b ≤ 998244353 by omega) k1 (by decide)
  omega
theorem powF_zero (f : Nat) (a out : Int) : powF f a 0 out = out := by cases f <;> simp [powF]
set_option maxHeartbeats 1000000 in
theorem power_any (a : Int) (n : Nat) (w : World) (h1 : 0 ≤ a) (h2 : a < 998244353) (hn : n < 2147483648) :
    Calls Try.prog 129 #[.int .i64 a, .int .i64 n] w fun e w' => e = .returned (.int .i64 (powM a n)) ∧ w = w' := by
  go_enter Try.func129, Try.ntmps129
  go_wp2
  go_loop [0, 1, 5] (fun x m o => ∃ (f m' : Nat) (x' o' : Int), x = .int .i64 x' ∧ m = .int .i64 m' ∧ o = .int .i64 o' ∧ m' < 2 ^ f ∧ m' < 2147483648 ∧ 0 ≤ x' ∧ x' < 998244353 ∧ 0 ≤ o' ∧ o' < 998244353 ∧ powF f x' m' o' = powM a n) (fun _ m _ => (intOf m).toNat)
  case atStart => exact ⟨31, n, a, 1, rfl, rfl, rfl, by simpa using hn, hn, h1, h2, by decide, by decide, rfl⟩
  case round =>
    obtain ⟨f, m, x, o, rfl, rfl, rfl, hf, hm, x1, x2, o1, o2, hp⟩ := hrel
    by_cases h0 : 0 < m
    · cases f with
      | zero => simp at hf; omega
      | succ f =>
        obtain ⟨m1, m2⟩ := pp_mul x1 x2 x1 x2
        obtain ⟨m3, m4⟩ := pp_mul o1 o2 x1 x2
        unfold powF at hp
        rw [if_neg (by omega)] at hp
        have hd : decide ((0 : Int) < (m : Int)) = true := by simp; omega
        have hf2 : m / 2 < 2 ^ f := by rw [Nat.pow_succ] at hf; omega
        have q1 := Int.emod_nonneg (x * x) (show (998244353 : Int) ≠ 0 by decide)
        have q2 := Int.emod_lt_of_pos (x * x) (show (0 : Int) < 998244353 by decide)
        have q3 := Int.emod_nonneg (o * x) (show (998244353 : Int) ≠ 0 by decide)
        have q4 := Int.emod_lt_of_pos (o * x) (show (0 : Int) < 998244353 by decide)
        have HF := Lib.hid hf2
        clear hf2 hf
        by_cases ho : m % 2 = 1
        · rw [if_pos ho] at hp
          have hb : ((m : Int) % 2 == 1) = true := by simp; omega
          have HP := Lib.hid hp
          clear hp ho
          go_wp2
          go_round
          case rel => exact ⟨f, m / 2, x * x % 998244353, o * x % 998244353, rfl, by first | rfl | simp, rfl, HF.out, by omega, q1, q2, q3, q4, HP.out⟩
          case measure => simp [intOf]; omega
        · rw [if_neg ho] at hp
          have hb : ((m : Int) % 2 == 1) = false := by simp; omega
          have HP := Lib.hid hp
          clear hp ho
          go_wp2
          go_round
          case rel => exact ⟨f, m / 2, x * x % 998244353, o, rfl, by first | rfl | simp, rfl, HF.out, by omega, q1, q2, o1, o2, HP.out⟩
          case measure => simp [intOf]; omega
    · obtain rfl : m = 0 := by omega
      rw [powF_zero] at hp
      have HP := Lib.hid hp
      clear hp
      go_wp2
      go_ret
      exact ⟨ret_intE HP.out, rfl⟩
end Go.Proofs.Ytelchmimhnpkaaa
