/- Chapter 1: lists that are transformed: their errors. -/
import Derived.Test.YtelchmimhnpkaaaU5
namespace Go.Proofs.Ytelchmimhnpkaaa
set_option linter.unusedVariables false
open Go.RowKit Ntt
/-- How many bits are 1, as Go's library finds it. -/
def onesE (n : Int) : Int :=
  let a := IntKind.u64.wrap (bits .and .u64 (n / 2) 6148914691236517205 + bits .and .u64 n 6148914691236517205)
  let b := IntKind.u64.wrap (bits .and .u64 (a / 4) 3689348814741910323 + bits .and .u64 a 3689348814741910323)
  let c := bits .and .u64 (IntKind.u64.wrap (b / 16 + b)) 1085102592571150095
  let d := IntKind.u64.wrap (c + c / 256)
  let e := IntKind.u64.wrap (d + d / 65536)
  let f := IntKind.u64.wrap (e + e / 4294967296)
  bits .and .i64 (wrap64 f) 127
set_option maxRecDepth 20000 in
set_option maxHeartbeats 1000000 in
theorem ones64 (n : Nat) (w : World) (hn : n ≤ 128) :
    Calls Try.prog 185 #[.int .u64 n] w fun e w' => e = .returned (.int .i64 (onesE n)) ∧ w = w' := by
  go_enter Try.func185, Try.ntmps185
  go_wp2
  go_ret
  exact ⟨ret_intE rfl, rfl⟩
theorem ones_one : ∀ n : Nat, n < 129 → (onesE n = 1 ↔ n ∈ [1, 2, 4, 8, 16, 32, 64, 128]) := by decide +kernel
/-- So many numbers may be transformed. -/
def twoB (n : Nat) : Bool := n ∈ [1, 2, 4, 8, 16, 32, 64, 128]
theorem ones_two {n : Nat} (hn : n ≤ 128) : (onesE n != 1) = !twoB n := by
  have := ones_one n (by omega)
  unfold twoB
  by_cases h : onesE n = 1
  · simp [h, this.1 h]
  · have h2 : ¬ n ∈ [1, 2, 4, 8, 16, 32, 64, 128] := fun h2 => h (this.2 h2)
    simp only [bne, beq_eq_false_iff_ne.2 h, decide_eq_false h2]
theorem ones_any (n : Nat) (w : World) (hn : n ≤ 128) :
    Calls Try.prog 128 #[.int .u64 n] w fun e w' => e = .returned (.int .i64 (onesE n)) ∧ w = w' := by
  go_enter Try.func128, Try.ntmps128
  go_wp2_with (first | (go_at_call 185; refine (ones64 n _ hn).mono ?_; rintro e w' ⟨rfl, rfl⟩))
  go_ret
  exact ⟨rfl, rfl⟩
set_option maxHeartbeats 400000 in
theorem rootOf_any (n : Nat) (w : World) (h0 : 0 < n) (hn : n ≤ 128) :
    Calls Try.prog 64 #[.int .i64 n] w fun e w' => e = .returned (.int .i64 (rootM n)) ∧ w = w' := by
  have hq : 998244352 / n < 2147483648 := by have := Nat.div_le_self 998244352 n; omega
  have HC := Lib.hid (show ∀ w, Calls Try.prog 129 #[.int .i64 3, .int .i64 (998244352 / (n : Int))] w fun e w' => e = .returned (.int .i64 (rootM n)) ∧ w = w' from fun w => by
    have := power_any 3 (998244352 / n) w (by decide) (by decide) hq
    rw [Int.natCast_ediv] at this
    exact this)
  clear hq
  go_enter Try.func64, Try.ntmps64
  go_wp2_with (first | (go_at_call 129; refine (HC.out _).mono ?_; rintro e w' ⟨rfl, rfl⟩))
  go_ret
  exact ⟨rfl, rfl⟩
theorem inverse_any (a : Int) (w : World) (h1 : 0 ≤ a) (h2 : a < 998244353) :
    Calls Try.prog 65 #[.int .i64 a] w fun e w' => e = .returned (.int .i64 (invM a)) ∧ w = w' := by
  have HC := Lib.hid (show ∀ w, Calls Try.prog 129 #[.int .i64 a, .int .i64 998244351] w fun e w' => e = .returned (.int .i64 (invM a)) ∧ w = w' from fun w => power_any a 998244351 w h1 h2 (by decide))
  go_enter Try.func65, Try.ntmps65
  go_wp2_with (first | (go_at_call 129; refine (HC.out _).mono ?_; rintro e w' ⟨rfl, rfl⟩))
  go_ret
  exact ⟨rfl, rfl⟩
def inE (lo hi n : Int) : Bool := decide (lo ≤ n) && decide (n ≤ hi)
theorem within_e (n lo hi : Int) (w : World) {c : Bool} (hc : inE lo hi n = c) :
    Calls Try.prog 102 #[.int .i64 n, .int .i64 lo, .int .i64 hi] w fun e w' => e = .returned (.bool c) ∧ w = w' := by
  subst hc
  unfold inE
  go_enter Try.func102, Try.ntmps102
  by_cases h1 : lo ≤ n
  · go_wp2
    go_ret
    exact ⟨by simp [h1], rfl⟩
  · have hd : decide (lo ≤ n) = false := by simpa using h1
    go_wp2
    go_ret
    exact ⟨by simp, rfl⟩
end Go.Proofs.Ytelchmimhnpkaaa
