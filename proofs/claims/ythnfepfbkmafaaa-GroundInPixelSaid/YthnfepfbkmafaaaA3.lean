import Derived.Test.YthnfepfbkmafaaaA2
import Derived.Test.YthnfepfbkmafaaaF1
import Derived.Test.YthnfepfbkmafaaaP2
namespace Go.Proofs.Ythnfepfbkmafaaa
set_option linter.unusedVariables false
open Go.RowKit

theorem run_sqrt (b r : Nat) (h : Ieee.double.sqrt b = some r) (w : World) : (callFunc 146 #[.float .f64 b]).run Try.prog w = .ok (.value (.float .f64 r)) w := by
  rw [run_callFunc_extern (e := Extern.MathSqrt.sqrt) Try.func146 (by kernel_rfl) (by kernel_rfl) (by kernel_rfl) (by kernel_rfl)]
  have : Extern.MathSqrt.sqrt #[.float .f64 b] = pure (.float .f64 r) := by
    have h' : FloatKind.f64.format.sqrt b = some r := h
    change (match FloatKind.f64.format.sqrt b with
      | some r => pure (.float .f64 r)
      | none => do pure (.float .f64 (← choose (.nanBits .f64 b b))) : Sem Value) = _
    rw [h']
  rw [this]
  rfl

set_option maxHeartbeats 400000 in
theorem sqrt_any (b r : Nat) (w : World) (h : Ieee.double.sqrt b = some r) :
    Calls Try.prog 135 #[.float .f64 b] w fun e w' => e = .returned (.float .f64 r) ∧ w = w' := by
  have hs := run_sqrt b r h
  clear h
  go_enter Try.func135, Try.ntmps135
  go_wp2
  go_ret
  exact ⟨rfl, rfl⟩

set_option maxHeartbeats 400000 in
theorem root_any (n : Int) (w : World) (h0 : 0 ≤ n) (h1 : n ≤ 500000000000000000) :
    Calls Try.prog 76 #[.int .i64 n] w fun e w' => e = .returned (.int .i64 (rootP n)) ∧ w = w' := by
  obtain ⟨b, hb, r0, hr, hr0, hr1⟩ := sqrt_bound n h0 (by omega)
  have hcv := fun wx => run_convert_float_int (P := Try.prog) wx 160 3 .f64 .i64 b r0 (by kernel_rfl) Try.underlying3 hr
  generalize hfb : floatOfInt .f64 n = fb at hb
  have hci : ∀ wx, (convert 3 160 (.int .i64 n)).run Try.prog wx = .ok (.float .f64 fb) wx := fun wx => by
    rw [run_convert_int_float (P := Try.prog) wx 3 160 .i64 .f64 n (by kernel_rfl) Try.underlying160, hfb]
  clear hr hfb
  have HB := Lib.hid hb
  clear hb
  go_enter Try.func76, Try.ntmps76
  go_wp2_with (go_at_call 135; refine (sqrt_any _ _ _ HB.out).mono ?_; rintro e w' ⟨rfl, rfl⟩)
  clear HB hci hcv
  go_loop [3] (fun r => ∃ k : Int, 0 ≤ k ∧ k ≤ 2147483648 ∧ r = .int .i64 k) (fun r => (intOf r).toNat)
  case atStart => exact ⟨r0, hr0, hr1, rfl⟩
  case round =>
    clear hr0 hr1
    obtain ⟨k, hk0, hk1, rfl⟩ := hrel
    obtain ⟨b1, b2⟩ := sq_bd k 2147483648 (by omega) hk1
    simp only [Int.reduceMul] at b2
    by_cases hgt : n < k * k
    · have hk : 1 ≤ k := by
        rcases Int.lt_or_le 0 k with h | h
        · omega
        · have : k = 0 := by omega
          subst this; omega
      go_wp2
      go_round
      case rel => exact ⟨k - 1, by omega, by omega, rfl⟩
      case measure => simp [intOf]; omega
    · have hle : k * k ≤ n := by omega
      clear hgt
      go_wp2
      go_loop [3] (fun r => ∃ k : Int, 0 ≤ k ∧ k ≤ 2147483648 ∧ k * k ≤ n ∧ r = .int .i64 k) (fun r => (2147483648 - intOf r).toNat)
      case atStart => exact ⟨k, hk0, hk1, hle, rfl⟩
      case round =>
        clear hk0 hk1 b1 b2 hle
        obtain ⟨k, hk0, hk1, hle, rfl⟩ := hrel
        obtain ⟨b1, b2⟩ := sq_bd (k + 1) 2147483649 (by omega) (by omega)
        simp only [Int.reduceMul] at b2
        by_cases hup : (k + 1) * (k + 1) ≤ n
        · have hk2 : k + 1 ≤ 2147483648 := by
            rcases Int.lt_or_le k 2147483648 with h | h
            · omega
            · have : k = 2147483648 := by omega
              subst this; omega
          go_wp2
          go_round
          case rel => exact ⟨k + 1, by omega, by omega, hup, rfl⟩
          case measure => simp [intOf]; omega
        · go_wp2
          go_ret
          exact ⟨ret_int (rootP_unique n k hk0 hle (by omega) (by omega)).symm, rfl⟩

set_option maxHeartbeats 400000 in
theorem rootUp_any (n : Int) (w : World) (h0 : 0 ≤ n) (h1 : n ≤ 500000000000000000) :
    Calls Try.prog 75 #[.int .i64 n] w fun e w' => e = .returned (.int .i64 (rootUpP n)) ∧ w = w' := by
  obtain ⟨r0, r1, r2⟩ := rootP_spec n h0 (by omega)
  have r3 := rootP_le n h0 (by omega)
  obtain ⟨b1, b2⟩ := sq_bd (rootP n) 2147483648 (by omega) (by omega)
  simp only [Int.reduceMul] at b2
  by_cases hlt : rootP n * rootP n < n
  · go_enter Try.func75, Try.ntmps75
    go_wp2_with (go_at_call 76; refine (root_any _ _ (by omega) (by omega)).mono ?_; rintro e w' ⟨rfl, rfl⟩)
    go_ret
    exact ⟨ret_int (by unfold rootUpP; rw [if_pos hlt]), rfl⟩
  · go_enter Try.func75, Try.ntmps75
    go_wp2_with (go_at_call 76; refine (root_any _ _ (by omega) (by omega)).mono ?_; rintro e w' ⟨rfl, rfl⟩)
    go_ret
    exact ⟨ret_int (by unfold rootUpP; rw [if_neg (by omega)]), rfl⟩
end Go.Proofs.Ythnfepfbkmafaaa
