/- Chapter 1: base.Mod, signed, the parts of samples, sums of products as complex numbers, copies of lists. -/
import Derived.Test.YtelchmimhnpkaaaU13
import Derived.Test.YtelchmimhnpkaaaU3
import Derived.Laws.Cover2
import Derived.Laws.Cover3
import Derived.WalkLawsBesides
namespace Go.Proofs.Ytelchmimhnpkaaa
set_option linter.unusedVariables false
open Go.RowKit Ntt
/-- Go's remainder, lifted. -/
theorem mod_of_tmod (n b : Int) (hb : 1 ≤ b) : (if n.tmod b < 0 then n.tmod b + b else n.tmod b) = n % b := by
  have h3 := Int.emod_nonneg n (show b ≠ 0 by omega)
  have h4 := Int.emod_lt_of_pos n (show 0 < b by omega)
  have hn : (b.natAbs : Int) = b := Int.natAbs_of_nonneg (by omega)
  rw [Int.tmod_eq_emod]
  by_cases h : 0 ≤ n ∨ b ∣ n
  · simp only [if_pos h]
    rw [if_neg (by omega)]; omega
  · simp only [if_neg h]
    have : n % b ≠ 0 := fun e => h (Or.inr (Int.dvd_of_emod_eq_zero e))
    rw [if_pos (by omega)]; omega
set_option maxHeartbeats 400000 in
theorem bMod (n b : Int) (w : World) (hb : 1 ≤ b) (hb2 : b ≤ 9223372036854775807) (h1 : -9223372036854775808 ≤ n) (h2 : n ≤ 9223372036854775807) :
    Calls Try.prog 48 #[.int .i64 n, .int .i64 b] w fun e w' => e = .returned (.int .i64 (n % b)) ∧ w = w' := by
  have hf := mod_of_tmod n b hb
  by_cases hm : n.tmod b < 0
  · rw [if_pos hm] at hf
    have hq3 : 0 ≤ n.tmod b + b := by rw [hf]; exact Int.emod_nonneg n (by omega)
    have HF := Lib.hid hf
    clear hf
    have hn : n < 0 := by
      rcases Int.lt_or_le n 0 with h | h
      · exact h
      · exact absurd (Int.tmod_nonneg b h) (by omega)
    go_enter Try.func48, Try.ntmps48
    go_wp2
    go_ret
    exact ⟨ret_intE HF.out, rfl⟩
  · rw [if_neg hm] at hf
    have HF := Lib.hid hf
    clear hf
    by_cases hn : 0 ≤ n
    · have h0 : 0 ≤ n % b := Int.emod_nonneg n (by omega)
      go_enter Try.func48, Try.ntmps48
      go_wp2
      go_ret
      exact ⟨rfl, rfl⟩
    · go_enter Try.func48, Try.ntmps48
      go_wp2
      go_ret
      exact ⟨ret_intE HF.out, rfl⟩
/-- The float stands for the integer, when it is cut to one. -/
def FlI (k : FloatKind) (t : TypeId) (b : Nat) (h : Int) : Prop := ∀ w, (convert t 3 (.float k b)).run Try.prog w = .ok (.int .i64 h) w
theorem flI_single {b : Nat} {n : Int} (h : FNum Ieee.single b n) (h1 : -9000000000000000000 ≤ n) (h2 : n ≤ 9000000000000000000) : FlI .f32 111 b n := fun w => by
  refine run_convert_float_int (P := Try.prog) w 111 3 .f32 .i64 b n (by kernel_rfl) Try.underlying3 ?_
  have : (FloatKind.f32.decode b).toInt .zero = some n := fnum_toInt h
  unfold floatToIntVal
  rw [this]
  dsimp only
  rw [if_pos]
  show (-9223372036854775808 : Int) ≤ _ ∧ _ ≤ (9223372036854775807 : Int)
  omega
set_option maxHeartbeats 400000 in
theorem rParts (a b : Nat) (x y : Int) (w : World) (hx : FlI .f32 111 a x) (hy : FlI .f32 111 b y) :
    Calls Try.prog 49 #[.complex .f32 a b] w fun e w' => e = .returned (.tuple #[.int .i64 x, .int .i64 y]) ∧ w = w' := by
  unfold FlI at hx hy
  go_enter Try.func49, Try.ntmps49
  go_wp2
  go_ret2
  exact ⟨rfl, rfl⟩
/-- The float of an integer. -/
def f64I (n : Int) : Nat := floatOfInt .f64 n
theorem f64I_num {n : Int} (h : n.natAbs < 2 ^ 53) : FNum Ieee.double (f64I n) n := fnum_int good_double h
theorem conv_f64 (n : Int) (w : World) : (convert 3 122 (.int .i64 n)).run Try.prog w = .ok (.float .f64 (f64I n)) w :=
  run_convert_int_float w 3 122 .i64 .f64 n (by kernel_rfl) Try.underlying122
set_option maxHeartbeats 400000 in
theorem bSum (x y : Int) (w : World) : Calls Try.prog 17 #[.int .i64 x, .int .i64 y] w fun e w' => e = .returned (.complex .f64 (f64I x) (f64I y)) ∧ w = w' := by
  have h1 := fun w => conv_f64 x w
  have h2 := fun w => conv_f64 y w
  go_enter Try.func17, Try.ntmps17
  go_wp2
  go_ret
  exact ⟨rfl, rfl⟩
/-- Complex samples in memory: n of them, with these bits. -/
def SamplesAt (W : World) (b off n : Nat) (f : Nat → Nat × Nat) : Prop := ∀ k, k < n → W.cell? ⟨b, off + k, none⟩ = some (.complex .f32 (f k).1 (f k).2)
theorem SamplesAt.below {w w' : World} {b off n : Nat} {f : Nat → Nat × Nat} (h : SamplesAt w b off n f) (hb : b < w.heap.size) (hw : Below w.heap.size w w') : SamplesAt w' b off n f :=
  fun k hk => (hw.cell (p := ⟨b, off + k, none⟩) hb).trans (h k hk)
/-- All samples have these whole parts. -/
def PartsOf (n : Nat) (f : Nat → Nat × Nat) (x y : Nat → Int) : Prop := ∀ k, k < n → FlI .f32 111 (f k).1 (x k) ∧ FlI .f32 111 (f k).2 (y k) ∧ (-1000000 ≤ x k ∧ x k ≤ 1000000) ∧ -1000000 ≤ y k ∧ y k ≤ 1000000
end Go.Proofs.Ytelchmimhnpkaaa
