/- Chapter 1: complex numbers with whole parts: conjugates, products, sums. -/
import Derived.Test.YtelchmimhnpkaaaU16
import Derived.Laws.ComplexArith
namespace Go.Proofs.Ytelchmimhnpkaaa
set_option linter.unusedVariables false
open Go.RowKit Ieee
theorem xor_top {r i : Nat} (h : r < 2 ^ i) : r ^^^ 2 ^ i = 2 ^ i + r := by
  have e : 2 ^ i + r = 2 ^ i ||| r := by have := Nat.two_pow_add_eq_or_of_lt h 1; simpa using this
  rw [e]
  apply Nat.eq_of_testBit_eq
  intro j
  rw [Nat.testBit_xor, Nat.testBit_or, Nat.testBit_two_pow]
  by_cases c : i = j
  · subst c; rw [Nat.testBit_lt_two_pow h]; simp
  · simp [c]
theorem xor_back {r i : Nat} (h : r < 2 ^ i) : (2 ^ i + r) ^^^ 2 ^ i = r := by
  rw [← xor_top h, Nat.xor_assoc, Nat.xor_self, Nat.xor_zero]
theorem neg_word (s : Bool) {r : Nat} (h : r < 2 ^ 63) : Op.negFloat .f64 (double.word s r) = double.word (!s) r := by
  have e : Op.negFloat .f64 (double.word s r) = double.word s r ^^^ 2 ^ 63 := rfl
  rw [e]
  unfold Format.word
  cases s
  · simp only [Bool.false_eq_true, if_false, Bool.not_false, if_true]
    exact xor_top h
  · simp only [if_true, Bool.not_true, Bool.false_eq_true, if_false]
    exact xor_back h
theorem word_of {b : Nat} (h : b < 2 ^ 64) : ∃ s r, r < 2 ^ 63 ∧ b = double.word s r := by
  by_cases c : b < 2 ^ 63
  · exact ⟨false, b, c, rfl⟩
  · refine ⟨true, b - 2 ^ 63, by omega, ?_⟩
    show b = 2 ^ 63 + (b - 2 ^ 63)
    omega
theorem neg_read {b : Nat} (h : b < 2 ^ 64) : double.read (Op.negFloat .f64 b) = (double.read b).opposite := by
  obtain ⟨s, r, hr, rfl⟩ := word_of h
  rw [neg_word s hr, read_word double (!s) r hr, read_word double s r hr]
  split
  · rfl
  · split
    · rfl
    · split <;> rfl
theorem neg_num {b : Nat} {x : Int} (h : b < 2 ^ 64) (hx : FNum double b x) : FNum double (Op.negFloat .f64 b) (-x) := by
  have := opp_num hx.dat
  rw [← neg_read h] at this
  exact this
@[go_sem] theorem unary_neg_float (k : FloatKind) (b : Nat) : Op.unary .neg (.float k b) = pure (.float k (Op.negFloat k b)) := rfl
theorem conj_any (a b : Nat) (w : World) : Calls Try.prog 100 #[.complex .f64 a b] w fun e w' => e = .returned (.complex .f64 a (Op.negFloat .f64 b)) ∧ w = w' := by
  go_enter Try.func100, Try.ntmps100
  go_wp2
  go_ret
  exact ⟨rfl, rfl⟩
/-- A complex number with whole parts. -/
structure CNum (a b : Nat) (x y : Int) : Prop where
  re : FNum double a x
  im : FNum double b y
  la : a < 2 ^ 64
  lb : b < 2 ^ 64
theorem fnum_write_lt (d : Datum) : double.write d < 2 ^ 64 := double.write_lt d
theorem option_lt {o : Option Datum} {r : Nat} (h : o.map double.write = some r) : r < 2 ^ 64 := by
  cases o with
  | none => cases h
  | some d => cases h; exact fnum_write_lt d
/-- The product of a number with the conjugate of another one, added to a sum. -/
theorem cmul_num {a b c d : Nat} {x y u v : Int} (h : CNum a b x y) (k : CNum c d u v) (B : Int) (hB : B ≤ 2000000000000000) (b1 : -B ≤ x * u ∧ x * u ≤ B) (b2 : -B ≤ y * v ∧ y * v ≤ B) (b3 : -B ≤ x * v ∧ x * v ≤ B) (b4 : -B ≤ y * u ∧ y * u ≤ B) :
    ∃ re im, cMulBits a b c d = some (re, im) ∧ CNum re im (x * u - y * v) (x * v + y * u) := by
  have e53 : (2 : Nat) ^ (double.fractionBits + 1) = 9007199254740992 := by decide
  obtain ⟨r1, q1, p1⟩ := mul_num good_double h.re k.re (by rw [e53]; omega)
  obtain ⟨r2, q2, p2⟩ := mul_num good_double h.im k.im (by rw [e53]; omega)
  obtain ⟨r3, q3, p3⟩ := mul_num good_double h.re k.im (by rw [e53]; omega)
  obtain ⟨r4, q4, p4⟩ := mul_num good_double h.im k.re (by rw [e53]; omega)
  obtain ⟨re, q5, p5⟩ := sub_num good_double p1 p2 (by rw [e53]; omega)
  obtain ⟨im, q6, p6⟩ := add_num good_double p3 p4 (by rw [e53]; omega)
  refine ⟨re, im, ?_, ⟨p5, p6, option_lt q5, option_lt q6⟩⟩
  have f1 : floatBits .mul .f64 a c = some r1 := q1
  have f2 : floatBits .mul .f64 b d = some r2 := q2
  have f3 : floatBits .mul .f64 a d = some r3 := q3
  have f4 : floatBits .mul .f64 b c = some r4 := q4
  have f5 : floatBits .sub .f64 r1 r2 = some re := q5
  have f6 : floatBits .add .f64 r3 r4 = some im := q6
  unfold cMulBits
  rw [f1, f2, f3, f4]
  simp only [Option.bind_some]
  rw [f5]
  simp only [Option.bind_some]
  rw [f6]
  rfl
theorem cadd_num {a b c d : Nat} {x y u v : Int} (h : CNum a b x y) (k : CNum c d u v) (b1 : (x + u).natAbs < 9007199254740992) (b2 : (y + v).natAbs < 9007199254740992) : ∃ re im, cSumBits .add .f64 a b c d = some (re, im) ∧ CNum re im (x + u) (y + v) := by
  have e53 : (2 : Nat) ^ (double.fractionBits + 1) = 9007199254740992 := by decide
  obtain ⟨re, q1, p1⟩ := add_num good_double h.re k.re (by rw [e53]; exact b1)
  obtain ⟨im, q2, p2⟩ := add_num good_double h.im k.im (by rw [e53]; exact b2)
  refine ⟨re, im, ?_, ⟨p1, p2, option_lt q1, option_lt q2⟩⟩
  have f1 : floatBits .add .f64 a c = some re := q1
  have f2 : floatBits .add .f64 b d = some im := q2
  unfold cSumBits
  rw [f1, f2]
  rfl
end Go.Proofs.Ytelchmimhnpkaaa
