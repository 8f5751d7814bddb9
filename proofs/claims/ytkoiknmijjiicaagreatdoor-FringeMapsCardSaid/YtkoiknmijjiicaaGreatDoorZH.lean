import Derived.Test.YtkoiknmijjiicaaGreatDoorZG
import Derived.Test.YtkoiknmijjiicaaGreatDoorU3
import Derived.Laws.Cover2
import Derived.Laws.Cover3
import Derived.WalkLawsBesides
import Derived.Test.YtkoiknmijjiicaaGreatDoorZF
import Derived.Laws.ComplexArith
/- Chapter 1: base.Mod, signed, the parts of samples, sums of products as complex numbers, copies of lists. -/
namespace Go.Proofs.YtkoiknmijjiicaaGreatDoor
set_option linter.unusedVariables false
set_option linter.unusedSimpArgs false
open Go.RowKit Ntt
/-- Go's remainder, lifted. -/
theorem mod_of_tmod (n b : Int) (hb : 1 ≤ b) : (if n.tmod b < 0 then n.tmod b + b else n.tmod b) = n % b := by
  have h3 := Int.emod_nonneg n (show b ≠ 0 by omega)
  have h4 := Int.emod_lt_of_pos n (show 0 < b by omega)
  have hn : (b.natAbs : Int) = b := Int.natAbs_of_nonneg (by omega)
  rw [Int.tmod_eq_emod]
  by_cases h : 0 ≤ n ∨ b ∣ n
  · simp only [if_pos h]
    rw [if_neg (by omega)]; omega
  · simp only [if_neg h]
    have : n % b ≠ 0 := fun e => h (Or.inr (Int.dvd_of_emod_eq_zero e))
    rw [if_pos (by omega)]; omega
set_option maxHeartbeats 400000 in
theorem bMod (n b : Int) (w : World) (hb : 1 ≤ b) (hb2 : b ≤ 9223372036854775807) (h1 : -9223372036854775808 ≤ n) (h2 : n ≤ 9223372036854775807) :
    Calls Tryz.prog 136 #[.int .i64 n, .int .i64 b] w fun e w' => e = .returned (.int .i64 (n % b)) ∧ w = w' := by
  have hf := mod_of_tmod n b hb
  by_cases hm : n.tmod b < 0
  · rw [if_pos hm] at hf
    have hq3 : 0 ≤ n.tmod b + b := by rw [hf]; exact Int.emod_nonneg n (by omega)
    have HF := Lib.hid hf
    clear hf
    have hn : n < 0 := by
      rcases Int.lt_or_le n 0 with h | h
      · exact h
      · exact absurd (Int.tmod_nonneg b h) (by omega)
    go_enter Tryz.func136, Tryz.ntmps136
    go_wp2
    go_ret
    exact ⟨ret_intE HF.out, rfl⟩
  · rw [if_neg hm] at hf
    have HF := Lib.hid hf
    clear hf
    by_cases hn : 0 ≤ n
    · have h0 : 0 ≤ n % b := Int.emod_nonneg n (by omega)
      go_enter Tryz.func136, Tryz.ntmps136
      go_wp2
      go_ret
      exact ⟨rfl, rfl⟩
    · go_enter Tryz.func136, Tryz.ntmps136
      go_wp2
      go_ret
      exact ⟨ret_intE HF.out, rfl⟩
/-- The float stands for the integer, when it is cut to one. -/
def FlI (k : FloatKind) (t : TypeId) (b : Nat) (h : Int) : Prop := ∀ w, (convert t 3 (.float k b)).run Tryz.prog w = .ok (.int .i64 h) w
theorem flI_single {b : Nat} {n : Int} (h : FNum Ieee.single b n) (h1 : -9000000000000000000 ≤ n) (h2 : n ≤ 9000000000000000000) : FlI .f32 72 b n := fun w => by
  refine run_convert_float_int (P := Tryz.prog) w 72 3 .f32 .i64 b n (by kernel_rfl) Tryz.underlying3 ?_
  have : (FloatKind.f32.decode b).toInt .zero = some n := fnum_toInt h
  unfold floatToIntVal
  rw [this]
  dsimp only
  rw [if_pos]
  show (-9223372036854775808 : Int) ≤ _ ∧ _ ≤ (9223372036854775807 : Int)
  omega
set_option maxHeartbeats 400000 in
theorem rParts (a b : Nat) (x y : Int) (w : World) (hx : FlI .f32 72 a x) (hy : FlI .f32 72 b y) :
    Calls Tryz.prog 93 #[.complex .f32 a b] w fun e w' => e = .returned (.tuple #[.int .i64 x, .int .i64 y]) ∧ w = w' := by
  unfold FlI at hx hy
  go_enter Tryz.func93, Tryz.ntmps93
  go_wp2
  go_ret2
  exact ⟨rfl, rfl⟩
/-- The float of an integer. -/
def f64I (n : Int) : Nat := floatOfInt .f64 n
theorem f64I_num {n : Int} (h : n.natAbs < 2 ^ 53) : FNum Ieee.double (f64I n) n := fnum_int good_double h
theorem conv_f64 (n : Int) (w : World) : (convert 3 178 (.int .i64 n)).run Tryz.prog w = .ok (.float .f64 (f64I n)) w :=
  run_convert_int_float w 3 178 .i64 .f64 n (by kernel_rfl) Tryz.underlying178
set_option maxHeartbeats 400000 in
theorem bSum (x y : Int) (w : World) : Calls Tryz.prog 94 #[.int .i64 x, .int .i64 y] w fun e w' => e = .returned (.complex .f64 (f64I x) (f64I y)) ∧ w = w' := by
  have h1 := fun w => conv_f64 x w
  have h2 := fun w => conv_f64 y w
  go_enter Tryz.func94, Tryz.ntmps94
  go_wp2
  go_ret
  exact ⟨rfl, rfl⟩
/-- Complex samples in memory: n of them, with these bits. -/
def SamplesAt (W : World) (b off n : Nat) (f : Nat → Nat × Nat) : Prop := ∀ k, k < n → W.cell? ⟨b, off + k, none⟩ = some (.complex .f32 (f k).1 (f k).2)
theorem SamplesAt.below {w w' : World} {b off n : Nat} {f : Nat → Nat × Nat} (h : SamplesAt w b off n f) (hb : b < w.heap.size) (hw : Below w.heap.size w w') : SamplesAt w' b off n f :=
  fun k hk => (hw.cell (p := ⟨b, off + k, none⟩) hb).trans (h k hk)
/-- All samples have these whole parts. -/
def PartsOf (n : Nat) (f : Nat → Nat × Nat) (x y : Nat → Int) : Prop := ∀ k, k < n → FlI .f32 72 (f k).1 (x k) ∧ FlI .f32 72 (f k).2 (y k) ∧ (-1000000 ≤ x k ∧ x k ≤ 1000000) ∧ -1000000 ≤ y k ∧ y k ≤ 1000000
end Go.Proofs.YtkoiknmijjiicaaGreatDoor

/- Chapter 1 (as H2 of wip/ground): isWhole, for every float. -/
namespace Go.Proofs.YtkoiknmijjiicaaGreatDoor
set_option linter.unusedVariables false
set_option linter.unusedSimpArgs false
open Go.RowKit
/-- One operation whose value and world are known. -/
theorem wpList_runw {P : Program} {ops : Array Oper} {rest : List Oper} {o : Oper} {a : Act} {w : World} {Q : Exit → Act → World → Prop} (v : Value) (w' : World) (hg : o.guard = none) (hrun : (execOp a.eval o).run P w = .ok (.value v) w')
    (h : wpList P ops Q rest (a.put o.dst v) w') : wpList P ops Q (o :: rest) a w := by
  refine wpList_plain hg fun K hK => ?_
  unfold Oper.wp
  rw [hrun]
  exact hK _ _ h
theorem wpList_run1 {P : Program} {ops : Array Oper} {rest : List Oper} {o : Oper} {a : Act} {w : World} {Q : Exit → Act → World → Prop} (v : Value) (hg : o.guard = none) (hrun : (execOp a.eval o).run P w = .ok (.value v) w)
    (h : wpList P ops Q rest (a.put o.dst v) w) : wpList P ops Q (o :: rest) a w := wpList_runw v w hg hrun h
theorem hrun_bits (b : Nat) (w : World) : (callFunc 119 #[.float .f64 b]).run Tryz.prog w = .ok (.value (.int .u64 b)) w := by
  rw [run_callFunc_extern (e := Extern.MathFloatBits.float64bits) Tryz.func119 (by kernel_rfl) (by kernel_rfl) (by kernel_rfl) (by kernel_rfl)]
  rfl
theorem hrun_from (b : Nat) (w : World) : (callFunc 184 #[.int .u64 (b : Int)]).run Tryz.prog w = .ok (.value (.float .f64 b)) w := by
  rw [run_callFunc_extern (e := Extern.MathFloatBits.float64frombits) Tryz.func184 (by kernel_rfl) (by kernel_rfl) (by kernel_rfl) (by kernel_rfl)]
  rfl
theorem hrun_trunc (c : Nat) (w : World) : (callFunc 182 #[.float .f64 c]).run Tryz.prog w = ((Extern.MathFloor.toIntegral "math.archTrunc" .zero #[.float .f64 c]).run Tryz.prog w).andThen fun v w' => .ok (.value v) w' :=
  run_callFunc_extern (e := Extern.MathFloor.toIntegral "math.archTrunc" .zero) Tryz.func182 (by kernel_rfl) (by kernel_rfl) (by kernel_rfl) (by kernel_rfl) _ _
theorem run_andNot (b : Nat) (h : b < 2 ^ 64) (w : World) : (binOp .andNot 154 (.int .u64 (b : Int)) (.int .u64 9223372036854775808)).run Tryz.prog w = .ok (.int .u64 ((b % 2 ^ 63 : Nat) : Int)) w := by
  show (Op.intBits .andNot .u64 (b : Int) 9223372036854775808).run Tryz.prog w = _
  unfold Op.intBits
  have e := abs_bits b h
  have h2 : b % 2 ^ 63 < 2 ^ 63 := Nat.mod_lt _ (by decide)
  show (Pure.pure (Value.int .u64 (IntKind.u64.wrap _)) : Sem Value).run Tryz.prog w = _
  have e2 : IntKind.u64.wrap (((BitVec.ofInt 64 (b : Int) &&& ~~~(BitVec.ofInt 64 9223372036854775808)).toNat : Nat) : Int) = ((b % 2 ^ 63 : Nat) : Int) := by
    rw [e]; rw [IntKind.wrap_u64]; omega
  exact congrArg (fun x => Result.ok (Value.int .u64 x) w) e2
set_option maxHeartbeats 400000 in
theorem abs_any (b : Nat) (h : b < 2 ^ 64) (w : World) : Calls Tryz.prog 176 #[.float .f64 b] w fun e w' => e = .returned (.float .f64 (b % 2 ^ 63)) ∧ w = w' := by
  have h1 : ∀ w, (callFunc 119 #[.float .f64 b]).run Tryz.prog w = .ok (.value (.int .u64 b)) w := fun w => hrun_bits b w
  have h2 : ∀ w, (callFunc 184 #[.int .u64 ((b % 2 ^ 63 : Nat) : Int)]).run Tryz.prog w = .ok (.value (.float .f64 (b % 2 ^ 63))) w := fun w => hrun_from _ w
  have h3 : IntKind.u64.wrap (((BitVec.ofInt 64 (b : Int) &&& ~~~(BitVec.ofInt 64 9223372036854775808)).toNat : Nat) : Int) = ((b % 2 ^ 63 : Nat) : Int) := by
    have h2 : b % 2 ^ 63 < 2 ^ 63 := Nat.mod_lt _ (by decide)
    rw [abs_bits b h]; rw [IntKind.wrap_u64]; omega
  generalize hc : b % 2 ^ 63 = c at h2 h3 ⊢
  have H3 := Lib.hid h3
  clear hc h h3
  go_enter Tryz.func176, Tryz.ntmps176
  go_wp2_with ((with_reducible refine wpList_run1 (o := ⟨some 5, _, _, _, _, _⟩) (.int .u64 c) ?_ ?_ ?_); (focus rfl); (focus (rw [← H3.out]; kernel_rfl)))
  go_ret
  exact ⟨rfl, rfl⟩

set_option maxHeartbeats 400000 in
theorem isInf_any (b : Nat) (h : b < 2 ^ 64) (w : World) {g : Bool} (hg : (Ieee.double.order (b % 2 ^ 63) 9218868437227405311 == some Ordering.gt) = g) : Calls Tryz.prog 174 #[.float .f64 b, .int .i64 0] w fun e w' => e = .returned (.bool g) ∧ w = w' := by
  have HA := Lib.hid (abs_any b h)
  generalize b % 2 ^ 63 = c at HA hg
  have HG := Lib.hid hg
  clear hg h
  go_enter Tryz.func174, Tryz.ntmps174
  go_wp2_with (first | (go_at_call 176; refine (HA.out _).mono ?_; rintro e w' ⟨rfl, rfl⟩) | ((with_reducible refine wpList_run1 (o := ⟨some 14, _, _, _, _, _⟩) (.bool g) ?_ ?_ ?_); (focus rfl); (focus (rw [← HG.out]; kernel_rfl))))
  go_ret
  exact ⟨rfl, rfl⟩
set_option maxHeartbeats 400000 in
theorem trunc_same (c d : Nat) (h : ∀ w, (callFunc 182 #[.float .f64 c]).run Tryz.prog w = .ok (.value (.float .f64 d)) w) (w : World) : Calls Tryz.prog 175 #[.float .f64 c] w fun e w' => e = .returned (.float .f64 d) ∧ w = w' := by
  go_enter Tryz.func175, Tryz.ntmps175
  go_wp2
  go_ret
  exact ⟨rfl, rfl⟩
theorem toIntegral_eq (c : Nat) : Extern.MathFloor.toIntegral "math.archTrunc" .zero #[.float .f64 c] = (match FloatKind.f64.decode c with
    | .nan s t => if FloatKind.f64.format.quiet t = t then (Pure.pure (.float .f64 c) : Sem Value) else (choose (.extern "math.Floor,Ceil,Trunc,RoundToEven.signallingNaN kept" 2)) >>= fun kept => Pure.pure (.float .f64 (if kept == 1 then c else FloatKind.f64.encode (.nan s (FloatKind.f64.format.quiet t))))
    | d => Pure.pure (.float .f64 (FloatKind.f64.encode (d.integral .zero)))) := rfl
theorem trunc_num (c : Nat) {s : Bool} {k : Nat} {last : Int} (hc : Ieee.double.read c = .number s k last) (w : World) : (callFunc 182 #[.float .f64 c]).run Tryz.prog w = .ok (.value (.float .f64 (Ieee.double.write (.number s (cutT k last) 0)))) w := by
  rw [hrun_trunc]
  have : (Extern.MathFloor.toIntegral "math.archTrunc" .zero #[.float .f64 c]).run Tryz.prog w = .ok (.float .f64 (Ieee.double.write (.number s (cutT k last) 0))) w := by
    have hd : FloatKind.f64.decode c = .number s k last := hc
    rw [toIntegral_eq, hd]
    simp only [Ieee.Datum.integral, cut_zero]
    rfl
  rw [this]
  rfl
theorem trunc_inf (c : Nat) {s : Bool} (hc : Ieee.double.read c = .infinity s) (w : World) : (callFunc 182 #[.float .f64 c]).run Tryz.prog w = .ok (.value (.float .f64 (Ieee.double.word s Ieee.double.infRung))) w := by
  rw [hrun_trunc]
  have : (Extern.MathFloor.toIntegral "math.archTrunc" .zero #[.float .f64 c]).run Tryz.prog w = .ok (.float .f64 (Ieee.double.word s Ieee.double.infRung)) w := by
    have hd : FloatKind.f64.decode c = .infinity s := hc
    rw [toIntegral_eq, hd]
    rfl
  rw [this]
  rfl
theorem trunc_nan (c : Nat) {s : Bool} {t : Nat} (hc : Ieee.double.read c = .nan s t) (w : World) : ∃ v w', (callFunc 182 #[.float .f64 c]).run Tryz.prog w = .ok (.value (.float .f64 v)) w' ∧ (∃ s' t', Ieee.double.read v = .nan s' t') ∧ Below w.heap.size w w' := by
  rw [hrun_trunc, toIntegral_eq]
  have hd : FloatKind.f64.decode c = .nan s t := hc
  rw [hd]
  dsimp only
  by_cases hq : FloatKind.f64.format.quiet t = t
  · refine ⟨c, w, ?_, ⟨s, t, hc⟩, Below.refl _ _⟩
    rw [if_pos hq]
    rfl
  · obtain ⟨u, hu⟩ := nan_quiet s t
    refine ⟨if (Question.cut (.extern "math.Floor,Ceil,Trunc,RoundToEven.signallingNaN kept" 2) (w.tape w.drawn (.extern "math.Floor,Ceil,Trunc,RoundToEven.signallingNaN kept" 2))) == 1 then c else FloatKind.f64.encode (.nan s (FloatKind.f64.format.quiet t)), w.drew, ?_, ?_, (Below.refl _ _).drew⟩
    · rw [if_neg hq, Sem.run_bind, run_choose_drew]
      rfl
    · split
      · exact ⟨s, t, hc⟩
      · exact ⟨s, u, hu⟩
set_option maxHeartbeats 400000 in
theorem trunc_move (c : Nat) (V : World → Nat) (W1 : World → World) (h : ∀ w, (callFunc 182 #[.float .f64 c]).run Tryz.prog w = .ok (.value (.float .f64 (V w))) (W1 w)) (w : World) : Calls Tryz.prog 175 #[.float .f64 c] w fun e w' => e = .returned (.float .f64 (V w)) ∧ W1 w = w' := by
  go_enter Tryz.func175, Tryz.ntmps175
  go_wp2
  go_ret
  exact ⟨rfl, rfl⟩
theorem trunc_nan_any (c : Nat) {s : Bool} {t : Nat} (hc : Ieee.double.read c = .nan s t) (w : World) : Calls Tryz.prog 175 #[.float .f64 c] w fun e w' => ∃ v, e = .returned (.float .f64 v) ∧ (∃ s' t', Ieee.double.read v = .nan s' t') ∧ Below w.heap.size w w' := by
  refine (trunc_move c (fun w => (trunc_nan c hc w).choose) (fun w => (trunc_nan c hc w).choose_spec.choose) (fun w => (trunc_nan c hc w).choose_spec.choose_spec.1) w).mono ?_
  rintro e w' ⟨rfl, rfl⟩
  exact ⟨_, rfl, (trunc_nan c hc w).choose_spec.choose_spec.2.1, (trunc_nan c hc w).choose_spec.choose_spec.2.2⟩
end Go.Proofs.YtkoiknmijjiicaaGreatDoor

/- Chapter 1: complex numbers with whole parts: conjugates, products, sums. -/
namespace Go.Proofs.YtkoiknmijjiicaaGreatDoor
set_option linter.unusedVariables false
set_option linter.unusedSimpArgs false
open Go.RowKit Ieee
theorem xor_top {r i : Nat} (h : r < 2 ^ i) : r ^^^ 2 ^ i = 2 ^ i + r := by
  have e : 2 ^ i + r = 2 ^ i ||| r := by have := Nat.two_pow_add_eq_or_of_lt h 1; simpa using this
  rw [e]
  apply Nat.eq_of_testBit_eq
  intro j
  rw [Nat.testBit_xor, Nat.testBit_or, Nat.testBit_two_pow]
  by_cases c : i = j
  · subst c; rw [Nat.testBit_lt_two_pow h]; simp
  · simp [c]
theorem xor_back {r i : Nat} (h : r < 2 ^ i) : (2 ^ i + r) ^^^ 2 ^ i = r := by
  rw [← xor_top h, Nat.xor_assoc, Nat.xor_self, Nat.xor_zero]
theorem neg_word (s : Bool) {r : Nat} (h : r < 2 ^ 63) : Op.negFloat .f64 (double.word s r) = double.word (!s) r := by
  have e : Op.negFloat .f64 (double.word s r) = double.word s r ^^^ 2 ^ 63 := rfl
  rw [e]
  unfold Format.word
  cases s
  · simp only [Bool.false_eq_true, if_false, Bool.not_false, if_true]
    exact xor_top h
  · simp only [if_true, Bool.not_true, Bool.false_eq_true, if_false]
    exact xor_back h
theorem word_of {b : Nat} (h : b < 2 ^ 64) : ∃ s r, r < 2 ^ 63 ∧ b = double.word s r := by
  by_cases c : b < 2 ^ 63
  · exact ⟨false, b, c, rfl⟩
  · refine ⟨true, b - 2 ^ 63, by omega, ?_⟩
    show b = 2 ^ 63 + (b - 2 ^ 63)
    omega
theorem neg_read {b : Nat} (h : b < 2 ^ 64) : double.read (Op.negFloat .f64 b) = (double.read b).opposite := by
  obtain ⟨s, r, hr, rfl⟩ := word_of h
  rw [neg_word s hr, read_word double (!s) r hr, read_word double s r hr]
  split
  · rfl
  · split
    · rfl
    · split <;> rfl
theorem neg_num {b : Nat} {x : Int} (h : b < 2 ^ 64) (hx : FNum double b x) : FNum double (Op.negFloat .f64 b) (-x) := by
  have := opp_num hx.dat
  rw [← neg_read h] at this
  exact this
@[go_sem] theorem unary_neg_float (k : FloatKind) (b : Nat) : Op.unary .neg (.float k b) = pure (.float k (Op.negFloat k b)) := rfl
/-- A complex number with whole parts. -/
structure CNum (a b : Nat) (x y : Int) : Prop where
  re : FNum double a x
  im : FNum double b y
  la : a < 2 ^ 64
  lb : b < 2 ^ 64
theorem fnum_write_lt (d : Datum) : double.write d < 2 ^ 64 := double.write_lt d
theorem option_lt {o : Option Datum} {r : Nat} (h : o.map double.write = some r) : r < 2 ^ 64 := by
  cases o with
  | none => cases h
  | some d => cases h; exact fnum_write_lt d
/-- The product of a number with the conjugate of another one, added to a sum. -/
theorem cmul_num {a b c d : Nat} {x y u v : Int} (h : CNum a b x y) (k : CNum c d u v) (B : Int) (hB : B ≤ 2000000000000000) (b1 : -B ≤ x * u ∧ x * u ≤ B) (b2 : -B ≤ y * v ∧ y * v ≤ B) (b3 : -B ≤ x * v ∧ x * v ≤ B) (b4 : -B ≤ y * u ∧ y * u ≤ B) :
    ∃ re im, cMulBits a b c d = some (re, im) ∧ CNum re im (x * u - y * v) (x * v + y * u) := by
  have e53 : (2 : Nat) ^ (double.fractionBits + 1) = 9007199254740992 := by decide
  obtain ⟨r1, q1, p1⟩ := mul_num good_double h.re k.re (by rw [e53]; omega)
  obtain ⟨r2, q2, p2⟩ := mul_num good_double h.im k.im (by rw [e53]; omega)
  obtain ⟨r3, q3, p3⟩ := mul_num good_double h.re k.im (by rw [e53]; omega)
  obtain ⟨r4, q4, p4⟩ := mul_num good_double h.im k.re (by rw [e53]; omega)
  obtain ⟨re, q5, p5⟩ := sub_num good_double p1 p2 (by rw [e53]; omega)
  obtain ⟨im, q6, p6⟩ := add_num good_double p3 p4 (by rw [e53]; omega)
  refine ⟨re, im, ?_, ⟨p5, p6, option_lt q5, option_lt q6⟩⟩
  have f1 : floatBits .mul .f64 a c = some r1 := q1
  have f2 : floatBits .mul .f64 b d = some r2 := q2
  have f3 : floatBits .mul .f64 a d = some r3 := q3
  have f4 : floatBits .mul .f64 b c = some r4 := q4
  have f5 : floatBits .sub .f64 r1 r2 = some re := q5
  have f6 : floatBits .add .f64 r3 r4 = some im := q6
  unfold cMulBits
  rw [f1, f2, f3, f4]
  simp only [Option.bind_some]
  rw [f5]
  simp only [Option.bind_some]
  rw [f6]
  rfl
theorem cadd_num {a b c d : Nat} {x y u v : Int} (h : CNum a b x y) (k : CNum c d u v) (b1 : (x + u).natAbs < 9007199254740992) (b2 : (y + v).natAbs < 9007199254740992) : ∃ re im, cSumBits .add .f64 a b c d = some (re, im) ∧ CNum re im (x + u) (y + v) := by
  have e53 : (2 : Nat) ^ (double.fractionBits + 1) = 9007199254740992 := by decide
  obtain ⟨re, q1, p1⟩ := add_num good_double h.re k.re (by rw [e53]; exact b1)
  obtain ⟨im, q2, p2⟩ := add_num good_double h.im k.im (by rw [e53]; exact b2)
  refine ⟨re, im, ?_, ⟨p1, p2, option_lt q1, option_lt q2⟩⟩
  have f1 : floatBits .add .f64 a c = some re := q1
  have f2 : floatBits .add .f64 b d = some im := q2
  unfold cSumBits
  rw [f1, f2]
  rfl
end Go.Proofs.YtkoiknmijjiicaaGreatDoor

/- Chapter 1: samples as numbers of a field; the numbers that Compress names. -/
namespace Go.Proofs.YtkoiknmijjiicaaGreatDoor
set_option linter.unusedVariables false
set_option linter.unusedSimpArgs false
open Go.RowKit Ieee
theorem wide_num {b : Nat} {x : Int} (h : FNum single b x) (hx : x.natAbs < 9007199254740992) : ∃ r, floatToFloatBits .f32 b .f64 = some r ∧ FNum double r x ∧ r < 2 ^ 64 := by
  obtain ⟨s, m, e, a, h1, h2, rfl⟩ := h
  obtain ⟨g1, g2, g3⟩ := read_single h1
  obtain ⟨k, last, d, hr, _⟩ := wide_of (s := s) g1 g2 g3
  have hd : FloatKind.f32.decode b = .number s m e := h1
  have hd2 : FloatKind.f64.decode (FloatKind.f64.encode (.number s m e)) = .number s k last := hr
  rw [sgn_abs] at hx
  refine ⟨double.write (.number s m e), ?_, write_num good_double h2 (by show a < 9007199254740992; omega), double.write_lt _⟩
  unfold floatToFloatBits
  rw [if_neg (by decide), hd]
  dsimp only
  rw [hd2]
  rfl
/-- A sample with whole parts. -/
def SNum (a b : Nat) (x y : Int) : Prop := FNum single a x ∧ FNum single b y ∧ (-1000000 ≤ x ∧ x ≤ 1000000) ∧ -1000000 ≤ y ∧ y ≤ 1000000
theorem wide_c {a b : Nat} {x y : Int} (h : SNum a b x y) : ∃ re im, cConvBits .f32 a b .f64 = some (re, im) ∧ CNum re im x y := by
  obtain ⟨h1, h2, ⟨h3, h4⟩, h5, h6⟩ := h
  obtain ⟨re, q1, p1, l1⟩ := wide_num h1 (by omega)
  obtain ⟨im, q2, p2, l2⟩ := wide_num h2 (by omega)
  refine ⟨re, im, ?_, ⟨p1, p2, l1, l2⟩⟩
  unfold cConvBits
  rw [q1, q2]
  rfl
theorem run_wide {a b re im : Nat} (h : cConvBits .f32 a b .f64 = some (re, im)) (w : World) : (convert 146 78 (.complex .f32 a b)).run Tryz.prog w = .ok (.complex .f64 re im) w :=
  run_convert_complex w 146 78 .f32 .f64 a b re im (by kernel_rfl) Tryz.underlying78 h
end Go.Proofs.YtkoiknmijjiicaaGreatDoor

/- Chapter 1: the numbers that Compress names: its closure. -/
namespace Go.Proofs.YtkoiknmijjiicaaGreatDoor
set_option linter.unusedVariables false
set_option linter.unusedSimpArgs false
open Go.RowKit Ieee
/-- Block B holds an image: its lines, its samples, where its data lie. -/
def ImgBlk (W : World) (B : Nat) (lines samples : Int) (a : Option Addr) (n cap : Nat) : Prop :=
  W.cell? ⟨B, 0, none⟩ = some (.int .i64 lines) ∧ W.cell? ⟨B, 1, none⟩ = some (.int .i64 samples) ∧ W.cell? ⟨B, 2, none⟩ = some (.slice a n cap)
theorem ImgBlk.below {W W' : World} {B C n cap : Nat} {lines samples : Int} {a : Option Addr} (h : ImgBlk W B lines samples a n cap) (hB : B < C) (hw : Below C W W') : ImgBlk W' B lines samples a n cap :=
  ⟨(hw.cell hB).trans h.1, (hw.cell hB).trans h.2.1, (hw.cell hB).trans h.2.2⟩
end Go.Proofs.YtkoiknmijjiicaaGreatDoor

/- Chapter 1: the sums of Compress (not finished). -/
namespace Go.Proofs.YtkoiknmijjiicaaGreatDoor
set_option linter.unusedVariables false
set_option linter.unusedSimpArgs false
open Go.RowKit Ieee Ntt
def reP (X Y U V : Nat → Int) (i : Nat) (K : Nat) : Int := sum K fun k => X (i + k) * U k + Y (i + k) * V k
def imP (X Y U V : Nat → Int) (i : Nat) (K : Nat) : Int := sum K fun k => Y (i + k) * U k - X (i + k) * V k
theorem reP_succ (X Y U V : Nat → Int) (i K : Nat) : reP X Y U V i (K + 1) = reP X Y U V i K + (X (i + K) * U K + Y (i + K) * V K) := rfl
theorem imP_succ (X Y U V : Nat → Int) (i K : Nat) : imP X Y U V i (K + 1) = imP X Y U V i K + (Y (i + K) * U K - X (i + K) * V K) := rfl
/-- Samples whose parts are small whole numbers. -/
def SmallS (n : Nat) (f : Nat → Nat × Nat) (X Y : Nat → Int) (B : Int) : Prop := ∀ k, k < n → SNum (f k).1 (f k).2 (X k) (Y k) ∧ (-B ≤ X k ∧ X k ≤ B) ∧ -B ≤ Y k ∧ Y k ≤ B
/-- What is written of a whole number hangs on its sign and its size alone. -/
theorem write_canon {f : Format} (g : GoodF f) {s : Bool} {m : Nat} {e : Int} {n : Nat} (h : Mag m e n) (hlt : n < 2 ^ (f.fractionBits + 1)) : f.write (.number s m e) = f.write (.number s n 0) := by
  show f.nearest s m e = f.nearest s n 0
  by_cases h0 : n = 0
  · have hm := (mag_zero h).2 h0
    subst h0 hm
    unfold Format.nearest
    simp
  · obtain ⟨k, last, h1, -, -, h4, h5⟩ := nearest_whole f g.lp g.ex s m e n h h0 hlt
    obtain ⟨k', last', j1, -, -, j4, j5⟩ := nearest_whole f g.lp g.ex s n 0 n (mag_nat n) h0 hlt
    rw [h1, j1, h4, h5, j4, j5]
/-- Sums of whole numbers, the first of which is no -0, are none. -/
theorem add_canon {b : Nat} {x y : Int} (hb : FNum double b y) (hx : x.natAbs < 2 ^ 53) (hlt : (x + y).natAbs < 2 ^ 53) : double.add (f64I x) b = some (f64I (x + y)) := by
  obtain ⟨s, m, i, u, h1, h2, h3⟩ := f64I_num hx
  have hs : x = 0 → s = false := fun h0 => by
    subst h0
    have e : double.read (f64I 0) = .number false 0 (-1074) := by decide
    rw [e] at h1
    cases h1
    rfl
  obtain ⟨t, n, j, v, k1, k2, k3⟩ := hb
  unfold Format.add
  rw [h1, k1]
  simp only [Datum.sum, Option.map_some]
  congr 1
  have e1 := mag_base h2 (base := min i j) (by omega)
  have e2 := mag_base k2 (base := min i j) (by omega)
  generalize hT : signed s m (i - min i j).toNat + signed t n (j - min i j).toNat = T
  have hTv : T * ((2 ^ (min i j).toNat : Nat) : Int) = (sgn s u + sgn t v) * ((2 ^ (-(min i j)).toNat : Nat) : Int) := by
    rw [← hT, signed_sgn, signed_sgn, Int.add_mul, Int.add_mul, ← sgn_mul, ← sgn_mul, e1, e2, sgn_mul, sgn_mul]
  have hmag : Mag T.natAbs (min i j) (sgn s u + sgn t v).natAbs := by
    unfold Mag
    have := congrArg Int.natAbs hTv
    rwa [Int.natAbs_mul, Int.natAbs_mul, Int.natAbs_natCast, Int.natAbs_natCast] at this
  rw [h3, k3] at hmag hTv
  rw [write_canon good_double hmag hlt]
  have p1 : (0 : Int) < ((2 ^ (min i j).toNat : Nat) : Int) := by have := Nat.two_pow_pos (min i j).toNat; omega
  have p2 : (0 : Int) < ((2 ^ (-(min i j)).toNat : Nat) : Int) := by have := Nat.two_pow_pos (-(min i j)).toNat; omega
  have hsg : (if T = 0 then s && t else decide (T < 0)) = decide (x + y < 0) := by
    by_cases h0 : T = 0
    · rw [if_pos h0]
      rw [h0, Int.zero_mul] at hTv
      have hS : x + y = 0 := (Int.mul_eq_zero.1 hTv.symm).resolve_right (by omega)
      rw [hS]
      by_cases hx0 : x = 0
      · rw [hs hx0]; rfl
      · have : (s && t) = false := by
          unfold sgn at h3 k3
          cases s <;> cases t <;> simp at h3 k3 ⊢
          omega
        rw [this]; rfl
    · rw [if_neg h0, decide_eq_decide]
      constructor
      · intro h
        rcases Int.lt_or_le (x + y) 0 with h' | h'
        · exact h'
        · have := Int.mul_nonneg h' (Int.le_of_lt p2)
          have := Int.mul_neg_of_neg_of_pos h p1
          omega
      · intro h
        rcases Int.lt_or_le T 0 with h' | h'
        · exact h'
        · have := Int.mul_nonneg h' (Int.le_of_lt p1)
          have := Int.mul_neg_of_neg_of_pos h p2
          omega
  rw [hsg]
  rfl
/-- A complex number that is written as whole numbers are: no part is -0. -/
structure BNum (a b : Nat) (x y : Int) : Prop where
  re : a = f64I x
  im : b = f64I y
  hx : x.natAbs < 9007199254740992
  hy : y.natAbs < 9007199254740992
theorem f64I_lt (x : Int) : f64I x < 2 ^ 64 := fnum_write_lt (.number (decide (x < 0)) x.natAbs 0)
theorem BNum.cnum {a b : Nat} {x y : Int} (h : BNum a b x y) : CNum a b x y :=
  ⟨by rw [h.re]; exact f64I_num h.hx, by rw [h.im]; exact f64I_num h.hy, by rw [h.re]; exact f64I_lt x, by rw [h.im]; exact f64I_lt y⟩
theorem cadd_canon {a b c d : Nat} {x y u v : Int} (h : BNum a b x y) (k : CNum c d u v) (b1 : (x + u).natAbs < 9007199254740992) (b2 : (y + v).natAbs < 9007199254740992) : ∃ re im, cSumBits .add .f64 a b c d = some (re, im) ∧ BNum re im (x + u) (y + v) := by
  refine ⟨f64I (x + u), f64I (y + v), ?_, ⟨rfl, rfl, b1, b2⟩⟩
  have f1 : floatBits .add .f64 a c = some (f64I (x + u)) := by rw [h.re]; exact add_canon k.re h.hx b1
  have f2 : floatBits .add .f64 b d = some (f64I (y + v)) := by rw [h.im]; exact add_canon k.im h.hy b2
  unfold cSumBits
  rw [f1, f2]
  rfl
theorem zero_bnum : BNum 0 0 0 0 := ⟨by decide, by decide, by decide, by decide⟩
/-- One step of a sum: product and sum as the walk meets them. -/
theorem step_cnum {a b c d e g sa sb : Nat} {x y u v s t : Int} (hz : CNum a b x y) (hc : CNum c d u v) (hs : BNum sa sb s t) (x1 : -2047 ≤ x ∧ x ≤ 2047) (y1 : -2047 ≤ y ∧ y ≤ 2047) (u1 : -3 ≤ u ∧ u ≤ 3) (v1 : -3 ≤ v ∧ v ≤ 3) (s1 : -1000000 ≤ s ∧ s ≤ 1000000) (t1 : -1000000 ≤ t ∧ t ≤ 1000000) (he : e = c) (hg : g = Op.negFloat .f64 d) :
    ∃ p q re im, cMulBits a b e g = some (p, q) ∧ cSumBits .add .f64 sa sb p q = some (re, im) ∧ BNum re im (s + (x * u + y * v)) (t + (y * u - x * v)) := by
  subst he hg
  have hn : CNum e (Op.negFloat .f64 d) u (-v) := ⟨hc.re, neg_num hc.lb hc.im, hc.la, by
    obtain ⟨sg, r, hr, rfl⟩ := word_of hc.lb
    rw [neg_word sg hr]
    unfold Format.word
    have : double.signWeight = 2 ^ 63 := rfl
    split <;> omega⟩
  have m1 := mul_bd2 (x := x) (y := u) (A := 2047) (B := 3) x1 u1
  have m2 := mul_bd2 (x := y) (y := -v) (A := 2047) (B := 3) y1 (by omega)
  have m3 := mul_bd2 (x := x) (y := -v) (A := 2047) (B := 3) x1 (by omega)
  have m4 := mul_bd2 (x := y) (y := u) (A := 2047) (B := 3) y1 u1
  simp only [Int.reduceMul] at m1 m2 m3 m4
  obtain ⟨p, q, h1, h2⟩ := cmul_num hz hn 6141 (by decide) m1 m2 m3 m4
  obtain ⟨re, im, h3, h4⟩ := cadd_canon hs h2 (by omega) (by omega)
  refine ⟨p, q, re, im, h1, h3, ?_⟩
  have e1 : s + (x * u - y * -v) = s + (x * u + y * v) := by grind
  have e2 : t + (x * -v + y * u) = t + (y * u - x * v) := by grind
  rwa [e1, e2] at h4
end Go.Proofs.YtkoiknmijjiicaaGreatDoor

/- Chapter 1: the sums of Compress. -/
namespace Go.Proofs.YtkoiknmijjiicaaGreatDoor
set_option linter.unusedVariables false
set_option linter.unusedSimpArgs false
open Go.RowKit Ieee Ntt
def cv (D : List (Nat × Nat)) : List Value := D.map fun z => .complex .f64 z.1 z.2
theorem cv_snoc (D : List (Nat × Nat)) (z : Nat × Nat) : cv (D ++ [z]) = cv D ++ [.complex .f64 z.1 z.2] := by unfold cv; rw [List.map_append]; rfl
/-- The numbers of a field that is summed up: S of them in a line. -/
def DOk (X Y U V : Nat → Int) (S S0 C : Nat) (D : List (Nat × Nat)) : Prop := ∀ i z, D[i]? = some z → BNum z.1 z.2 (reP X Y U V (i / S * S0 + i % S) C) (imP X Y U V (i / S * S0 + i % S) C)
theorem DOk.snoc {X Y U V : Nat → Int} {S S0 C l s re im : Nat} {D : List (Nat × Nat)} (h : DOk X Y U V S S0 C D) (hs : s < S) (hl : D.length = l * S + s) (hz : BNum re im (reP X Y U V (l * S0 + s) C) (imP X Y U V (l * S0 + s) C)) : DOk X Y U V S S0 C (D ++ [(re, im)]) := fun i z hi => by
  rcases Nat.lt_or_ge i D.length with c | c
  · rw [List.getElem?_append_left c] at hi
    exact h i z hi
  · rw [List.getElem?_append_right c] at hi
    have e : i = D.length := by
      rcases Nat.eq_or_lt_of_le c with c | c
      · exact c.symm
      · rw [List.getElem?_eq_none (by simp; omega)] at hi; cases hi
    subst e
    simp at hi
    subst hi
    have e1 : D.length / S = l := by rw [hl, Nat.mul_comm, Nat.mul_add_div (by omega), Nat.div_eq_of_lt hs, Nat.add_zero]
    have e2 : D.length % S = s := by rw [hl, Nat.mul_comm, Nat.mul_add_mod, Nat.mod_eq_of_lt hs]
    rw [e1, e2]
    exact hz
theorem reP_bd {n C i k : Nat} {f fc : Nat → Nat × Nat} {X Y U V : Nat → Int} (hX : SmallS n f X Y 2047) (hU : SmallS C fc U V 3) (hi : i + k ≤ n) (hk : k ≤ C) (h64 : k ≤ 64) :
    (-1000000 ≤ reP X Y U V i k ∧ reP X Y U V i k ≤ 1000000) ∧ -1000000 ≤ imP X Y U V i k ∧ imP X Y U V i k ≤ 1000000 := by
  have hb : ∀ j, j < k → (-12282 ≤ X (i + j) * U j + Y (i + j) * V j ∧ X (i + j) * U j + Y (i + j) * V j ≤ 12282) ∧ -12282 ≤ Y (i + j) * U j - X (i + j) * V j ∧ Y (i + j) * U j - X (i + j) * V j ≤ 12282 := fun j hj => by
    obtain ⟨-, x1, y1⟩ := hX (i + j) (by omega)
    obtain ⟨-, u1, v1⟩ := hU j (by omega)
    have m1 := mul_bd2 x1 u1
    have m2 := mul_bd2 y1 v1
    have m3 := mul_bd2 y1 u1
    have m4 := mul_bd2 x1 v1
    simp only [Int.reduceMul] at m1 m2 m3 m4
    omega
  have s1 := sum_bd (n := k) (f := fun j => X (i + j) * U j + Y (i + j) * V j) (B := 12282) (fun j hj => (hb j hj).1)
  have s2 := sum_bd (n := k) (f := fun j => Y (i + j) * U j - X (i + j) * V j) (B := 12282) (fun j hj => (hb j hj).2)
  unfold reP imP
  omega
theorem infoC : (Tryz.prog.info? 78).map (fun i => (i.zero, i.size, i.bytes)) = some (some (.complex .f64 0 0), 1, 16) := by kernel_rfl
/-- The field that is summed up, as it lies in memory. -/
structure SumSt (w : World) (L S : Nat) (D : List (Nat × Nat)) (v : Value) (wr : World) : Prop where
  c0 : wr.cell? ⟨w.heap.size + 1, 0, none⟩ = some (.int .i64 L)
  c1 : wr.cell? ⟨w.heap.size + 1, 1, none⟩ = some (.int .i64 S)
  c2 : wr.cell? ⟨w.heap.size + 1, 2, none⟩ = some v
  f2 : wr.frozen? ⟨w.heap.size + 1, 2, none⟩ = false
  r0 : wr.cell? ⟨w.heap.size, 0, none⟩ = some (.int .i64 0)
  r1 : wr.cell? ⟨w.heap.size, 1, none⟩ = some (.int .i64 0)
  r2 : wr.cell? ⟨w.heap.size, 2, none⟩ = some (.slice none 0 0)
  g0 : wr.frozen? ⟨w.heap.size, 0, none⟩ = false
  g1 : wr.frozen? ⟨w.heap.size, 1, none⟩ = false
  g2 : wr.frozen? ⟨w.heap.size, 2, none⟩ = false
  own : wr.ownsRow (w.heap.size + 2) 78 1 v D.length (cv D)
  bel : Below w.heap.size w wr
  lt : w.heap.size + 1 < wr.heap.size
theorem SumSt.still {w wr w1 : World} {L S : Nat} {D : List (Nat × Nat)} {v : Value} {o : Obj} (h : SumSt w L S D v wr) (hg : (wr.alloc o).grownBy w1 v.ownBlock) :
    w1.cell? ⟨w.heap.size + 1, 2, none⟩ = some v ∧ w1.frozen? ⟨w.heap.size + 1, 2, none⟩ = false := by
  have hlt := h.lt
  have hb1 : Below (w.heap.size + 2) wr w1 := (((Below.refl (w.heap.size + 2) wr).alloc (by omega) o)).grown hg (by simp; omega) (fun g hg => (h.own.lt g hg).1)
  exact ⟨(hb1.cell (p := ⟨w.heap.size + 1, 2, none⟩) (Nat.lt_succ_self _)).trans h.c2, (hb1.frozen (p := ⟨w.heap.size + 1, 2, none⟩) (Nat.lt_succ_self _)).trans h.f2⟩
theorem SumSt.put {w wr w1 : World} {L S re im : Nat} {D : List (Nat × Nat)} {v v' : Value} {o : Obj} (h : SumSt w L S D v wr)
    (ho : w1.ownsRow (w.heap.size + 2) 78 1 v' (D.length + 1) (cv D ++ [.complex .f64 re im])) (hg : (wr.alloc o).grownBy w1 v.ownBlock) : SumSt w L S (D ++ [(re, im)]) v' (w1.setCell ⟨w.heap.size + 1, 2, none⟩ v') := by
  have hlt := h.lt
  have hb1 : Below (w.heap.size + 2) wr w1 := (((Below.refl (w.heap.size + 2) wr).alloc (by omega) o)).grown hg (by simp; omega) (fun g hg => (h.own.lt g hg).1)
  have hsz := hb1.size
  have q : ∀ j, w1.cell? ⟨w.heap.size + 1, j, none⟩ = wr.cell? ⟨w.heap.size + 1, j, none⟩ := fun j => hb1.cell (p := ⟨w.heap.size + 1, j, none⟩) (Nat.lt_succ_self _)
  have q2 : ∀ j, w1.frozen? ⟨w.heap.size + 1, j, none⟩ = wr.frozen? ⟨w.heap.size + 1, j, none⟩ := fun j => hb1.frozen (p := ⟨w.heap.size + 1, j, none⟩) (Nat.lt_succ_self _)
  have r : ∀ j, w1.cell? ⟨w.heap.size, j, none⟩ = wr.cell? ⟨w.heap.size, j, none⟩ := fun j => hb1.cell (p := ⟨w.heap.size, j, none⟩) (show w.heap.size < w.heap.size + 2 by omega)
  have r2 : ∀ j, w1.frozen? ⟨w.heap.size, j, none⟩ = wr.frozen? ⟨w.heap.size, j, none⟩ := fun j => hb1.frozen (p := ⟨w.heap.size, j, none⟩) (show w.heap.size < w.heap.size + 2 by omega)
  refine ⟨by simp [go_sem, q, h.c0], by simp [go_sem, q, h.c1], by simp [go_sem, q, h.c2], by simp [go_sem, q2, h.f2], by simp [go_sem, r, h.r0], by simp [go_sem, r, h.r1], by simp [go_sem, r, h.r2], by simp [go_sem, r2, h.g0], by simp [go_sem, r2, h.g1], by simp [go_sem, r2, h.g2], ?_, ?_, by simp; omega⟩
  · rw [cv_snoc, show (D ++ [(re, im)]).length = D.length + 1 by simp]
    exact ownsRow_setCell_below ho (Nat.lt_succ_self _) _
  · exact (h.bel.trans (hb1.mono (by omega))).setCell (p := ⟨w.heap.size + 1, 2, none⟩) (show w.heap.size ≤ w.heap.size + 1 by omega) _
theorem own_slice {w : World} {base : Nat} {e : TypeId} {size n : Nat} {v : Value} {xs : List Value} (h : w.ownsRow base e size v n xs) : ∃ a cap, v = .slice a n cap := by
  obtain ⟨-, ⟨rfl, rfl⟩ | ⟨g, cap, cur, rfl, -⟩⟩ := h
  · exact ⟨none, 0, rfl⟩
  · exact ⟨_, cap, rfl⟩
/-- A field of numbers with whole parts in memory. -/
def FieldAt (W : World) (base : Nat) (a : Option Addr) (D : List (Nat × Nat)) : Prop := 0 < D.length → ∃ g, a = some ⟨g, 0, none⟩ ∧ base ≤ g ∧ g < W.heap.size ∧ ∀ k z, D[k]? = some z → W.cell? ⟨g, k, none⟩ = some (.complex .f64 z.1 z.2)
theorem fieldAt_own {W : World} {base n c : Nat} {a : Option Addr} {D : List (Nat × Nat)} (h : W.ownsRow base 78 1 (.slice a n c) n (cv D)) (hn : n = D.length) : FieldAt W base a D := fun hp => by
  have h0 := h
  obtain ⟨-, ⟨-, h1⟩ | ⟨g, cap, cur, h1, h2, h3, -⟩⟩ := h0
  · omega
  · simp only [Value.slice.injEq, true_and] at h1
    obtain ⟨rfl, rfl⟩ := h1
    refine ⟨g, rfl, h2, (Array.getElem?_eq_some_iff.1 h3).1, fun k z hk => ?_⟩
    have hk2 : k < D.length := (List.getElem?_eq_some_iff.1 hk).1
    rw [h.cellAt k (by omega)]
    unfold cv
    rw [List.getElem?_map, hk]
    rfl
def SumsPost (L S S0 C : Nat) (X Y U V : Nat → Int) (w : World) (e : Ending) (w' : World) : Prop :=
  ∃ a c D, e = .returned (.agg #[.int .i64 L, .int .i64 S, .slice a D.length c]) ∧ D.length = L * S ∧ DOk X Y U V S S0 C D ∧ FieldAt w' (w.heap.size + 2) a D ∧ Below w.heap.size w w'
end Go.Proofs.YtkoiknmijjiicaaGreatDoor

/- Chapter 1: the error of a size. -/
namespace Go.Proofs.YtkoiknmijjiicaaGreatDoor
set_option linter.unusedVariables false
set_option linter.unusedSimpArgs false
open Go.RowKit Ieee Ntt
def sizeE (l s n : Int) : Int := if inE 1 64 l && inE 1 64 s then (if n = l * s then 0 else 10) else 2
theorem inE_iff {lo hi n : Int} : inE lo hi n = true ↔ lo ≤ n ∧ n ≤ hi := by unfold inE; simp
set_option maxHeartbeats 1000000 in
theorem sizeErr_any (l s n : Int) (w : World) {e0 : Int} (he : sizeE l s n = e0) :
    Calls Tryz.prog 139 #[.int .i64 l, .int .i64 s, .int .i64 n] w fun e w' => e = .returned (.int .i64 e0) ∧ w = w' := by
  subst he
  rcases (show inE 1 64 l = false ∨ inE 1 64 l = true by cases inE 1 64 l <;> simp) with h1 | h1
  · have HF := Lib.hid (show sizeE l s n = 2 by unfold sizeE; rw [h1]; rfl)
    have H1 := Lib.hid h1
    clear h1
    go_enter Tryz.func139, Tryz.ntmps139
    go_wp2_with (first | (go_at_call 160; (with_reducible refine (within_e l _ _ _ H1.out).mono ?_); rintro e w' ⟨rfl, rfl⟩))
    go_ret
    exact ⟨ret_intE HF.out.symm, rfl⟩
  · rcases (show inE 1 64 s = false ∨ inE 1 64 s = true by cases inE 1 64 s <;> simp) with h2 | h2
    · have HF := Lib.hid (show sizeE l s n = 2 by unfold sizeE; rw [h1, h2]; rfl)
      have H1 := Lib.hid h1
      have H2 := Lib.hid h2
      clear h1 h2
      go_enter Tryz.func139, Tryz.ntmps139
      go_wp2_with (first | (go_at_call 160; (with_reducible refine (within_e l _ _ _ H1.out).mono ?_); rintro e w' ⟨rfl, rfl⟩) | (go_at_call 160; (with_reducible refine (within_e s _ _ _ H2.out).mono ?_); rintro e w' ⟨rfl, rfl⟩))
      go_ret
      exact ⟨ret_intE HF.out.symm, rfl⟩
    · obtain ⟨a1, a2⟩ := inE_iff.1 h1
      obtain ⟨b1, b2⟩ := inE_iff.1 h2
      obtain ⟨m1, m2⟩ : 0 ≤ l * s ∧ l * s ≤ 4096 := ⟨Int.mul_nonneg (by omega) (by omega), by
        have := Int.mul_le_mul a2 b2 (by omega) (by decide)
        omega⟩
      have H1 := Lib.hid h1
      have H2 := Lib.hid h2
      by_cases hn : n = l * s
      · have HF := Lib.hid (show sizeE l s n = 0 by unfold sizeE; rw [h1, h2, if_pos (show (true && true) = true from rfl), if_pos hn])
        have hb : (n != l * s) = false := by simpa using hn
        clear h1 h2 hn
        go_enter Tryz.func139, Tryz.ntmps139
        go_wp2_with (first | (go_at_call 160; (with_reducible refine (within_e l _ _ _ H1.out).mono ?_); rintro e w' ⟨rfl, rfl⟩) | (go_at_call 160; (with_reducible refine (within_e s _ _ _ H2.out).mono ?_); rintro e w' ⟨rfl, rfl⟩))
        go_ret
        exact ⟨ret_intE HF.out.symm, rfl⟩
      · have HF := Lib.hid (show sizeE l s n = 10 by unfold sizeE; rw [h1, h2, if_pos (show (true && true) = true from rfl), if_neg hn])
        have hb : (n != l * s) = true := by simpa using hn
        clear h1 h2 hn
        go_enter Tryz.func139, Tryz.ntmps139
        go_wp2_with (first | (go_at_call 160; (with_reducible refine (within_e l _ _ _ H1.out).mono ?_); rintro e w' ⟨rfl, rfl⟩) | (go_at_call 160; (with_reducible refine (within_e s _ _ _ H2.out).mono ?_); rintro e w' ⟨rfl, rfl⟩))
        go_ret
        exact ⟨ret_intE HF.out.symm, rfl⟩
end Go.Proofs.YtkoiknmijjiicaaGreatDoor

/- Chapter 1: copies of lists of integers. -/
namespace Go.Proofs.YtkoiknmijjiicaaGreatDoor
set_option linter.unusedVariables false
set_option linter.unusedSimpArgs false
open Go.RowKit Ntt
theorem ownsRow_new1 (w : World) (e : TypeId) (base B : Nat) (hB : B = w.heap.size) (h : base ≤ w.heap.size) : (w.alloc (.cells #[] e)).ownsRow base e 1 (.slice (some ⟨B, 0, none⟩) 0 0) 0 [] := by
  subst hB
  exact ⟨rfl, Or.inr ⟨w.heap.size, 0, #[], rfl, h, heap_alloc_new w _, Nat.le_refl _, by unfold maxLen; omega, rfl, rfl⟩⟩
theorem intVals_at (zs : List Int) {j : Nat} {u : Value} (h : (zs.map (Value.int .i64))[j]? = some u) : j < zs.length ∧ u = .int .i64 (intAt zs j) := by
  rw [List.getElem?_map] at h
  cases hz : zs[j]? with
  | none => rw [hz] at h; cases h
  | some z =>
    rw [hz] at h
    refine ⟨(List.getElem?_eq_some_iff.1 hz).1, ?_⟩
    unfold intAt
    rw [hz]
    exact (Option.some.inj h).symm
set_option maxHeartbeats 1000000 in
theorem copyInts_some (zs : List Int) (b off cap : Nat) (w : World) (hl : zs.length ≤ 1000000000) (hp : 0 < zs.length) (hbw : b < w.heap.size) (hc : ∀ k, k < zs.length → w.cell? ⟨b, off + k, none⟩ = some (.int .i64 (intAt zs k))) :
    Calls Tryz.prog 66 #[.slice (some ⟨b, off, none⟩) zs.length cap] w fun e w' => ∃ v, e = .returned v ∧ IntsV w' v zs ∧ Below w.heap.size w w' := by
  obtain ⟨i0, hi, hz0, hz1, hz2⟩ := info_parts info3
  have HC := Lib.hid (show ∀ W, Below w.heap.size w W → ∀ j u, (zs.map (Value.int .i64))[j]? = some u → W.cell? ((⟨b, off, none⟩ : Addr).add j) = some u from fun W hW j u hu => by
    obtain ⟨h1, rfl⟩ := intVals_at zs hu
    have e : (⟨b, off, none⟩ : Addr).add j = ⟨b, off + j, none⟩ := by simp [Addr.add] <;> omega
    rw [e]
    exact (hW.cell (p := ⟨b, off + j, none⟩) hbw).trans (hc j h1))
  clear hc
  go_enter Tryz.func66, Tryz.ntmps66
  go_wp2_with (at_builtin; refine wpList_append_own _ rfl _ _ 42 rfl w.heap.size 3 i0 (.int .i64 0) 1 8 Tryz.underlying42 hi hz0 hz1 hz2 rfl (by decide) _ 0 [] rfl (ownsRow_new1 _ _ _ _ (by simp) (by simp)) ⟨b, off, none⟩ zs.length cap (zs.map (.int .i64)) rfl ?c1 ?c2 ?c3 ?c4 ?c5 ?c6 ?_)
  case c1 => simp
  case c2 => exact HC.out _ (by (repeat' (first | with_reducible exact Below.refl _ _ | (with_reducible refine below_later_of ?_ ?_ _) | (with_reducible refine Below.alloc ?_ ?_ _) | (with_reducible refine Below.setCell ?_ ?_ _) | (with_reducible refine Below.drew ?_) | (simp; done) | (simp; omega) | omega)))
  case c3 => intro u hu; simp at hu; obtain ⟨z, _, rfl⟩ := hu; rfl
  case c4 => unfold maxLen; omega
  case c5 => omega
  case c6 => simp
  intro v' w1 hown hgrow _
  have hown2 : w1.ownsRow w.heap.size 3 1 v' zs.length (zs.map (.int .i64)) := by simpa using hown
  obtain ⟨g, c, rfl⟩ := row_slice hown2 hp
  have HPV := Lib.hid (intsV_own hown2 hl)
  have HB := Lib.hid (show Below w.heap.size w w1 from (show Below w.heap.size w _ from (by (repeat' (first | with_reducible exact Below.refl _ _ | (with_reducible refine below_later_of ?_ ?_ _) | (with_reducible refine Below.alloc ?_ ?_ _) | (with_reducible refine Below.setCell ?_ ?_ _) | (with_reducible refine Below.drew ?_) | (simp; done) | (simp; omega) | omega)))).grown hgrow (by simp) (fun g hg => by simp [Value.ownBlock] at hg; omega))
  clear hown hown2 hgrow
  go_wp2
  go_ret
  exact ⟨_, rfl, HPV.out, HB.out⟩
end Go.Proofs.YtkoiknmijjiicaaGreatDoor
