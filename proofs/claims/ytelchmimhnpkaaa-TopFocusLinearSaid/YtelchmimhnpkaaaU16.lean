/- Chapter 1 (as H2 of wip/ground): isWhole, for every float. -/
import Derived.Test.YtelchmimhnpkaaaU14
import Derived.Test.YtelchmimhnpkaaaZF
namespace Go.Proofs.Ytelchmimhnpkaaa
set_option linter.unusedVariables false
open Go.RowKit
/-- One operation whose value and world are known. -/
theorem wpList_runw {P : Program} {ops : Array Oper} {rest : List Oper} {o : Oper} {a : Act} {w : World} {Q : Exit → Act → World → Prop} (v : Value) (w' : World) (hg : o.guard = none) (hrun : (execOp a.eval o).run P w = .ok (.value v) w')
    (h : wpList P ops Q rest (a.put o.dst v) w') : wpList P ops Q (o :: rest) a w := by
  refine wpList_plain hg fun K hK => ?_
  unfold Oper.wp
  rw [hrun]
  exact hK _ _ h
theorem wpList_run1 {P : Program} {ops : Array Oper} {rest : List Oper} {o : Oper} {a : Act} {w : World} {Q : Exit → Act → World → Prop} (v : Value) (hg : o.guard = none) (hrun : (execOp a.eval o).run P w = .ok (.value v) w)
    (h : wpList P ops Q rest (a.put o.dst v) w) : wpList P ops Q (o :: rest) a w := wpList_runw v w hg hrun h
theorem hrun_bits (b : Nat) (w : World) : (callFunc 125 #[.float .f64 b]).run Try.prog w = .ok (.value (.int .u64 b)) w := by
  rw [run_callFunc_extern (e := Extern.MathFloatBits.float64bits) Try.func125 (by kernel_rfl) (by kernel_rfl) (by kernel_rfl) (by kernel_rfl)]
  rfl
theorem hrun_from (b : Nat) (w : World) : (callFunc 240 #[.int .u64 (b : Int)]).run Try.prog w = .ok (.value (.float .f64 b)) w := by
  rw [run_callFunc_extern (e := Extern.MathFloatBits.float64frombits) Try.func240 (by kernel_rfl) (by kernel_rfl) (by kernel_rfl) (by kernel_rfl)]
  rfl
theorem hrun_trunc (c : Nat) (w : World) : (callFunc 238 #[.float .f64 c]).run Try.prog w = ((Extern.MathFloor.toIntegral "math.archTrunc" .zero #[.float .f64 c]).run Try.prog w).andThen fun v w' => .ok (.value v) w' :=
  run_callFunc_extern (e := Extern.MathFloor.toIntegral "math.archTrunc" .zero) Try.func238 (by kernel_rfl) (by kernel_rfl) (by kernel_rfl) (by kernel_rfl) _ _
theorem run_andNot (b : Nat) (h : b < 2 ^ 64) (w : World) : (binOp .andNot 208 (.int .u64 (b : Int)) (.int .u64 9223372036854775808)).run Try.prog w = .ok (.int .u64 ((b % 2 ^ 63 : Nat) : Int)) w := by
  show (Op.intBits .andNot .u64 (b : Int) 9223372036854775808).run Try.prog w = _
  unfold Op.intBits
  have e := abs_bits b h
  have h2 : b % 2 ^ 63 < 2 ^ 63 := Nat.mod_lt _ (by decide)
  show (Pure.pure (Value.int .u64 (IntKind.u64.wrap _)) : Sem Value).run Try.prog w = _
  have e2 : IntKind.u64.wrap (((BitVec.ofInt 64 (b : Int) &&& ~~~(BitVec.ofInt 64 9223372036854775808)).toNat : Nat) : Int) = ((b % 2 ^ 63 : Nat) : Int) := by
    rw [e]; rw [IntKind.wrap_u64]; omega
  exact congrArg (fun x => Result.ok (Value.int .u64 x) w) e2
set_option maxHeartbeats 400000 in
theorem abs_any (b : Nat) (h : b < 2 ^ 64) (w : World) : Calls Try.prog 222 #[.float .f64 b] w fun e w' => e = .returned (.float .f64 (b % 2 ^ 63)) ∧ w = w' := by
  have h1 : ∀ w, (callFunc 125 #[.float .f64 b]).run Try.prog w = .ok (.value (.int .u64 b)) w := fun w => hrun_bits b w
  have h2 : ∀ w, (callFunc 240 #[.int .u64 ((b % 2 ^ 63 : Nat) : Int)]).run Try.prog w = .ok (.value (.float .f64 (b % 2 ^ 63))) w := fun w => hrun_from _ w
  have h3 : IntKind.u64.wrap (((BitVec.ofInt 64 (b : Int) &&& ~~~(BitVec.ofInt 64 9223372036854775808)).toNat : Nat) : Int) = ((b % 2 ^ 63 : Nat) : Int) := by
    have h2 : b % 2 ^ 63 < 2 ^ 63 := Nat.mod_lt _ (by decide)
    rw [abs_bits b h]; rw [IntKind.wrap_u64]; omega
  generalize hc : b % 2 ^ 63 = c at h2 h3 ⊢
  have H3 := Lib.hid h3
  clear hc h h3
  go_enter Try.func222, Try.ntmps222
  go_wp2_with ((with_reducible refine wpList_run1 (o := ⟨some 5, _, _, _, _, _⟩) (.int .u64 c) ?_ ?_ ?_); (focus rfl); (focus (rw [← H3.out]; kernel_rfl)))
  go_ret
  exact ⟨rfl, rfl⟩

set_option maxHeartbeats 400000 in
theorem isInf_any (b : Nat) (h : b < 2 ^ 64) (w : World) {g : Bool} (hg : (Ieee.double.order (b % 2 ^ 63) 9218868437227405311 == some Ordering.gt) = g) : Calls Try.prog 220 #[.float .f64 b, .int .i64 0] w fun e w' => e = .returned (.bool g) ∧ w = w' := by
  have HA := Lib.hid (abs_any b h)
  generalize b % 2 ^ 63 = c at HA hg
  have HG := Lib.hid hg
  clear hg h
  go_enter Try.func220, Try.ntmps220
  go_wp2_with (first | (go_at_call 222; refine (HA.out _).mono ?_; rintro e w' ⟨rfl, rfl⟩) | ((with_reducible refine wpList_run1 (o := ⟨some 14, _, _, _, _, _⟩) (.bool g) ?_ ?_ ?_); (focus rfl); (focus (rw [← HG.out]; kernel_rfl))))
  go_ret
  exact ⟨rfl, rfl⟩
set_option maxHeartbeats 400000 in
theorem trunc_same (c d : Nat) (h : ∀ w, (callFunc 238 #[.float .f64 c]).run Try.prog w = .ok (.value (.float .f64 d)) w) (w : World) : Calls Try.prog 221 #[.float .f64 c] w fun e w' => e = .returned (.float .f64 d) ∧ w = w' := by
  go_enter Try.func221, Try.ntmps221
  go_wp2
  go_ret
  exact ⟨rfl, rfl⟩
theorem toIntegral_eq (c : Nat) : Extern.MathFloor.toIntegral "math.archTrunc" .zero #[.float .f64 c] = (match FloatKind.f64.decode c with
    | .nan s t => if FloatKind.f64.format.quiet t = t then (Pure.pure (.float .f64 c) : Sem Value) else (choose (.extern "math.Floor,Ceil,Trunc,RoundToEven.signallingNaN kept" 2)) >>= fun kept => Pure.pure (.float .f64 (if kept == 1 then c else FloatKind.f64.encode (.nan s (FloatKind.f64.format.quiet t))))
    | d => Pure.pure (.float .f64 (FloatKind.f64.encode (d.integral .zero)))) := rfl
theorem trunc_num (c : Nat) {s : Bool} {k : Nat} {last : Int} (hc : Ieee.double.read c = .number s k last) (w : World) : (callFunc 238 #[.float .f64 c]).run Try.prog w = .ok (.value (.float .f64 (Ieee.double.write (.number s (cutT k last) 0)))) w := by
  rw [hrun_trunc]
  have : (Extern.MathFloor.toIntegral "math.archTrunc" .zero #[.float .f64 c]).run Try.prog w = .ok (.float .f64 (Ieee.double.write (.number s (cutT k last) 0))) w := by
    have hd : FloatKind.f64.decode c = .number s k last := hc
    rw [toIntegral_eq, hd]
    simp only [Ieee.Datum.integral, cut_zero]
    rfl
  rw [this]
  rfl
theorem trunc_inf (c : Nat) {s : Bool} (hc : Ieee.double.read c = .infinity s) (w : World) : (callFunc 238 #[.float .f64 c]).run Try.prog w = .ok (.value (.float .f64 (Ieee.double.word s Ieee.double.infRung))) w := by
  rw [hrun_trunc]
  have : (Extern.MathFloor.toIntegral "math.archTrunc" .zero #[.float .f64 c]).run Try.prog w = .ok (.float .f64 (Ieee.double.word s Ieee.double.infRung)) w := by
    have hd : FloatKind.f64.decode c = .infinity s := hc
    rw [toIntegral_eq, hd]
    rfl
  rw [this]
  rfl
theorem trunc_nan (c : Nat) {s : Bool} {t : Nat} (hc : Ieee.double.read c = .nan s t) (w : World) : ∃ v w', (callFunc 238 #[.float .f64 c]).run Try.prog w = .ok (.value (.float .f64 v)) w' ∧ (∃ s' t', Ieee.double.read v = .nan s' t') ∧ Below w.heap.size w w' := by
  rw [hrun_trunc, toIntegral_eq]
  have hd : FloatKind.f64.decode c = .nan s t := hc
  rw [hd]
  dsimp only
  by_cases hq : FloatKind.f64.format.quiet t = t
  · refine ⟨c, w, ?_, ⟨s, t, hc⟩, Below.refl _ _⟩
    rw [if_pos hq]
    rfl
  · obtain ⟨u, hu⟩ := nan_quiet s t
    refine ⟨if (Question.cut (.extern "math.Floor,Ceil,Trunc,RoundToEven.signallingNaN kept" 2) (w.tape w.drawn (.extern "math.Floor,Ceil,Trunc,RoundToEven.signallingNaN kept" 2))) == 1 then c else FloatKind.f64.encode (.nan s (FloatKind.f64.format.quiet t)), w.drew, ?_, ?_, (Below.refl _ _).drew⟩
    · rw [if_neg hq, Sem.run_bind, run_choose_drew]
      rfl
    · split
      · exact ⟨s, t, hc⟩
      · exact ⟨s, u, hu⟩
set_option maxHeartbeats 400000 in
theorem trunc_move (c : Nat) (V : World → Nat) (W1 : World → World) (h : ∀ w, (callFunc 238 #[.float .f64 c]).run Try.prog w = .ok (.value (.float .f64 (V w))) (W1 w)) (w : World) : Calls Try.prog 221 #[.float .f64 c] w fun e w' => e = .returned (.float .f64 (V w)) ∧ W1 w = w' := by
  go_enter Try.func221, Try.ntmps221
  go_wp2
  go_ret
  exact ⟨rfl, rfl⟩
theorem trunc_nan_any (c : Nat) {s : Bool} {t : Nat} (hc : Ieee.double.read c = .nan s t) (w : World) : Calls Try.prog 221 #[.float .f64 c] w fun e w' => ∃ v, e = .returned (.float .f64 v) ∧ (∃ s' t', Ieee.double.read v = .nan s' t') ∧ Below w.heap.size w w' := by
  refine (trunc_move c (fun w => (trunc_nan c hc w).choose) (fun w => (trunc_nan c hc w).choose_spec.choose) (fun w => (trunc_nan c hc w).choose_spec.choose_spec.1) w).mono ?_
  rintro e w' ⟨rfl, rfl⟩
  exact ⟨_, rfl, (trunc_nan c hc w).choose_spec.choose_spec.2.1, (trunc_nan c hc w).choose_spec.choose_spec.2.2⟩
end Go.Proofs.Ytelchmimhnpkaaa
