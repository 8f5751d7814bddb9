/- Floats: that 0 and 100 are whole numbers. -/
import Derived.Test.YthnfepfbkmafaaaK3
namespace Go.Proofs.Ythnfepfbkmafaaa
set_option linter.unusedVariables false
open Go.RowKit
theorem run_f64bits (b : Nat) (w : World) : (callFunc 152 #[.float .f64 b]).run Try.prog w = .ok (.value (.int .u64 b)) w := by
  rw [run_callFunc_extern (e := Extern.MathFloatBits.float64bits) Try.func152 (by kernel_rfl) (by kernel_rfl) (by kernel_rfl) (by kernel_rfl)]
  rfl
theorem run_f64from (b : Nat) (w : World) : (callFunc 153 #[.int .u64 (b : Int)]).run Try.prog w = .ok (.value (.float .f64 b)) w := by
  rw [run_callFunc_extern (e := Extern.MathFloatBits.float64frombits) Try.func153 (by kernel_rfl) (by kernel_rfl) (by kernel_rfl) (by kernel_rfl)]
  rfl
/-- One operation whose value is known. -/
theorem wpList_run {P : Program} {ops : Array Oper} {rest : List Oper} {o : Oper} {a : Act} {w : World} {Q : Exit → Act → World → Prop} (v : Value) (hg : o.guard = none) (hrun : (execOp a.eval o).run P w = .ok (.value v) w)
    (h : wpList P ops Q rest (a.put o.dst v) w) : wpList P ops Q (o :: rest) a w := by
  refine wpList_plain hg fun K hK => ?_
  unfold Oper.wp
  rw [hrun]
  exact hK _ _ h
def c100 : Nat := 4636737291354636288
set_option maxHeartbeats 400000 in
theorem abs_0 (w : World) : Calls Try.prog 150 #[.float .f64 0] w fun e w' => e = .returned (.float .f64 0) ∧ w = w' := by
  have h1 : ∀ w, (callFunc 152 #[.float .f64 0]).run Try.prog w = .ok (.value (.int .u64 0)) w := fun w => run_f64bits 0 w
  have h2 : ∀ w, (callFunc 153 #[.int .u64 0]).run Try.prog w = .ok (.value (.float .f64 0)) w := fun w => run_f64from 0 w
  go_enter Try.func150, Try.ntmps150
  go_wp2_with ((with_reducible refine wpList_run (o := ⟨some 5, _, _, _, _, _⟩) (.int .u64 0) ?_ ?_ ?_); (focus rfl); (focus kernel_rfl))
  go_ret
  exact ⟨rfl, rfl⟩
theorem c100_i : ((c100 : Nat) : Int) = 4636737291354636288 := rfl
set_option maxHeartbeats 400000 in
theorem abs_100 (w : World) : Calls Try.prog 150 #[.float .f64 c100] w fun e w' => e = .returned (.float .f64 c100) ∧ w = w' := by
  have h1 : ∀ w, (callFunc 152 #[.float .f64 c100]).run Try.prog w = .ok (.value (.int .u64 c100)) w := fun w => run_f64bits c100 w
  have h2 : ∀ w, (callFunc 153 #[.int .u64 c100]).run Try.prog w = .ok (.value (.float .f64 c100)) w := fun w => run_f64from c100 w
  go_enter Try.func150, Try.ntmps150
  go_wp2_with ((with_reducible refine wpList_run (o := ⟨some 5, _, _, _, _, _⟩) (.int .u64 c100) ?_ ?_ ?_); (focus rfl); (focus kernel_rfl))
  go_ret
  exact ⟨rfl, rfl⟩
theorem run_archTrunc (c : Nat) (w : World) : (callFunc 148 #[.float .f64 c]).run Try.prog w = ((Extern.MathFloor.toIntegral "math.archTrunc" .zero #[.float .f64 c]).run Try.prog w).andThen fun v w' => .ok (.value v) w' :=
  run_callFunc_extern (e := Extern.MathFloor.toIntegral "math.archTrunc" .zero) Try.func148 (by kernel_rfl) (by kernel_rfl) (by kernel_rfl) (by kernel_rfl) _ _
theorem archTrunc_0 (w : World) : (callFunc 148 #[.float .f64 0]).run Try.prog w = .ok (.value (.float .f64 0)) w := by
  rw [run_archTrunc]; kernel_rfl
theorem archTrunc_100 (w : World) : (callFunc 148 #[.float .f64 c100]).run Try.prog w = .ok (.value (.float .f64 c100)) w := by
  rw [run_archTrunc]; kernel_rfl
set_option maxHeartbeats 400000 in
theorem Trunc_of (c d : Nat) (h : ∀ w, (callFunc 148 #[.float .f64 c]).run Try.prog w = .ok (.value (.float .f64 d)) w) (w : World) : Calls Try.prog 139 #[.float .f64 c] w fun e w' => e = .returned (.float .f64 d) ∧ w = w' := by
  go_enter Try.func139, Try.ntmps139
  go_wp2
  go_ret
  exact ⟨rfl, rfl⟩
set_option maxHeartbeats 400000 in
theorem isInf_0 (w : World) : Calls Try.prog 140 #[.float .f64 0, .int .i64 0] w fun e w' => e = .returned (.bool false) ∧ w = w' := by
  go_enter Try.func140, Try.ntmps140
  go_wp2_with (first | (go_at_call 150; refine (abs_0 _).mono ?_; rintro e w' ⟨rfl, rfl⟩) | ((with_reducible refine wpList_run (o := ⟨some 14, _, _, _, _, _⟩) (.bool false) ?_ ?_ ?_); (focus rfl); (focus kernel_rfl)))
  go_ret
  exact ⟨rfl, rfl⟩
set_option maxHeartbeats 400000 in
theorem isInf_100 (w : World) : Calls Try.prog 140 #[.float .f64 c100, .int .i64 0] w fun e w' => e = .returned (.bool false) ∧ w = w' := by
  go_enter Try.func140, Try.ntmps140
  go_wp2_with (first | (go_at_call 150; refine (abs_100 _).mono ?_; rintro e w' ⟨rfl, rfl⟩) | ((with_reducible refine wpList_run (o := ⟨some 14, _, _, _, _, _⟩) (.bool false) ?_ ?_ ?_); (focus rfl); (focus kernel_rfl)))
  go_ret
  exact ⟨rfl, rfl⟩
set_option maxHeartbeats 400000 in
theorem isWhole_0 (w : World) : Calls Try.prog 110 #[.float .f32 0] w fun e w' => e = .returned (.bool true) ∧ w = w' := by
  go_enter Try.func110, Try.ntmps110
  go_wp2_with (first | ((with_reducible refine wpList_run (o := ⟨some 5, _, _, _, _, _⟩) (.float .f64 0) ?_ ?_ ?_); (focus rfl); (focus kernel_rfl)) | (go_at_call 139; refine (Trunc_of 0 0 archTrunc_0 _).mono ?_; rintro e w' ⟨rfl, rfl⟩) | (go_at_call 140; refine (isInf_0 _).mono ?_; rintro e w' ⟨rfl, rfl⟩) | ((with_reducible refine wpList_run (o := ⟨some 9, _, _, _, _, _⟩) (.bool true) ?_ ?_ ?_); (focus rfl); (focus kernel_rfl)))
  go_ret
  exact ⟨rfl, rfl⟩
set_option maxHeartbeats 400000 in
theorem isWhole_100 (w : World) : Calls Try.prog 110 #[.float .f32 1120403456] w fun e w' => e = .returned (.bool true) ∧ w = w' := by
  go_enter Try.func110, Try.ntmps110
  go_wp2_with (first | ((with_reducible refine wpList_run (o := ⟨some 5, _, _, _, _, _⟩) (.float .f64 c100) ?_ ?_ ?_); (focus rfl); (focus kernel_rfl)) | (go_at_call 139; refine (Trunc_of c100 c100 archTrunc_100 _).mono ?_; rintro e w' ⟨rfl, rfl⟩) | (go_at_call 140; refine (isInf_100 _).mono ?_; rintro e w' ⟨rfl, rfl⟩) | ((with_reducible refine wpList_run (o := ⟨some 9, _, _, _, _, _⟩) (.bool true) ?_ ?_ ?_); (focus rfl); (focus kernel_rfl)))
  go_ret
  exact ⟨rfl, rfl⟩
theorem flErr_0 : FlErr 0 0 := ⟨true, isWhole_0, by kernel_rfl⟩
theorem flErr_100 : FlErr 1120403456 0 := ⟨true, isWhole_100, by kernel_rfl⟩
theorem flInt_0 : FlInt 0 0 := fun w => run_convert_float_int (P := Try.prog) w 75 3 .f32 .i64 0 0 (by kernel_rfl) Try.underlying3 (by kernel_rfl)
theorem flInt_100 : FlInt 1120403456 100 := fun w => run_convert_float_int (P := Try.prog) w 75 3 .f32 .i64 1120403456 100 (by kernel_rfl) Try.underlying3 (by kernel_rfl)
end Go.Proofs.Ythnfepfbkmafaaa
