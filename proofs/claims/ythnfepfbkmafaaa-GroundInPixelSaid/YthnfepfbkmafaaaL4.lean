/- Arrays and structs that are compared. -/
import Derived.Test.YthnfepfbkmafaaaRows
import Derived.WalkKit
import Derived.WalkSpells
import Derived.WalkLawsBesides
import Derived.Test.YthnfepfbkmafaaaL2
namespace Go.Proofs.Ythnfepfbkmafaaa
set_option linter.unusedVariables false
open Go.RowKit
theorem equal_arr2 {P : Program} (n : Nat) (t e : TypeId) (x0 x1 y0 y1 : Value) (b0 b1 : Bool) (w : World) (ht : P.underlying t = some (.array 2 e)) (xs ys : Array Value) (sz : Nat) (hs : ∀ w, (sizeOf e).run P w = .ok sz w)
    (p0 : ∀ w, (part e xs 0).run P w = .ok x0 w) (p1 : ∀ w, (part e xs sz).run P w = .ok x1 w) (q0 : ∀ w, (part e ys 0).run P w = .ok y0 w) (q1 : ∀ w, (part e ys sz).run P w = .ok y1 w)
    (h0 : ∀ w, (Op.equalIn n e x0 y0).run P w = .ok b0 w) (h1 : ∀ w, (Op.equalIn n e x1 y1).run P w = .ok b1 w) :
    (Op.equalIn (n + 1) t (.agg xs) (.agg ys)).run P w = .ok (b0 && b1) w := by
  simp only [Op.equalIn, Sem.run_bind, run_underlying ht, Result.andThen_ok, hs]
  cases b0 <;> cases b1 <;> simp [Std.Legacy.Range.forIn_eq_forIn_range', Std.Legacy.Range.size, List.range', p0, p1, q0, q1, h0, h1]
theorem equal_int {P : Program} (n : Nat) (e : TypeId) (k : IntKind) (he : P.underlying e = some (.int k)) (a b : Int) (w : World) : (Op.equalIn (n + 1) e (.int k a) (.int k b)).run P w = .ok (a == b) w :=
  run_equalIn_int w n e k k a b he
theorem eqA2 (a b c d : Int) (w : World) : (Op.equalIn 10000 44 (.agg #[.int .i64 a, .int .i64 b]) (.agg #[.int .i64 c, .int .i64 d])).run Try.prog w = .ok (a == c && b == d) w :=
  equal_arr2 9999 _ _ (.int .i64 a) (.int .i64 b) (.int .i64 c) (.int .i64 d) _ _ w Try.underlying44 _ _ 1 (fun w => by kernel_rfl) (fun w => by kernel_rfl) (fun w => by kernel_rfl) (fun w => by kernel_rfl) (fun w => by kernel_rfl)
    (fun w => equal_int 9998 _ _ Try.underlying3 a c w) (fun w => equal_int 9998 _ _ Try.underlying3 b d w)
theorem equal_struct2 {P : Program} (n : Nat) (t : TypeId) (f0 f1 : Field) (x0 x1 y0 y1 : Value) (b0 b1 : Bool) (w : World) (ht : P.underlying t = some (.struct #[f0, f1])) (hp : P.stoodInHeld t = false) (xs ys : Array Value) (n0 : (f0.name == "_") = false) (n1 : (f1.name == "_") = false)
    (p0 : ∀ w, (part f0.type xs f0.offset).run P w = .ok x0 w) (p1 : ∀ w, (part f1.type xs f1.offset).run P w = .ok x1 w) (q0 : ∀ w, (part f0.type ys f0.offset).run P w = .ok y0 w) (q1 : ∀ w, (part f1.type ys f1.offset).run P w = .ok y1 w)
    (h0 : ∀ w, (Op.equalIn n f0.type x0 y0).run P w = .ok b0 w) (h1 : ∀ w, (Op.equalIn n f1.type x1 y1).run P w = .ok b1 w) :
    (Op.equalIn (n + 1) t (.agg xs) (.agg ys)).run P w = .ok (b0 && b1) w := by
  have n0' : f0.name ≠ "_" := by simpa using n0
  have n1' : f1.name ≠ "_" := by simpa using n1
  simp only [Op.equalIn, Sem.run_bind, run_underlying ht, Result.andThen_ok, run_program, hp, Bool.false_eq_true, if_false]
  cases b0 <;> cases b1 <;> simp [p0, p1, q0, q1, h0, h1, n0', n1']
noncomputable def fR0 : Field := (Try.prog.fieldsOf 27)[0]!
noncomputable def fR1 : Field := (Try.prog.fieldsOf 27)[1]!
theorem tyR0 : fR0.type = 3 := by kernel_rfl
theorem tyR1 : fR1.type = 3 := by kernel_rfl
theorem undR : Try.prog.underlying 27 = some (.struct #[fR0, fR1]) := by kernel_rfl
theorem eqRange (n : Nat) (a b c d : Int) (w : World) : (Op.equalIn (n + 2) 27 (.agg #[.int .i64 a, .int .i64 b]) (.agg #[.int .i64 c, .int .i64 d])).run Try.prog w = .ok (a == c && b == d) w :=
  equal_struct2 (n + 1) _ fR0 fR1 (.int .i64 a) (.int .i64 b) (.int .i64 c) (.int .i64 d) _ _ w undR (by kernel_rfl) _ _ (by kernel_rfl) (by kernel_rfl) (fun w => by kernel_rfl) (fun w => by kernel_rfl) (fun w => by kernel_rfl) (fun w => by kernel_rfl)
    (fun w => by rw [tyR0]; exact equal_int n 3 _ Try.underlying3 a c w) (fun w => by rw [tyR1]; exact equal_int n 3 _ Try.underlying3 b d w)
theorem eqR1 (a b c d : Int) (w : World) : (Op.equalIn 10000 27 (.agg #[.int .i64 a, .int .i64 b]) (.agg #[.int .i64 c, .int .i64 d])).run Try.prog w = .ok (a == c && b == d) w := eqRange 9998 a b c d w
theorem eqR2 (a b c d e f g h : Int) (w : World) : (Op.equalIn 10000 31 (.agg #[.int .i64 a, .int .i64 b, .int .i64 c, .int .i64 d]) (.agg #[.int .i64 e, .int .i64 f, .int .i64 g, .int .i64 h])).run Try.prog w = .ok ((a == e && b == f) && (c == g && d == h)) w :=
  equal_arr2 9999 _ 27 (.agg #[.int .i64 a, .int .i64 b]) (.agg #[.int .i64 c, .int .i64 d]) (.agg #[.int .i64 e, .int .i64 f]) (.agg #[.int .i64 g, .int .i64 h]) _ _ w Try.underlying31 _ _ 2 (fun w => by kernel_rfl) (fun w => by kernel_rfl) (fun w => by kernel_rfl) (fun w => by kernel_rfl) (fun w => by kernel_rfl)
    (fun w => eqRange 9997 a b e f w) (fun w => eqRange 9997 c d g h w)
attribute [go_sem] eqA2 eqR1 eqR2
end Go.Proofs.Ythnfepfbkmafaaa
