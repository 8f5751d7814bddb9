/- Chapter 1: points compared. -/
import Derived.Test.YtakohhlmomgegaaDoorU117
namespace Go.Proofs.YtakohhlmomgegaaDoor
set_option linter.unusedVariables false
set_option linter.unusedSimpArgs false
open Go.RowKit
theorem equal_struct5 {P : Program} (n : Nat) (t : TypeId) (f0 f1 f2 f3 f4 : Go.Field) (x0 x1 x2 x3 x4 y0 y1 y2 y3 y4 : Value) (b0 b1 b2 b3 b4 : Bool) (w : World) (ht : P.underlying t = some (.struct #[f0, f1, f2, f3, f4])) (hp : P.stoodInHeld t = false) (xs ys : Array Value) (n0 : (f0.name == "_") = false) (n1 : (f1.name == "_") = false) (n2 : (f2.name == "_") = false) (n3 : (f3.name == "_") = false) (n4 : (f4.name == "_") = false)
    (p0 : ∀ w, (part f0.type xs f0.offset).run P w = .ok x0 w) (p1 : ∀ w, (part f1.type xs f1.offset).run P w = .ok x1 w) (p2 : ∀ w, (part f2.type xs f2.offset).run P w = .ok x2 w) (p3 : ∀ w, (part f3.type xs f3.offset).run P w = .ok x3 w) (p4 : ∀ w, (part f4.type xs f4.offset).run P w = .ok x4 w)
    (q0 : ∀ w, (part f0.type ys f0.offset).run P w = .ok y0 w) (q1 : ∀ w, (part f1.type ys f1.offset).run P w = .ok y1 w) (q2 : ∀ w, (part f2.type ys f2.offset).run P w = .ok y2 w) (q3 : ∀ w, (part f3.type ys f3.offset).run P w = .ok y3 w) (q4 : ∀ w, (part f4.type ys f4.offset).run P w = .ok y4 w)
    (h0 : ∀ w, (Op.equalIn n f0.type x0 y0).run P w = .ok b0 w) (h1 : ∀ w, (Op.equalIn n f1.type x1 y1).run P w = .ok b1 w) (h2 : ∀ w, (Op.equalIn n f2.type x2 y2).run P w = .ok b2 w) (h3 : ∀ w, (Op.equalIn n f3.type x3 y3).run P w = .ok b3 w) (h4 : ∀ w, (Op.equalIn n f4.type x4 y4).run P w = .ok b4 w) :
    (Op.equalIn (n + 1) t (.agg xs) (.agg ys)).run P w = .ok (b0 && (b1 && (b2 && (b3 && b4)))) w := by
  have n0' : f0.name ≠ "_" := by simpa using n0
  have n1' : f1.name ≠ "_" := by simpa using n1
  have n2' : f2.name ≠ "_" := by simpa using n2
  have n3' : f3.name ≠ "_" := by simpa using n3
  have n4' : f4.name ≠ "_" := by simpa using n4
  simp only [Op.equalIn, Sem.run_bind, run_underlying ht, Result.andThen_ok, run_program, hp, Bool.false_eq_true, if_false]
  cases b0 <;> cases b1 <;> cases b2 <;> cases b3 <;> cases b4 <;> simp [p0, p1, p2, p3, p4, q0, q1, q2, q3, q4, h0, h1, h2, h3, h4, n0', n1', n2', n3', n4']
noncomputable def fP (i : Nat) : Go.Field := (Tryd.prog.fieldsOf 111)[i]!
theorem undP : Tryd.prog.underlying 111 = some (.struct #[fP 0, fP 1, fP 2, fP 3, fP 4]) := by kernel_rfl
theorem tyP0 : (fP 0).type = 3 := by kernel_rfl
theorem tyP1 : (fP 1).type = 3 := by kernel_rfl
theorem tyP2 : (fP 2).type = 109 := by kernel_rfl
theorem tyP3 : (fP 3).type = 109 := by kernel_rfl
theorem tyP4 : (fP 4).type = 3 := by kernel_rfl
theorem eqPt (a0 a1 a2 a3 a4 a5 a6 c0 c1 c2 c3 c4 c5 c6 : Int) (w : World) : (Op.equalIn 10000 111 (.agg #[.int .i64 a0, .int .i64 a1, .int .i64 a2, .int .i64 a3, .int .i64 a4, .int .i64 a5, .int .i64 a6]) (.agg #[.int .i64 c0, .int .i64 c1, .int .i64 c2, .int .i64 c3, .int .i64 c4, .int .i64 c5, .int .i64 c6])).run Tryd.prog w = .ok ((a0 == c0) && ((a1 == c1) && ((a2 == c2 && a3 == c3) && ((a4 == c4 && a5 == c5) && (a6 == c6))))) w :=
  equal_struct5 9999 _ (fP 0) (fP 1) (fP 2) (fP 3) (fP 4) (.int .i64 a0) (.int .i64 a1) (.agg #[.int .i64 a2, .int .i64 a3]) (.agg #[.int .i64 a4, .int .i64 a5]) (.int .i64 a6) (.int .i64 c0) (.int .i64 c1) (.agg #[.int .i64 c2, .int .i64 c3]) (.agg #[.int .i64 c4, .int .i64 c5]) (.int .i64 c6) _ _ _ _ _ w undP (by kernel_rfl) _ _ (by kernel_rfl) (by kernel_rfl) (by kernel_rfl) (by kernel_rfl) (by kernel_rfl)
    (fun w => by kernel_rfl) (fun w => by kernel_rfl) (fun w => by kernel_rfl) (fun w => by kernel_rfl) (fun w => by kernel_rfl) (fun w => by kernel_rfl) (fun w => by kernel_rfl) (fun w => by kernel_rfl) (fun w => by kernel_rfl) (fun w => by kernel_rfl)
    (fun w => by rw [tyP0]; exact equal_int 9998 3 _ Tryd.underlying3 a0 c0 w) (fun w => by rw [tyP1]; exact equal_int 9998 3 _ Tryd.underlying3 a1 c1 w)
    (fun w => by rw [tyP2]; exact eqRange 9997 a2 a3 c2 c3 w) (fun w => by rw [tyP3]; exact eqRange 9997 a4 a5 c4 c5 w) (fun w => by rw [tyP4]; exact equal_int 9998 3 _ Tryd.underlying3 a6 c6 w)
attribute [go_sem] eqPt
end Go.Proofs.YtakohhlmomgegaaDoor
