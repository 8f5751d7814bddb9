/- Chapter 1: equality of ranges. -/
import Derived.Test.YtkoiknmijjiicaaGreatDoorU63
namespace Go.Proofs.YtkoiknmijjiicaaGreatDoor
set_option linter.unusedVariables false
set_option linter.unusedSimpArgs false
open Go.RowKit
theorem equal_struct2 {P : Program} (n : Nat) (t : TypeId) (f0 f1 : Go.Field) (x0 x1 y0 y1 : Value) (b0 b1 : Bool) (w : World) (ht : P.underlying t = some (.struct #[f0, f1])) (hp : P.stoodInHeld t = false) (xs ys : Array Value) (n0 : (f0.name == "_") = false) (n1 : (f1.name == "_") = false)
    (p0 : ∀ w, (part f0.type xs f0.offset).run P w = .ok x0 w) (p1 : ∀ w, (part f1.type xs f1.offset).run P w = .ok x1 w) (q0 : ∀ w, (part f0.type ys f0.offset).run P w = .ok y0 w) (q1 : ∀ w, (part f1.type ys f1.offset).run P w = .ok y1 w)
    (h0 : ∀ w, (Op.equalIn n f0.type x0 y0).run P w = .ok b0 w) (h1 : ∀ w, (Op.equalIn n f1.type x1 y1).run P w = .ok b1 w) :
    (Op.equalIn (n + 1) t (.agg xs) (.agg ys)).run P w = .ok (b0 && b1) w := by
  have n0' : f0.name ≠ "_" := by simpa using n0
  have n1' : f1.name ≠ "_" := by simpa using n1
  simp only [Op.equalIn, Sem.run_bind, run_underlying ht, Result.andThen_ok, run_program, hp, Bool.false_eq_true, if_false]
  cases b0 <;> cases b1 <;> simp [p0, p1, q0, q1, h0, h1, n0', n1']
end Go.Proofs.YtkoiknmijjiicaaGreatDoor
