/- General laws, second part. -/
import Derived.Test.YthnfepfbkmafaaaL1
namespace Go.Proofs.Ythnfepfbkmafaaa
set_option linter.unusedVariables false
open Go Go.RowKit

@[go_sem ↓] theorem run_max_int {P : Program} (ats : Array TypeId) (ty : TypeId) (k : IntKind) (a b : Int) (w : World) : (Builtin.max_ ats ty #[.int k a, .int k b]).run P w = .ok (.int k (max a b)) w := by
  have e : max a b = if b > a then b else a := by split <;> omega
  rw [e]; rfl
@[go_sem ↓] theorem run_min_int {P : Program} (ats : Array TypeId) (ty : TypeId) (k : IntKind) (a b : Int) (w : World) : (Builtin.min_ ats ty #[.int k a, .int k b]).run P w = .ok (.int k (min a b)) w := by
  have e : min a b = if b < a then b else a := by split <;> omega
  rw [e]; rfl
end Go.Proofs.Ythnfepfbkmafaaa
