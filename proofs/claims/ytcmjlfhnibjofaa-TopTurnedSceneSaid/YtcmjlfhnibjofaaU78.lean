/- Chapter 1: the reference's checks of fields and codes. -/
import Derived.Test.YtcmjlfhnibjofaaU77
namespace Go.Proofs.Ytcmjlfhnibjofaa
set_option linter.unusedVariables false
set_option linter.unusedSimpArgs false
open Go.RowKit Ieee Ntt
theorem anyC_succ (k : Nat) (f : Nat → Nat × Nat) : anyC (k + 1) f = (anyC k f || nzC (f k).1 (f k).2) := by
  unfold anyC
  rw [List.range_succ, List.any_append]
  simp
end Go.Proofs.Ytcmjlfhnibjofaa
