/- Chapter 4: the reference's Interfere. -/
import Derived.Test.YtcmjlfhnibjofaaXE
import Derived.Test.YtcmjlfhnibjofaaZH
namespace Go.Proofs.Ytcmjlfhnibjofaa
set_option linter.unusedVariables false
set_option linter.unusedSimpArgs false
open Go.RowKit Ieee Ntt
/-- A field that the reference returns. -/
def RfPost (L S n : Nat) (f : Nat → Nat × Nat) (w : World) (e : Ending) (w' : World) : Prop :=
  ∃ a c, e = .returned (.agg #[.int .i64 L, .int .i64 S, .slice a n c]) ∧ OwnS w' w.heap.size n f a ∧ n ≤ c ∧ Below w.heap.size w w'
theorem sNum_flI4 {a b : Nat} {x y : Int} (h : SNum a b x y) : FlI .f32 121 a x ∧ FlI .f32 121 b y := by
  obtain ⟨h1, h2, h3, h4⟩ := h
  exact ⟨flI_single h1 (by omega) (by omega), flI_single h2 (by omega) (by omega)⟩
end Go.Proofs.Ytcmjlfhnibjofaa
