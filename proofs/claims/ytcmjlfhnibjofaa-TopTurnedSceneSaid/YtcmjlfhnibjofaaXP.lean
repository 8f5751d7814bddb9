import Derived.Test.YtcmjlfhnibjofaaXO
import Derived.Test.YtcmjlfhnibjofaaX19
import Derived.Test.YtcmjlfhnibjofaaX5
import Derived.Test.YtcmjlfhnibjofaaX20
import Derived.Test.YtcmjlfhnibjofaaU78
/- Chapter 4: the reference's sums of blocks; Filtered. -/
namespace Go.Proofs.Ytcmjlfhnibjofaa
set_option linter.unusedVariables false
set_option linter.unusedSimpArgs false
open Go.RowKit Ieee Ntt
theorem flDN {b : Nat} {n : Int} (h : FNum Ieee.double b n) (h1 : -9000000000000000000 ≤ n) (h2 : n ≤ 9000000000000000000) : FlI .f64 200 b n := flD h h1 h2
end Go.Proofs.Ytcmjlfhnibjofaa

/- Chapter 4: the reference's Filtered. -/
namespace Go.Proofs.Ytcmjlfhnibjofaa
set_option linter.unusedVariables false
set_option linter.unusedSimpArgs false
open Go.RowKit Ieee Ntt
/-- What the reference's Filtered says of a right window. -/
def FilPost (L S n : Nat) (F : Nat → Int × Int) (w : World) (e : Ending) (w' : World) : Prop :=
  (anyL n F = true ∧ e = .returned (.tuple #[.agg #[.int .i64 0, .int .i64 0, .slice none 0 0], .int .i64 8]) ∧ Below w.heap.size w w') ∨
  (anyL n F = false ∧ ∃ a c, e = .returned (.tuple #[.agg #[.int .i64 L, .int .i64 S, .slice a n c], .int .i64 0]) ∧ OwnS w' w.heap.size n (nmF F) a ∧ n ≤ c ∧ Below w.heap.size w w')
end Go.Proofs.Ytcmjlfhnibjofaa

/- Chapter 4: the law's fields of parts. -/
namespace Go.Proofs.Ytcmjlfhnibjofaa
set_option linter.unusedVariables false
set_option linter.unusedSimpArgs false
open Go.ChangeShapes Go.WideShapes Go.RowKit Ieee Ntt
/-- The numbers of parts. -/
def prtF (zs : List Int) (k : Nat) : Nat × Nat := (f64I (intAt zs (2 * k)), f64I (intAt zs (2 * k + 1)))
theorem prt_wide (zs : List Int) (n : Nat) : Wide64 n (prtF zs) := fun k _ => ⟨f64I_lt _, f64I_lt _⟩
theorem ownS_fld {W : World} {B n : Nat} {L S : Int} {f : Nat → Nat × Nat} {a : Option Addr} (h : OwnS W B n f a) : FldAt W L S n f a := fun hs => by
  obtain ⟨⟨h1, h2⟩, ⟨h3, h4⟩, h5⟩ := sizeE_okU hs
  have : 0 < n := by
    have := Int.mul_le_mul h1 h3 (by decide) (by omega)
    omega
  obtain ⟨g, e, -, hg, hs⟩ := h this
  exact ⟨g, 0, e, hg, hs⟩
def SmPost (L S : Int) (n : Nat) (f : Nat → Nat × Nat) (w : World) (e : Ending) (w' : World) : Prop :=
  ∃ a c, e = .returned (.agg #[.int .i64 L, .int .i64 S, .slice a n c]) ∧ OwnS w' w.heap.size n f a ∧ Below w.heap.size w w'
end Go.Proofs.Ytcmjlfhnibjofaa
