/- Chapter 1: samples as numbers of a field; the numbers that Compress names. -/
import Derived.Test.YtelchmimhnpkaaaU17
namespace Go.Proofs.Ytelchmimhnpkaaa
set_option linter.unusedVariables false
open Go.RowKit Ieee
theorem wide_num {b : Nat} {x : Int} (h : FNum single b x) (hx : x.natAbs < 9007199254740992) : ∃ r, floatToFloatBits .f32 b .f64 = some r ∧ FNum double r x ∧ r < 2 ^ 64 := by
  obtain ⟨s, m, e, a, h1, h2, rfl⟩ := h
  obtain ⟨g1, g2, g3⟩ := read_single h1
  obtain ⟨k, last, d, hr, _⟩ := wide_of (s := s) g1 g2 g3
  have hd : FloatKind.f32.decode b = .number s m e := h1
  have hd2 : FloatKind.f64.decode (FloatKind.f64.encode (.number s m e)) = .number s k last := hr
  rw [sgn_abs] at hx
  refine ⟨double.write (.number s m e), ?_, write_num good_double h2 (by show a < 9007199254740992; omega), double.write_lt _⟩
  unfold floatToFloatBits
  rw [if_neg (by decide), hd]
  dsimp only
  rw [hd2]
  rfl
/-- A sample with whole parts. -/
def SNum (a b : Nat) (x y : Int) : Prop := FNum single a x ∧ FNum single b y ∧ (-1000000 ≤ x ∧ x ≤ 1000000) ∧ -1000000 ≤ y ∧ y ≤ 1000000
theorem wide_c {a b : Nat} {x y : Int} (h : SNum a b x y) : ∃ re im, cConvBits .f32 a b .f64 = some (re, im) ∧ CNum re im x y := by
  obtain ⟨h1, h2, ⟨h3, h4⟩, h5, h6⟩ := h
  obtain ⟨re, q1, p1, l1⟩ := wide_num h1 (by omega)
  obtain ⟨im, q2, p2, l2⟩ := wide_num h2 (by omega)
  refine ⟨re, im, ?_, ⟨p1, p2, l1, l2⟩⟩
  unfold cConvBits
  rw [q1, q2]
  rfl
theorem run_wide {a b re im : Nat} (h : cConvBits .f32 a b .f64 = some (re, im)) (w : World) : (convert 103 43 (.complex .f32 a b)).run Try.prog w = .ok (.complex .f64 re im) w :=
  run_convert_complex w 103 43 .f32 .f64 a b re im (by kernel_rfl) Try.underlying43 h
end Go.Proofs.Ytelchmimhnpkaaa
