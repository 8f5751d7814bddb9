/- Chapter 1: the reference's Compress. -/
import Derived.Test.YtakohhlmomgegaaGreatDoorU78
import Derived.Test.YtakohhlmomgegaaGreatDoorZP
import Derived.Test.YtakohhlmomgegaaGreatDoorU80
import Derived.Deep.AppendLies
import Derived.Deep.RegionLaw
namespace Go.Proofs.YtakohhlmomgegaaGreatDoor
set_option linter.unusedVariables false
set_option linter.unusedSimpArgs false
open Go.RowKit Ieee Ntt
set_option maxHeartbeats 1000000 in
theorem rTimes (x y u v : Int) (w : World) (hx : -1000000000 ≤ x ∧ x ≤ 1000000000) (hy : -1000000000 ≤ y ∧ y ≤ 1000000000) (hu : -1000000000 ≤ u ∧ u ≤ 1000000000) (hv : -1000000000 ≤ v ∧ v ≤ 1000000000) :
    Calls Tryz.prog 38 #[.int .i64 x, .int .i64 y, .int .i64 u, .int .i64 v] w fun e w' => e = .returned (.tuple #[.int .i64 (x * u + y * v), .int .i64 (y * u - x * v)]) ∧ w = w' := by
  have m1 := mul_bd2 (x := x) (y := u) (A := 1000000000) (B := 1000000000) hx hu
  have m2 := mul_bd2 (x := y) (y := v) (A := 1000000000) (B := 1000000000) hy hv
  have m3 := mul_bd2 (x := y) (y := u) (A := 1000000000) (B := 1000000000) hy hu
  have m4 := mul_bd2 (x := x) (y := v) (A := 1000000000) (B := 1000000000) hx hv
  simp only [Int.reduceMul] at m1 m2 m3 m4
  obtain ⟨p1, p2⟩ := m1
  obtain ⟨p3, p4⟩ := m2
  obtain ⟨p5, p6⟩ := m3
  obtain ⟨p7, p8⟩ := m4
  go_enter Tryz.func38, Tryz.ntmps38
  go_wp2
  go_ret2
  exact ⟨rfl, rfl⟩
theorem sNum_flI {a b : Nat} {x y : Int} (h : SNum a b x y) : FlI .f32 61 a x ∧ FlI .f32 61 b y := by
  obtain ⟨h1, h2, h3, h4⟩ := h
  exact ⟨flI_single h1 (by omega) (by omega), flI_single h2 (by omega) (by omega)⟩
/-- A field that is returned with an error, by the bits. -/
def RFld (L S : Int) (n : Nat) (F : Nat → Nat × Nat) (w : World) (e : Ending) (w' : World) : Prop :=
  ∃ a c, e = .returned (.tuple #[.agg #[.int .i64 L, .int .i64 S, .slice a n c], .int .i64 0]) ∧ OwnS w' w.heap.size n F a ∧ Below w.heap.size w w'
end Go.Proofs.YtakohhlmomgegaaGreatDoor
