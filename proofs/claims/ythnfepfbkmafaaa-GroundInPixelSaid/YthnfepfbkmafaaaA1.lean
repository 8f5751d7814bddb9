import Derived.Test.YthnfepfbkmafaaaRows
import Derived.WalkKit
import Derived.WalkSpells
import Derived.WalkLawsBesides
import Derived.Lib.Hide
import Derived.Test.YthnfepfbkmafaaaL1
import Derived.Test.YthnfepfbkmafaaaP2
namespace Go.Proofs.Ythnfepfbkmafaaa
set_option linter.unusedVariables false
open Go.RowKit

set_option maxHeartbeats 400000 in
theorem within_any (n lo hi : Int) (w : World) :
    Calls Try.prog 85 #[.int .i64 n, .int .i64 lo, .int .i64 hi] w fun e w' => e = .returned (.bool (inR lo hi n)) ∧ w = w' := by
  unfold inR
  go_enter Try.func85, Try.ntmps85
  by_cases h1 : lo ≤ n
  · go_wp2
    go_ret
    exact ⟨by simp [h1], rfl⟩
  · have h2 : decide (lo ≤ n) = false := by simpa using h1
    go_wp2
    go_ret
    exact ⟨by simp, rfl⟩

set_option maxHeartbeats 400000 in
theorem off_any (t : Trk) (x : Int) (w : World) (h1 : -100000000 ≤ t.sx) (h2 : t.sx ≤ 100000000) (h3 : -1000000000 ≤ x) (h4 : x ≤ 1000000000) :
    Calls Try.prog 88 #[.agg #[.int .i64 t.sx, .int .i64 t.sy, .int .i64 t.sz, .int .i64 t.step, .int .i64 t.lines, .int .i64 t.near, .int .i64 t.bin, .int .i64 t.bins, .bool t.east], .int .i64 x] w
      fun e w' => e = .returned (.int .i64 (offP t x)) ∧ Below w.heap.size w w' := by
  unfold offP
  cases he : t.east
  · go_enter Try.func88, Try.ntmps88
    go_wp2
    go_ret
    exact ⟨by simp, (Below.refl _ _).alloc (Nat.le_refl _) _⟩
  · go_enter Try.func88, Try.ntmps88
    go_wp2
    go_ret
    exact ⟨by simp, (Below.refl _ _).alloc (Nat.le_refl _) _⟩

set_option maxHeartbeats 400000 in
theorem depth_any (t : Trk) (x : Int) (w : World) (h1 : -100000000 ≤ t.sz) (h2 : t.sz ≤ 100000000) (h3 : -1000000000 ≤ x) (h4 : x ≤ 1000000000) :
    Calls Try.prog 74 #[.agg #[.int .i64 t.sx, .int .i64 t.sy, .int .i64 t.sz, .int .i64 t.step, .int .i64 t.lines, .int .i64 t.near, .int .i64 t.bin, .int .i64 t.bins, .bool t.east], .int .i64 x] w
      fun e w' => e = .returned (.int .i64 (depthP t x)) ∧ Below w.heap.size w w' := by
  unfold depthP
  go_enter Try.func74, Try.ntmps74
  go_wp2
  go_ret
  exact ⟨rfl, (Below.refl _ _).alloc (Nat.le_refl _) _⟩


set_option maxHeartbeats 1000000 in
theorem square_any (t : Trk) (x y z : Int) (w : World) (h1 : -100000000 ≤ t.sx) (h2 : t.sx ≤ 100000000) (h3 : -100000000 ≤ x) (h4 : x ≤ 100000000)
     (k1 : -100000000 ≤ t.sz) (k2 : t.sz ≤ 100000000) (k3 : -100000000 ≤ z) (k4 : z ≤ 100000000) :
    Calls Try.prog 86 #[.agg #[.int .i64 t.sx, .int .i64 t.sy, .int .i64 t.sz, .int .i64 t.step, .int .i64 t.lines, .int .i64 t.near, .int .i64 t.bin, .int .i64 t.bins, .bool t.east], .agg #[.int .i64 x, .int .i64 y, .int .i64 z]] w
      fun e w' => e = .returned (.int .i64 (offP t x * offP t x + depthP t z * depthP t z)) ∧ Below w.heap.size w w' := by
  have b1 := sq_bd (offP t x) 200000000 (by unfold offP; split <;> omega) (by unfold offP; split <;> omega)
  have b2 := sq_bd (depthP t z) 200000000 (by unfold depthP; omega) (by unfold depthP; omega)
  simp only [Int.reduceMul] at b1 b2
  obtain ⟨b11, b12⟩ := b1
  obtain ⟨b21, b22⟩ := b2
  go_enter Try.func86, Try.ntmps86
  go_wp2
  refine wp_region_calm (by kernel_rfl) (by kernel_rfl) ?_
  repeat (go_big_quiet_step (first | (go_at_call 88; exact calm_of (off_any t _ _ (by omega) (by omega) (by omega) (by omega))) | (go_at_call 74; exact calm_of (depth_any t _ _ (by omega) (by omega) (by omega) (by omega)))))
  refine wpQuiet_nil ?_
  rintro _ ⟨p1, rfl⟩
  go_wp2
  go_ret
  exact ⟨rfl, (by (repeat' (first | with_reducible exact Below.refl _ _ | (with_reducible refine below_later_of ?_ ?_ _) | (with_reducible refine Below.alloc ?_ ?_ _) | (with_reducible refine Below.setCell ?_ ?_ _) | (with_reducible refine Below.drew ?_) | (simp; done) | (simp; omega) | omega)))⟩

end Go.Proofs.Ythnfepfbkmafaaa
