/- Polygons: the program's fractions. -/
import Derived.Test.YthnfepfbkmafaaaX2
namespace Go.Proofs.Ythnfepfbkmafaaa
set_option linter.unusedVariables false
open Go.RowKit
def Fr.Fit (p : Fr) : Prop := Wide p.n ∧ Wide p.d
set_option maxHeartbeats 400000 in
theorem below_any (p q : Fr) (w : World) (hp : p.Fit) (hq : q.Fit) {c : Bool} (hc : p.lt q = c) :
    Calls Try.prog 145 #[.agg #[.int .i64 p.n, .int .i64 p.d], .agg #[.int .i64 q.n, .int .i64 q.d]] w fun e w' => e = .returned (.bool c) ∧ Below w.heap.size w w' := by
  subst hc
  have HF := Lib.hid (show p.lt q = decide (p.n * q.d < q.n * p.d) from rfl)
  obtain ⟨⟨a1, a2⟩, ⟨b1, b2⟩⟩ := hp
  obtain ⟨⟨c1, c2⟩, ⟨d1, d2⟩⟩ := hq
  obtain ⟨p1, p2⟩ := prod_bd 800000000 800000000 a1 a2 d1 d2 (by omega) (by omega)
  obtain ⟨q1, q2⟩ := prod_bd 800000000 800000000 c1 c2 b1 b2 (by omega) (by omega)
  simp only [Int.reduceMul, Int.reduceNeg] at p1 p2 q1 q2
  go_enter Try.func145, Try.ntmps145
  go_wp2
  go_ret
  exact ⟨ret_bool HF.out.symm, (by (repeat' (first | with_reducible exact Below.refl _ _ | (with_reducible refine below_later_of ?_ ?_ _) | (with_reducible refine Below.alloc ?_ ?_ _) | (with_reducible refine Below.setCell ?_ ?_ _) | (with_reducible refine Below.drew ?_) | (simp; done) | (simp; omega) | omega)))⟩
set_option maxHeartbeats 400000 in
theorem partOf_any (n d : Int) (w : World) (hn : Wide n) (hd : Wide d) {p : Fr} (hp : frOf n d = p) :
    Calls Try.prog 144 #[.int .i64 n, .int .i64 d] w fun e w' => e = .returned (.agg #[.int .i64 p.n, .int .i64 p.d]) ∧ Below w.heap.size w w' := by
  subst hp
  obtain ⟨a1, a2⟩ := hn
  obtain ⟨b1, b2⟩ := hd
  by_cases h : d < 0
  · have HF := Lib.hid (show frOf n d = ⟨-n, -d⟩ by unfold frOf; rw [if_pos h])
    go_enter Try.func144, Try.ntmps144
    go_wp2
    rw [HF.out]
    refine bodyPost_ret ?_ rfl ⟨rfl, (by (repeat' (first | with_reducible exact Below.refl _ _ | (with_reducible refine below_later_of ?_ ?_ _) | (with_reducible refine Below.alloc ?_ ?_ _) | (with_reducible refine Below.setCell ?_ ?_ _) | (with_reducible refine Below.drew ?_) | (simp; done) | (simp; omega) | omega)))⟩
    first | (simp [results, Try.results144, go_sem]; done) | simp [results, Try.results144, go_sem, ↓IntWalk.iteOmega]
  · have HF := Lib.hid (show frOf n d = ⟨n, d⟩ by unfold frOf; rw [if_neg h])
    go_enter Try.func144, Try.ntmps144
    go_wp2
    rw [HF.out]
    refine bodyPost_ret ?_ rfl ⟨rfl, (by (repeat' (first | with_reducible exact Below.refl _ _ | (with_reducible refine below_later_of ?_ ?_ _) | (with_reducible refine Below.alloc ?_ ?_ _) | (with_reducible refine Below.setCell ?_ ?_ _) | (with_reducible refine Below.drew ?_) | (simp; done) | (simp; omega) | omega)))⟩
    first | (simp [results, Try.results144, go_sem]; done) | simp [results, Try.results144, go_sem, ↓IntWalk.iteOmega]
end Go.Proofs.Ythnfepfbkmafaaa
