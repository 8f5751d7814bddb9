/- base.Within; arrays of two numbers compared. -/
import Derived.Test.YtkoiknmijjiicaaGreatDoorZG
namespace Go.Proofs.YtkoiknmijjiicaaGreatDoor
set_option linter.unusedVariables false
set_option linter.unusedSimpArgs false
open Go.RowKit
set_option maxHeartbeats 400000 in
theorem bWithin (n lo hi : Int) (w : World) {c : Bool} (hc : inE lo hi n = c) : Calls Tryz.prog 46 #[.int .i64 n, .int .i64 lo, .int .i64 hi] w fun e w' => e = .returned (.bool c) ∧ w = w' := by
  subst hc
  unfold inE
  by_cases h : lo ≤ n
  · have d1 : decide (lo ≤ n) = true := by simpa using h
    clear h
    go_enter Tryz.func46, Tryz.ntmps46
    go_wp2
    go_ret
    exact ⟨by rw [d1]; rfl, rfl⟩
  · have d1 : decide (lo ≤ n) = false := by simpa using h
    clear h
    go_enter Tryz.func46, Tryz.ntmps46
    go_wp2
    go_ret
    exact ⟨by rw [d1]; rfl, rfl⟩
theorem equal_arr2 {P : Program} (n : Nat) (t e : TypeId) (x0 x1 y0 y1 : Value) (b0 b1 : Bool) (w : World) (ht : P.underlying t = some (.array 2 e)) (xs ys : Array Value) (sz : Nat) (hs : ∀ w, (sizeOf e).run P w = .ok sz w)
    (p0 : ∀ w, (part e xs 0).run P w = .ok x0 w) (p1 : ∀ w, (part e xs sz).run P w = .ok x1 w) (q0 : ∀ w, (part e ys 0).run P w = .ok y0 w) (q1 : ∀ w, (part e ys sz).run P w = .ok y1 w)
    (h0 : ∀ w, (Op.equalIn n e x0 y0).run P w = .ok b0 w) (h1 : ∀ w, (Op.equalIn n e x1 y1).run P w = .ok b1 w) :
    (Op.equalIn (n + 1) t (.agg xs) (.agg ys)).run P w = .ok (b0 && b1) w := by
  simp only [Op.equalIn, Sem.run_bind, run_underlying ht, Result.andThen_ok, hs]
  cases b0 <;> cases b1 <;> simp [Std.Legacy.Range.forIn_eq_forIn_range', Std.Legacy.Range.size, List.range', p0, p1, q0, q1, h0, h1]
theorem equal_int {P : Program} (n : Nat) (e : TypeId) (k : IntKind) (he : P.underlying e = some (.int k)) (a b : Int) (w : World) : (Op.equalIn (n + 1) e (.int k a) (.int k b)).run P w = .ok (a == b) w :=
  run_equalIn_int w n e k k a b he
end Go.Proofs.YtkoiknmijjiicaaGreatDoor
