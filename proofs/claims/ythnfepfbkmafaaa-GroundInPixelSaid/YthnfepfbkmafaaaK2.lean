/- Sights: what hides, what lies over. -/
import Derived.Test.YthnfepfbkmafaaaK1
namespace Go.Proofs.Ythnfepfbkmafaaa
set_option linter.unusedVariables false
open Go.RowKit
def sqP (a b : Int) : Int := a * a + b * b
def hidesP (a b c d : Int) : Bool := decide (a < c) && decide (c * b ≤ a * d)
def liesP (a b c d : Int) : Bool := (decide (a < c) && decide (sqP c d ≤ sqP a b)) || (decide (c < a) && decide (sqP a b ≤ sqP c d))
/-- A number from -400000000 to 400000000. -/
def Big4 (n : Int) : Prop := -400000000 ≤ n ∧ n ≤ 400000000
theorem prod4 {a b : Int} (h : Big4 a) (k : Big4 b) : -160000000000000000 ≤ a * b ∧ a * b ≤ 160000000000000000 := by
  have h1 : a.natAbs * b.natAbs ≤ 400000000 * 400000000 := Nat.mul_le_mul (by unfold Big4 at h; omega) (by unfold Big4 at k; omega)
  rw [← Int.natAbs_mul] at h1
  omega
theorem sqP_bd {a b : Int} (h : Big4 a) (k : Big4 b) : -320000000000000000 ≤ sqP a b ∧ sqP a b ≤ 320000000000000000 := by
  have := prod4 h h
  have := prod4 k k
  unfold sqP; omega
set_option maxHeartbeats 400000 in
theorem ssquare_any (a b : Int) (w : World) (ha : Big4 a) (hb : Big4 b) :
    Calls Try.prog 147 #[.agg #[.int .i64 a, .int .i64 b]] w fun e w' => e = .returned (.int .i64 (sqP a b)) ∧ Below w.heap.size w w' := by
  obtain ⟨p1, p2⟩ := prod4 ha ha
  obtain ⟨q1, q2⟩ := prod4 hb hb
  unfold sqP
  go_enter Try.func147, Try.ntmps147
  go_wp2
  go_ret
  exact ⟨rfl, (by (repeat' (first | with_reducible exact Below.refl _ _ | (with_reducible refine below_later_of ?_ ?_ _) | (with_reducible refine Below.alloc ?_ ?_ _) | (with_reducible refine Below.setCell ?_ ?_ _) | (with_reducible refine Below.drew ?_) | (simp; done) | (simp; omega) | omega)))⟩
set_option maxHeartbeats 1000000 in
theorem hides_any (a b c d : Int) (w : World) (ha : Big4 a) (hb : Big4 b) (hc : Big4 c) (hd : Big4 d) {x : Bool} (hx : hidesP a b c d = x) :
    Calls Try.prog 100 #[.agg #[.int .i64 a, .int .i64 b], .agg #[.int .i64 c, .int .i64 d]] w fun e w' => e = .returned (.bool x) ∧ Below w.heap.size w w' := by
  subst hx
  obtain ⟨p1, p2⟩ := prod4 ha hd
  obtain ⟨q1, q2⟩ := prod4 hc hb
  unfold hidesP
  by_cases h : a < c
  · go_enter Try.func100, Try.ntmps100
    go_wp2
    go_ret
    exact ⟨ret_bool (by simp [h]), (by (repeat' (first | with_reducible exact Below.refl _ _ | (with_reducible refine below_later_of ?_ ?_ _) | (with_reducible refine Below.alloc ?_ ?_ _) | (with_reducible refine Below.setCell ?_ ?_ _) | (with_reducible refine Below.drew ?_) | (simp; done) | (simp; omega) | omega)))⟩
  · have h' : decide (a < c) = false := by simpa using h
    go_enter Try.func100, Try.ntmps100
    go_wp2
    go_ret
    exact ⟨ret_bool (by simp), (by (repeat' (first | with_reducible exact Below.refl _ _ | (with_reducible refine below_later_of ?_ ?_ _) | (with_reducible refine Below.alloc ?_ ?_ _) | (with_reducible refine Below.setCell ?_ ?_ _) | (with_reducible refine Below.drew ?_) | (simp; done) | (simp; omega) | omega)))⟩
set_option maxHeartbeats 1000000 in
theorem lies_any (a b c d : Int) (w : World) (ha : Big4 a) (hb : Big4 b) (hc : Big4 c) (hd : Big4 d) {x : Bool} (hx : liesP a b c d = x) :
    Calls Try.prog 138 #[.agg #[.int .i64 a, .int .i64 b], .agg #[.int .i64 c, .int .i64 d]] w fun e w' => e = .returned (.bool x) ∧ Below w.heap.size w w' := by
  subst hx
  by_cases h : a < c
  · have hn : ¬ c < a := by omega
    have hn' : decide (c < a) = false := by simpa using hn
    have HF := Lib.hid (show liesP a b c d = decide (sqP c d ≤ sqP a b) by unfold liesP; simp [h, hn])
    by_cases g : sqP c d ≤ sqP a b
    · have HG := Lib.hid (show liesP a b c d = true by rw [HF.out]; simpa using g)
      have hg : decide (sqP c d ≤ sqP a b) = true := by simpa using g
      clear HF hn'
      go_enter Try.func138, Try.ntmps138
      go_wp2
      refine wp_region_calm (by kernel_rfl) (by kernel_rfl) ?_
      repeat (go_big_quiet_step (first | (go_at_call 147; exact calm_of (ssquare_any _ _ _ (by assumption) (by assumption)))))
      refine wpQuiet_nil ?_
      rintro _ ⟨p1, rfl⟩
      go_wp2
      go_ret
      exact ⟨ret_bool HG.out.symm, (by (repeat' (first | with_reducible exact Below.refl _ _ | (with_reducible refine below_later_of ?_ ?_ _) | (with_reducible refine Below.alloc ?_ ?_ _) | (with_reducible refine Below.setCell ?_ ?_ _) | (with_reducible refine Below.drew ?_) | (simp; done) | (simp; omega) | omega)))⟩
    · have HG := Lib.hid (show liesP a b c d = false by rw [HF.out]; simpa using g)
      have hg : decide (sqP c d ≤ sqP a b) = false := by simpa using g
      clear HF
      go_enter Try.func138, Try.ntmps138
      go_wp2
      refine wp_region_calm (by kernel_rfl) (by kernel_rfl) ?_
      repeat (go_big_quiet_step (first | (go_at_call 147; exact calm_of (ssquare_any _ _ _ (by assumption) (by assumption)))))
      refine wpQuiet_nil ?_
      rintro _ ⟨p1, rfl⟩
      go_wp2
      go_ret
      exact ⟨ret_bool HG.out.symm, (by (repeat' (first | with_reducible exact Below.refl _ _ | (with_reducible refine below_later_of ?_ ?_ _) | (with_reducible refine Below.alloc ?_ ?_ _) | (with_reducible refine Below.setCell ?_ ?_ _) | (with_reducible refine Below.drew ?_) | (simp; done) | (simp; omega) | omega)))⟩
  · have h' : decide (a < c) = false := by simpa using h
    by_cases k : c < a
    · have HF := Lib.hid (show liesP a b c d = decide (sqP a b ≤ sqP c d) by unfold liesP; simp [h, k])
      go_enter Try.func138, Try.ntmps138
      go_wp2
      refine wp_region_calm (by kernel_rfl) (by kernel_rfl) ?_
      repeat (go_big_quiet_step (first | (go_at_call 147; exact calm_of (ssquare_any _ _ _ (by assumption) (by assumption)))))
      refine wpQuiet_nil ?_
      rintro _ ⟨p1, rfl⟩
      go_wp2
      go_ret
      exact ⟨ret_bool HF.out.symm, (by (repeat' (first | with_reducible exact Below.refl _ _ | (with_reducible refine below_later_of ?_ ?_ _) | (with_reducible refine Below.alloc ?_ ?_ _) | (with_reducible refine Below.setCell ?_ ?_ _) | (with_reducible refine Below.drew ?_) | (simp; done) | (simp; omega) | omega)))⟩
    · have k' : decide (c < a) = false := by simpa using k
      have HF := Lib.hid (show liesP a b c d = false by unfold liesP; simp [h, k])
      go_enter Try.func138, Try.ntmps138
      go_wp2
      refine wp_region_calm (by kernel_rfl) (by kernel_rfl) ?_
      repeat (go_big_quiet_step (first | (go_at_call 147; exact calm_of (ssquare_any _ _ _ (by assumption) (by assumption)))))
      refine wpQuiet_nil ?_
      rintro _ ⟨p1, rfl⟩
      go_wp2
      go_ret
      exact ⟨ret_bool HF.out.symm, (by (repeat' (first | with_reducible exact Below.refl _ _ | (with_reducible refine below_later_of ?_ ?_ _) | (with_reducible refine Below.alloc ?_ ?_ _) | (with_reducible refine Below.setCell ?_ ?_ _) | (with_reducible refine Below.drew ?_) | (simp; done) | (simp; omega) | omega)))⟩
end Go.Proofs.Ythnfepfbkmafaaa
