/- Contracts of the polygon's small functions. -/
import Derived.Test.YthnfepfbkmafaaaRows
import Derived.WalkKit
import Derived.WalkSpells
import Derived.WalkLawsBesides
import Derived.Lib.Hide
import Derived.Deep.LoopGhost
import Derived.Test.YthnfepfbkmafaaaL2
import Derived.Test.YthnfepfbkmafaaaP3
namespace Go.Proofs.Ythnfepfbkmafaaa
set_option linter.unusedVariables false
open Go.RowKit
/-- A side: from, to. -/
structure Sd where
  x1 : Int
  y1 : Int
  x2 : Int
  y2 : Int
def crossP (s : Sd) (x y : Int) : Int := (s.x2 - s.x1) * (y - s.y1) - (s.y2 - s.y1) * (x - s.x1)
def dotP (s : Sd) (x y : Int) : Int := (s.x1 - x) * (s.x2 - x) + (s.y1 - y) * (s.y2 - y)
def sgnP (n : Int) : Int := if 0 < n then 1 else if n < 0 then -1 else 0
def turnP (s : Sd) (x y : Int) : Int := sgnP (crossP s x y)
def hasP (s : Sd) (x y : Int) : Bool := decide (turnP s x y = 0) && decide (dotP s x y ≤ 0)
def meetsP (s o : Sd) : Bool :=
  (hasP s o.x1 o.y1 || (hasP s o.x2 o.y2 || (hasP o s.x1 s.y1 || hasP o s.x2 s.y2))) ||
  (decide (turnP s o.x1 o.y1 ≠ turnP s o.x2 o.y2) && decide (turnP o s.x1 s.y1 ≠ turnP o s.x2 s.y2))
/-- A number from -400000000 to 400000000. -/
def Mid (n : Int) : Prop := -400000000 ≤ n ∧ n ≤ 400000000
def Sd.Fit (s : Sd) : Prop := Mid s.x1 ∧ Mid s.y1 ∧ Mid s.x2 ∧ Mid s.y2
theorem prod_bd {a b : Int} (A B : Int) (a1 : -A ≤ a) (a2 : a ≤ A) (b1 : -B ≤ b) (b2 : b ≤ B) (hA : 0 ≤ A) (hB : 0 ≤ B) : -(A * B) ≤ a * b ∧ a * b ≤ A * B := by
  have h1 : a.natAbs * b.natAbs ≤ A.natAbs * B.natAbs := Nat.mul_le_mul (by omega) (by omega)
  have h2 : (a * b).natAbs ≤ (A * B).natAbs := by rw [Int.natAbs_mul, Int.natAbs_mul]; exact h1
  have h3 : 0 ≤ A * B := Int.mul_nonneg hA hB
  omega
set_option maxHeartbeats 400000 in
theorem cornerOf_any (x y z : Int) (w : World) :
    Calls Try.prog 116 #[.agg #[.int .i64 x, .int .i64 y, .int .i64 z]] w fun e w' => e = .returned (.agg #[.int .i64 x, .int .i64 y]) ∧ Below w.heap.size w w' := by
  go_enter Try.func116, Try.ntmps116
  go_wp2
  refine bodyPost_ret ?_ rfl ⟨rfl, (by (repeat' (first | with_reducible exact Below.refl _ _ | (with_reducible refine below_later_of ?_ ?_ _) | (with_reducible refine Below.alloc ?_ ?_ _) | (with_reducible refine Below.setCell ?_ ?_ _) | (with_reducible refine Below.drew ?_) | (simp; done) | (simp; omega) | omega)))⟩
  first | (simp [results, Try.results116, go_sem]; done) | simp [results, Try.results116, go_sem, ↓IntWalk.iteOmega]
set_option maxHeartbeats 400000 in
theorem less_any (a b c d : Int) (w : World) (h1 : Mid a) (h2 : Mid b) (h3 : Mid c) (h4 : Mid d) :
    Calls Try.prog 117 #[.agg #[.int .i64 a, .int .i64 b], .agg #[.int .i64 c, .int .i64 d]] w fun e w' => e = .returned (.agg #[.int .i64 (a - c), .int .i64 (b - d)]) ∧ Below w.heap.size w w' := by
  obtain ⟨a1, a2⟩ := h1
  obtain ⟨b1, b2⟩ := h2
  obtain ⟨c1, c2⟩ := h3
  obtain ⟨d1, d2⟩ := h4
  go_enter Try.func117, Try.ntmps117
  go_wp2
  refine bodyPost_ret ?_ rfl ⟨rfl, (by (repeat' (first | with_reducible exact Below.refl _ _ | (with_reducible refine below_later_of ?_ ?_ _) | (with_reducible refine Below.alloc ?_ ?_ _) | (with_reducible refine Below.setCell ?_ ?_ _) | (with_reducible refine Below.drew ?_) | (simp; done) | (simp; omega) | omega)))⟩
  first | (simp [results, Try.results117, go_sem]; done) | simp [results, Try.results117, go_sem, ↓IntWalk.iteOmega]
/-- A difference of two such numbers. -/
def Wide (n : Int) : Prop := -800000000 ≤ n ∧ n ≤ 800000000
theorem wide_sub {a b : Int} (h : Mid a) (k : Mid b) : Wide (a - b) := by unfold Mid at h k; unfold Wide; omega
set_option maxHeartbeats 400000 in
theorem cross_any (a b c d : Int) (w : World) (h1 : Wide a) (h2 : Wide b) (h3 : Wide c) (h4 : Wide d) :
    Calls Try.prog 118 #[.agg #[.int .i64 a, .int .i64 b], .agg #[.int .i64 c, .int .i64 d]] w fun e w' => e = .returned (.int .i64 (a * d - b * c)) ∧ Below w.heap.size w w' := by
  obtain ⟨a1, a2⟩ := h1
  obtain ⟨b1, b2⟩ := h2
  obtain ⟨c1, c2⟩ := h3
  obtain ⟨d1, d2⟩ := h4
  obtain ⟨p1, p2⟩ := prod_bd 800000000 800000000 a1 a2 d1 d2 (by omega) (by omega)
  obtain ⟨q1, q2⟩ := prod_bd 800000000 800000000 b1 b2 c1 c2 (by omega) (by omega)
  simp only [Int.reduceMul, Int.reduceNeg] at p1 p2 q1 q2
  go_enter Try.func118, Try.ntmps118
  go_wp2
  go_ret
  exact ⟨rfl, (by (repeat' (first | with_reducible exact Below.refl _ _ | (with_reducible refine below_later_of ?_ ?_ _) | (with_reducible refine Below.alloc ?_ ?_ _) | (with_reducible refine Below.setCell ?_ ?_ _) | (with_reducible refine Below.drew ?_) | (simp; done) | (simp; omega) | omega)))⟩
set_option maxHeartbeats 400000 in
theorem dot_any (a b c d : Int) (w : World) (h1 : Wide a) (h2 : Wide b) (h3 : Wide c) (h4 : Wide d) :
    Calls Try.prog 143 #[.agg #[.int .i64 a, .int .i64 b], .agg #[.int .i64 c, .int .i64 d]] w fun e w' => e = .returned (.int .i64 (a * c + b * d)) ∧ Below w.heap.size w w' := by
  obtain ⟨a1, a2⟩ := h1
  obtain ⟨b1, b2⟩ := h2
  obtain ⟨c1, c2⟩ := h3
  obtain ⟨d1, d2⟩ := h4
  obtain ⟨p1, p2⟩ := prod_bd 800000000 800000000 a1 a2 c1 c2 (by omega) (by omega)
  obtain ⟨q1, q2⟩ := prod_bd 800000000 800000000 b1 b2 d1 d2 (by omega) (by omega)
  simp only [Int.reduceMul, Int.reduceNeg] at p1 p2 q1 q2
  go_enter Try.func143, Try.ntmps143
  go_wp2
  go_ret
  exact ⟨rfl, (by (repeat' (first | with_reducible exact Below.refl _ _ | (with_reducible refine below_later_of ?_ ?_ _) | (with_reducible refine Below.alloc ?_ ?_ _) | (with_reducible refine Below.setCell ?_ ?_ _) | (with_reducible refine Below.drew ?_) | (simp; done) | (simp; omega) | omega)))⟩
set_option maxHeartbeats 1000000 in
theorem turn_any (s : Sd) (x y : Int) (w : World) (hs : s.Fit) (hx : Mid x) (hy : Mid y) {r : Int} (hr : turnP s x y = r) :
    Calls Try.prog 141 #[.agg #[.int .i64 s.x1, .int .i64 s.y1, .int .i64 s.x2, .int .i64 s.y2], .agg #[.int .i64 x, .int .i64 y]] w fun e w' => e = .returned (.int .i64 r) ∧ Below w.heap.size w w' := by
  subst hr
  obtain ⟨h1, h2, h3, h4⟩ := hs
  by_cases hp : 0 < crossP s x y
  · have HF := Lib.hid (show turnP s x y = 1 by unfold turnP sgnP; rw [if_pos hp])
    unfold crossP at hp
    go_enter Try.func141, Try.ntmps141
    go_wp2
    refine wp_region_calm (by kernel_rfl) (by kernel_rfl) ?_
    repeat (go_big_quiet_step (first | (go_at_call 117; exact calm_of (less_any _ _ _ _ _ (by assumption) (by assumption) (by assumption) (by assumption))) | (go_at_call 118; exact calm_of (cross_any _ _ _ _ _ (wide_sub (by assumption) (by assumption)) (wide_sub (by assumption) (by assumption)) (wide_sub (by assumption) (by assumption)) (wide_sub (by assumption) (by assumption))))))
    refine wpQuiet_nil ?_
    rintro _ ⟨p1, rfl⟩
    go_wp2
    go_ret
    exact ⟨ret_int HF.out.symm, (by (repeat' (first | with_reducible exact Below.refl _ _ | (with_reducible refine below_later_of ?_ ?_ _) | (with_reducible refine Below.alloc ?_ ?_ _) | (with_reducible refine Below.setCell ?_ ?_ _) | (with_reducible refine Below.drew ?_) | (simp; done) | (simp; omega) | omega)))⟩
  · by_cases hn : crossP s x y < 0
    · have HF := Lib.hid (show turnP s x y = -1 by unfold turnP sgnP; rw [if_neg hp, if_pos hn])
      unfold crossP at hp hn
      go_enter Try.func141, Try.ntmps141
      go_wp2
      refine wp_region_calm (by kernel_rfl) (by kernel_rfl) ?_
      repeat (go_big_quiet_step (first | (go_at_call 117; exact calm_of (less_any _ _ _ _ _ (by assumption) (by assumption) (by assumption) (by assumption))) | (go_at_call 118; exact calm_of (cross_any _ _ _ _ _ (wide_sub (by assumption) (by assumption)) (wide_sub (by assumption) (by assumption)) (wide_sub (by assumption) (by assumption)) (wide_sub (by assumption) (by assumption))))))
      refine wpQuiet_nil ?_
      rintro _ ⟨p1, rfl⟩
      go_wp2
      go_ret
      exact ⟨ret_int HF.out.symm, (by (repeat' (first | with_reducible exact Below.refl _ _ | (with_reducible refine below_later_of ?_ ?_ _) | (with_reducible refine Below.alloc ?_ ?_ _) | (with_reducible refine Below.setCell ?_ ?_ _) | (with_reducible refine Below.drew ?_) | (simp; done) | (simp; omega) | omega)))⟩
    · have HF := Lib.hid (show turnP s x y = 0 by unfold turnP sgnP; rw [if_neg hp, if_neg hn])
      unfold crossP at hp hn
      go_enter Try.func141, Try.ntmps141
      go_wp2
      refine wp_region_calm (by kernel_rfl) (by kernel_rfl) ?_
      repeat (go_big_quiet_step (first | (go_at_call 117; exact calm_of (less_any _ _ _ _ _ (by assumption) (by assumption) (by assumption) (by assumption))) | (go_at_call 118; exact calm_of (cross_any _ _ _ _ _ (wide_sub (by assumption) (by assumption)) (wide_sub (by assumption) (by assumption)) (wide_sub (by assumption) (by assumption)) (wide_sub (by assumption) (by assumption))))))
      refine wpQuiet_nil ?_
      rintro _ ⟨p1, rfl⟩
      go_wp2
      go_ret
      exact ⟨ret_int HF.out.symm, (by (repeat' (first | with_reducible exact Below.refl _ _ | (with_reducible refine below_later_of ?_ ?_ _) | (with_reducible refine Below.alloc ?_ ?_ _) | (with_reducible refine Below.setCell ?_ ?_ _) | (with_reducible refine Below.drew ?_) | (simp; done) | (simp; omega) | omega)))⟩
set_option maxHeartbeats 1000000 in
theorem has_any (s : Sd) (x y : Int) (w : World) (hs : s.Fit) (hx : Mid x) (hy : Mid y) {c : Bool} (hr : hasP s x y = c) :
    Calls Try.prog 121 #[.agg #[.int .i64 s.x1, .int .i64 s.y1, .int .i64 s.x2, .int .i64 s.y2], .agg #[.int .i64 x, .int .i64 y]] w fun e w' => e = .returned (.bool c) ∧ Below w.heap.size w w' := by
  subst hr
  have HS := Lib.hid hs
  obtain ⟨h1, h2, h3, h4⟩ := hs
  by_cases ht : turnP s x y = 0
  · have HF := Lib.hid (show hasP s x y = decide (dotP s x y ≤ 0) by unfold hasP; rw [ht]; rfl)
    have HT := Lib.hid ht
    unfold dotP at HF
    clear ht
    go_enter Try.func121, Try.ntmps121
    go_wp2
    refine wp_region_calm (by kernel_rfl) (by kernel_rfl) ?_
    repeat (go_big_quiet_step (first | (go_at_call 141; exact calm_of (turn_any s x y _ HS.out (by assumption) (by assumption) HT.out)) | (go_at_call 117; exact calm_of (less_any _ _ _ _ _ (by assumption) (by assumption) (by assumption) (by assumption))) | (go_at_call 143; exact calm_of (dot_any _ _ _ _ _ (wide_sub (by assumption) (by assumption)) (wide_sub (by assumption) (by assumption)) (wide_sub (by assumption) (by assumption)) (wide_sub (by assumption) (by assumption))))))
    refine wpQuiet_nil ?_
    rintro _ ⟨p1, rfl⟩
    go_wp2
    go_ret
    exact ⟨ret_bool HF.out.symm, (by (repeat' (first | with_reducible exact Below.refl _ _ | (with_reducible refine below_later_of ?_ ?_ _) | (with_reducible refine Below.alloc ?_ ?_ _) | (with_reducible refine Below.setCell ?_ ?_ _) | (with_reducible refine Below.drew ?_) | (simp; done) | (simp; omega) | omega)))⟩
  · obtain ⟨r, ht'⟩ : ∃ r, turnP s x y = r := ⟨_, rfl⟩
    have HF := Lib.hid (show hasP s x y = false by unfold hasP; rw [decide_eq_false ht]; rfl)
    rw [ht'] at ht
    have HT := Lib.hid ht'
    have hd : (r == 0) = false := by simpa using ht
    clear ht'
    go_enter Try.func121, Try.ntmps121
    go_wp2
    refine wp_region_calm (by kernel_rfl) (by kernel_rfl) ?_
    repeat (go_big_quiet_step (first | (go_at_call 141; exact calm_of (turn_any s x y _ HS.out (by assumption) (by assumption) HT.out)) | (go_at_call 117; exact calm_of (less_any _ _ _ _ _ (by assumption) (by assumption) (by assumption) (by assumption))) | (go_at_call 143; exact calm_of (dot_any _ _ _ _ _ (wide_sub (by assumption) (by assumption)) (wide_sub (by assumption) (by assumption)) (wide_sub (by assumption) (by assumption)) (wide_sub (by assumption) (by assumption))))))
    refine wpQuiet_nil ?_
    rintro _ ⟨p1, rfl⟩
    go_wp2
    go_ret
    exact ⟨ret_bool HF.out.symm, (by (repeat' (first | with_reducible exact Below.refl _ _ | (with_reducible refine below_later_of ?_ ?_ _) | (with_reducible refine Below.alloc ?_ ?_ _) | (with_reducible refine Below.setCell ?_ ?_ _) | (with_reducible refine Below.drew ?_) | (simp; done) | (simp; omega) | omega)))⟩
end Go.Proofs.Ythnfepfbkmafaaa
