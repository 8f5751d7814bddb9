import Derived.Test.YtokpdmlmlkkekaaRows
import Derived.WalkKit
import Derived.WalkSpells
import Derived.WalkLawsBesides
import Derived.Lib.Hide
import Derived.Deep.LoopGhost
import Derived.Test.YtokpdmlmlkkekaaZL
import Derived.OwnWalk
import Derived.Maps.OwnSet
import Derived.WideKeyPair
import Derived.Test.YtokpdmlmlkkekaaZA
import Derived.Maps.OwnOps
/- Contracts of the polygon's small functions. -/
namespace Go.Proofs.Ytokpdmlmlkkekaa
set_option linter.unusedVariables false
open Go.RowKit
/-- A side: from, to. -/
structure Sd where
  x1 : Int
  y1 : Int
  x2 : Int
  y2 : Int
def crossP (s : Sd) (x y : Int) : Int := (s.x2 - s.x1) * (y - s.y1) - (s.y2 - s.y1) * (x - s.x1)
def dotP (s : Sd) (x y : Int) : Int := (s.x1 - x) * (s.x2 - x) + (s.y1 - y) * (s.y2 - y)
def sgnP (n : Int) : Int := if 0 < n then 1 else if n < 0 then -1 else 0
def turnP (s : Sd) (x y : Int) : Int := sgnP (crossP s x y)
def hasP (s : Sd) (x y : Int) : Bool := decide (turnP s x y = 0) && decide (dotP s x y ≤ 0)
def meetsP (s o : Sd) : Bool :=
  (hasP s o.x1 o.y1 || (hasP s o.x2 o.y2 || (hasP o s.x1 s.y1 || hasP o s.x2 s.y2))) ||
  (decide (turnP s o.x1 o.y1 ≠ turnP s o.x2 o.y2) && decide (turnP o s.x1 s.y1 ≠ turnP o s.x2 s.y2))
/-- A number from -400000000 to 400000000. -/
def Mid (n : Int) : Prop := -400000000 ≤ n ∧ n ≤ 400000000
def Sd.Fit (s : Sd) : Prop := Mid s.x1 ∧ Mid s.y1 ∧ Mid s.x2 ∧ Mid s.y2
theorem prod_bd {a b : Int} (A B : Int) (a1 : -A ≤ a) (a2 : a ≤ A) (b1 : -B ≤ b) (b2 : b ≤ B) (hA : 0 ≤ A) (hB : 0 ≤ B) : -(A * B) ≤ a * b ∧ a * b ≤ A * B := by
  have h1 : a.natAbs * b.natAbs ≤ A.natAbs * B.natAbs := Nat.mul_le_mul (by omega) (by omega)
  have h2 : (a * b).natAbs ≤ (A * B).natAbs := by rw [Int.natAbs_mul, Int.natAbs_mul]; exact h1
  have h3 : 0 ≤ A * B := Int.mul_nonneg hA hB
  omega
set_option maxHeartbeats 400000 in
theorem cornerOf_any (x y z : Int) (w : World) :
    Calls Try.prog 120 #[.agg #[.int .i64 x, .int .i64 y, .int .i64 z]] w fun e w' => e = .returned (.agg #[.int .i64 x, .int .i64 y]) ∧ Below w.heap.size w w' := by
  go_enter Try.func120, Try.ntmps120
  go_wp2
  refine bodyPost_ret ?_ rfl ⟨rfl, (by (repeat' (first | with_reducible exact Below.refl _ _ | (with_reducible refine below_later_of ?_ ?_ _) | (with_reducible refine Below.alloc ?_ ?_ _) | (with_reducible refine Below.setCell ?_ ?_ _) | (with_reducible refine Below.drew ?_) | (simp; done) | (simp; omega) | omega)))⟩
  first | (simp [results, Try.results120, go_sem]; done) | simp [results, Try.results120, go_sem, ↓IntWalk.iteOmega]
set_option maxHeartbeats 400000 in
theorem less_any (a b c d : Int) (w : World) (h1 : Mid a) (h2 : Mid b) (h3 : Mid c) (h4 : Mid d) :
    Calls Try.prog 121 #[.agg #[.int .i64 a, .int .i64 b], .agg #[.int .i64 c, .int .i64 d]] w fun e w' => e = .returned (.agg #[.int .i64 (a - c), .int .i64 (b - d)]) ∧ Below w.heap.size w w' := by
  obtain ⟨a1, a2⟩ := h1
  obtain ⟨b1, b2⟩ := h2
  obtain ⟨c1, c2⟩ := h3
  obtain ⟨d1, d2⟩ := h4
  go_enter Try.func121, Try.ntmps121
  go_wp2
  refine bodyPost_ret ?_ rfl ⟨rfl, (by (repeat' (first | with_reducible exact Below.refl _ _ | (with_reducible refine below_later_of ?_ ?_ _) | (with_reducible refine Below.alloc ?_ ?_ _) | (with_reducible refine Below.setCell ?_ ?_ _) | (with_reducible refine Below.drew ?_) | (simp; done) | (simp; omega) | omega)))⟩
  first | (simp [results, Try.results121, go_sem]; done) | simp [results, Try.results121, go_sem, ↓IntWalk.iteOmega]
/-- A difference of two such numbers. -/
def Wide (n : Int) : Prop := -800000000 ≤ n ∧ n ≤ 800000000
theorem wide_sub {a b : Int} (h : Mid a) (k : Mid b) : Wide (a - b) := by unfold Mid at h k; unfold Wide; omega
set_option maxHeartbeats 400000 in
theorem cross_any (a b c d : Int) (w : World) (h1 : Wide a) (h2 : Wide b) (h3 : Wide c) (h4 : Wide d) :
    Calls Try.prog 122 #[.agg #[.int .i64 a, .int .i64 b], .agg #[.int .i64 c, .int .i64 d]] w fun e w' => e = .returned (.int .i64 (a * d - b * c)) ∧ Below w.heap.size w w' := by
  obtain ⟨a1, a2⟩ := h1
  obtain ⟨b1, b2⟩ := h2
  obtain ⟨c1, c2⟩ := h3
  obtain ⟨d1, d2⟩ := h4
  obtain ⟨p1, p2⟩ := prod_bd 800000000 800000000 a1 a2 d1 d2 (by omega) (by omega)
  obtain ⟨q1, q2⟩ := prod_bd 800000000 800000000 b1 b2 c1 c2 (by omega) (by omega)
  simp only [Int.reduceMul, Int.reduceNeg] at p1 p2 q1 q2
  go_enter Try.func122, Try.ntmps122
  go_wp2
  go_ret
  exact ⟨rfl, (by (repeat' (first | with_reducible exact Below.refl _ _ | (with_reducible refine below_later_of ?_ ?_ _) | (with_reducible refine Below.alloc ?_ ?_ _) | (with_reducible refine Below.setCell ?_ ?_ _) | (with_reducible refine Below.drew ?_) | (simp; done) | (simp; omega) | omega)))⟩
set_option maxHeartbeats 400000 in
theorem dot_any (a b c d : Int) (w : World) (h1 : Wide a) (h2 : Wide b) (h3 : Wide c) (h4 : Wide d) :
    Calls Try.prog 147 #[.agg #[.int .i64 a, .int .i64 b], .agg #[.int .i64 c, .int .i64 d]] w fun e w' => e = .returned (.int .i64 (a * c + b * d)) ∧ Below w.heap.size w w' := by
  obtain ⟨a1, a2⟩ := h1
  obtain ⟨b1, b2⟩ := h2
  obtain ⟨c1, c2⟩ := h3
  obtain ⟨d1, d2⟩ := h4
  obtain ⟨p1, p2⟩ := prod_bd 800000000 800000000 a1 a2 c1 c2 (by omega) (by omega)
  obtain ⟨q1, q2⟩ := prod_bd 800000000 800000000 b1 b2 d1 d2 (by omega) (by omega)
  simp only [Int.reduceMul, Int.reduceNeg] at p1 p2 q1 q2
  go_enter Try.func147, Try.ntmps147
  go_wp2
  go_ret
  exact ⟨rfl, (by (repeat' (first | with_reducible exact Below.refl _ _ | (with_reducible refine below_later_of ?_ ?_ _) | (with_reducible refine Below.alloc ?_ ?_ _) | (with_reducible refine Below.setCell ?_ ?_ _) | (with_reducible refine Below.drew ?_) | (simp; done) | (simp; omega) | omega)))⟩
set_option maxHeartbeats 1000000 in
theorem turn_any (s : Sd) (x y : Int) (w : World) (hs : s.Fit) (hx : Mid x) (hy : Mid y) {r : Int} (hr : turnP s x y = r) :
    Calls Try.prog 145 #[.agg #[.int .i64 s.x1, .int .i64 s.y1, .int .i64 s.x2, .int .i64 s.y2], .agg #[.int .i64 x, .int .i64 y]] w fun e w' => e = .returned (.int .i64 r) ∧ Below w.heap.size w w' := by
  subst hr
  obtain ⟨h1, h2, h3, h4⟩ := hs
  by_cases hp : 0 < crossP s x y
  · have HF := Lib.hid (show turnP s x y = 1 by unfold turnP sgnP; rw [if_pos hp])
    unfold crossP at hp
    go_enter Try.func145, Try.ntmps145
    go_wp2
    refine wp_region_calm (by kernel_rfl) (by kernel_rfl) ?_
    repeat (go_big_quiet_step (first | (go_at_call 121; exact calm_of (less_any _ _ _ _ _ (by assumption) (by assumption) (by assumption) (by assumption))) | (go_at_call 122; exact calm_of (cross_any _ _ _ _ _ (wide_sub (by assumption) (by assumption)) (wide_sub (by assumption) (by assumption)) (wide_sub (by assumption) (by assumption)) (wide_sub (by assumption) (by assumption))))))
    refine wpQuiet_nil ?_
    rintro _ ⟨p1, rfl⟩
    go_wp2
    go_ret
    exact ⟨ret_int HF.out.symm, (by (repeat' (first | with_reducible exact Below.refl _ _ | (with_reducible refine below_later_of ?_ ?_ _) | (with_reducible refine Below.alloc ?_ ?_ _) | (with_reducible refine Below.setCell ?_ ?_ _) | (with_reducible refine Below.drew ?_) | (simp; done) | (simp; omega) | omega)))⟩
  · by_cases hn : crossP s x y < 0
    · have HF := Lib.hid (show turnP s x y = -1 by unfold turnP sgnP; rw [if_neg hp, if_pos hn])
      unfold crossP at hp hn
      go_enter Try.func145, Try.ntmps145
      go_wp2
      refine wp_region_calm (by kernel_rfl) (by kernel_rfl) ?_
      repeat (go_big_quiet_step (first | (go_at_call 121; exact calm_of (less_any _ _ _ _ _ (by assumption) (by assumption) (by assumption) (by assumption))) | (go_at_call 122; exact calm_of (cross_any _ _ _ _ _ (wide_sub (by assumption) (by assumption)) (wide_sub (by assumption) (by assumption)) (wide_sub (by assumption) (by assumption)) (wide_sub (by assumption) (by assumption))))))
      refine wpQuiet_nil ?_
      rintro _ ⟨p1, rfl⟩
      go_wp2
      go_ret
      exact ⟨ret_int HF.out.symm, (by (repeat' (first | with_reducible exact Below.refl _ _ | (with_reducible refine below_later_of ?_ ?_ _) | (with_reducible refine Below.alloc ?_ ?_ _) | (with_reducible refine Below.setCell ?_ ?_ _) | (with_reducible refine Below.drew ?_) | (simp; done) | (simp; omega) | omega)))⟩
    · have HF := Lib.hid (show turnP s x y = 0 by unfold turnP sgnP; rw [if_neg hp, if_neg hn])
      unfold crossP at hp hn
      go_enter Try.func145, Try.ntmps145
      go_wp2
      refine wp_region_calm (by kernel_rfl) (by kernel_rfl) ?_
      repeat (go_big_quiet_step (first | (go_at_call 121; exact calm_of (less_any _ _ _ _ _ (by assumption) (by assumption) (by assumption) (by assumption))) | (go_at_call 122; exact calm_of (cross_any _ _ _ _ _ (wide_sub (by assumption) (by assumption)) (wide_sub (by assumption) (by assumption)) (wide_sub (by assumption) (by assumption)) (wide_sub (by assumption) (by assumption))))))
      refine wpQuiet_nil ?_
      rintro _ ⟨p1, rfl⟩
      go_wp2
      go_ret
      exact ⟨ret_int HF.out.symm, (by (repeat' (first | with_reducible exact Below.refl _ _ | (with_reducible refine below_later_of ?_ ?_ _) | (with_reducible refine Below.alloc ?_ ?_ _) | (with_reducible refine Below.setCell ?_ ?_ _) | (with_reducible refine Below.drew ?_) | (simp; done) | (simp; omega) | omega)))⟩
set_option maxHeartbeats 1000000 in
theorem has_any (s : Sd) (x y : Int) (w : World) (hs : s.Fit) (hx : Mid x) (hy : Mid y) {c : Bool} (hr : hasP s x y = c) :
    Calls Try.prog 125 #[.agg #[.int .i64 s.x1, .int .i64 s.y1, .int .i64 s.x2, .int .i64 s.y2], .agg #[.int .i64 x, .int .i64 y]] w fun e w' => e = .returned (.bool c) ∧ Below w.heap.size w w' := by
  subst hr
  have HS := Lib.hid hs
  obtain ⟨h1, h2, h3, h4⟩ := hs
  by_cases ht : turnP s x y = 0
  · have HF := Lib.hid (show hasP s x y = decide (dotP s x y ≤ 0) by unfold hasP; rw [ht]; rfl)
    have HT := Lib.hid ht
    unfold dotP at HF
    clear ht
    go_enter Try.func125, Try.ntmps125
    go_wp2
    refine wp_region_calm (by kernel_rfl) (by kernel_rfl) ?_
    repeat (go_big_quiet_step (first | (go_at_call 145; exact calm_of (turn_any s x y _ HS.out (by assumption) (by assumption) HT.out)) | (go_at_call 121; exact calm_of (less_any _ _ _ _ _ (by assumption) (by assumption) (by assumption) (by assumption))) | (go_at_call 147; exact calm_of (dot_any _ _ _ _ _ (wide_sub (by assumption) (by assumption)) (wide_sub (by assumption) (by assumption)) (wide_sub (by assumption) (by assumption)) (wide_sub (by assumption) (by assumption))))))
    refine wpQuiet_nil ?_
    rintro _ ⟨p1, rfl⟩
    go_wp2
    go_ret
    exact ⟨ret_bool HF.out.symm, (by (repeat' (first | with_reducible exact Below.refl _ _ | (with_reducible refine below_later_of ?_ ?_ _) | (with_reducible refine Below.alloc ?_ ?_ _) | (with_reducible refine Below.setCell ?_ ?_ _) | (with_reducible refine Below.drew ?_) | (simp; done) | (simp; omega) | omega)))⟩
  · obtain ⟨r, ht'⟩ : ∃ r, turnP s x y = r := ⟨_, rfl⟩
    have HF := Lib.hid (show hasP s x y = false by unfold hasP; rw [decide_eq_false ht]; rfl)
    rw [ht'] at ht
    have HT := Lib.hid ht'
    have hd : (r == 0) = false := by simpa using ht
    clear ht'
    go_enter Try.func125, Try.ntmps125
    go_wp2
    refine wp_region_calm (by kernel_rfl) (by kernel_rfl) ?_
    repeat (go_big_quiet_step (first | (go_at_call 145; exact calm_of (turn_any s x y _ HS.out (by assumption) (by assumption) HT.out)) | (go_at_call 121; exact calm_of (less_any _ _ _ _ _ (by assumption) (by assumption) (by assumption) (by assumption))) | (go_at_call 147; exact calm_of (dot_any _ _ _ _ _ (wide_sub (by assumption) (by assumption)) (wide_sub (by assumption) (by assumption)) (wide_sub (by assumption) (by assumption)) (wide_sub (by assumption) (by assumption))))))
    refine wpQuiet_nil ?_
    rintro _ ⟨p1, rfl⟩
    go_wp2
    go_ret
    exact ⟨ret_bool HF.out.symm, (by (repeat' (first | with_reducible exact Below.refl _ _ | (with_reducible refine below_later_of ?_ ?_ _) | (with_reducible refine Below.alloc ?_ ?_ _) | (with_reducible refine Below.setCell ?_ ?_ _) | (with_reducible refine Below.drew ?_) | (simp; done) | (simp; omega) | omega)))⟩
end Go.Proofs.Ytokpdmlmlkkekaa

namespace Go.Proofs.Ytokpdmlmlkkekaa
set_option linter.unusedVariables false
open Go.RowKit
set_option maxHeartbeats 4000000 in
theorem meets_any (s o : Sd) (w : World) (hs : s.Fit) (ho : o.Fit) {c : Bool} (hr : meetsP s o = c) :
    Calls Try.prog 126 #[.agg #[.int .i64 s.x1, .int .i64 s.y1, .int .i64 s.x2, .int .i64 s.y2], .agg #[.int .i64 o.x1, .int .i64 o.y1, .int .i64 o.x2, .int .i64 o.y2]] w fun e w' => e = .returned (.bool c) ∧ Below w.heap.size w w' := by
  subst hr
  have HS := Lib.hid hs
  have HO := Lib.hid ho
  obtain ⟨s1, s2, s3, s4⟩ := hs
  obtain ⟨o1, o2, o3, o4⟩ := ho
  rcases (show hasP s o.x1 o.y1 = false ∨ hasP s o.x1 o.y1 = true by cases hasP s o.x1 o.y1 <;> simp) with h1 | h1
  · rcases (show hasP s o.x2 o.y2 = false ∨ hasP s o.x2 o.y2 = true by cases hasP s o.x2 o.y2 <;> simp) with h2 | h2
    · rcases (show hasP o s.x1 s.y1 = false ∨ hasP o s.x1 s.y1 = true by cases hasP o s.x1 s.y1 <;> simp) with h3 | h3
      · rcases (show hasP o s.x2 s.y2 = false ∨ hasP o s.x2 s.y2 = true by cases hasP o s.x2 s.y2 <;> simp) with h4 | h4
        · obtain ⟨t1, e1⟩ : ∃ t1, turnP s o.x1 o.y1 = t1 := ⟨_, rfl⟩
          obtain ⟨t2, e2⟩ : ∃ t2, turnP s o.x2 o.y2 = t2 := ⟨_, rfl⟩
          obtain ⟨t3, e3⟩ : ∃ t3, turnP o s.x1 s.y1 = t3 := ⟨_, rfl⟩
          obtain ⟨t4, e4⟩ : ∃ t4, turnP o s.x2 s.y2 = t4 := ⟨_, rfl⟩
          have HF := Lib.hid (show meetsP s o = (decide (t1 ≠ t2) && decide (t3 ≠ t4)) by unfold meetsP; rw [h1, h2, h3, h4, e1, e2, e3, e4]; rfl)
          have H1 := Lib.hid h1
          have T1 := Lib.hid e1
          have H2 := Lib.hid h2
          have T2 := Lib.hid e2
          have H3 := Lib.hid h3
          have T3 := Lib.hid e3
          have H4 := Lib.hid h4
          have T4 := Lib.hid e4
          clear h1 h2 h3 h4 e1 e2 e3 e4
          by_cases ht : t1 = t2
          · have hd : (t1 != t2) = false := by simpa using ht
            have HG := Lib.hid (show meetsP s o = false by rw [HF.out, decide_eq_false (by simpa using ht)]; rfl)
            clear HF
            go_enter Try.func126, Try.ntmps126
            go_wp2_with (first | (go_at_call 125; (with_reducible refine (has_any s o.x1 o.y1 _ HS.out (by assumption) (by assumption) H1.out).mono ?_); rintro e w' ⟨rfl, hb⟩; obtain ⟨pp, rfl⟩ := later_of_below hb; clear hb) | (go_at_call 125; (with_reducible refine (has_any s o.x2 o.y2 _ HS.out (by assumption) (by assumption) H2.out).mono ?_); rintro e w' ⟨rfl, hb⟩; obtain ⟨pp, rfl⟩ := later_of_below hb; clear hb) | (go_at_call 125; (with_reducible refine (has_any o s.x1 s.y1 _ HO.out (by assumption) (by assumption) H3.out).mono ?_); rintro e w' ⟨rfl, hb⟩; obtain ⟨pp, rfl⟩ := later_of_below hb; clear hb) | (go_at_call 125; (with_reducible refine (has_any o s.x2 s.y2 _ HO.out (by assumption) (by assumption) H4.out).mono ?_); rintro e w' ⟨rfl, hb⟩; obtain ⟨pp, rfl⟩ := later_of_below hb; clear hb))
            refine wp_region_calm (by kernel_rfl) (by kernel_rfl) ?_
            repeat (go_big_quiet_step (first | (go_at_call 145; with_reducible exact calm_of (turn_any s o.x1 o.y1 _ HS.out (by assumption) (by assumption) T1.out)) | (go_at_call 145; with_reducible exact calm_of (turn_any s o.x2 o.y2 _ HS.out (by assumption) (by assumption) T2.out)) | (go_at_call 145; with_reducible exact calm_of (turn_any o s.x1 s.y1 _ HO.out (by assumption) (by assumption) T3.out)) | (go_at_call 145; with_reducible exact calm_of (turn_any o s.x2 s.y2 _ HO.out (by assumption) (by assumption) T4.out))))
            refine wpQuiet_nil ?_
            rintro _ ⟨p1, rfl⟩
            go_wp2
            go_ret
            exact ⟨ret_bool HG.out.symm, (by (repeat' (first | with_reducible exact Below.refl _ _ | (with_reducible refine below_later_of ?_ ?_ _) | (with_reducible refine Below.alloc ?_ ?_ _) | (with_reducible refine Below.setCell ?_ ?_ _) | (with_reducible refine Below.drew ?_) | (simp; done) | (simp; omega) | omega)))⟩
          · have hd : (t1 != t2) = true := by simpa using ht
            have HG := Lib.hid (show meetsP s o = (t3 != t4) by rw [HF.out, decide_eq_true ht, Bool.true_and]; by_cases h : t3 = t4 <;> simp [h])
            clear HF
            go_enter Try.func126, Try.ntmps126
            go_wp2_with (first | (go_at_call 125; (with_reducible refine (has_any s o.x1 o.y1 _ HS.out (by assumption) (by assumption) H1.out).mono ?_); rintro e w' ⟨rfl, hb⟩; obtain ⟨pp, rfl⟩ := later_of_below hb; clear hb) | (go_at_call 125; (with_reducible refine (has_any s o.x2 o.y2 _ HS.out (by assumption) (by assumption) H2.out).mono ?_); rintro e w' ⟨rfl, hb⟩; obtain ⟨pp, rfl⟩ := later_of_below hb; clear hb) | (go_at_call 125; (with_reducible refine (has_any o s.x1 s.y1 _ HO.out (by assumption) (by assumption) H3.out).mono ?_); rintro e w' ⟨rfl, hb⟩; obtain ⟨pp, rfl⟩ := later_of_below hb; clear hb) | (go_at_call 125; (with_reducible refine (has_any o s.x2 s.y2 _ HO.out (by assumption) (by assumption) H4.out).mono ?_); rintro e w' ⟨rfl, hb⟩; obtain ⟨pp, rfl⟩ := later_of_below hb; clear hb))
            refine wp_region_calm (by kernel_rfl) (by kernel_rfl) ?_
            repeat (go_big_quiet_step (first | (go_at_call 145; with_reducible exact calm_of (turn_any s o.x1 o.y1 _ HS.out (by assumption) (by assumption) T1.out)) | (go_at_call 145; with_reducible exact calm_of (turn_any s o.x2 o.y2 _ HS.out (by assumption) (by assumption) T2.out)) | (go_at_call 145; with_reducible exact calm_of (turn_any o s.x1 s.y1 _ HO.out (by assumption) (by assumption) T3.out)) | (go_at_call 145; with_reducible exact calm_of (turn_any o s.x2 s.y2 _ HO.out (by assumption) (by assumption) T4.out))))
            refine wpQuiet_nil ?_
            rintro _ ⟨p1, rfl⟩
            go_wp2
            go_ret
            exact ⟨ret_bool HG.out.symm, (by (repeat' (first | with_reducible exact Below.refl _ _ | (with_reducible refine below_later_of ?_ ?_ _) | (with_reducible refine Below.alloc ?_ ?_ _) | (with_reducible refine Below.setCell ?_ ?_ _) | (with_reducible refine Below.drew ?_) | (simp; done) | (simp; omega) | omega)))⟩
        · have HF := Lib.hid (show meetsP s o = true by unfold meetsP; rw [h1, h2, h3, h4]; simp)
          have H1 := Lib.hid h1
          have H2 := Lib.hid h2
          have H3 := Lib.hid h3
          have H4 := Lib.hid h4
          clear h1 h2 h3 h4
          go_enter Try.func126, Try.ntmps126
          go_wp2_with (first | (go_at_call 125; (with_reducible refine (has_any s o.x1 o.y1 _ HS.out (by assumption) (by assumption) H1.out).mono ?_); rintro e w' ⟨rfl, hb⟩; obtain ⟨pp, rfl⟩ := later_of_below hb; clear hb) | (go_at_call 125; (with_reducible refine (has_any s o.x2 o.y2 _ HS.out (by assumption) (by assumption) H2.out).mono ?_); rintro e w' ⟨rfl, hb⟩; obtain ⟨pp, rfl⟩ := later_of_below hb; clear hb) | (go_at_call 125; (with_reducible refine (has_any o s.x1 s.y1 _ HO.out (by assumption) (by assumption) H3.out).mono ?_); rintro e w' ⟨rfl, hb⟩; obtain ⟨pp, rfl⟩ := later_of_below hb; clear hb) | (go_at_call 125; (with_reducible refine (has_any o s.x2 s.y2 _ HO.out (by assumption) (by assumption) H4.out).mono ?_); rintro e w' ⟨rfl, hb⟩; obtain ⟨pp, rfl⟩ := later_of_below hb; clear hb))
          go_ret
          exact ⟨ret_bool HF.out.symm, (by (repeat' (first | with_reducible exact Below.refl _ _ | (with_reducible refine below_later_of ?_ ?_ _) | (with_reducible refine Below.alloc ?_ ?_ _) | (with_reducible refine Below.setCell ?_ ?_ _) | (with_reducible refine Below.drew ?_) | (simp; done) | (simp; omega) | omega)))⟩
      · have HF := Lib.hid (show meetsP s o = true by unfold meetsP; rw [h1, h2, h3]; simp)
        have H1 := Lib.hid h1
        have H2 := Lib.hid h2
        have H3 := Lib.hid h3
        clear h1 h2 h3
        go_enter Try.func126, Try.ntmps126
        go_wp2_with (first | (go_at_call 125; (with_reducible refine (has_any s o.x1 o.y1 _ HS.out (by assumption) (by assumption) H1.out).mono ?_); rintro e w' ⟨rfl, hb⟩; obtain ⟨pp, rfl⟩ := later_of_below hb; clear hb) | (go_at_call 125; (with_reducible refine (has_any s o.x2 o.y2 _ HS.out (by assumption) (by assumption) H2.out).mono ?_); rintro e w' ⟨rfl, hb⟩; obtain ⟨pp, rfl⟩ := later_of_below hb; clear hb) | (go_at_call 125; (with_reducible refine (has_any o s.x1 s.y1 _ HO.out (by assumption) (by assumption) H3.out).mono ?_); rintro e w' ⟨rfl, hb⟩; obtain ⟨pp, rfl⟩ := later_of_below hb; clear hb))
        go_ret
        exact ⟨ret_bool HF.out.symm, (by (repeat' (first | with_reducible exact Below.refl _ _ | (with_reducible refine below_later_of ?_ ?_ _) | (with_reducible refine Below.alloc ?_ ?_ _) | (with_reducible refine Below.setCell ?_ ?_ _) | (with_reducible refine Below.drew ?_) | (simp; done) | (simp; omega) | omega)))⟩
    · have HF := Lib.hid (show meetsP s o = true by unfold meetsP; rw [h1, h2]; simp)
      have H1 := Lib.hid h1
      have H2 := Lib.hid h2
      clear h1 h2
      go_enter Try.func126, Try.ntmps126
      go_wp2_with (first | (go_at_call 125; (with_reducible refine (has_any s o.x1 o.y1 _ HS.out (by assumption) (by assumption) H1.out).mono ?_); rintro e w' ⟨rfl, hb⟩; obtain ⟨pp, rfl⟩ := later_of_below hb; clear hb) | (go_at_call 125; (with_reducible refine (has_any s o.x2 o.y2 _ HS.out (by assumption) (by assumption) H2.out).mono ?_); rintro e w' ⟨rfl, hb⟩; obtain ⟨pp, rfl⟩ := later_of_below hb; clear hb))
      go_ret
      exact ⟨ret_bool HF.out.symm, (by (repeat' (first | with_reducible exact Below.refl _ _ | (with_reducible refine below_later_of ?_ ?_ _) | (with_reducible refine Below.alloc ?_ ?_ _) | (with_reducible refine Below.setCell ?_ ?_ _) | (with_reducible refine Below.drew ?_) | (simp; done) | (simp; omega) | omega)))⟩
  · have HF := Lib.hid (show meetsP s o = true by unfold meetsP; rw [h1]; simp)
    have H1 := Lib.hid h1
    clear h1
    go_enter Try.func126, Try.ntmps126
    go_wp2_with (first | (go_at_call 125; (with_reducible refine (has_any s o.x1 o.y1 _ HS.out (by assumption) (by assumption) H1.out).mono ?_); rintro e w' ⟨rfl, hb⟩; obtain ⟨pp, rfl⟩ := later_of_below hb; clear hb))
    go_ret
    exact ⟨ret_bool HF.out.symm, (by (repeat' (first | with_reducible exact Below.refl _ _ | (with_reducible refine below_later_of ?_ ?_ _) | (with_reducible refine Below.alloc ?_ ?_ _) | (with_reducible refine Below.setCell ?_ ?_ _) | (with_reducible refine Below.drew ?_) | (simp; done) | (simp; omega) | omega)))⟩
end Go.Proofs.Ytokpdmlmlkkekaa

/- The sides of a polygon. -/
namespace Go.Proofs.Ytokpdmlmlkkekaa
set_option linter.unusedVariables false
open Go.RowKit
/-- A place. -/
structure Plc where
  x : Int
  y : Int
  z : Int
def plc0 : Plc := ⟨0, 0, 0⟩
def plcAt (ps : List Plc) (k : Nat) : Plc := ps[k]?.getD plc0
/-- Block b holds these places, one behind the other. -/
def Places (w : World) (b : Nat) (ps : List Plc) : Prop :=
  ∀ k, k < ps.length → w.cell? ⟨b, k * 3, none⟩ = some (.int .i64 (plcAt ps k).x) ∧ w.cell? ⟨b, k * 3 + 1, none⟩ = some (.int .i64 (plcAt ps k).y) ∧ w.cell? ⟨b, k * 3 + 2, none⟩ = some (.int .i64 (plcAt ps k).z)
theorem Places.below {w w' : World} {b B : Nat} {ps : List Plc} (h : Places w b ps) (hb : b < B) (hw : Below B w w') : Places w' b ps := fun k hk =>
  ⟨(hw.cell (p := ⟨b, k * 3, none⟩) hb).trans (h k hk).1, (hw.cell (p := ⟨b, k * 3 + 1, none⟩) hb).trans (h k hk).2.1, (hw.cell (p := ⟨b, k * 3 + 2, none⟩) hb).trans (h k hk).2.2⟩
/-- The next number, round and round. -/
def nextN (n k : Nat) : Nat := if k + 1 < n then k + 1 else 0
def sideAt (ps : List Plc) (m : Int) (k : Nat) : Sd := ⟨m * (plcAt ps k).x, m * (plcAt ps k).y, m * (plcAt ps (nextN ps.length k)).x, m * (plcAt ps (nextN ps.length k)).y⟩
def Sd.cells (s : Sd) : List Value := [.int .i64 s.x1, .int .i64 s.y1, .int .i64 s.x2, .int .i64 s.y2]
def sidesUpto (ps : List Plc) (m : Int) : Nat → List Value
  | 0 => []
  | k + 1 => sidesUpto ps m k ++ (sideAt ps m k).cells
theorem info175 : (Try.prog.info? 175).map (fun i => (i.zero, i.size, i.bytes)) = some (some (.agg #[.int .i64 0, .int .i64 0, .int .i64 0, .int .i64 0]), 4, 32) := by kernel_rfl
def Mid1 (p : Plc) : Prop := -100000000 ≤ p.x ∧ p.x ≤ 100000000 ∧ -100000000 ≤ p.y ∧ p.y ≤ 100000000
set_option maxRecDepth 20000 in
set_option maxHeartbeats 400000 in
theorem sides_any (ps : List Plc) (m : Int) (b cap : Nat) (w : World) (hm : m = 1 ∨ m = 2) (hn : 3 ≤ ps.length) (hn2 : ps.length ≤ 1000) (hbw : b < w.heap.size) (hp : Places w b ps) (hmid : ∀ k, k < ps.length → Mid1 (plcAt ps k)) :
    Calls Try.prog 119 #[.slice (some ⟨b, 0, none⟩) ps.length cap, .int .i64 m] w
      fun e w' => ∃ v, e = .returned v ∧ w'.ownsRow w.heap.size 175 4 v ps.length (sidesUpto ps m ps.length) ∧ Below w.heap.size w w' := by
  obtain ⟨i0, hi, hz0, hz1, hz2⟩ := info_parts info175
  go_enter Try.func119, Try.ntmps119
  go_wp2
  go_loopw [5, 11] (fun v i wr => ∃ k : Nat, k ≤ ps.length ∧ i = .int .i64 k ∧ wr.ownsRow w.heap.size 175 4 v k (sidesUpto ps m k) ∧ Below w.heap.size w wr)
    (fun _ i _ => ps.length - (intOf i).toNat)
  case atStart => exact ⟨0, Nat.zero_le _, rfl, World.ownsRow_nil _ _ _ _, Below.refl _ _⟩
  case round =>
    obtain ⟨k, hk, rfl, hown, hnx⟩ := hrel
    by_cases hlt : k < ps.length
    · have HP := hp.below hbw hnx
      obtain ⟨c1, c2, c3⟩ := HP k hlt
      have hjn : nextN ps.length k < ps.length := by unfold nextN; split <;> omega
      obtain ⟨d1, d2, d3⟩ := HP _ hjn
      have hrem : ((k : Int) + 1) % (ps.length : Int) = ((nextN ps.length k : Nat) : Int) := by
        unfold nextN
        split
        · rw [Int.emod_eq_of_lt (by omega) (by omega)]; omega
        · rw [show ((k : Int) + 1) = (ps.length : Int) by omega, Int.emod_self]; rfl
      obtain ⟨⟨u1, u2, u3, u4⟩, v1, v2, v3, v4⟩ := And.intro (hmid k hlt) (hmid _ hjn)
      have hs : sidesUpto ps m (k + 1) = sidesUpto ps m k ++ (sideAt ps m k).cells := rfl
      have HS := Lib.hid hs
      clear hs
      unfold sideAt Sd.cells at HS
      generalize plcAt ps k = p at c1 c2 c3 u1 u2 u3 u4 HS
      generalize nextN ps.length k = j at d1 d2 d3 v1 v2 v3 v4 hjn hrem HS
      generalize plcAt ps j = q at d1 d2 d3 v1 v2 v3 v4 HS
      have hbr : b < wr.heap.size := by have := hnx.size; omega
      have hwr : w.heap.size ≤ wr.heap.size := hnx.size
      have HO := Lib.hid hown
      have HX := Lib.hid hnx
      have hmul : 0 ≤ m ∧ m ≤ 2 := by omega
      obtain ⟨m1, m2⟩ := hmul
      have e1 : -200000000 ≤ m * p.x ∧ m * p.x ≤ 200000000 := by rcases hm with rfl | rfl <;> omega
      have e2 : -200000000 ≤ m * p.y ∧ m * p.y ≤ 200000000 := by rcases hm with rfl | rfl <;> omega
      have e3 : -200000000 ≤ m * q.x ∧ m * q.x ≤ 200000000 := by rcases hm with rfl | rfl <;> omega
      have e4 : -200000000 ≤ m * q.y ∧ m * q.y ≤ 200000000 := by rcases hm with rfl | rfl <;> omega
      obtain ⟨e11, e12⟩ := e1
      obtain ⟨e21, e22⟩ := e2
      obtain ⟨e31, e32⟩ := e3
      obtain ⟨e41, e42⟩ := e4
      clear HP hown hnx hp hmid hm
      go_wp2_with (first
        | (at_builtin; refine wpList_append_own _ rfl _ _ 170 rfl w.heap.size 175 i0 (.agg #[.int .i64 0, .int .i64 0, .int .i64 0, .int .i64 0]) 4 32 Try.underlying170 hi hz0 hz1 hz2 rfl (by decide) _ _ _ rfl (((HO.out.alloc _).alloc _).alloc _) ⟨wr.heap.size + 1 + 1, 0, none⟩ 1 1 [.int .i64 (m * p.x), .int .i64 (m * p.y), .int .i64 (m * q.x), .int .i64 (m * q.y)] rfl rfl ?c1 ?c2 ?c3 ?c4 ?c5 ?_)
        | go_in)
      case c2 => exact ⟨rfl, rfl, rfl, rfl⟩
      case c3 => unfold maxLen; omega
      case c4 => omega
      case c5 => first | omega | (simp; omega)
      intro v' w1 hown' hgrow _
      go_wp2
      go_roundw
      case rel =>
        refine ⟨k + 1, by omega, rfl, ?_, ?_⟩
        · rw [HS.out]; exact hown'
        · have h0 : Below w.heap.size w (((wr.alloc (.cells #[.int .i64 p.x, .int .i64 p.y, .int .i64 p.z] 23)).alloc (.cells #[.int .i64 q.x, .int .i64 q.y, .int .i64 q.z] 23)).alloc (.cells #[.int .i64 (m * p.x), .int .i64 (m * p.y), .int .i64 (m * q.x), .int .i64 (m * q.y)] 175)) :=
            ((HX.out.alloc (by omega) _).alloc (by simp; omega) _).alloc (by simp; omega) _
          exact h0.grown hgrow h0.size (fun g hg => (HO.out.lt g hg).1)
      case measure => simp [intOf]; omega
    · go_wp2
      go_ret
      obtain rfl : k = ps.length := by omega
      exact ⟨_, rfl, hown, hnx⟩
end Go.Proofs.Ytokpdmlmlkkekaa

/- The error of a polygon: plain functions, and the map of corners that are known. -/
namespace Go.Proofs.Ytokpdmlmlkkekaa
set_option linter.unusedVariables false
open Go.RowKit
open Go.Maps

/-- The first number of f that is not 0, from i on, of r numbers. -/
def scan (f : Nat → Int) : Nat → Nat → Int
  | _, 0 => 0
  | i, r + 1 => if f i = 0 then scan f (i + 1) r else f i
theorem scan_zero {f : Nat → Int} : ∀ (r i : Nat), (∀ j, i ≤ j → j < i + r → f j = 0) → scan f i r = 0
  | 0, _, _ => rfl
  | r + 1, i, h => by
    unfold scan
    rw [if_pos (h i (Nat.le_refl _) (by omega))]
    exact scan_zero r (i + 1) (fun j h1 h2 => h j (by omega) (by omega))
theorem scan_hit {f : Nat → Int} : ∀ (r i k : Nat), (∀ j, i ≤ j → j < k → f j = 0) → i ≤ k → k < i + r → f k ≠ 0 → scan f i r = f k
  | 0, _, _, _, h1, h2, _ => by omega
  | r + 1, i, k, h, h1, h2, hk => by
    unfold scan
    by_cases e : i = k
    · subst e; rw [if_neg hk]
    · rw [if_pos (h i (Nat.le_refl _) (by omega))]
      exact scan_hit r (i + 1) k (fun j h3 h4 => h j (by omega) h4) (by omega) (by omega) hk
theorem scan_inv {f : Nat → Int} : ∀ (r i : Nat), scan f i r = 0 → ∀ j, i ≤ j → j < i + r → f j = 0
  | 0, _, _ => fun j h1 h2 => by omega
  | r + 1, i, h => fun j h1 h2 => by
    unfold scan at h
    by_cases e : f i = 0
    · rw [if_pos e] at h
      by_cases e2 : j = i
      · rw [e2]; exact e
      · exact scan_inv r (i + 1) h j (by omega) (by omega)
    · rw [if_neg e] at h; exact absurd h e

def seenB (ps : List Plc) (k : Nat) : Bool := (List.range k).any fun j => decide ((plcAt ps j).x = (plcAt ps k).x) && decide ((plcAt ps j).y = (plcAt ps k).y)
def cornerErr (ps : List Plc) (k : Nat) : Int := if placeB (plcAt ps k).x (plcAt ps k).y (plcAt ps k).z then (if seenB ps k then 28 else 0) else 2
def clashB (ps : List Plc) (i k : Nat) : Bool :=
  if i = k + 1 then hasP (sideAt ps 1 i) (sideAt ps 1 k).x1 (sideAt ps 1 k).y1 || hasP (sideAt ps 1 k) (sideAt ps 1 i).x2 (sideAt ps 1 i).y2
  else if k = 0 ∧ i + 1 = ps.length then hasP (sideAt ps 1 i) (sideAt ps 1 k).x2 (sideAt ps 1 k).y2 || hasP (sideAt ps 1 k) (sideAt ps 1 i).x1 (sideAt ps 1 i).y1
  else meetsP (sideAt ps 1 i) (sideAt ps 1 k)
/-- Two sides clash. -/
def Clash (ps : List Plc) : Prop := ∃ i k, i < ps.length ∧ k < i ∧ clashB ps i k = true
open Classical in
noncomputable def checkPolygonP (ps : List Plc) : Int :=
  if ps.length < 3 then 10 else if 20 < ps.length then 8
  else if scan (cornerErr ps) 0 ps.length = 0 then (if Clash ps then 13 else 0) else scan (cornerErr ps) 0 ps.length

theorem arrC : WideMaps.ArrKey Try.prog 172 3 2 := ⟨Try.underlying172, by kernel_rfl, by kernel_rfl, by kernel_rfl⟩
theorem lawC : Keyed Try.prog 172 := Keyed.of_law arrC.law
theorem zeroB (w : World) : (zeroValue 4).run Try.prog w = .ok (.bool false) w := by kernel_rfl
def keyC (x y : Int) : Lit := .string (keyBytes [.int .i64 x, .int .i64 y])
theorem keyC_of {x y : Int} (h1 : (Lit.int .i64 x).wf = true) (h2 : (Lit.int .i64 y).wf = true) : keyOf Try.prog 172 (.agg #[.int .i64 x, .int .i64 y]) = some (keyC x y) :=
  WideMaps.keyOf_pair arrC Try.underlying3 (Nat.exists_eq_add_one_of_ne_zero (Nat.pos_iff_ne_zero.1 (of_decide_eq_true (by kernel_rfl)))) h1 h2
theorem keyC_inj {x y a b : Int} (h1 : (Lit.int .i64 x).wf = true) (h2 : (Lit.int .i64 y).wf = true) (h3 : (Lit.int .i64 a).wf = true) (h4 : (Lit.int .i64 b).wf = true) (h : keyC x y = keyC a b) : x = a ∧ y = b := by
  have k1 := keyC_of h1 h2
  have k2 := keyC_of h3 h4
  rw [h] at k1
  have := lawC.inj k1 k2
  simpa using this
def Wf2 (ps : List Plc) : Prop := ∀ k, k < ps.length → (Lit.int .i64 (plcAt ps k).x).wf = true ∧ (Lit.int .i64 (plcAt ps k).y).wf = true
/-- The map of the first k corners. -/
def knownD (ps : List Plc) : Nat → DataW Unit
  | 0 => .map []
  | k + 1 => (knownD ps k).put (keyC (plcAt ps k).x (plcAt ps k).y) (.lit (.bool true))
theorem put_isMap {D : DataW Unit} (h : IsMap D) (k : Lit) (d : DataW Unit) : IsMap (D.put k d) := by
  obtain ⟨es, rfl⟩ := h
  exact ⟨_, rfl⟩
theorem knownD_isMap (ps : List Plc) : ∀ k, IsMap (knownD ps k)
  | 0 => ⟨[], rfl⟩
  | k + 1 => put_isMap (knownD_isMap ps k) _ _
theorem knownD_at {ps : List Plc} (hw : Wf2 ps) (x y : Int) (h1 : (Lit.int .i64 x).wf = true) (h2 : (Lit.int .i64 y).wf = true) : ∀ k, k ≤ ps.length →
    (knownD ps k).atKey (keyC x y) (.lit (.bool false)) = .lit (.bool ((List.range k).any fun j => decide ((plcAt ps j).x = x) && decide ((plcAt ps j).y = y)))
  | 0, _ => rfl
  | k + 1, hk => by
    unfold knownD
    obtain ⟨w1, w2⟩ := hw k (by omega)
    rw [List.range_succ, List.any_append]
    by_cases e : keyC x y = keyC (plcAt ps k).x (plcAt ps k).y
    · obtain ⟨e1, e2⟩ := keyC_inj h1 h2 w1 w2 e
      rw [e, atKey_put_same (knownD_isMap ps k) (lawC.key (keyC_of w1 w2))]
      simp [e1, e2]
    · rw [atKey_put_other e, knownD_at hw x y h1 h2 k (by omega)]
      have : (decide ((plcAt ps k).x = x) && decide ((plcAt ps k).y = y)) = false := by
        rw [Bool.eq_false_iff]; intro h
        simp only [Bool.and_eq_true, decide_eq_true_eq] at h
        exact e (by rw [h.1, h.2])
      simp [this]
theorem plainElem_bool_inv {P : Program} {e : TypeId} (he : P.underlying e = some .bool) {v : Value} {z : DataW Unit × List MemPlace} (h : plainElem P e v = some z) : ∃ a, v = .bool a ∧ z = (.lit (.bool a), []) := by
  unfold plainElem at h
  rw [he] at h
  cases v <;> simp at h
  exact ⟨_, rfl, h.symm⟩
theorem lookup_bool {w : World} {t : TypeId} {b n : Nat} {D : DataW Unit} (h : w.ownsMap Try.prog 172 (plainElem Try.prog 4) b n D) (ht : Try.prog.underlying t = some (.map 172 4))
    {key : Value} {kl : Lit} (hkey : keyOf Try.prog 172 key = some kl) {c : Bool} (hc : D.atKey kl (.lit (.bool false)) = .lit (.bool c)) :
    (Instr.lookup t (.map (some b)) key false).run Try.prog w = .ok (.bool c) w := by
  obtain ⟨v, ps, hrun, hv⟩ := h.lookup lawC ht (zeroB w) (plainElem_bool Try.underlying4 false) hkey
  rw [hc] at hv
  obtain ⟨a, rfl, hz⟩ := plainElem_bool_inv Try.underlying4 hv
  simp only [Prod.mk.injEq, DataW.lit.injEq, Lit.bool.injEq] at hz
  rw [hrun, hz.1]
end Go.Proofs.Ytokpdmlmlkkekaa

/- CheckPolygon. -/
namespace Go.Proofs.Ytokpdmlmlkkekaa
set_option linter.unusedVariables false
open Go.RowKit
open Go.Maps
theorem ownsMap_below {H : Type} {P : Program} {k : TypeId} {R : Value → Option (DataW H × List MemPlace)} {w w' : World} {b n B : Nat} {D : DataW H} (h : w.ownsMap P k R b n D) (hb : b < B) (hw : Below B w w') : w'.ownsMap P k R b n D := by
  obtain ⟨es, clock, h1, h2⟩ := h
  exact ⟨es, clock, (hw.block b hb).trans h1, h2⟩
theorem ownsMap_later {H : Type} {P : Program} {k : TypeId} {R : Value → Option (DataW H × List MemPlace)} {w : World} {b n : Nat} {D : DataW H} (h : w.ownsMap P k R b n D) (p : Regrown) : (later w p).ownsMap P k R b n D :=
  ownsMap_below h h.lt (below_later w p)
theorem wpList_lookup_bool (w : World) {ops : Array Oper} {rest : List Oper} {o : Oper} {a : Act} {Q : Exit → Act → World → Prop}
    (hg : o.guard = none) (m x : Operand) (t : TypeId) (hop : o.op = Op.lookup t m x false) (ht : Try.prog.underlying t = some (.map 172 4)) (b n : Nat) (D : DataW Unit)
    (hm : a.eval m = .map (some b)) (hown : w.ownsMap Try.prog 172 (plainElem Try.prog 4) b n D) (key : Value) (kl : Lit) (hx : a.eval x = key) (hkey : keyOf Try.prog 172 key = some kl)
    (c : Bool) (hc : D.atKey kl (.lit (.bool false)) = .lit (.bool c)) (hK : wpList Try.prog ops Q rest (a.put o.dst (.bool c)) w) : wpList Try.prog ops Q (o :: rest) a w := by
  refine wpList_plain hg fun K' hK' => ?_
  have hrun := lookup_bool hown ht hkey hc
  unfold Oper.wp
  simp [execOp, hop, hm, hx, hrun, Result.andThen]
  exact hK' _ _ hK
theorem below_mono_of {B B' : Nat} {w w' : World} (h : B' ≤ B) (hb : Below B w w') : Below B' w w' := hb.mono h
theorem sidesUpto_len (ps : List Plc) (m : Int) : ∀ n, (sidesUpto ps m n).length = n * 4
  | 0 => rfl
  | n + 1 => by unfold sidesUpto; rw [List.length_append, sidesUpto_len ps m n]; simp [Sd.cells]; omega
theorem sidesUpto_at (ps : List Plc) (m : Int) (k : Nat) (j : Nat) (hj : j < 4) : ∀ n, k < n → (sidesUpto ps m n)[k * 4 + j]? = (sideAt ps m k).cells[j]?
  | 0, h => by omega
  | n + 1, h => by
    unfold sidesUpto
    have hl := sidesUpto_len ps m n
    by_cases e : k = n
    · subst e
      rw [List.getElem?_append_right (by omega), hl, show k * 4 + j - k * 4 = j by omega]
    · rw [List.getElem?_append_left (by omega)]
      exact sidesUpto_at ps m k j hj n (by omega)
theorem ownsRow_slice {w : World} {base e size n : Nat} {v : Value} {xs : List Value} (h : w.ownsRow base e size v n xs) (hn : 0 < n) : ∃ g cap, v = .slice (some ⟨g, 0, none⟩) n cap ∧ base ≤ g ∧ g < w.heap.size ∧ n ≤ cap ∧ cap ≤ maxLen := by
  obtain ⟨h1, h2 | ⟨g, cap, cur, h3, h4, h5, h6, h7, _⟩⟩ := h
  · obtain ⟨rfl, rfl⟩ := h2; omega
  · exact ⟨g, cap, h3, h4, (Array.getElem?_eq_some_iff.1 h5).1, h6, h7⟩
/-- Block g holds these sides, one behind the other. -/
def Sides (w : World) (g : Nat) (ps : List Plc) (m : Int) (n : Nat) : Prop :=
  ∀ k, k < n → w.cell? ⟨g, k * 4, none⟩ = some (.int .i64 (sideAt ps m k).x1) ∧ w.cell? ⟨g, k * 4 + 1, none⟩ = some (.int .i64 (sideAt ps m k).y1) ∧ w.cell? ⟨g, k * 4 + 2, none⟩ = some (.int .i64 (sideAt ps m k).x2) ∧ w.cell? ⟨g, k * 4 + 3, none⟩ = some (.int .i64 (sideAt ps m k).y2)
theorem Sides.below {w w' : World} {g B n : Nat} {ps : List Plc} {m : Int} (h : Sides w g ps m n) (hb : g < B) (hw : Below B w w') : Sides w' g ps m n := fun k hk =>
  ⟨(hw.cell (p := ⟨g, k * 4, none⟩) hb).trans (h k hk).1, (hw.cell (p := ⟨g, k * 4 + 1, none⟩) hb).trans (h k hk).2.1, (hw.cell (p := ⟨g, k * 4 + 2, none⟩) hb).trans (h k hk).2.2.1, (hw.cell (p := ⟨g, k * 4 + 3, none⟩) hb).trans (h k hk).2.2.2⟩
theorem sides_row (ps : List Plc) (m : Int) (b cap : Nat) (w : World) (hm : m = 1 ∨ m = 2) (hn : 3 ≤ ps.length) (hn2 : ps.length ≤ 1000) (hbw : b < w.heap.size) (hp : Places w b ps) (hmid : ∀ k, k < ps.length → Mid1 (plcAt ps k)) :
    Calls Try.prog 119 #[.slice (some ⟨b, 0, none⟩) ps.length cap, .int .i64 m] w
      fun e w' => ∃ g c, e = .returned (.slice (some ⟨g, 0, none⟩) ps.length c) ∧ w.heap.size ≤ g ∧ g < w'.heap.size ∧ ps.length ≤ c ∧ c ≤ maxLen ∧ Sides w' g ps m ps.length ∧ Below w.heap.size w w' :=
  (sides_any ps m b cap w hm hn hn2 hbw hp hmid).mono fun e w' ⟨v, he, ho, hb⟩ => by
    obtain ⟨g, c, rfl, h1, h2, h3, h4⟩ := ownsRow_slice ho (by omega)
    refine ⟨g, c, he, h1, h2, h3, h4, fun k hk => ?_, hb⟩
    have a0 := (ho.cellAt (k * 4) (by omega)).trans (sidesUpto_at ps m k 0 (by omega) ps.length hk)
    have a1 := (ho.cellAt (k * 4 + 1) (by omega)).trans (sidesUpto_at ps m k 1 (by omega) ps.length hk)
    have a2 := (ho.cellAt (k * 4 + 2) (by omega)).trans (sidesUpto_at ps m k 2 (by omega) ps.length hk)
    have a3 := (ho.cellAt (k * 4 + 3) (by omega)).trans (sidesUpto_at ps m k 3 (by omega) ps.length hk)
    exact ⟨a0, a1, a2, a3⟩
theorem seenB_def (ps : List Plc) (k : Nat) : seenB ps k = (List.range k).any fun j => decide ((plcAt ps j).x = (plcAt ps k).x) && decide ((plcAt ps j).y = (plcAt ps k).y) := rfl
theorem checkPlace_e (x y z : Int) (w : World) {e0 : Int} (h : checkPlaceP x y z = e0) :
    Calls Try.prog 95 #[.agg #[.int .i64 x, .int .i64 y, .int .i64 z]] w fun e w' => e = .returned (.int .i64 e0) ∧ Below w.heap.size w w' := by
  subst h; exact checkPlace_any x y z w
theorem sideAt_fit {ps : List Plc} (hmid : ∀ k, k < ps.length → Mid1 (plcAt ps k)) {k : Nat} (hk : k < ps.length) : (sideAt ps 1 k).Fit := by
  obtain ⟨a1, a2, a3, a4⟩ := hmid k hk
  obtain ⟨b1, b2, b3, b4⟩ := hmid (nextN ps.length k) (by unfold nextN; split <;> omega)
  unfold sideAt Sd.Fit Mid
  refine ⟨⟨?_, ?_⟩, ⟨?_, ?_⟩, ⟨?_, ?_⟩, ?_, ?_⟩ <;> simp only <;> omega
set_option maxRecDepth 20000 in
set_option maxHeartbeats 1000000 in
theorem checkPolygon_any (ps : List Plc) (b cap : Nat) (w : World) (hn : 3 ≤ ps.length) (hn2 : ps.length ≤ 20) (hbw : b < w.heap.size) (hp : Places w b ps) (hwf : Wf2 ps) :
    Calls Try.prog 53 #[.slice (some ⟨b, 0, none⟩) ps.length cap] w fun e w' => e = .returned (.int .i64 (checkPolygonP ps)) ∧ Below w.heap.size w w' := by
  have HQ := Lib.hid (show checkPolygonP ps = open Classical in if scan (cornerErr ps) 0 ps.length = 0 then (if Clash ps then 13 else 0) else scan (cornerErr ps) 0 ps.length by
    unfold checkPolygonP; rw [if_neg (by omega), if_neg (by omega)])
  have hmm := @run_makeMap Try.prog
  go_enter Try.func53, Try.ntmps53
  go_wp2
  go_loopw [24] (fun i wr => ∃ k : Nat, k ≤ ps.length ∧ i = .int .i64 k ∧ wr.ownsMap Try.prog 172 (plainElem Try.prog 4) w.heap.size k (knownD ps k) ∧ Below w.heap.size w wr ∧ ∀ j, j < k → cornerErr ps j = 0)
    (fun i _ => ps.length - (intOf i).toNat)
  case atStart => exact ⟨0, Nat.zero_le _, rfl, World.ownsMap_made _ _ _ _, (Below.refl _ _).alloc (Nat.le_refl _) _, fun j hj => by omega⟩
  case round =>
    obtain ⟨k, hk, rfl, hown, hnx, hz⟩ := hrel
    have HZ := Lib.hid hz
    clear hz
    by_cases hlt : k < ps.length
    · have hbr : b < wr.heap.size := by have := hnx.size; omega
      have hmr : w.heap.size < wr.heap.size := hown.lt
      obtain ⟨c1, c2, c3⟩ := (hp.below hbw hnx) k hlt
      obtain ⟨f1, f2⟩ := hwf k hlt
      have HK := Lib.hid (keyC_of f1 f2)
      have hat := knownD_at hwf _ _ f1 f2 k hk
      rw [← seenB_def] at hat
      have HE := Lib.hid (show cornerErr ps k = if placeB (plcAt ps k).x (plcAt ps k).y (plcAt ps k).z then (if seenB ps k then 28 else 0) else 2 from rfl)
      have hput : knownD ps (k + 1) = (knownD ps k).put (keyC (plcAt ps k).x (plcAt ps k).y) (.lit (.bool true)) := rfl
      have HU := Lib.hid hput
      have HO := Lib.hid hown
      have HX := Lib.hid hnx
      clear hput hown hnx hp hwf f1 f2
      generalize plcAt ps k = p at c1 c2 c3 HK hat HE HU
      cases hpl : placeB p.x p.y p.z
      · have HP := Lib.hid (show checkPlaceP p.x p.y p.z = 2 by unfold checkPlaceP; rw [hpl]; rfl)
        have he : cornerErr ps k = 2 := by rw [HE.out, hpl]; rfl
        have HG := Lib.hid he
        clear hat HE he
        have HPL := Lib.hid hpl
        clear hpl
        go_wp2_with (first | (go_at_call 95; refine (checkPlace_e _ _ _ _ HP.out).mono ?_; rintro e w' ⟨rfl, hb⟩; obtain ⟨pp, rfl⟩ := later_of_below hb; clear hb))
        go_ret
        refine ⟨ret_int ?_, ?_⟩
        · rw [HQ.out, scan_hit ps.length 0 k (fun j _ h => HZ.out j h) (Nat.zero_le _) (by omega) (by rw [HG.out]; decide), HG.out]; rfl
        · exact below_later_of (HX.out.alloc (by omega) _) (by simp; omega) _
      · have HP := Lib.hid (show checkPlaceP p.x p.y p.z = 0 by unfold checkPlaceP; rw [hpl]; rfl)
        have he : cornerErr ps k = if seenB ps k then 28 else 0 := by rw [HE.out, hpl]; rfl
        have HG := Lib.hid he
        clear HE he
        have HPL := Lib.hid hpl
        clear hpl
        rcases (show seenB ps k = false ∨ seenB ps k = true by cases seenB ps k <;> simp) with hs | hs
        · rw [hs] at hat
          have HL := Lib.hid hat
          have HS := Lib.hid hs
          clear hat hs
          go_wp2_with (first | (go_at_call 95; refine (checkPlace_e _ _ _ _ HP.out).mono ?_; rintro e w' ⟨rfl, hb⟩; obtain ⟨pp, rfl⟩ := later_of_below hb; clear hb) | (go_at_call 120; refine (cornerOf_any _ _ _ _).mono ?_; rintro e w' ⟨rfl, hb⟩; obtain ⟨pp, rfl⟩ := later_of_below hb; clear hb) | (at_lookup; refine wpList_lookup_bool _ rfl _ _ 180 rfl Try.underlying180 w.heap.size k (knownD ps k) rfl (ownsMap_later (ownsMap_later (HO.out.alloc _) _) _) _ _ rfl HK.out _ HL.out ?_) | (at_mapUpdate; refine wpList_mapUpdate_own _ rfl _ _ _ 180 rfl 172 4 lawC Try.underlying180 _ w.heap.size k _ rfl (ownsMap_later (ownsMap_later (ownsMap_later (HO.out.alloc _) _) _) _) (by unfold maxLen; omega) _ _ _ rfl rfl HK.out _ [] (plainElem_bool Try.underlying4 true) ?_; intro w1 hown1 hgrow1))
          have hgr : w.heap.size ≤ w1.heap.size := by have := hgrow1.size; simp at this; omega
          have HX2 := Lib.hid (show Below w.heap.size w w1 from (below_later_of (below_later_of (below_later_of (HX.out.alloc (by omega) _) (by simp; omega) _) (by simp; omega) _) (by simp; omega) _).grown hgrow1 (by simp; omega) (fun j hj => by cases hj; exact Nat.le_refl _))
          have HO1 := Lib.hid hown1
          clear hown1 hgrow1
          go_wp2
          go_roundw
          case rel =>
            refine ⟨k + 1, by omega, by go_num, ?_, HX2.out, fun j hj => ?_⟩
            · rw [HU.out]; exact HO1.out
            · by_cases e : j = k
              · rw [e, HG.out, HS.out]; rfl
              · exact HZ.out j (by omega)
          case measure => simp [intOf]; omega
        · rw [hs] at hat
          have HL := Lib.hid hat
          have HS := Lib.hid hs
          clear hat hs
          go_wp2_with (first | (go_at_call 95; refine (checkPlace_e _ _ _ _ HP.out).mono ?_; rintro e w' ⟨rfl, hb⟩; obtain ⟨pp, rfl⟩ := later_of_below hb; clear hb) | (go_at_call 120; refine (cornerOf_any _ _ _ _).mono ?_; rintro e w' ⟨rfl, hb⟩; obtain ⟨pp, rfl⟩ := later_of_below hb; clear hb) | (at_lookup; refine wpList_lookup_bool _ rfl _ _ 180 rfl Try.underlying180 w.heap.size k (knownD ps k) rfl (ownsMap_later (ownsMap_later (HO.out.alloc _) _) _) _ _ rfl HK.out _ HL.out ?_) | (at_mapUpdate; refine wpList_mapUpdate_own _ rfl _ _ _ 180 rfl 172 4 lawC Try.underlying180 _ w.heap.size k _ rfl (ownsMap_later (ownsMap_later (ownsMap_later (HO.out.alloc _) _) _) _) (by unfold maxLen; omega) _ _ _ rfl rfl HK.out _ [] (plainElem_bool Try.underlying4 true) ?_; intro w1 hown1 hgrow1))
          go_ret
          have hk28 : cornerErr ps k = 28 := by rw [HG.out, HS.out]; rfl
          refine ⟨ret_int ?_, ?_⟩
          · rw [HQ.out, scan_hit ps.length 0 k (fun j _ h => HZ.out j h) (Nat.zero_le _) (by omega) (by rw [hk28]; decide), hk28]; rfl
          · exact below_later_of (below_later_of (HX.out.alloc (by omega) _) (by simp; omega) _) (by simp; omega) _
    · have hall : ∀ j, j < ps.length → cornerErr ps j = 0 := fun j hj => HZ.out j (by omega)
      have hmid : ∀ j, j < ps.length → Mid1 (plcAt ps j) := fun j hj => by
        have h1 := hall j hj
        unfold cornerErr at h1
        split at h1
        · rename_i h2
          obtain ⟨⟨a1, a2⟩, ⟨b1, b2⟩, _⟩ := placeB_iff.1 h2
          exact ⟨a1, a2, b1, b2⟩
        · exact absurd h1 (by decide)
      have HQ2 := Lib.hid (show checkPolygonP ps = open Classical in if Clash ps then 13 else 0 by
        rw [HQ.out, if_pos (scan_zero ps.length 0 (fun j _ h => hall j (by omega)))])
      have HM := Lib.hid hmid
      have hbr : b < wr.heap.size := by have := hnx.size; omega
      have HP := Lib.hid (hp.below hbw hnx)
      have HX := Lib.hid hnx
      clear HQ HZ hall hmid hp hnx hown hwf
      go_wp2_with (first | (go_at_call 119; refine (sides_row ps 1 b cap _ (Or.inl rfl) (by omega) (by omega) (by omega) HP.out HM.out).mono ?_; rintro e w2 ⟨g, c, rfl, hg1, hg2, hc1, hc2, hsd, hb2⟩))
      have hwg : w.heap.size ≤ wr.heap.size := HX.out.size
      have HB := Lib.hid (show Below w.heap.size w w2 from HX.out.trans (hb2.mono hwg))
      have hw2 : wr.heap.size ≤ w2.heap.size := hb2.size
      have HSD := Lib.hid hsd
      clear hb2 hsd HX HP
      go_wp2
      go_loopw [45] (fun i wr => ∃ k : Nat, k ≤ ps.length ∧ i = .int .i64 k ∧ Below w2.heap.size w2 wr ∧ ∀ i, i < k → ∀ j, j < i → clashB ps i j = false)
        (fun i _ => ps.length - (intOf i).toNat)
      case atStart => exact ⟨0, Nat.zero_le _, rfl, Below.refl _ _, fun j hj => by omega⟩
      case round =>
        obtain ⟨i, hi, rfl, hnx, hz⟩ := hrel
        have HZ := Lib.hid hz
        have HX := Lib.hid hnx
        have hsz : w2.heap.size ≤ wr.heap.size := hnx.size
        obtain ⟨wo, hwo⟩ : ∃ wo : World, wo = wr := ⟨_, rfl⟩
        subst hwo
        clear hz
        by_cases hil : i < ps.length
        · obtain ⟨d1, d2, d3, d4⟩ := (HSD.out.below hg2 hnx) i hil
          have hfi := sideAt_fit HM.out hil
          have HFI := Lib.hid hfi
          have HDI := Lib.hid (show ∃ s, sideAt ps 1 i = s from ⟨_, rfl⟩)
          clear hfi hnx
          obtain ⟨s, hs⟩ := HDI.out
          rw [hs] at d1 d2 d3 d4 HFI
          have HS := Lib.hid hs
          clear hs HDI
          have hgo : g < wo.heap.size := by omega
          go_wp2
          have HW3 := Lib.hid (show ∃ W3, wo.alloc (.cells #[.int .i64 s.x1, .int .i64 s.y1, .int .i64 s.x2, .int .i64 s.y2] 175) = W3 ∧ W3.cell? ⟨wo.heap.size, 0, none⟩ = some (.int .i64 s.x1) ∧ W3.cell? ⟨wo.heap.size, 1, none⟩ = some (.int .i64 s.y1) ∧ W3.cell? ⟨wo.heap.size, 2, none⟩ = some (.int .i64 s.x2) ∧ W3.cell? ⟨wo.heap.size, 3, none⟩ = some (.int .i64 s.y2) ∧ wo.heap.size < W3.heap.size ∧ Below w2.heap.size w2 W3 from
            ⟨_, rfl, World.cell?_alloc_new _ _ _ _, World.cell?_alloc_new _ _ _ _, World.cell?_alloc_new _ _ _ _, World.cell?_alloc_new _ _ _ _, by simp, HX.out.alloc hsz _⟩)
          clear d1 d2 d3 d4
          obtain ⟨W3, hW3, e1, e2, e3, e4, hlt3, hB3⟩ := HW3.out
          rw [hW3]
          have HB3 := Lib.hid hB3
          have E1 := Lib.hid e1
          have E2 := Lib.hid e2
          have E3 := Lib.hid e3
          have E4 := Lib.hid e4
          clear HW3 hW3 e1 e2 e3 e4 hB3 HX
          go_loopw [54] (fun v wr => ∃ j : Nat, j ≤ i ∧ v = .int .i64 j ∧ Below W3.heap.size W3 wr ∧ ∀ j', j' < j → clashB ps i j' = false)
            (fun v _ => i - (intOf v).toNat)
          case atStart => exact ⟨0, Nat.zero_le _, rfl, Below.refl _ _, fun j hj => by omega⟩
          case round =>
            obtain ⟨j, hj, rfl, hnx, hy⟩ := hrel
            have HY := Lib.hid hy
            have hszi : W3.heap.size ≤ wr.heap.size := hnx.size
            have s1 := (hnx.cell (p := ⟨wo.heap.size, 0, none⟩) hlt3).trans E1.out
            have s2 := (hnx.cell (p := ⟨wo.heap.size, 1, none⟩) hlt3).trans E2.out
            have s3 := (hnx.cell (p := ⟨wo.heap.size, 2, none⟩) hlt3).trans E3.out
            have s4 := (hnx.cell (p := ⟨wo.heap.size, 3, none⟩) hlt3).trans E4.out
            have HXI := Lib.hid (HB3.out.trans (hnx.mono (by omega)))
            have HXW := Lib.hid hnx
            clear hy hnx
            by_cases hjl : j < i
            · obtain ⟨d1, d2, d3, d4⟩ := (HSD.out.below hg2 HXI.out) j (by omega)
              have HFJ := Lib.hid (sideAt_fit HM.out (show j < ps.length by omega))
              have HDJ := Lib.hid (show ∃ o, sideAt ps 1 j = o from ⟨_, rfl⟩)
              obtain ⟨o, ho⟩ := HDJ.out
              rw [ho] at d1 d2 d3 d4 HFJ
              have HO := Lib.hid ho
              clear ho HDJ
              have HCL := Lib.hid (show clashB ps i j = if i = j + 1 then hasP s o.x1 o.y1 || hasP o s.x2 s.y2 else if j = 0 ∧ i + 1 = ps.length then hasP s o.x2 o.y2 || hasP o s.x1 s.y1 else meetsP s o by
                unfold clashB; rw [HS.out, HO.out])
              obtain ⟨sf1, sf2, sf3, sf4⟩ := HFI.out
              obtain ⟨of1, of2, of3, of4⟩ := HFJ.out
              have SF1 := Lib.hid sf1
              have SF2 := Lib.hid sf2
              have SF3 := Lib.hid sf3
              have SF4 := Lib.hid sf4
              have OF1 := Lib.hid of1
              have OF2 := Lib.hid of2
              have OF3 := Lib.hid of3
              have OF4 := Lib.hid of4
              clear sf1 sf2 sf3 sf4 of1 of2 of3 of4
              rcases (show clashB ps i j = false ∨ clashB ps i j = true by cases clashB ps i j <;> simp) with hc | hc
              · rw [hc] at HCL
                have HC := Lib.hid hc
                clear hc
                have HR : Hid (∃ a b c d : Bool, hasP s o.x1 o.y1 = a ∧ hasP o s.x2 s.y2 = b ∧ hasP s o.x2 o.y2 = c ∧ hasP o s.x1 s.y1 = d ∧ (i = j + 1 → a = false ∧ b = false) ∧ (¬ i = j + 1 → j = 0 ∧ i + 1 = ps.length → c = false ∧ d = false) ∧ (¬ i = j + 1 → ¬ (j = 0 ∧ i + 1 = ps.length) → meetsP s o = false)) := by
                  refine Lib.hid ⟨_, _, _, _, rfl, rfl, rfl, rfl, fun h => ?_, fun h1 h2 => ?_, fun h1 h2 => ?_⟩
                  · have := HCL.out; rw [if_pos h] at this; simpa using this.symm
                  · have := HCL.out; rw [if_neg h1, if_pos h2] at this; simpa using this.symm
                  · have := HCL.out; rw [if_neg h1, if_neg h2] at this; exact this.symm
                obtain ⟨a, b', c', d', ha, hb, hcc, hd, k1, k2, k3⟩ := HR.out
                have HA := Lib.hid ha
                have HB1 := Lib.hid hb
                have HC1 := Lib.hid hcc
                have HD1 := Lib.hid hd
                clear HR ha hb hcc hd HCL
                by_cases q1 : i = j + 1
                · obtain ⟨rfl, rfl⟩ := k1 q1
                  have q11 : i ≤ j + 1 := by omega
                  clear k1 k2 k3 q1
                  go_wp2_with (first | (go_at_call 125; (with_reducible refine (has_any s o.x1 o.y1 _ HFI.out OF1.out OF2.out HA.out).mono ?_); rintro e w' ⟨rfl, hb⟩; obtain ⟨pp, rfl⟩ := later_of_below hb; clear hb) | (go_at_call 125; (with_reducible refine (has_any o s.x2 s.y2 _ HFJ.out SF3.out SF4.out HB1.out).mono ?_); rintro e w' ⟨rfl, hb⟩; obtain ⟨pp, rfl⟩ := later_of_below hb; clear hb))
                  (go_roundw; (case rel => exact ⟨j + 1, by omega, by go_num, HXW.out.trans ((by (repeat' (first | with_reducible exact Below.refl _ _ | (with_reducible refine below_later_of ?_ ?_ _) | (with_reducible refine Below.alloc ?_ ?_ _) | (with_reducible refine Below.setCell ?_ ?_ _) | (with_reducible refine Below.drew ?_) | (simp; done) | (simp; omega) | omega)))), fun j' hj' => if e : j' = j then (by rw [e]; exact HC.out) else HY.out j' (by omega)⟩); (case measure => simp [intOf]; omega))
                · by_cases q2 : j = 0 ∧ i + 1 = ps.length
                  · obtain ⟨rfl, rfl⟩ := k2 q1 q2
                    obtain ⟨q21, q22⟩ := q2
                    have q23 : j ≤ 0 := by omega
                    have q24 : ps.length ≤ i + 1 := by omega
                    have q11 : j + 1 < i := by omega
                    clear k1 k2 k3 q1 q21 q22
                    go_wp2_with (first | (go_at_call 125; (with_reducible refine (has_any s o.x2 o.y2 _ HFI.out OF3.out OF4.out HC1.out).mono ?_); rintro e w' ⟨rfl, hb⟩; obtain ⟨pp, rfl⟩ := later_of_below hb; clear hb) | (go_at_call 125; (with_reducible refine (has_any o s.x1 s.y1 _ HFJ.out SF1.out SF2.out HD1.out).mono ?_); rintro e w' ⟨rfl, hb⟩; obtain ⟨pp, rfl⟩ := later_of_below hb; clear hb))
                    (go_roundw; (case rel => exact ⟨j + 1, by omega, by go_num, HXW.out.trans ((by (repeat' (first | with_reducible exact Below.refl _ _ | (with_reducible refine below_later_of ?_ ?_ _) | (with_reducible refine Below.alloc ?_ ?_ _) | (with_reducible refine Below.setCell ?_ ?_ _) | (with_reducible refine Below.drew ?_) | (simp; done) | (simp; omega) | omega)))), fun j' hj' => if e : j' = j then (by rw [e]; exact HC.out) else HY.out j' (by omega)⟩); (case measure => simp [intOf]; omega))
                  · have hm := Lib.hid (k3 q1 q2)
                    have q11 : j + 1 < i := by omega
                    clear k1 k2 k3 q1
                    by_cases q3 : j = 0
                    · have q23 : j ≤ 0 := by omega
                      have q24 : i + 1 < ps.length := by omega
                      clear q2 q3
                      go_wp2_with (first | (go_at_call 126; (with_reducible refine (meets_any s o _ HFI.out HFJ.out hm.out).mono ?_); rintro e w' ⟨rfl, hb⟩; obtain ⟨pp, rfl⟩ := later_of_below hb; clear hb))
                      (go_roundw; (case rel => exact ⟨j + 1, by omega, by go_num, HXW.out.trans ((by (repeat' (first | with_reducible exact Below.refl _ _ | (with_reducible refine below_later_of ?_ ?_ _) | (with_reducible refine Below.alloc ?_ ?_ _) | (with_reducible refine Below.setCell ?_ ?_ _) | (with_reducible refine Below.drew ?_) | (simp; done) | (simp; omega) | omega)))), fun j' hj' => if e : j' = j then (by rw [e]; exact HC.out) else HY.out j' (by omega)⟩); (case measure => simp [intOf]; omega))
                    · have q23 : 0 < j := by omega
                      clear q2 q3
                      go_wp2_with (first | (go_at_call 126; (with_reducible refine (meets_any s o _ HFI.out HFJ.out hm.out).mono ?_); rintro e w' ⟨rfl, hb⟩; obtain ⟨pp, rfl⟩ := later_of_below hb; clear hb))
                      (go_roundw; (case rel => exact ⟨j + 1, by omega, by go_num, HXW.out.trans ((by (repeat' (first | with_reducible exact Below.refl _ _ | (with_reducible refine below_later_of ?_ ?_ _) | (with_reducible refine Below.alloc ?_ ?_ _) | (with_reducible refine Below.setCell ?_ ?_ _) | (with_reducible refine Below.drew ?_) | (simp; done) | (simp; omega) | omega)))), fun j' hj' => if e : j' = j then (by rw [e]; exact HC.out) else HY.out j' (by omega)⟩); (case measure => simp [intOf]; omega))
              · rw [hc] at HCL
                have HC := Lib.hid (show checkPolygonP ps = 13 by rw [HQ2.out, if_pos ⟨i, j, hil, hjl, hc⟩])
                clear hc HQ2
                have HR : Hid (∃ a b c d : Bool, hasP s o.x1 o.y1 = a ∧ hasP o s.x2 s.y2 = b ∧ hasP s o.x2 o.y2 = c ∧ hasP o s.x1 s.y1 = d ∧ (i = j + 1 → a = true ∨ (a = false ∧ b = true)) ∧ (¬ i = j + 1 → j = 0 ∧ i + 1 = ps.length → c = true ∨ (c = false ∧ d = true)) ∧ (¬ i = j + 1 → ¬ (j = 0 ∧ i + 1 = ps.length) → meetsP s o = true)) := by
                  refine Lib.hid ⟨_, _, _, _, rfl, rfl, rfl, rfl, fun h => ?_, fun h1 h2 => ?_, fun h1 h2 => ?_⟩
                  · have := HCL.out; rw [if_pos h] at this
                    cases h1 : hasP s o.x1 o.y1
                    · rw [h1] at this; exact Or.inr ⟨rfl, by simpa using this.symm⟩
                    · exact Or.inl rfl
                  · have := HCL.out; rw [if_neg h1, if_pos h2] at this
                    cases h3 : hasP s o.x2 o.y2
                    · rw [h3] at this; exact Or.inr ⟨rfl, by simpa using this.symm⟩
                    · exact Or.inl rfl
                  · have := HCL.out; rw [if_neg h1, if_neg h2] at this; exact this.symm
                obtain ⟨a, b', c', d', ha, hb, hcc, hd, k1, k2, k3⟩ := HR.out
                have HA := Lib.hid ha
                have HB1 := Lib.hid hb
                have HC1 := Lib.hid hcc
                have HD1 := Lib.hid hd
                clear HR ha hb hcc hd HCL
                by_cases q1 : i = j + 1
                · have q11 : i ≤ j + 1 := by omega
                  rcases k1 q1 with rfl | ⟨rfl, rfl⟩
                  · clear k1 k2 k3 q1
                    go_wp2_with (first | (go_at_call 125; (with_reducible refine (has_any s o.x1 o.y1 _ HFI.out OF1.out OF2.out HA.out).mono ?_); rintro e w' ⟨rfl, hb⟩; obtain ⟨pp, rfl⟩ := later_of_below hb; clear hb))
                    (go_ret; exact ⟨ret_int HC.out.symm, HB.out.trans ((HXI.out.trans (below_mono_of (by omega) ((by (repeat' (first | with_reducible exact Below.refl _ _ | (with_reducible refine below_later_of ?_ ?_ _) | (with_reducible refine Below.alloc ?_ ?_ _) | (with_reducible refine Below.setCell ?_ ?_ _) | (with_reducible refine Below.drew ?_) | (simp; done) | (simp; omega) | omega)))))).mono (by omega))⟩)
                  · clear k1 k2 k3 q1
                    go_wp2_with (first | (go_at_call 125; (with_reducible refine (has_any s o.x1 o.y1 _ HFI.out OF1.out OF2.out HA.out).mono ?_); rintro e w' ⟨rfl, hb⟩; obtain ⟨pp, rfl⟩ := later_of_below hb; clear hb) | (go_at_call 125; (with_reducible refine (has_any o s.x2 s.y2 _ HFJ.out SF3.out SF4.out HB1.out).mono ?_); rintro e w' ⟨rfl, hb⟩; obtain ⟨pp, rfl⟩ := later_of_below hb; clear hb))
                    (go_ret; exact ⟨ret_int HC.out.symm, HB.out.trans ((HXI.out.trans (below_mono_of (by omega) ((by (repeat' (first | with_reducible exact Below.refl _ _ | (with_reducible refine below_later_of ?_ ?_ _) | (with_reducible refine Below.alloc ?_ ?_ _) | (with_reducible refine Below.setCell ?_ ?_ _) | (with_reducible refine Below.drew ?_) | (simp; done) | (simp; omega) | omega)))))).mono (by omega))⟩)
                · by_cases q2 : j = 0 ∧ i + 1 = ps.length
                  · have q23 : j ≤ 0 := by omega
                    have q24 : ps.length ≤ i + 1 := by omega
                    have q11 : j + 1 < i := by omega
                    rcases k2 q1 q2 with rfl | ⟨rfl, rfl⟩
                    · clear k1 k2 k3 q1 q2
                      go_wp2_with (first | (go_at_call 125; (with_reducible refine (has_any s o.x2 o.y2 _ HFI.out OF3.out OF4.out HC1.out).mono ?_); rintro e w' ⟨rfl, hb⟩; obtain ⟨pp, rfl⟩ := later_of_below hb; clear hb))
                      (go_ret; exact ⟨ret_int HC.out.symm, HB.out.trans ((HXI.out.trans (below_mono_of (by omega) ((by (repeat' (first | with_reducible exact Below.refl _ _ | (with_reducible refine below_later_of ?_ ?_ _) | (with_reducible refine Below.alloc ?_ ?_ _) | (with_reducible refine Below.setCell ?_ ?_ _) | (with_reducible refine Below.drew ?_) | (simp; done) | (simp; omega) | omega)))))).mono (by omega))⟩)
                    · clear k1 k2 k3 q1 q2
                      go_wp2_with (first | (go_at_call 125; (with_reducible refine (has_any s o.x2 o.y2 _ HFI.out OF3.out OF4.out HC1.out).mono ?_); rintro e w' ⟨rfl, hb⟩; obtain ⟨pp, rfl⟩ := later_of_below hb; clear hb) | (go_at_call 125; (with_reducible refine (has_any o s.x1 s.y1 _ HFJ.out SF1.out SF2.out HD1.out).mono ?_); rintro e w' ⟨rfl, hb⟩; obtain ⟨pp, rfl⟩ := later_of_below hb; clear hb))
                      (go_ret; exact ⟨ret_int HC.out.symm, HB.out.trans ((HXI.out.trans (below_mono_of (by omega) ((by (repeat' (first | with_reducible exact Below.refl _ _ | (with_reducible refine below_later_of ?_ ?_ _) | (with_reducible refine Below.alloc ?_ ?_ _) | (with_reducible refine Below.setCell ?_ ?_ _) | (with_reducible refine Below.drew ?_) | (simp; done) | (simp; omega) | omega)))))).mono (by omega))⟩)
                  · have hm := Lib.hid (k3 q1 q2)
                    have q11 : j + 1 < i := by omega
                    clear k1 k2 k3 q1
                    by_cases q3 : j = 0
                    · have q23 : j ≤ 0 := by omega
                      have q24 : i + 1 < ps.length := by omega
                      clear q2 q3
                      go_wp2_with (first | (go_at_call 126; (with_reducible refine (meets_any s o _ HFI.out HFJ.out hm.out).mono ?_); rintro e w' ⟨rfl, hb⟩; obtain ⟨pp, rfl⟩ := later_of_below hb; clear hb))
                      (go_ret; exact ⟨ret_int HC.out.symm, HB.out.trans ((HXI.out.trans (below_mono_of (by omega) ((by (repeat' (first | with_reducible exact Below.refl _ _ | (with_reducible refine below_later_of ?_ ?_ _) | (with_reducible refine Below.alloc ?_ ?_ _) | (with_reducible refine Below.setCell ?_ ?_ _) | (with_reducible refine Below.drew ?_) | (simp; done) | (simp; omega) | omega)))))).mono (by omega))⟩)
                    · have q23 : 0 < j := by omega
                      clear q2 q3
                      go_wp2_with (first | (go_at_call 126; (with_reducible refine (meets_any s o _ HFI.out HFJ.out hm.out).mono ?_); rintro e w' ⟨rfl, hb⟩; obtain ⟨pp, rfl⟩ := later_of_below hb; clear hb))
                      (go_ret; exact ⟨ret_int HC.out.symm, HB.out.trans ((HXI.out.trans (below_mono_of (by omega) ((by (repeat' (first | with_reducible exact Below.refl _ _ | (with_reducible refine below_later_of ?_ ?_ _) | (with_reducible refine Below.alloc ?_ ?_ _) | (with_reducible refine Below.setCell ?_ ?_ _) | (with_reducible refine Below.drew ?_) | (simp; done) | (simp; omega) | omega)))))).mono (by omega))⟩)
            · have hji : i ≤ j := by omega
              go_wp2
              go_roundw
              case rel =>
                refine ⟨i + 1, by omega, by go_num, HXI.out, fun i' hi' j' hj' => ?_⟩
                by_cases e : i' = i
                · rw [e]; exact HY.out j' (by omega)
                · exact HZ.out i' (by omega) j' hj'
              case measure => simp [intOf]; omega
        · have hip : ps.length ≤ i := by omega
          go_wp2
          go_ret
          refine ⟨ret_int ?_, HB.out.trans (HX.out.mono (by omega))⟩
          rw [HQ2.out, if_neg]
          rintro ⟨i', j', h1, h2, h3⟩
          rw [HZ.out i' (by omega) j' h2] at h3
          cases h3
theorem checkPolygon_short (ps : List Plc) (v : Value) (cap : Nat) (a : Option Addr) (w : World) (h : ps.length < 3 ∨ 20 < ps.length) (hv : v = .slice a ps.length cap) (hm : ps.length ≤ 1000000000) :
    Calls Try.prog 53 #[v] w fun e w' => e = .returned (.int .i64 (checkPolygonP ps)) ∧ w = w' := by
  subst hv
  rcases h with h | h
  · have HQ := Lib.hid (show checkPolygonP ps = 10 by unfold checkPolygonP; rw [if_pos h])
    go_enter Try.func53, Try.ntmps53
    go_wp2
    go_ret
    exact ⟨ret_int HQ.out.symm, rfl⟩
  · have HQ := Lib.hid (show checkPolygonP ps = 8 by unfold checkPolygonP; rw [if_neg (by omega), if_pos h])
    go_enter Try.func53, Try.ntmps53
    go_wp2
    go_ret
    exact ⟨ret_int HQ.out.symm, rfl⟩
end Go.Proofs.Ytokpdmlmlkkekaa

/- AreaOf. -/
namespace Go.Proofs.Ytokpdmlmlkkekaa
set_option linter.unusedVariables false
open Go.RowKit
/-- The value is a slice of these places. -/
def PlacesV (w : World) (v : Value) (ps : List Plc) : Prop :=
  Wf2 ps ∧ ps.length ≤ 1000000000 ∧ ∃ a cap, v = .slice a ps.length cap ∧ (0 < ps.length → ∃ b, a = some ⟨b, 0, none⟩ ∧ b < w.heap.size ∧ Places w b ps)
theorem PlacesV.below {w w' : World} {v : Value} {ps : List Plc} (h : PlacesV w v ps) (hw : Below w.heap.size w w') : PlacesV w' v ps := by
  obtain ⟨h1, h2, a, cap, h3, h4⟩ := h
  refine ⟨h1, h2, a, cap, h3, fun hp => ?_⟩
  obtain ⟨b, h5, h6, h7⟩ := h4 hp
  exact ⟨b, h5, Nat.lt_of_lt_of_le h6 hw.size, h7.below h6 hw⟩
theorem checkPolygon_v (ps : List Plc) (v : Value) (w : World) (hv : PlacesV w v ps) {e0 : Int} (he : checkPolygonP ps = e0) :
    Calls Try.prog 53 #[v] w fun e w' => e = .returned (.int .i64 e0) ∧ Below w.heap.size w w' := by
  subst he
  obtain ⟨h1, h2, a, cap, rfl, h4⟩ := hv
  by_cases h : 3 ≤ ps.length ∧ ps.length ≤ 20
  · obtain ⟨b, rfl, h6, h7⟩ := h4 (by omega)
    exact checkPolygon_any ps b cap w h.1 h.2 h6 h7 h1
  · exact (checkPolygon_short ps _ cap a w (by omega) rfl h2).mono fun e w' ⟨h, hw⟩ => ⟨h, hw ▸ Below.refl _ _⟩
theorem checkPolygonP_ok {ps : List Plc} (h : checkPolygonP ps = 0) : 3 ≤ ps.length ∧ ps.length ≤ 20 ∧ (∀ k, k < ps.length → cornerErr ps k = 0) ∧ ¬ Clash ps := by
  unfold checkPolygonP at h
  split at h
  · exact absurd h (by decide)
  · split at h
    · exact absurd h (by decide)
    · split at h
      · rename_i h1 h2 h3
        refine ⟨by omega, by omega, fun k hk => scan_inv ps.length 0 h3 k (Nat.zero_le _) (by omega), fun hc => ?_⟩
        rw [if_pos hc] at h
        exact absurd h (by decide)
      · contradiction
theorem cornerErr_mid {ps : List Plc} {k : Nat} (h1 : cornerErr ps k = 0) : Mid1 (plcAt ps k) := by
  unfold cornerErr at h1
  split at h1
  · rename_i h2
    obtain ⟨⟨a1, a2⟩, ⟨b1, b2⟩, _⟩ := placeB_iff.1 h2
    exact ⟨a1, a2, b1, b2⟩
  · exact absurd h1 (by decide)
def areaTerm (ps : List Plc) (k : Nat) : Int :=
  ((sideAt ps 1 k).x1 - (plcAt ps 0).x) * ((sideAt ps 1 k).y2 - (plcAt ps 0).y) - ((sideAt ps 1 k).y1 - (plcAt ps 0).y) * ((sideAt ps 1 k).x2 - (plcAt ps 0).x)
def areaSum (ps : List Plc) : Nat → Int
  | 0 => 0
  | k + 1 => areaSum ps k + areaTerm ps k
noncomputable def areaOfP (ps : List Plc) : Int × Int := if checkPolygonP ps = 0 then (max (areaSum ps ps.length) (-(areaSum ps ps.length)), 0) else (0, checkPolygonP ps)
theorem areaTerm_bd {ps : List Plc} (hm : ∀ k, k < ps.length → Mid1 (plcAt ps k)) {k : Nat} (hk : k < ps.length) : -80000000000000000 ≤ areaTerm ps k ∧ areaTerm ps k ≤ 80000000000000000 := by
  obtain ⟨a1, a2, a3, a4⟩ := hm k hk
  obtain ⟨b1, b2, b3, b4⟩ := hm (nextN ps.length k) (by unfold nextN; split <;> omega)
  obtain ⟨c1, c2, c3, c4⟩ := hm 0 (by omega)
  unfold areaTerm sideAt
  simp only [Int.one_mul]
  have p1 := prod_bd (a := (plcAt ps k).x - (plcAt ps 0).x) (b := (plcAt ps (nextN ps.length k)).y - (plcAt ps 0).y) 200000000 200000000 (by omega) (by omega) (by omega) (by omega) (by omega) (by omega)
  have p2 := prod_bd (a := (plcAt ps k).y - (plcAt ps 0).y) (b := (plcAt ps (nextN ps.length k)).x - (plcAt ps 0).x) 200000000 200000000 (by omega) (by omega) (by omega) (by omega) (by omega) (by omega)
  omega
theorem areaSum_bd {ps : List Plc} (hm : ∀ k, k < ps.length → Mid1 (plcAt ps k)) : ∀ k, k ≤ ps.length → -(k * 80000000000000000 : Int) ≤ areaSum ps k ∧ areaSum ps k ≤ k * 80000000000000000
  | 0, _ => by simp [areaSum]
  | k + 1, hk => by
    have := areaTerm_bd hm (show k < ps.length by omega)
    have := areaSum_bd hm k (by omega)
    unfold areaSum
    omega
set_option maxRecDepth 20000 in
set_option maxHeartbeats 1000000 in
theorem areaOf_any (ps : List Plc) (v : Value) (w : World) (hv : PlacesV w v ps) :
    Calls Try.prog 51 #[v] w fun e w' => e = .returned (.tuple #[.int .i64 (areaOfP ps).1, .int .i64 (areaOfP ps).2]) ∧ Below w.heap.size w w' := by
  by_cases h : checkPolygonP ps = 0
  · have HF : areaOfP ps = (max (areaSum ps ps.length) (-(areaSum ps ps.length)), 0) := by unfold areaOfP; rw [if_pos h]
    rw [HF]
    obtain ⟨l1, l2, l3, _⟩ := checkPolygonP_ok h
    have HE := Lib.hid h
    have HV := Lib.hid hv
    have hm : ∀ k, k < ps.length → Mid1 (plcAt ps k) := fun k hk => cornerErr_mid (l3 k hk)
    have HM := Lib.hid hm
    obtain ⟨h1, h2, a, cap, rfl, h4⟩ := hv
    obtain ⟨b, rfl, hb1, hpl⟩ := h4 (by omega)
    have HP := Lib.hid hpl
    obtain ⟨c1, c2, c3⟩ := hpl 0 (by omega)
    simp only [Nat.zero_mul, Nat.zero_add] at c1 c2 c3
    obtain ⟨m1, m2, m3, m4⟩ := hm 0 (by omega)
    obtain ⟨q, hq⟩ : ∃ q, plcAt ps 0 = q := ⟨_, rfl⟩
    have HQ := Lib.hid hq
    rw [hq] at c1 c2 c3 m1 m2 m3 m4
    have hmx : Mid q.x := by unfold Mid; omega
    have hmy : Mid q.y := by unfold Mid; omega
    have HMX := Lib.hid hmx
    have HMY := Lib.hid hmy
    have HPL : ∀ w', Below w.heap.size w w' → Places w' b ps := fun w' hb => HP.out.below hb1 hb
    clear hmx hmy hq hpl h4 h h1 hm HF l3
    go_enter Try.func51, Try.ntmps51
    go_wp2_with (first | (go_at_call 53; refine (checkPolygon_v ps _ _ HV.out HE.out).mono ?_; rintro e w' ⟨rfl, hb⟩; obtain ⟨p1, rfl⟩ := later_of_below hb; clear hb) | (go_at_call 120; refine (cornerOf_any _ _ _ _).mono ?_; rintro e w' ⟨rfl, hb⟩; obtain ⟨p2, rfl⟩ := later_of_below hb; clear hb) | (go_at_call 119; refine (sides_row ps 1 b cap _ (Or.inl rfl) (by omega) (by omega) (by simp; omega) (HPL _ ((by (repeat' (first | with_reducible exact Below.refl _ _ | (with_reducible refine below_later_of ?_ ?_ _) | (with_reducible refine Below.alloc ?_ ?_ _) | (with_reducible refine Below.setCell ?_ ?_ _) | (with_reducible refine Below.drew ?_) | (simp; done) | (simp; omega) | omega))))) HM.out).mono ?_; rintro e w2 ⟨g, c, rfl, hg1, hg2, hc1, hc2, hsd, hb2⟩))
    have HB := Lib.hid (show Below w.heap.size w w2 from (show Below w.heap.size w _ from (by (repeat' (first | with_reducible exact Below.refl _ _ | (with_reducible refine below_later_of ?_ ?_ _) | (with_reducible refine Below.alloc ?_ ?_ _) | (with_reducible refine Below.setCell ?_ ?_ _) | (with_reducible refine Below.drew ?_) | (simp; done) | (simp; omega) | omega)))).trans (hb2.mono (by simp; omega)))
    have hs6 : ∃ B6, B6 = w.heap.size + p1.os.size + p2.os.size ∧ B6 < w2.heap.size ∧ w2.cell? ⟨B6, 0, none⟩ = some (.int .i64 q.x) ∧ w2.cell? ⟨B6, 1, none⟩ = some (.int .i64 q.y) := by
      have hz := hb2.size
      simp at hz
      refine ⟨_, rfl, by omega, (hb2.cell (by simp)).trans ?_, (hb2.cell (by simp)).trans ?_⟩
      · (first | (simp [go_sem]; done) | simp [go_sem, ↓IntWalk.iteOmega])
      · (first | (simp [go_sem]; done) | simp [go_sem, ↓IntWalk.iteOmega])
    obtain ⟨B6, hB6, hlt6, e60, e61⟩ := hs6
    rw [← hB6]
    have E60 := Lib.hid e60
    have E61 := Lib.hid e61
    have HSD := Lib.hid hsd
    clear e60 e61 hsd hb2 hB6 HPL c1 c2 c3 hg1
    go_loopw [5, 21] (fun s i wr => ∃ k : Nat, k ≤ ps.length ∧ i = .int .i64 k ∧ s = .int .i64 (areaSum ps k) ∧ Below w2.heap.size w2 wr)
      (fun _ i _ => ps.length - (intOf i).toNat)
    case atStart => exact ⟨0, Nat.zero_le _, rfl, rfl, Below.refl _ _⟩
    case round =>
      obtain ⟨k, hk, rfl, rfl, hnx⟩ := hrel
      have HX := Lib.hid hnx
      have hsz := hnx.size
      obtain ⟨u1, u2⟩ := areaSum_bd HM.out k hk
      by_cases hlt : k < ps.length
      · obtain ⟨d1, d2, d3, d4⟩ := (HSD.out.below hg2 hnx) k hlt
        have e0 := (hnx.cell (p := ⟨B6, 0, none⟩) hlt6).trans E60.out
        have e1 := (hnx.cell (p := ⟨B6, 1, none⟩) hlt6).trans E61.out
        obtain ⟨t1, t2⟩ := areaTerm_bd HM.out hlt
        have hsum : areaSum ps (k + 1) = areaSum ps k + areaTerm ps k := rfl
        have HSU := Lib.hid hsum
        obtain ⟨sf1, sf2, sf3, sf4⟩ := sideAt_fit HM.out hlt
        have ht : areaTerm ps k = ((sideAt ps 1 k).x1 - q.x) * ((sideAt ps 1 k).y2 - q.y) - ((sideAt ps 1 k).y1 - q.y) * ((sideAt ps 1 k).x2 - q.x) := by unfold areaTerm; rw [HQ.out]
        generalize sideAt ps 1 k = s at d1 d2 d3 d4 sf1 sf2 sf3 sf4 ht
        have HT := Lib.hid ht
        rw [ht] at t1 t2
        have hmx := HMX.out
        have hmy := HMY.out
        generalize areaSum ps k = S at u1 u2 HSU
        have hgr : g < wr.heap.size := by omega
        have hbr : B6 < wr.heap.size := by omega
        clear hsum hnx ht
        go_wp2
        refine wp_region_calm (by kernel_rfl) (by kernel_rfl) ?_
        repeat (go_big_quiet_step (first | (go_at_call 121; exact calm_of (less_any _ _ _ _ _ (by assumption) (by assumption) (by assumption) (by assumption))) | (go_at_call 122; exact calm_of (cross_any _ _ _ _ _ (wide_sub (by assumption) (by assumption)) (wide_sub (by assumption) (by assumption)) (wide_sub (by assumption) (by assumption)) (wide_sub (by assumption) (by assumption))))))
        refine wpQuiet_nil ?_
        rintro _ ⟨p3, rfl⟩
        go_wp2
        go_roundw
        case rel => exact ⟨k + 1, by omega, by go_num, by rw [HSU.out, HT.out], HX.out.trans (show Below w2.heap.size wr _ from below_mono_of hsz (by (repeat' (first | with_reducible exact Below.refl _ _ | (with_reducible refine below_later_of ?_ ?_ _) | (with_reducible refine Below.alloc ?_ ?_ _) | (with_reducible refine Below.setCell ?_ ?_ _) | (with_reducible refine Below.drew ?_) | (simp; done) | (simp; omega) | omega))))⟩
        case measure => simp [intOf]; omega
      · have hkp : ps.length ≤ k := by omega
        obtain rfl : k = ps.length := by omega
        go_wp2
        go_ret2
        exact ⟨rfl, HB.out.trans (HX.out.mono HB.out.size)⟩
  · obtain ⟨e0, he⟩ : ∃ e0, checkPolygonP ps = e0 := ⟨_, rfl⟩
    have HF : areaOfP ps = (0, e0) := by unfold areaOfP; rw [if_neg h, he]
    rw [HF]
    rw [he] at h
    have HE := Lib.hid he
    have HV := Lib.hid hv
    clear HF he hv
    go_enter Try.func51, Try.ntmps51
    go_wp2_with (first | (go_at_call 53; refine (checkPolygon_v ps _ _ HV.out HE.out).mono ?_; rintro e w' ⟨rfl, hb⟩; obtain ⟨p1, rfl⟩ := later_of_below hb; clear hb))
    go_ret2
    exact ⟨rfl, (by (repeat' (first | with_reducible exact Below.refl _ _ | (with_reducible refine below_later_of ?_ ?_ _) | (with_reducible refine Below.alloc ?_ ?_ _) | (with_reducible refine Below.setCell ?_ ?_ _) | (with_reducible refine Below.drew ?_) | (simp; done) | (simp; omega) | omega)))⟩
end Go.Proofs.Ytokpdmlmlkkekaa
