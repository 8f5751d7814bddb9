/- Chapter 1: Shifted. -/
import Derived.Test.YtakohhlmomgegaaDoorU95
import Derived.Test.YtakohhlmomgegaaDoorZP
namespace Go.Proofs.YtakohhlmomgegaaDoor
set_option linter.unusedVariables false
set_option linter.unusedSimpArgs false
open Go.RowKit Ntt
/-- The error of a shift. -/
def shfE (L S : Int) (n : Nat) (f : Nat → Nat × Nat) (p q : Int) : Int := if (imgE L S n f).2 = 0 then (if inE (-64) 64 p && inE (-64) 64 q then 0 else 2) else (imgE L S n f).2
set_option maxHeartbeats 1000000 in
theorem shifted_bad (L S : Int) (n cap : Nat) (f : Nat → Nat × Nat) (a : Option Addr) (p q : Int) (w : World) (hn : n ≤ 100000) (hd : DataAt w L S n f a) {e0 : Int} (he : shfE L S n f p q = e0) (h0 : e0 ≠ 0) :
    Calls Tryd.prog 65 #[.agg #[.int .i64 L, .int .i64 S, .slice a n cap], .agg #[.int .i64 p, .int .i64 q]] w fun e w' => e = .returned (.tuple #[.agg #[.int .i64 0, .int .i64 0, .slice none 0 0], .int .i64 e0]) ∧ Below w.heap.size w w' := by
  have HIM := Lib.hid (show ∀ W, Below w.heap.size w W → _ from fun W hW => imageErr_any L S n cap f a W hn (hd.below hW) rfl)
  unfold shfE at he
  generalize (imgE L S n f).2 = z at HIM he
  clear hd
  by_cases hz : z = 0
  · subst hz
    rw [if_pos rfl] at he
    rcases (show inE (-64) 64 p = false ∨ inE (-64) 64 p = true by cases inE (-64) 64 p <;> simp) with i1 | i1
    · have H1 := Lib.hid i1
      obtain rfl : e0 = 2 := by rw [i1] at he; exact he.symm
      clear he i1 h0
      go_enter Tryd.func65, Tryd.ntmps65
      go_wp2_with (first | (go_at_call 78; (with_reducible refine (HIM.out _ (by (repeat' (first | with_reducible exact Below.refl _ _ | (with_reducible refine below_later_of ?_ ?_ _) | (with_reducible refine Below.alloc ?_ ?_ _) | (with_reducible refine Below.setCell ?_ ?_ _) | (with_reducible refine Below.drew ?_) | (simp; done) | (simp; omega) | omega)))).mono ?_); rintro e w' ⟨rfl, hb⟩; obtain ⟨pq, rfl⟩ := later_of_below hb; clear hb) | (go_at_call 99; (with_reducible refine (within_e _ _ _ _ H1.out).mono ?_); rintro e w' ⟨rfl, rfl⟩))
      refine bodyPost_ret ?_ rfl ⟨rfl, (by (repeat' (first | with_reducible exact Below.refl _ _ | (with_reducible refine below_later_of ?_ ?_ _) | (with_reducible refine Below.alloc ?_ ?_ _) | (with_reducible refine Below.setCell ?_ ?_ _) | (with_reducible refine Below.drew ?_) | (simp; done) | (simp; omega) | omega)))⟩
      (first | (simp [results, Tryd.results65, go_sem]; done) | simp [results, Tryd.results65, go_sem, ↓IntWalk.iteOmega])
    · rcases (show inE (-64) 64 q = false ∨ inE (-64) 64 q = true by cases inE (-64) 64 q <;> simp) with i2 | i2
      · have H1 := Lib.hid i1
        have H2 := Lib.hid i2
        obtain rfl : e0 = 2 := by rw [i1, i2] at he; exact he.symm
        clear he i1 i2 h0
        go_enter Tryd.func65, Tryd.ntmps65
        go_wp2_with (first | (go_at_call 78; (with_reducible refine (HIM.out _ (by (repeat' (first | with_reducible exact Below.refl _ _ | (with_reducible refine below_later_of ?_ ?_ _) | (with_reducible refine Below.alloc ?_ ?_ _) | (with_reducible refine Below.setCell ?_ ?_ _) | (with_reducible refine Below.drew ?_) | (simp; done) | (simp; omega) | omega)))).mono ?_); rintro e w' ⟨rfl, hb⟩; obtain ⟨pq, rfl⟩ := later_of_below hb; clear hb) | (go_at_call 99; (with_reducible refine (within_e _ _ _ _ H1.out).mono ?_); rintro e w' ⟨rfl, rfl⟩) | (go_at_call 99; (with_reducible refine (within_e _ _ _ _ H2.out).mono ?_); rintro e w' ⟨rfl, rfl⟩))
        refine bodyPost_ret ?_ rfl ⟨rfl, (by (repeat' (first | with_reducible exact Below.refl _ _ | (with_reducible refine below_later_of ?_ ?_ _) | (with_reducible refine Below.alloc ?_ ?_ _) | (with_reducible refine Below.setCell ?_ ?_ _) | (with_reducible refine Below.drew ?_) | (simp; done) | (simp; omega) | omega)))⟩
        (first | (simp [results, Tryd.results65, go_sem]; done) | simp [results, Tryd.results65, go_sem, ↓IntWalk.iteOmega])
      · rw [i1, i2] at he
        exact absurd he.symm h0
  · rw [if_neg hz] at he
    subst he
    have hne : (z != 0) = true := by simpa using hz
    clear hz h0
    go_enter Tryd.func65, Tryd.ntmps65
    go_wp2_with (first | (go_at_call 78; (with_reducible refine (HIM.out _ (by (repeat' (first | with_reducible exact Below.refl _ _ | (with_reducible refine below_later_of ?_ ?_ _) | (with_reducible refine Below.alloc ?_ ?_ _) | (with_reducible refine Below.setCell ?_ ?_ _) | (with_reducible refine Below.drew ?_) | (simp; done) | (simp; omega) | omega)))).mono ?_); rintro e w' ⟨rfl, hb⟩; obtain ⟨pq, rfl⟩ := later_of_below hb; clear hb))
    refine bodyPost_ret ?_ rfl ⟨rfl, (by (repeat' (first | with_reducible exact Below.refl _ _ | (with_reducible refine below_later_of ?_ ?_ _) | (with_reducible refine Below.alloc ?_ ?_ _) | (with_reducible refine Below.setCell ?_ ?_ _) | (with_reducible refine Below.drew ?_) | (simp; done) | (simp; omega) | omega)))⟩
    (first | (simp [results, Tryd.results65, go_sem]; done) | simp [results, Tryd.results65, go_sem, ↓IntWalk.iteOmega])
end Go.Proofs.YtakohhlmomgegaaDoor
