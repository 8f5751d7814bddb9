/- Chapter 1: base.SameImage. -/
import Derived.Test.YtakohhlmomgegaaDoorU99
namespace Go.Proofs.YtakohhlmomgegaaDoor
set_option linter.unusedVariables false
set_option linter.unusedSimpArgs false
open Go.RowKit Ntt
theorem samV_below {w w' : World} {v : Value} {n : Nat} {f : Nat → Nat × Nat} (h : SamV w v n f) (hw : Below w.heap.size w w') : SamV w' v n f := by
  obtain ⟨h1, a, cap, h3, h4⟩ := h
  refine ⟨h1, a, cap, h3, fun hp => ?_⟩
  obtain ⟨b, off, h5, h6, h7⟩ := h4 hp
  exact ⟨b, off, h5, Nat.lt_of_lt_of_le h6 hw.size, h7.below h6 hw⟩
set_option maxHeartbeats 1000000 in
theorem sameImage_any (L S L' S' : Int) (n m : Nat) (f g : Nat → Nat × Nat) (v u : Value) (w : World) (hx : SamV w v n f) (hy : SamV w u m g) {c : Bool} (hc : c = true ↔ L = L' ∧ S = S' ∧ SameF n m f g) :
    Calls Tryd.prog 67 #[.agg #[.int .i64 L, .int .i64 S, v], .agg #[.int .i64 L', .int .i64 S', u]] w fun e w' => e = .returned (.bool c) ∧ Below w.heap.size w w' := by
  have HC := Lib.hid hc
  by_cases h1 : L = L'
  · subst h1
    have d1 : (L == L) = true := by simp
    by_cases h2 : S = S'
    · subst h2
      have d2 : (S == S) = true := by simp
      have HSS := Lib.hid (show ∀ W, Below w.heap.size w W → _ from fun W hW => sameSamples_any n m f g v u W (samV_below hx hW) (samV_below hy hW) (c := c) (by rw [hc]; simp))
      obtain ⟨-, a, cap, rfl, -⟩ := hx
      obtain ⟨-, a', cap', rfl, -⟩ := hy
      clear hc
      go_enter Tryd.func67, Tryd.ntmps67
      go_wp2_with (first | (go_at_call 119; (with_reducible refine (HSS.out _ (by (repeat' (first | with_reducible exact Below.refl _ _ | (with_reducible refine below_later_of ?_ ?_ _) | (with_reducible refine Below.alloc ?_ ?_ _) | (with_reducible refine Below.setCell ?_ ?_ _) | (with_reducible refine Below.drew ?_) | (simp; done) | (simp; omega) | omega)))).mono ?_); rintro e w' ⟨rfl, hb⟩; obtain ⟨pp4, rfl⟩ := later_of_below hb; clear hb))
      go_ret
      exact ⟨rfl, (by (repeat' (first | with_reducible exact Below.refl _ _ | (with_reducible refine below_later_of ?_ ?_ _) | (with_reducible refine Below.alloc ?_ ?_ _) | (with_reducible refine Below.setCell ?_ ?_ _) | (with_reducible refine Below.drew ?_) | (simp; done) | (simp; omega) | omega)))⟩
    · have d2 : (S == S') = false := by simpa using h2
      have HF := Lib.hid (show false = c by symm; rw [Bool.eq_false_iff]; intro h; exact h2 (hc.1 h).2.1)
      obtain ⟨-, a, cap, rfl, -⟩ := hx
      obtain ⟨-, a', cap', rfl, -⟩ := hy
      clear hc h2
      go_enter Tryd.func67, Tryd.ntmps67
      go_wp2
      go_ret
      exact ⟨ret_bool HF.out, (by (repeat' (first | with_reducible exact Below.refl _ _ | (with_reducible refine below_later_of ?_ ?_ _) | (with_reducible refine Below.alloc ?_ ?_ _) | (with_reducible refine Below.setCell ?_ ?_ _) | (with_reducible refine Below.drew ?_) | (simp; done) | (simp; omega) | omega)))⟩
  · have d1 : (L == L') = false := by simpa using h1
    have HF := Lib.hid (show false = c by symm; rw [Bool.eq_false_iff]; intro h; exact h1 (hc.1 h).1)
    obtain ⟨-, a, cap, rfl, -⟩ := hx
    obtain ⟨-, a', cap', rfl, -⟩ := hy
    clear hc h1
    go_enter Tryd.func67, Tryd.ntmps67
    go_wp2
    go_ret
    exact ⟨ret_bool HF.out, (by (repeat' (first | with_reducible exact Below.refl _ _ | (with_reducible refine below_later_of ?_ ?_ _) | (with_reducible refine Below.alloc ?_ ?_ _) | (with_reducible refine Below.setCell ?_ ?_ _) | (with_reducible refine Below.drew ?_) | (simp; done) | (simp; omega) | omega)))⟩
end Go.Proofs.YtakohhlmomgegaaDoor
