/- Chapter 1: the reference's sampleErr. -/
import Derived.Test.YtkoiknmijjiicaaGreatDoorU65
import Derived.Test.YtkoiknmijjiicaaGreatDoorZJ
namespace Go.Proofs.YtkoiknmijjiicaaGreatDoor
set_option linter.unusedVariables false
set_option linter.unusedSimpArgs false
open Go.RowKit
theorem whole_shift {s : Bool} {m k : Nat} {e last : Int} {d : Nat} (hk : k = m * 2 ^ d) (hl : m ≠ 0 → last = e - d) : datWhole (.number s k last) = datWhole (.number s m e) := by
  subst hk
  by_cases hm : m = 0
  · subst hm
    simp [datWhole]
  · obtain rfl := hl hm
    simp only [datWhole]
    by_cases h0 : 0 ≤ e
    · by_cases h1 : 0 ≤ e - (d : Int)
      · rw [decide_eq_true h0, decide_eq_true h1]
        rfl
      · rw [decide_eq_true h0]
        have : m * 2 ^ d % 2 ^ (-(e - (d : Int))).toNat = 0 := by
          obtain ⟨c, hc⟩ : ∃ c, d = (-(e - (d : Int))).toNat + c := ⟨e.toNat, by omega⟩
          conv => lhs; lhs; rw [hc, Nat.pow_add]
          rw [Nat.mul_comm m, Nat.mul_assoc]
          exact Nat.mul_mod_right _ _
        rw [this]
        simp
    · rw [decide_eq_false h0, decide_eq_false (show ¬ 0 ≤ e - (d : Int) by omega)]
      have e1 : (-(e - (d : Int))).toNat = (-e).toNat + d := by omega
      rw [e1, Nat.pow_add, Nat.mul_mod_mul_right]
      have p := Nat.two_pow_pos d
      congr 1
      simp only [Nat.mul_eq_zero]
      rw [decide_eq_decide]
      omega
theorem wide_whole {b r : Nat} (h : WideOf b r) : wholeD r = wholeB b := by
  unfold WideOf at h
  unfold wholeD wholeB
  cases hd : Ieee.single.read b with
  | number s m e =>
    rw [hd] at h
    dsimp only at h
    subst h
    obtain ⟨h1, h2, h3⟩ := read_single hd
    obtain ⟨k, last, d, hr, hk, hl, -⟩ := wide_of (s := s) h1 h2 h3
    rw [hr]
    exact whole_shift hk hl
  | infinity s =>
    rw [hd] at h
    dsimp only at h
    subst h
    rw [show Ieee.double.read (Ieee.double.word s Ieee.double.infRung) = .infinity s by cases s <;> decide]
  | nan s t =>
    rw [hd] at h
    dsimp only at h
    obtain ⟨hlt, s', t', hr⟩ := h
    rw [hr]
    rfl
theorem wide_int {b r : Nat} (h : WideOf b r) (hw : wholeB b = true) : intD r = intB b := (intD_of (wide_fnum h hw)).2
theorem partD_wide {a b r s : Nat} {m : Int} (ha : WideOf a r) (hb : WideOf b s) : partD r s m = partE a b m := by
  unfold partD partE
  rw [wide_whole ha, wide_whole hb]
  by_cases h : (wholeB a && wholeB b) = true
  · rw [if_pos h, if_pos h]
    simp only [Bool.and_eq_true] at h
    rw [wide_int ha h.1, wide_int hb h.2]
  · rw [if_neg h, if_neg h]
end Go.Proofs.YtkoiknmijjiicaaGreatDoor
