/- Chapter 1: CheckField, fieldErr. -/
import Derived.Test.YtelchmimhnpkaaaU31
namespace Go.Proofs.Ytelchmimhnpkaaa
set_option linter.unusedVariables false
open Go.RowKit
theorem num_maxField : FNum Ieee.double 4741671816366391296 1000000000 := ⟨false, 8388608000000000, -23, 1000000000, by decide, by unfold Mag; decide, by decide⟩
/-- The number of a sample, and the error of a field. -/
def fldE (L S : Int) (n : Nat) (f : Nat → Nat × Nat) : Nat × Int := if sizeE L S n = 0 then firstE n (gD f 1000000000) else (0, sizeE L S n)
/-- Where the numbers of a field lie, if it has the right size. -/
def FldAt (W : World) (L S : Int) (n : Nat) (f : Nat → Nat × Nat) (a : Option Addr) : Prop := sizeE L S n = 0 → ∃ b off, a = some ⟨b, off, none⟩ ∧ b < W.heap.size ∧ SumsAt W b off n f
theorem FldAt.below {W W' : World} {L S : Int} {n : Nat} {f : Nat → Nat × Nat} {a : Option Addr} (h : FldAt W L S n f a) (hb : Below W.heap.size W W') : FldAt W' L S n f a := fun h0 => by
  obtain ⟨b, off, h1, h2, h3⟩ := h h0
  exact ⟨b, off, h1, by have := hb.size; omega, h3.below h2 hb⟩
def Wide64 (n : Nat) (f : Nat → Nat × Nat) : Prop := ∀ k, k < n → (f k).1 < 2 ^ 64 ∧ (f k).2 < 2 ^ 64
set_option maxHeartbeats 1000000 in
theorem checkField_any (L S : Int) (n cap : Nat) (f : Nat → Nat × Nat) (a : Option Addr) (w : World) (hl : n ≤ 100000) (hd : FldAt w L S n f a) (hw : Wide64 n f) {i0 : Nat} {e0 : Int} (he : fldE L S n f = (i0, e0)) :
    Calls Try.prog 130 #[.agg #[.int .i64 L, .int .i64 S, .slice a n cap]] w fun e w' => e = .returned (.tuple #[.int .i64 i0, .int .i64 e0]) ∧ Below w.heap.size w w' := by
  obtain ⟨z, hz⟩ : ∃ z, sizeE L S n = z := ⟨_, rfl⟩
  have HS := Lib.hid (fun w => sizeErr_any L S n w hz)
  by_cases h0 : z = 0
  · subst h0
    obtain ⟨b, off, rfl, hbw, hf⟩ := hd hz
    have he' : firstE n (gD f 1000000000) = (i0, e0) := by rw [← he]; unfold fldE; rw [if_pos hz]
    have HV := Lib.hid (show ∀ W, Below w.heap.size w W → _ from fun W hW => samplesErrD_any n b off cap _ 1000000000 f W num_maxField hl (by have := hW.size; omega) (hf.below hbw hW) hw he')
    clear hz hd he he' hf hw
    go_enter Try.func130, Try.ntmps130
    go_wp2_with (first | (go_at_call 180; (with_reducible refine (HS.out _).mono ?_); rintro e w' ⟨rfl, rfl⟩) | (go_at_call 186; (with_reducible refine (HV.out _ (by (repeat' (first | with_reducible exact Below.refl _ _ | (with_reducible refine below_later_of ?_ ?_ _) | (with_reducible refine Below.alloc ?_ ?_ _) | (with_reducible refine Below.setCell ?_ ?_ _) | (with_reducible refine Below.drew ?_) | (simp; done) | (simp; omega) | omega)))).mono ?_); rintro e w' ⟨rfl, hb⟩; obtain ⟨pp, rfl⟩ := later_of_below hb; clear hb))
    go_ret2
    exact ⟨rfl, (by (repeat' (first | with_reducible exact Below.refl _ _ | (with_reducible refine below_later_of ?_ ?_ _) | (with_reducible refine Below.alloc ?_ ?_ _) | (with_reducible refine Below.setCell ?_ ?_ _) | (with_reducible refine Below.drew ?_) | (simp; done) | (simp; omega) | omega)))⟩
  · have he' : (0, z) = (i0, e0) := by rw [← he]; unfold fldE; rw [hz, if_neg h0]
    obtain ⟨rfl, rfl⟩ := Prod.mk.inj he'
    have hne : (z != 0) = true := by simpa using h0
    clear hz hd he he' h0 hw
    go_enter Try.func130, Try.ntmps130
    go_wp2_with (first | (go_at_call 180; (with_reducible refine (HS.out _).mono ?_); rintro e w' ⟨rfl, rfl⟩))
    go_ret2
    exact ⟨rfl, (by (repeat' (first | with_reducible exact Below.refl _ _ | (with_reducible refine below_later_of ?_ ?_ _) | (with_reducible refine Below.alloc ?_ ?_ _) | (with_reducible refine Below.setCell ?_ ?_ _) | (with_reducible refine Below.drew ?_) | (simp; done) | (simp; omega) | omega)))⟩
set_option maxHeartbeats 1000000 in
theorem fieldErr_any (L S : Int) (n cap : Nat) (f : Nat → Nat × Nat) (a : Option Addr) (w : World) (hl : n ≤ 100000) (hd : FldAt w L S n f a) (hw : Wide64 n f) {e0 : Int} (he : (fldE L S n f).2 = e0) :
    Calls Try.prog 70 #[.agg #[.int .i64 L, .int .i64 S, .slice a n cap]] w fun e w' => e = .returned (.int .i64 e0) ∧ Below w.heap.size w w' := by
  have HI := Lib.hid (show ∀ W, Below w.heap.size w W → _ from fun W hW => checkField_any L S n cap f a W hl (hd.below hW) hw (i0 := (fldE L S n f).1) (e0 := e0) (by rw [← he]))
  clear hd he
  generalize (fldE L S n f).1 = i0 at HI
  go_enter Try.func70, Try.ntmps70
  go_wp2_with (first | (go_at_call 130; (with_reducible refine (HI.out _ (by (repeat' (first | with_reducible exact Below.refl _ _ | (with_reducible refine below_later_of ?_ ?_ _) | (with_reducible refine Below.alloc ?_ ?_ _) | (with_reducible refine Below.setCell ?_ ?_ _) | (with_reducible refine Below.drew ?_) | (simp; done) | (simp; omega) | omega)))).mono ?_); rintro e w' ⟨rfl, hb⟩; obtain ⟨pp, rfl⟩ := later_of_below hb; clear hb))
  go_ret
  exact ⟨rfl, (by (repeat' (first | with_reducible exact Below.refl _ _ | (with_reducible refine below_later_of ?_ ?_ _) | (with_reducible refine Below.alloc ?_ ?_ _) | (with_reducible refine Below.setCell ?_ ?_ _) | (with_reducible refine Below.drew ?_) | (simp; done) | (simp; omega) | omega)))⟩
def xD (f : Nat → Nat × Nat) (k : Nat) : Int := intD (f k).1
def yD (f : Nat → Nat × Nat) (k : Nat) : Int := intD (f k).2
/-- Numbers of a field whose parts are whole and of at most B. -/
def SmallD (n : Nat) (f : Nat → Nat × Nat) (X Y : Nat → Int) (B : Int) : Prop := ∀ k, k < n → CNum (f k).1 (f k).2 (X k) (Y k) ∧ (-B ≤ X k ∧ X k ≤ B) ∧ -B ≤ Y k ∧ Y k ≤ B
theorem smallD_of {n : Nat} {f : Nat → Nat × Nat} {m : Int} (hw : Wide64 n f) (h : ∀ k, k < n → gD f m k = 0) : SmallD n f (xD f) (yD f) m := fun k hk => by
  obtain ⟨⟨h1, h2, h3⟩, h4, h5, h6⟩ := partD_ok (h k hk)
  exact ⟨⟨h1, h4, (hw k hk).1, (hw k hk).2⟩, ⟨h2, h3⟩, h5, h6⟩
theorem fldE_zero {L S : Int} {n : Nat} {f : Nat → Nat × Nat} (h : (fldE L S n f).2 = 0) : sizeE L S n = 0 ∧ ∀ k, k < n → gD f 1000000000 k = 0 := by
  unfold fldE at h
  by_cases h0 : sizeE L S n = 0
  · rw [if_pos h0] at h
    exact ⟨h0, firstE_zero h⟩
  · rw [if_neg h0] at h
    exact absurd h h0
end Go.Proofs.Ytelchmimhnpkaaa
