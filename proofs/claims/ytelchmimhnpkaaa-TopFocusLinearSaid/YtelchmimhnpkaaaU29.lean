/- Chapter 1: CheckImage, CheckField, their errors alone. -/
import Derived.Test.YtelchmimhnpkaaaU28
namespace Go.Proofs.Ytelchmimhnpkaaa
set_option linter.unusedVariables false
open Go.RowKit
theorem num_2047 : FNum Ieee.double 4656717616654581760 2047 := ⟨false, 9002801208229888, -42, 2047, by decide, by unfold Mag; decide, by decide⟩
theorem num_3 : FNum Ieee.double 4613937818241073152 3 := ⟨false, 6755399441055744, -51, 3, by decide, by unfold Mag; decide, by decide⟩
/-- The number of a sample, and the error of an image. -/
def imgE (L S : Int) (n : Nat) (f : Nat → Nat × Nat) : Nat × Int := if sizeE L S n = 0 then firstE n (gE f 2047) else (0, sizeE L S n)
/-- Where the data of an image lie, if it has the right size. -/
def DataAt (W : World) (L S : Int) (n : Nat) (f : Nat → Nat × Nat) (a : Option Addr) : Prop := sizeE L S n = 0 → ∃ b off, a = some ⟨b, off, none⟩ ∧ b < W.heap.size ∧ SamplesAt W b off n f
theorem DataAt.below {W W' : World} {L S : Int} {n : Nat} {f : Nat → Nat × Nat} {a : Option Addr} (h : DataAt W L S n f a) (hb : Below W.heap.size W W') : DataAt W' L S n f a := fun h0 => by
  obtain ⟨b, off, h1, h2, h3⟩ := h h0
  exact ⟨b, off, h1, by have := hb.size; omega, h3.below h2 hb⟩
set_option maxHeartbeats 1000000 in
theorem checkImage_any (L S : Int) (n cap : Nat) (f : Nat → Nat × Nat) (a : Option Addr) (w : World) (hl : n ≤ 100000) (hd : DataAt w L S n f a) {i0 : Nat} {e0 : Int} (he : imgE L S n f = (i0, e0)) :
    Calls Try.prog 126 #[.agg #[.int .i64 L, .int .i64 S, .slice a n cap]] w fun e w' => e = .returned (.tuple #[.int .i64 i0, .int .i64 e0]) ∧ Below w.heap.size w w' := by
  obtain ⟨z, hz⟩ : ∃ z, sizeE L S n = z := ⟨_, rfl⟩
  have HS := Lib.hid (fun w => sizeErr_any L S n w hz)
  by_cases h0 : z = 0
  · subst h0
    obtain ⟨b, off, rfl, hbw, hf⟩ := hd hz
    have he' : firstE n (gE f 2047) = (i0, e0) := by rw [← he]; unfold imgE; rw [if_pos hz]
    have HV := Lib.hid (show ∀ W, Below w.heap.size w W → _ from fun W hW => samplesErr_any n b off cap _ 2047 f W num_2047 hl (by have := hW.size; omega) (hf.below hbw hW) he')
    clear hz hd he he' hf
    go_enter Try.func126, Try.ntmps126
    go_wp2_with (first | (go_at_call 180; (with_reducible refine (HS.out _).mono ?_); rintro e w' ⟨rfl, rfl⟩) | (go_at_call 181; (with_reducible refine (HV.out _ (by (repeat' (first | with_reducible exact Below.refl _ _ | (with_reducible refine below_later_of ?_ ?_ _) | (with_reducible refine Below.alloc ?_ ?_ _) | (with_reducible refine Below.setCell ?_ ?_ _) | (with_reducible refine Below.drew ?_) | (simp; done) | (simp; omega) | omega)))).mono ?_); rintro e w' ⟨rfl, hb⟩; obtain ⟨pp, rfl⟩ := later_of_below hb; clear hb))
    go_ret2
    exact ⟨rfl, (by (repeat' (first | with_reducible exact Below.refl _ _ | (with_reducible refine below_later_of ?_ ?_ _) | (with_reducible refine Below.alloc ?_ ?_ _) | (with_reducible refine Below.setCell ?_ ?_ _) | (with_reducible refine Below.drew ?_) | (simp; done) | (simp; omega) | omega)))⟩
  · have he' : (0, z) = (i0, e0) := by rw [← he]; unfold imgE; rw [hz, if_neg h0]
    obtain ⟨rfl, rfl⟩ := Prod.mk.inj he'
    have hne : (z != 0) = true := by simpa using h0
    clear hz hd he he' h0
    go_enter Try.func126, Try.ntmps126
    go_wp2_with (first | (go_at_call 180; (with_reducible refine (HS.out _).mono ?_); rintro e w' ⟨rfl, rfl⟩))
    go_ret2
    exact ⟨rfl, (by (repeat' (first | with_reducible exact Below.refl _ _ | (with_reducible refine below_later_of ?_ ?_ _) | (with_reducible refine Below.alloc ?_ ?_ _) | (with_reducible refine Below.setCell ?_ ?_ _) | (with_reducible refine Below.drew ?_) | (simp; done) | (simp; omega) | omega)))⟩
set_option maxHeartbeats 1000000 in
theorem imageErr_any (L S : Int) (n cap : Nat) (f : Nat → Nat × Nat) (a : Option Addr) (w : World) (hl : n ≤ 100000) (hd : DataAt w L S n f a) {e0 : Int} (he : (imgE L S n f).2 = e0) :
    Calls Try.prog 58 #[.agg #[.int .i64 L, .int .i64 S, .slice a n cap]] w fun e w' => e = .returned (.int .i64 e0) ∧ Below w.heap.size w w' := by
  have HI := Lib.hid (show ∀ W, Below w.heap.size w W → _ from fun W hW => checkImage_any L S n cap f a W hl (hd.below hW) (i0 := (imgE L S n f).1) (e0 := e0) (by rw [← he]))
  clear hd he
  generalize (imgE L S n f).1 = i0 at HI
  go_enter Try.func58, Try.ntmps58
  go_wp2_with (first | (go_at_call 126; (with_reducible refine (HI.out _ (by (repeat' (first | with_reducible exact Below.refl _ _ | (with_reducible refine below_later_of ?_ ?_ _) | (with_reducible refine Below.alloc ?_ ?_ _) | (with_reducible refine Below.setCell ?_ ?_ _) | (with_reducible refine Below.drew ?_) | (simp; done) | (simp; omega) | omega)))).mono ?_); rintro e w' ⟨rfl, hb⟩; obtain ⟨pp, rfl⟩ := later_of_below hb; clear hb))
  go_ret
  exact ⟨rfl, (by (repeat' (first | with_reducible exact Below.refl _ _ | (with_reducible refine below_later_of ?_ ?_ _) | (with_reducible refine Below.alloc ?_ ?_ _) | (with_reducible refine Below.setCell ?_ ?_ _) | (with_reducible refine Below.drew ?_) | (simp; done) | (simp; omega) | omega)))⟩
end Go.Proofs.Ytelchmimhnpkaaa
