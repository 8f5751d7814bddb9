/- Chapter 1: samplesErr, CheckImage. -/
import Derived.Test.YtelchmimhnpkaaaU27
namespace Go.Proofs.Ytelchmimhnpkaaa
set_option linter.unusedVariables false
open Go.RowKit
def gE (f : Nat → Nat × Nat) (m : Int) (k : Nat) : Int := partE (f k).1 (f k).2 m
set_option maxHeartbeats 1000000 in
theorem samplesErr_any (n b off cap M : Nat) (m : Int) (f : Nat → Nat × Nat) (w : World) (hM : FNum Ieee.double M m) (hl : n ≤ 100000) (hbw : b < w.heap.size) (hf : SamplesAt w b off n f) {i0 : Nat} {e0 : Int} (he : firstE n (gE f m) = (i0, e0)) :
    Calls Try.prog 181 #[.slice (some ⟨b, off, none⟩) n cap, .float .f64 M] w fun e w' => e = .returned (.tuple #[.int .i64 i0, .int .i64 e0]) ∧ Below w.heap.size w w' := by
  have HF := Lib.hid hf
  have HM := Lib.hid hM
  have HE := Lib.hid he
  clear hf hM he
  go_enter Try.func181, Try.ntmps181
  go_wp2
  go_loopw [11] (fun i wr => ∃ k : Nat, k ≤ n ∧ i = .int .i64 k ∧ (∀ j, j < k → gE f m j = 0) ∧ Below w.heap.size w wr) (fun i _ => n - (intOf i).toNat)
  case atStart => exact ⟨0, Nat.zero_le _, rfl, fun j hj => absurd hj (Nat.not_lt_zero _), Below.refl _ _⟩
  case round =>
    obtain ⟨k, hk, rfl, hz, hb⟩ := hrel
    have HZ := Lib.hid hz
    have HB := Lib.hid hb
    by_cases hlt : k < n
    · have hdk : decide ((k : Int) < (n : Int)) = true := by simp; omega
      have ck := (hb.cell (p := ⟨b, off + k, none⟩) hbw).trans (HF.out k hlt)
      have hszb := hb.size
      clear hz hb
      rcases Decidable.em (gE f m k = 0) with h0 | h0
      · have HP := Lib.hid (show ∀ W, Calls Try.prog 224 #[.complex .f32 (f k).1 (f k).2, .float .f64 M] W fun e w' => e = .returned (.int .i64 0) ∧ Below W.heap.size W w' from fun W => by
          have := partErr_any (f k).1 (f k).2 M HM.out W
          rwa [show partE (f k).1 (f k).2 m = 0 from h0] at this)
        have H0 := Lib.hid h0
        clear h0
        go_wp2_with (first | (go_at_call 224; (with_reducible refine (HP.out _).mono ?_); rintro e w' ⟨rfl, hb⟩; obtain ⟨pp, rfl⟩ := later_of_below hb; clear hb))
        go_roundw
        case rel => exact ⟨k + 1, by omega, by go_num, fun j hj => by rcases Nat.lt_succ_iff_lt_or_eq.1 hj with h | rfl; exact HZ.out j h; exact H0.out, HB.out.trans (by (repeat' (first | with_reducible exact Below.refl _ _ | (with_reducible refine below_later_of ?_ ?_ _) | (with_reducible refine Below.alloc ?_ ?_ _) | (with_reducible refine Below.setCell ?_ ?_ _) | (with_reducible refine Below.drew ?_) | (simp; done) | (simp; omega) | omega)))⟩
        case measure => simp [intOf]; omega
      · have hE := (firstE_hit hlt HZ.out h0).symm.trans HE.out
        obtain ⟨rfl, rfl⟩ := Prod.mk.inj hE
        have HP := Lib.hid (show ∀ W, Calls Try.prog 224 #[.complex .f32 (f k).1 (f k).2, .float .f64 M] W fun e w' => e = .returned (.int .i64 (gE f m k)) ∧ Below W.heap.size W w' from fun W => partErr_any (f k).1 (f k).2 M HM.out W)
        have hne : (gE f m k != 0) = true := by simpa using h0
        clear h0 hE HE
        obtain ⟨z, hz0⟩ : ∃ z, gE f m k = z := ⟨_, rfl⟩
        rw [hz0] at hne HP
        have HZ0 := Lib.hid hz0
        clear hz0
        go_wp2_with (first | (go_at_call 224; (with_reducible refine (HP.out _).mono ?_); rintro e w' ⟨rfl, hb⟩; obtain ⟨pp, rfl⟩ := later_of_below hb; clear hb))
        go_ret2
        exact ⟨by rw [HZ0.out]; rfl, HB.out.trans (by (repeat' (first | with_reducible exact Below.refl _ _ | (with_reducible refine below_later_of ?_ ?_ _) | (with_reducible refine Below.alloc ?_ ?_ _) | (with_reducible refine Below.setCell ?_ ?_ _) | (with_reducible refine Below.drew ?_) | (simp; done) | (simp; omega) | omega)))⟩
    · obtain rfl : k = n := by omega
      have hdk : decide ((k : Int) < (k : Int)) = false := by simp
      clear hz hb
      have hE := (firstE_ok HZ.out).symm.trans HE.out
      obtain ⟨rfl, rfl⟩ := Prod.mk.inj hE
      clear hE HE
      go_wp2
      go_ret2
      exact ⟨rfl, HB.out⟩
/-- Numbers of a field in memory: n of them, with these bits. -/
def SumsAt (W : World) (b off n : Nat) (f : Nat → Nat × Nat) : Prop := ∀ k, k < n → W.cell? ⟨b, off + k, none⟩ = some (.complex .f64 (f k).1 (f k).2)
theorem SumsAt.below {w w' : World} {b off n : Nat} {f : Nat → Nat × Nat} (h : SumsAt w b off n f) (hb : b < w.heap.size) (hw : Below w.heap.size w w') : SumsAt w' b off n f :=
  fun k hk => (hw.cell (p := ⟨b, off + k, none⟩) hb).trans (h k hk)
def gD (f : Nat → Nat × Nat) (m : Int) (k : Nat) : Int := partD (f k).1 (f k).2 m
set_option maxHeartbeats 1000000 in
theorem samplesErrD_any (n b off cap M : Nat) (m : Int) (f : Nat → Nat × Nat) (w : World) (hM : FNum Ieee.double M m) (hl : n ≤ 100000) (hbw : b < w.heap.size) (hf : SumsAt w b off n f) (hw : ∀ k, k < n → (f k).1 < 2 ^ 64 ∧ (f k).2 < 2 ^ 64) {i0 : Nat} {e0 : Int} (he : firstE n (gD f m) = (i0, e0)) :
    Calls Try.prog 186 #[.slice (some ⟨b, off, none⟩) n cap, .float .f64 M] w fun e w' => e = .returned (.tuple #[.int .i64 i0, .int .i64 e0]) ∧ Below w.heap.size w w' := by
  have HF := Lib.hid hf
  have HM := Lib.hid hM
  have HL := Lib.hid hw
  have HE := Lib.hid he
  clear hf hM he hw
  go_enter Try.func186, Try.ntmps186
  go_wp2
  go_loopw [11] (fun i wr => ∃ k : Nat, k ≤ n ∧ i = .int .i64 k ∧ (∀ j, j < k → gD f m j = 0) ∧ Below w.heap.size w wr) (fun i _ => n - (intOf i).toNat)
  case atStart => exact ⟨0, Nat.zero_le _, rfl, fun j hj => absurd hj (Nat.not_lt_zero _), Below.refl _ _⟩
  case round =>
    obtain ⟨k, hk, rfl, hz, hb⟩ := hrel
    have HZ := Lib.hid hz
    have HB := Lib.hid hb
    by_cases hlt : k < n
    · have hdk : decide ((k : Int) < (n : Int)) = true := by simp; omega
      have ck := (hb.cell (p := ⟨b, off + k, none⟩) hbw).trans (HF.out k hlt)
      have hszb := hb.size
      clear hz hb
      rcases Decidable.em (gD f m k = 0) with h0 | h0
      · have HP := Lib.hid (show ∀ W, Calls Try.prog 175 #[.complex .f64 (f k).1 (f k).2, .float .f64 M] W fun e w' => e = .returned (.int .i64 0) ∧ Below W.heap.size W w' from fun W => by
          have := partErrD_any (f k).1 (f k).2 M HM.out (HL.out k hlt).1 (HL.out k hlt).2 W
          rwa [show partD (f k).1 (f k).2 m = 0 from h0] at this)
        have H0 := Lib.hid h0
        clear h0
        go_wp2_with (first | (go_at_call 175; (with_reducible refine (HP.out _).mono ?_); rintro e w' ⟨rfl, hb⟩; obtain ⟨pp, rfl⟩ := later_of_below hb; clear hb))
        go_roundw
        case rel => exact ⟨k + 1, by omega, by go_num, fun j hj => by rcases Nat.lt_succ_iff_lt_or_eq.1 hj with h | rfl; exact HZ.out j h; exact H0.out, HB.out.trans (by (repeat' (first | with_reducible exact Below.refl _ _ | (with_reducible refine below_later_of ?_ ?_ _) | (with_reducible refine Below.alloc ?_ ?_ _) | (with_reducible refine Below.setCell ?_ ?_ _) | (with_reducible refine Below.drew ?_) | (simp; done) | (simp; omega) | omega)))⟩
        case measure => simp [intOf]; omega
      · have hE := (firstE_hit hlt HZ.out h0).symm.trans HE.out
        obtain ⟨rfl, rfl⟩ := Prod.mk.inj hE
        have HP := Lib.hid (show ∀ W, Calls Try.prog 175 #[.complex .f64 (f k).1 (f k).2, .float .f64 M] W fun e w' => e = .returned (.int .i64 (gD f m k)) ∧ Below W.heap.size W w' from fun W => partErrD_any (f k).1 (f k).2 M HM.out (HL.out k hlt).1 (HL.out k hlt).2 W)
        have hne : (gD f m k != 0) = true := by simpa using h0
        clear h0 hE HE
        obtain ⟨z, hz0⟩ : ∃ z, gD f m k = z := ⟨_, rfl⟩
        rw [hz0] at hne HP
        have HZ0 := Lib.hid hz0
        clear hz0
        go_wp2_with (first | (go_at_call 175; (with_reducible refine (HP.out _).mono ?_); rintro e w' ⟨rfl, hb⟩; obtain ⟨pp, rfl⟩ := later_of_below hb; clear hb))
        go_ret2
        exact ⟨by rw [HZ0.out]; rfl, HB.out.trans (by (repeat' (first | with_reducible exact Below.refl _ _ | (with_reducible refine below_later_of ?_ ?_ _) | (with_reducible refine Below.alloc ?_ ?_ _) | (with_reducible refine Below.setCell ?_ ?_ _) | (with_reducible refine Below.drew ?_) | (simp; done) | (simp; omega) | omega)))⟩
    · obtain rfl : k = n := by omega
      have hdk : decide ((k : Int) < (k : Int)) = false := by simp
      clear hz hb
      have hE := (firstE_ok HZ.out).symm.trans HE.out
      obtain ⟨rfl, rfl⟩ := Prod.mk.inj hE
      clear hE HE
      go_wp2
      go_ret2
      exact ⟨rfl, HB.out⟩
end Go.Proofs.Ytelchmimhnpkaaa
