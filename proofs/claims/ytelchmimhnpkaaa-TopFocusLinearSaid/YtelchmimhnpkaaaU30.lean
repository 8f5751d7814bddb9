/- Chapter 1: whether a sample is not 0; CheckCode. -/
import Derived.Test.YtelchmimhnpkaaaU29
namespace Go.Proofs.Ytelchmimhnpkaaa
set_option linter.unusedVariables false
open Go.RowKit
/-- The sample is not 0. -/
def nzC (a b : Nat) : Bool := !FloatKind.f32.format.order a 0 == some Ordering.eq || !FloatKind.f32.format.order b 0 == some Ordering.eq
theorem zero_single : FNum Ieee.single 0 0 := ⟨false, 0, -149, 0, by decide, by unfold Mag; rw [Nat.zero_mul, Nat.zero_mul], rfl⟩
theorem nzC_num {a b : Nat} {x y : Int} (ha : FNum Ieee.single a x) (hb : FNum Ieee.single b y) : nzC a b = (decide (x ≠ 0) || decide (y ≠ 0)) := by
  unfold nzC
  rw [show FloatKind.f32.format.order a 0 = some (compare x 0) from order_num _ ha zero_single, show FloatKind.f32.format.order b 0 = some (compare y 0) from order_num _ hb zero_single, beq_eq_iff, beq_eq_iff, decide_not, decide_not]
theorem ret_boolE {a b : Bool} (h : a = b) : Ending.returned (.bool a) = .returned (.bool b) := by rw [h]
set_option maxHeartbeats 400000 in
theorem checkCode1 (a b : Nat) (w : World) : Calls Try.prog 183 #[.complex .f32 a b] w fun e w' => e = .returned (.bool (nzC a b)) ∧ w = w' := by
  have HF := Lib.hid (show (!FloatKind.f32.format.order a 0 == some Ordering.eq || !FloatKind.f32.format.order b 0 == some Ordering.eq) = nzC a b from rfl)
  go_enter Try.func183, Try.ntmps183
  go_wp2
  go_ret
  exact ⟨ret_boolE HF.out, rfl⟩
def anyC (n : Nat) (f : Nat → Nat × Nat) : Bool := (List.range n).any fun k => nzC (f k).1 (f k).2
theorem anyC_hit {n k : Nat} {f : Nat → Nat × Nat} (hk : k < n) (h : nzC (f k).1 (f k).2 = true) : anyC n f = true := by
  unfold anyC
  rw [List.any_eq_true]
  exact ⟨k, List.mem_range.2 hk, h⟩
theorem anyC_no {n : Nat} {f : Nat → Nat × Nat} (h : ∀ j, j < n → nzC (f j).1 (f j).2 = false) : anyC n f = false := by
  unfold anyC
  rw [List.any_eq_false]
  intro j hj
  rw [h j (List.mem_range.1 hj)]
  decide
def IdxPost (c : Bool) (w : World) (e : Ending) (w' : World) : Prop := ∃ i : Int, e = .returned (.int .i64 i) ∧ decide (0 ≤ i) = c ∧ (-1 ≤ i ∧ i ≤ 100000) ∧ w = w'
set_option maxHeartbeats 1000000 in
theorem indexFunc_c (n b off cap : Nat) (f : Nat → Nat × Nat) (w : World) (hl : n ≤ 100000) (hf : SamplesAt w b off n f) :
    Calls Try.prog 225 #[.slice (some ⟨b, off, none⟩) n cap, .func (.func 183) #[] #[]] w (IdxPost (anyC n f) w) := by
  have HF := Lib.hid hf
  clear hf
  go_enter Try.func225, Try.ntmps225
  go_wp2
  go_loop [8] (fun i => ∃ k : Nat, k ≤ n ∧ i = .int .i64 k ∧ ∀ j, j < k → nzC (f j).1 (f j).2 = false) (fun i => n - (intOf i).toNat)
  case atStart => exact ⟨0, Nat.zero_le _, rfl, fun j hj => absurd hj (Nat.not_lt_zero _)⟩
  case round =>
    obtain ⟨k, hk, rfl, hz⟩ := hrel
    have HZ := Lib.hid hz
    clear hz
    by_cases hlt : k < n
    · have hdk : decide ((k : Int) < (n : Int)) = true := by simp; omega
      have ck := HF.out k hlt
      rcases (show nzC (f k).1 (f k).2 = false ∨ nzC (f k).1 (f k).2 = true by cases nzC (f k).1 (f k).2 <;> simp) with h0 | h0
      · have HP := Lib.hid (show ∀ W, Calls Try.prog 183 #[.complex .f32 (f k).1 (f k).2] W fun e w' => e = .returned (.bool false) ∧ W = w' from fun W => by rw [← h0]; exact checkCode1 _ _ W)
        have H0 := Lib.hid h0
        clear h0
        go_wp2_with (first | (go_at_call 183; (with_reducible refine (HP.out _).mono ?_); rintro e w' ⟨rfl, rfl⟩))
        go_round
        case rel => exact ⟨k + 1, by omega, by go_num, fun j hj => by rcases Nat.lt_succ_iff_lt_or_eq.1 hj with h | rfl; exact HZ.out j h; exact H0.out⟩
        case measure => simp [intOf]; omega
      · have HP := Lib.hid (show ∀ W, Calls Try.prog 183 #[.complex .f32 (f k).1 (f k).2] W fun e w' => e = .returned (.bool true) ∧ W = w' from fun W => by rw [← h0]; exact checkCode1 _ _ W)
        have H0 := Lib.hid (anyC_hit hlt h0)
        clear h0
        go_wp2_with (first | (go_at_call 183; (with_reducible refine (HP.out _).mono ?_); rintro e w' ⟨rfl, rfl⟩))
        go_ret
        exact ⟨k, rfl, by rw [H0.out]; simp, by omega, rfl⟩
    · obtain rfl : k = n := by omega
      have hdk : decide ((k : Int) < (k : Int)) = false := by simp
      have H0 := Lib.hid (anyC_no HZ.out)
      go_wp2
      go_ret
      exact ⟨-1, rfl, by rw [H0.out]; decide, by omega, rfl⟩
set_option maxHeartbeats 1000000 in
theorem containsFunc_c (n b off cap : Nat) (f : Nat → Nat × Nat) (w : World) (hl : n ≤ 100000) (hf : SamplesAt w b off n f) :
    Calls Try.prog 182 #[.slice (some ⟨b, off, none⟩) n cap, .func (.func 183) #[] #[]] w fun e w' => e = .returned (.bool (anyC n f)) ∧ w = w' := by
  have HI := Lib.hid (indexFunc_c n b off cap f w hl hf)
  clear hf
  generalize anyC n f = c at HI
  go_enter Try.func182, Try.ntmps182
  go_wp2_with (first | (go_at_call 225; (with_reducible refine (HI.out).mono ?_); rintro e w' ⟨i, rfl, hc, ⟨hi1, hi2⟩, rfl⟩; have HC := Lib.hid hc; clear hc))
  go_ret
  exact ⟨ret_boolE HC.out, rfl⟩
/-- The number of a sample, and the error of a code. -/
def codeE (n : Nat) (f : Nat → Nat × Nat) : Nat × Int :=
  if n = 0 then (0, 10) else if 32 < n then (0, 8) else if (firstE n (gE f 3)).2 = 0 then (if anyC n f then (0, 0) else (0, 11)) else firstE n (gE f 3)
set_option maxHeartbeats 1000000 in
theorem checkCode_any (n cap : Nat) (f : Nat → Nat × Nat) (a : Option Addr) (w : World) (hl : n ≤ 100000) (hd : 0 < n → ∃ b off, a = some ⟨b, off, none⟩ ∧ b < w.heap.size ∧ SamplesAt w b off n f) {i0 : Nat} {e0 : Int} (he : codeE n f = (i0, e0)) :
    Calls Try.prog 127 #[.slice a n cap] w fun e w' => e = .returned (.tuple #[.int .i64 i0, .int .i64 e0]) ∧ Below w.heap.size w w' := by
  unfold codeE at he
  by_cases h0 : n = 0
  · rw [if_pos h0] at he
    obtain ⟨rfl, rfl⟩ := Prod.mk.inj he
    have hb : ((n : Int) == 0) = true := by simp; omega
    clear he hd h0
    go_enter Try.func127, Try.ntmps127
    go_wp2
    go_ret2
    exact ⟨rfl, (by (repeat' (first | with_reducible exact Below.refl _ _ | (with_reducible refine below_later_of ?_ ?_ _) | (with_reducible refine Below.alloc ?_ ?_ _) | (with_reducible refine Below.setCell ?_ ?_ _) | (with_reducible refine Below.drew ?_) | (simp; done) | (simp; omega) | omega)))⟩
  · rw [if_neg h0] at he
    have hb : ((n : Int) == 0) = false := by simp; omega
    obtain ⟨b, off, rfl, hbw, hf⟩ := hd (by omega)
    by_cases h1 : 32 < n
    · rw [if_pos h1] at he
      obtain ⟨rfl, rfl⟩ := Prod.mk.inj he
      have hd1 : decide ((32 : Int) < (n : Int)) = true := by simp; omega
      clear he hd h0 hf
      go_enter Try.func127, Try.ntmps127
      go_wp2
      go_ret2
      exact ⟨rfl, (by (repeat' (first | with_reducible exact Below.refl _ _ | (with_reducible refine below_later_of ?_ ?_ _) | (with_reducible refine Below.alloc ?_ ?_ _) | (with_reducible refine Below.setCell ?_ ?_ _) | (with_reducible refine Below.drew ?_) | (simp; done) | (simp; omega) | omega)))⟩
    · rw [if_neg h1] at he
      have hd1 : decide ((32 : Int) < (n : Int)) = false := by simp; omega
      obtain ⟨k, z, hfe⟩ : ∃ k z, firstE n (gE f 3) = (k, z) := ⟨_, _, rfl⟩
      rw [hfe] at he
      have HV := Lib.hid (samplesErr_any n b off cap _ 3 f w num_3 hl hbw hf hfe)
      have HA := Lib.hid (show ∀ W, Below w.heap.size w W → _ from fun W hW => containsFunc_c n b off cap f W hl (hf.below hbw hW))
      clear hd hf h0
      dsimp only at he
      by_cases h2 : z = 0
      · subst h2
        rw [if_pos rfl] at he
        generalize anyC n f = c at he HA
        cases c
        · obtain ⟨rfl, rfl⟩ := Prod.mk.inj he
          clear he hfe
          go_enter Try.func127, Try.ntmps127
          go_wp2_with (first | (go_at_call 181; (with_reducible refine (HV.out).mono ?_); rintro e w' ⟨rfl, hb⟩; obtain ⟨pp, rfl⟩ := later_of_below hb; clear hb) | (go_at_call 182; (with_reducible refine (HA.out _ (by (repeat' (first | with_reducible exact Below.refl _ _ | (with_reducible refine below_later_of ?_ ?_ _) | (with_reducible refine Below.alloc ?_ ?_ _) | (with_reducible refine Below.setCell ?_ ?_ _) | (with_reducible refine Below.drew ?_) | (simp; done) | (simp; omega) | omega)))).mono ?_); rintro e w' ⟨rfl, rfl⟩))
          go_ret2
          exact ⟨rfl, (by (repeat' (first | with_reducible exact Below.refl _ _ | (with_reducible refine below_later_of ?_ ?_ _) | (with_reducible refine Below.alloc ?_ ?_ _) | (with_reducible refine Below.setCell ?_ ?_ _) | (with_reducible refine Below.drew ?_) | (simp; done) | (simp; omega) | omega)))⟩
        · obtain ⟨rfl, rfl⟩ := Prod.mk.inj he
          clear he hfe
          go_enter Try.func127, Try.ntmps127
          go_wp2_with (first | (go_at_call 181; (with_reducible refine (HV.out).mono ?_); rintro e w' ⟨rfl, hb⟩; obtain ⟨pp, rfl⟩ := later_of_below hb; clear hb) | (go_at_call 182; (with_reducible refine (HA.out _ (by (repeat' (first | with_reducible exact Below.refl _ _ | (with_reducible refine below_later_of ?_ ?_ _) | (with_reducible refine Below.alloc ?_ ?_ _) | (with_reducible refine Below.setCell ?_ ?_ _) | (with_reducible refine Below.drew ?_) | (simp; done) | (simp; omega) | omega)))).mono ?_); rintro e w' ⟨rfl, rfl⟩))
          go_ret2
          exact ⟨rfl, (by (repeat' (first | with_reducible exact Below.refl _ _ | (with_reducible refine below_later_of ?_ ?_ _) | (with_reducible refine Below.alloc ?_ ?_ _) | (with_reducible refine Below.setCell ?_ ?_ _) | (with_reducible refine Below.drew ?_) | (simp; done) | (simp; omega) | omega)))⟩
      · rw [if_neg h2] at he
        obtain ⟨rfl, rfl⟩ := Prod.mk.inj he
        have hne : (z != 0) = true := by simpa using h2
        clear he hfe h2
        go_enter Try.func127, Try.ntmps127
        go_wp2_with (first | (go_at_call 181; (with_reducible refine (HV.out).mono ?_); rintro e w' ⟨rfl, hb⟩; obtain ⟨pp, rfl⟩ := later_of_below hb; clear hb))
        go_ret2
        exact ⟨rfl, (by (repeat' (first | with_reducible exact Below.refl _ _ | (with_reducible refine below_later_of ?_ ?_ _) | (with_reducible refine Below.alloc ?_ ?_ _) | (with_reducible refine Below.setCell ?_ ?_ _) | (with_reducible refine Below.drew ?_) | (simp; done) | (simp; omega) | omega)))⟩
set_option maxHeartbeats 1000000 in
theorem codeErr_any (n cap : Nat) (f : Nat → Nat × Nat) (a : Option Addr) (w : World) (hl : n ≤ 100000) (hd : 0 < n → ∃ b off, a = some ⟨b, off, none⟩ ∧ b < w.heap.size ∧ SamplesAt w b off n f) {e0 : Int} (he : (codeE n f).2 = e0) :
    Calls Try.prog 59 #[.slice a n cap] w fun e w' => e = .returned (.int .i64 e0) ∧ Below w.heap.size w w' := by
  have HI := Lib.hid (show ∀ W, Below w.heap.size w W → _ from fun W hW => checkCode_any n cap f a W hl (fun h => by obtain ⟨b, off, h1, h2, h3⟩ := hd h; exact ⟨b, off, h1, by have := hW.size; omega, h3.below h2 hW⟩) (i0 := (codeE n f).1) (e0 := e0) (by rw [← he]))
  clear hd he
  generalize (codeE n f).1 = i0 at HI
  go_enter Try.func59, Try.ntmps59
  go_wp2_with (first | (go_at_call 127; (with_reducible refine (HI.out _ (by (repeat' (first | with_reducible exact Below.refl _ _ | (with_reducible refine below_later_of ?_ ?_ _) | (with_reducible refine Below.alloc ?_ ?_ _) | (with_reducible refine Below.setCell ?_ ?_ _) | (with_reducible refine Below.drew ?_) | (simp; done) | (simp; omega) | omega)))).mono ?_); rintro e w' ⟨rfl, hb⟩; obtain ⟨pp, rfl⟩ := later_of_below hb; clear hb))
  go_ret
  exact ⟨rfl, (by (repeat' (first | with_reducible exact Below.refl _ _ | (with_reducible refine below_later_of ?_ ?_ _) | (with_reducible refine Below.alloc ?_ ?_ _) | (with_reducible refine Below.setCell ?_ ?_ _) | (with_reducible refine Below.drew ?_) | (simp; done) | (simp; omega) | omega)))⟩
end Go.Proofs.Ytelchmimhnpkaaa
