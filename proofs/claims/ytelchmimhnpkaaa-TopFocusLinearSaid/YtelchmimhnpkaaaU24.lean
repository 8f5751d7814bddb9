/- Chapter 1: the parts of samples as wide numbers, for every float. -/
import Derived.Test.YtelchmimhnpkaaaU23
namespace Go.Proofs.Ytelchmimhnpkaaa
set_option linter.unusedVariables false
open Go.RowKit
def wholeB (b : Nat) : Bool := datWhole (Ieee.single.read b)
def intB (b : Nat) : Int := datInt (Ieee.single.read b)
theorem whole_fnum {b : Nat} (h : wholeB b = true) : FNum Ieee.single b (intB b) := whole_num Ieee.single h
theorem intB_of {b : Nat} {n : Int} (h : FNum Ieee.single b n) : wholeB b = true ∧ intB b = n := num_whole _ h
theorem dbl_lt (d : Ieee.Datum) : Ieee.double.write d < 2 ^ 64 := Ieee.double.write_lt d
/-- The wide word that a narrow one becomes. -/
def WideOf (b r : Nat) : Prop := match Ieee.single.read b with
  | .number s m e => r = Ieee.double.write (.number s m e)
  | .infinity s => r = Ieee.double.word s Ieee.double.infRung
  | .nan _ _ => r < 2 ^ 64 ∧ ∃ s t, Ieee.double.read r = .nan s t
theorem nan_lt (t : Nat) : (t % 2) * 2 ^ 63 + 0x7ff0000000000000 + 1 + (t / 2) % (2 ^ 52 - 1) < 2 ^ 64 := by omega
theorem wide_step (b : Nat) (w : World) : ∃ r w', (Conv.floatToFloat .f32 b .f64).run Try.prog w = .ok (.float .f64 r) w' ∧ WideOf b r ∧ Below w.heap.size w w' := by
  unfold WideOf
  cases hd : Ieee.single.read b with
  | number s m e =>
    obtain ⟨h1, h2, h3⟩ := read_single hd
    obtain ⟨k, last, d, hr, _⟩ := wide_of (s := s) h1 h2 h3
    have hd1 : FloatKind.f32.decode b = .number s m e := hd
    have hd2 : FloatKind.f64.decode (FloatKind.f64.encode (.number s m e)) = .number s k last := hr
    refine ⟨_, w, run_floatToFloat w (r := Ieee.double.write (.number s m e)) ?_, rfl, Below.refl _ _⟩
    unfold floatToFloatBits
    rw [if_neg (by decide), hd1]
    dsimp only
    rw [hd2]
    rfl
  | infinity s =>
    have hd1 : FloatKind.f32.decode b = .infinity s := hd
    refine ⟨_, w, run_floatToFloat w (r := Ieee.double.word s Ieee.double.infRung) ?_, rfl, Below.refl _ _⟩
    unfold floatToFloatBits
    rw [if_neg (by decide), hd1]
    rfl
  | nan s t =>
    have hd1 : FloatKind.f32.decode b = .nan s t := hd
    refine ⟨Question.cut (.nanConv .f64 b) (w.tape w.drawn (.nanConv .f64 b)), w.drew, ?_, ⟨nan_lt _, nan_drawn _⟩, (Below.refl _ _).drew⟩
    unfold Conv.floatToFloat
    rw [if_neg (by decide), hd1]
    dsimp only
    rw [Sem.run_bind, run_choose_drew]
    rfl
theorem wide2 (a b : Nat) (w : World) : ∃ re im w', (convert 103 43 (.complex .f32 a b)).run Try.prog w = .ok (.complex .f64 re im) w' ∧ WideOf a re ∧ WideOf b im ∧ Below w.heap.size w w' := by
  obtain ⟨re, w1, h1, h2, h3⟩ := wide_step a w
  obtain ⟨im, w2, h4, h5, h6⟩ := wide_step b w1
  have e1 : (convert 103 43 (.complex .f32 a b)).run Try.prog w = (Conv.complexToComplex .f32 a b .f64).run Try.prog w := by kernel_rfl
  refine ⟨re, im, w2, ?_, h2, h5, h3.trans (h6.mono h3.size)⟩
  rw [e1]
  unfold Conv.complexToComplex
  simp [h1, h4]
/-- What the tests of partErr tell of a wide word: whether it is whole. -/
def PartR (r : Nat) (c : Bool) : Prop := ∃ g, (∀ w, Calls Try.prog 220 #[.float .f64 r, .int .i64 0] w fun e w' => e = .returned (.bool g) ∧ w = w') ∧ (g = true → c = false) ∧
  (g = false → ∀ w, Calls Try.prog 221 #[.float .f64 r] w fun e w' => ∃ v, e = .returned (.float .f64 v) ∧ (FloatKind.f64.format.order r v != some Ordering.eq) = !c ∧ Below w.heap.size w w')
theorem datum_ne_swap (x y : Ieee.Datum) : (x.order y != some Ordering.eq) = !(y.order x == some Ordering.eq) := by
  cases x with
  | nan s t => cases y <;> rfl
  | infinity s => cases y with
    | nan s' t' => rfl
    | infinity s' => cases s <;> cases s' <;> rfl
    | number s' m' e' => cases s <;> rfl
  | number s m e => cases y with
    | nan s' t' => rfl
    | infinity s' => cases s' <;> rfl
    | number s' m' e' =>
      unfold Ieee.Datum.order
      dsimp only
      rw [Int.min_comm e' e, icmp, icmp]
      generalize Ieee.signed s m (e - min e e').toNat = a
      generalize Ieee.signed s' m' (e' - min e e').toNat = b
      by_cases h : a = b
      · subst h; simp
      · rw [if_neg h, if_neg (show ¬ b = a from fun e => h e.symm)]
        by_cases h1 : a < b
        · rw [if_pos h1, if_neg (by omega)]; rfl
        · rw [if_neg h1, if_pos (by omega)]; rfl
theorem order_swap_eq (x y : Nat) : (FloatKind.f64.format.order x y != some Ordering.eq) = !(FloatKind.f64.format.order y x == some Ordering.eq) := datum_ne_swap _ _
theorem mag_unshift {m : Nat} {e : Int} {a d : Nat} (h : Mag m e a) : Mag (m * 2 ^ d) (e - d) a := by
  unfold Mag at h ⊢
  rcases Int.le_total 0 (e - d) with c | c
  · rw [show (-(e - d)).toNat = 0 by omega, Nat.pow_zero, Nat.mul_one, Nat.mul_assoc, ← Nat.pow_add, show d + (e - d).toNat = e.toNat by omega]
    rw [show (-e).toNat = 0 by omega] at h
    simpa using h
  · rw [show (e - d).toNat = 0 by omega, Nat.pow_zero, Nat.mul_one]
    rcases Int.le_total 0 e with c2 | c2
    · rw [show (-e).toNat = 0 by omega, Nat.pow_zero, Nat.mul_one] at h
      rw [← h, Nat.mul_assoc, ← Nat.pow_add, show e.toNat + (-(e - d)).toNat = d by omega]
    · rw [show e.toNat = 0 by omega, Nat.pow_zero, Nat.mul_one] at h
      rw [h, Nat.mul_assoc, ← Nat.pow_add, show (-e).toNat + d = (-(e - d)).toNat by omega]
theorem partR_wide {b r : Nat} (h : WideOf b r) : PartR r (wholeB b) := by
  unfold WideOf at h
  unfold wholeB
  cases hd : Ieee.single.read b with
  | number s m e =>
    rw [hd] at h
    dsimp only at h
    subst h
    obtain ⟨h1, h2, h3⟩ := read_single hd
    obtain ⟨k, last, d, hr, hk, hl, hk53, hlog, hb1, hb2⟩ := wide_of (s := s) h1 h2 h3
    refine ⟨false, fun w => isInf_any _ (dbl_lt (.number s m e)) w (not_inf hr hk53 hb1 hb2), (fun h => by cases h), fun _ w => ?_⟩
    refine (trunc_same _ _ (fun w => trunc_num _ hr w) w).mono ?_
    rintro e' w' ⟨rfl, rfl⟩
    refine ⟨_, rfl, ?_, Below.refl _ _⟩
    rw [order_swap_eq]
    exact congrArg (! ·) (cut_order hr hk hl hk53 hlog hb1 hb2 (fun _ => rfl))
  | infinity s =>
    rw [hd] at h
    dsimp only at h
    subst h
    exact ⟨true, fun w => isInf_any _ (show Ieee.double.word s Ieee.double.infRung < 2 ^ 64 by cases s <;> decide) w (by rw [abs_inf]; exact inf_gt), fun _ => rfl, fun h => by cases h⟩
  | nan s t =>
    rw [hd] at h
    dsimp only at h
    obtain ⟨hlt, s', t', hr⟩ := h
    refine ⟨_, fun w => isInf_any _ hlt w rfl, fun _ => rfl, fun _ w => ?_⟩
    refine (trunc_nan_any _ hr w).mono ?_
    rintro e' w' ⟨v, rfl, -, hb⟩
    refine ⟨v, rfl, ?_, hb⟩
    have := (nan_cmp (y := v) hr).1
    show (Ieee.double.order r v != some Ordering.eq) = true
    rw [this]; rfl
theorem read_double {b : Nat} {s : Bool} {m : Nat} {e : Int} (h : Ieee.double.read b = .number s m e) : m < 2 ^ 53 ∧ -1074 ≤ e ∧ e ≤ 971 ∧ (0 ≤ e → 2 ^ 52 ≤ m) := by
  have hb : Ieee.double.binade = 2 ^ 52 := rfl
  have hi : Ieee.double.infRung = 2047 * 2 ^ 52 := rfl
  have hlp : Ieee.double.leastPlace = -1074 := by decide
  unfold Ieee.Format.read at h
  simp only [hb, hi, hlp] at h
  generalize b % Ieee.double.signWeight = r at h
  split at h
  · simp only [Ieee.Datum.number.injEq] at h; omega
  · split at h
    · rename_i h1 h2
      simp only [Ieee.Datum.number.injEq] at h
      obtain ⟨-, h3, h4⟩ := h
      have h5 : r % 2 ^ 52 < 2 ^ 52 := Nat.mod_lt _ (by decide)
      have h6 : r / 2 ^ 52 < 2047 := Nat.div_lt_of_lt_mul (by omega)
      omega
    · split at h <;> cases h
theorem read_abs_inf {b : Nat} {s : Bool} (h : Ieee.double.read b = .infinity s) : Ieee.double.read (b % 2 ^ 63) = .infinity false := by
  have hs : Ieee.double.signWeight = 2 ^ 63 := by decide
  unfold Ieee.Format.read at h ⊢
  rw [hs] at h ⊢
  rw [Nat.mod_mod, Nat.div_eq_of_lt (Nat.mod_lt _ (by decide))]
  dsimp only at h ⊢
  split at h
  · cases h
  · rename_i h1
    rw [if_neg h1]
    split at h
    · cases h
    · rename_i h2
      rw [if_neg h2]
      split at h
      · rename_i h3
        rw [if_pos h3]
        rfl
      · cases h
theorem log2_mid {k : Nat} (h1 : 2 ^ 52 ≤ k) (h2 : k < 2 ^ 53) : k.log2 = 52 := by
  have hk : k ≠ 0 := by omega
  rw [Nat.log2_eq_iff hk]
  exact ⟨h1, h2⟩
theorem partR_any {r : Nat} (hlt : r < 2 ^ 64) : PartR r (datWhole (Ieee.double.read r)) := by
  cases hd : Ieee.double.read r with
  | number s k last =>
    obtain ⟨h1, h2, h3, h4⟩ := read_double hd
    refine ⟨false, fun w => isInf_any _ hlt w (not_inf2 hd h1 h2 h3), (fun h => by cases h), fun _ w => ?_⟩
    refine (trunc_same _ _ (fun w => trunc_num _ hd w) w).mono ?_
    rintro e' w' ⟨rfl, rfl⟩
    refine ⟨_, rfl, ?_, Below.refl _ _⟩
    rw [order_swap_eq]
    exact congrArg (! ·) (cut_order2 (d := 0) hd (by simp) (fun _ => by simp) h1 (fun h5 _ => log2_mid (h4 h5) h1) h2 h3 (fun _ => rfl))
  | infinity s =>
    refine ⟨true, fun w => isInf_any _ hlt w ?_, fun _ => rfl, fun h => by cases h⟩
    unfold Ieee.Format.order
    rw [read_abs_inf hd, read_max]
    rfl
  | nan s t =>
    refine ⟨_, fun w => isInf_any _ hlt w rfl, fun _ => rfl, fun _ w => ?_⟩
    refine (trunc_nan_any _ hd w).mono ?_
    rintro e' w' ⟨v, rfl, -, hb⟩
    refine ⟨v, rfl, ?_, hb⟩
    have := (nan_cmp (y := v) hd).1
    show (Ieee.double.order r v != some Ordering.eq) = true
    rw [this]; rfl
theorem fgt_beq {a b : Int} : (some (compare a b) == some Ordering.gt) = decide (b < a) := by
  rw [icmp]
  by_cases h : a < b
  · rw [if_pos h, decide_eq_false (by omega)]; rfl
  · rw [if_neg h]
    by_cases h2 : a = b
    · rw [if_pos h2, decide_eq_false (by omega)]; rfl
    · rw [if_neg h2, decide_eq_true (by omega)]; rfl
theorem abs_num {r : Nat} {n : Int} (h : FNum Ieee.double r n) : FNum Ieee.double (r % 2 ^ 63) n.natAbs := by
  obtain ⟨s, m, e, a, h1, h2, rfl⟩ := h
  exact ⟨false, m, e, a, read_abs h1, h2, by rw [sgn_abs]; rfl⟩
theorem abs_gt {r M : Nat} {n m : Int} (h : FNum Ieee.double r n) (hM : FNum Ieee.double M m) : (FloatKind.f64.format.order (r % 2 ^ 63) M == some Ordering.gt) = !inE (-m) m n := by
  rw [show FloatKind.f64.format.order (r % 2 ^ 63) M = some (compare (n.natAbs : Int) m) from order_num _ (abs_num h) hM, fgt_beq, Bool.eq_iff_iff]
  unfold inE
  simp
  omega
theorem wide_fnum {b r : Nat} (h : WideOf b r) (hw : wholeB b = true) : FNum Ieee.double r (intB b) := by
  obtain ⟨s, m, e, a, h1, h2, h3⟩ := whole_fnum hw
  unfold WideOf at h
  rw [h1] at h
  dsimp only at h
  subst h
  obtain ⟨g1, g2, g3⟩ := read_single h1
  obtain ⟨k, last, d, hr, hk, hl, -⟩ := wide_of (s := s) g1 g2 g3
  refine ⟨s, k, last, a, hr, ?_, h3⟩
  by_cases hm : m = 0
  · have ha := (mag_zero h2).1 hm
    subst hm hk ha
    unfold Mag
    simp
  · rw [hk, hl hm]
    exact mag_unshift h2
end Go.Proofs.Ytelchmimhnpkaaa
