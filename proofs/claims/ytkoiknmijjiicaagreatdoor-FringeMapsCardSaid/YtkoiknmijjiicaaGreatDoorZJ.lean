import Derived.Test.YtkoiknmijjiicaaGreatDoorZH
import Derived.LoopN
/- Chapter 1: the parts of samples as wide numbers, for every float. -/
namespace Go.Proofs.YtkoiknmijjiicaaGreatDoor
set_option linter.unusedVariables false
set_option linter.unusedSimpArgs false
open Go.RowKit
def wholeB (b : Nat) : Bool := datWhole (Ieee.single.read b)
def intB (b : Nat) : Int := datInt (Ieee.single.read b)
theorem whole_fnum {b : Nat} (h : wholeB b = true) : FNum Ieee.single b (intB b) := whole_num Ieee.single h
theorem intB_of {b : Nat} {n : Int} (h : FNum Ieee.single b n) : wholeB b = true ∧ intB b = n := num_whole _ h
theorem dbl_lt (d : Ieee.Datum) : Ieee.double.write d < 2 ^ 64 := Ieee.double.write_lt d
/-- The wide word that a narrow one becomes. -/
def WideOf (b r : Nat) : Prop := match Ieee.single.read b with
  | .number s m e => r = Ieee.double.write (.number s m e)
  | .infinity s => r = Ieee.double.word s Ieee.double.infRung
  | .nan _ _ => r < 2 ^ 64 ∧ ∃ s t, Ieee.double.read r = .nan s t
theorem nan_lt (t : Nat) : (t % 2) * 2 ^ 63 + 0x7ff0000000000000 + 1 + (t / 2) % (2 ^ 52 - 1) < 2 ^ 64 := by omega
theorem wide_step (b : Nat) (w : World) : ∃ r w', (Conv.floatToFloat .f32 b .f64).run Tryz.prog w = .ok (.float .f64 r) w' ∧ WideOf b r ∧ Below w.heap.size w w' := by
  unfold WideOf
  cases hd : Ieee.single.read b with
  | number s m e =>
    obtain ⟨h1, h2, h3⟩ := read_single hd
    obtain ⟨k, last, d, hr, _⟩ := wide_of (s := s) h1 h2 h3
    have hd1 : FloatKind.f32.decode b = .number s m e := hd
    have hd2 : FloatKind.f64.decode (FloatKind.f64.encode (.number s m e)) = .number s k last := hr
    refine ⟨_, w, run_floatToFloat w (r := Ieee.double.write (.number s m e)) ?_, rfl, Below.refl _ _⟩
    unfold floatToFloatBits
    rw [if_neg (by decide), hd1]
    dsimp only
    rw [hd2]
    rfl
  | infinity s =>
    have hd1 : FloatKind.f32.decode b = .infinity s := hd
    refine ⟨_, w, run_floatToFloat w (r := Ieee.double.word s Ieee.double.infRung) ?_, rfl, Below.refl _ _⟩
    unfold floatToFloatBits
    rw [if_neg (by decide), hd1]
    rfl
  | nan s t =>
    have hd1 : FloatKind.f32.decode b = .nan s t := hd
    refine ⟨Question.cut (.nanConv .f64 b) (w.tape w.drawn (.nanConv .f64 b)), w.drew, ?_, ⟨nan_lt _, nan_drawn _⟩, (Below.refl _ _).drew⟩
    unfold Conv.floatToFloat
    rw [if_neg (by decide), hd1]
    dsimp only
    rw [Sem.run_bind, run_choose_drew]
    rfl
theorem wide2 (a b : Nat) (w : World) : ∃ re im w', (convert 146 78 (.complex .f32 a b)).run Tryz.prog w = .ok (.complex .f64 re im) w' ∧ WideOf a re ∧ WideOf b im ∧ Below w.heap.size w w' := by
  obtain ⟨re, w1, h1, h2, h3⟩ := wide_step a w
  obtain ⟨im, w2, h4, h5, h6⟩ := wide_step b w1
  have e1 : (convert 146 78 (.complex .f32 a b)).run Tryz.prog w = (Conv.complexToComplex .f32 a b .f64).run Tryz.prog w := by kernel_rfl
  refine ⟨re, im, w2, ?_, h2, h5, h3.trans (h6.mono h3.size)⟩
  rw [e1]
  unfold Conv.complexToComplex
  simp [h1, h4]
/-- What the tests of partErr tell of a wide word: whether it is whole. -/
def PartR (r : Nat) (c : Bool) : Prop := ∃ g, (∀ w, Calls Tryz.prog 174 #[.float .f64 r, .int .i64 0] w fun e w' => e = .returned (.bool g) ∧ w = w') ∧ (g = true → c = false) ∧
  (g = false → ∀ w, Calls Tryz.prog 175 #[.float .f64 r] w fun e w' => ∃ v, e = .returned (.float .f64 v) ∧ (FloatKind.f64.format.order r v != some Ordering.eq) = !c ∧ Below w.heap.size w w')
theorem datum_ne_swap (x y : Ieee.Datum) : (x.order y != some Ordering.eq) = !(y.order x == some Ordering.eq) := by
  cases x with
  | nan s t => cases y <;> rfl
  | infinity s => cases y with
    | nan s' t' => rfl
    | infinity s' => cases s <;> cases s' <;> rfl
    | number s' m' e' => cases s <;> rfl
  | number s m e => cases y with
    | nan s' t' => rfl
    | infinity s' => cases s' <;> rfl
    | number s' m' e' =>
      unfold Ieee.Datum.order
      dsimp only
      rw [Int.min_comm e' e, icmp, icmp]
      generalize Ieee.signed s m (e - min e e').toNat = a
      generalize Ieee.signed s' m' (e' - min e e').toNat = b
      by_cases h : a = b
      · subst h; simp
      · rw [if_neg h, if_neg (show ¬ b = a from fun e => h e.symm)]
        by_cases h1 : a < b
        · rw [if_pos h1, if_neg (by omega)]; rfl
        · rw [if_neg h1, if_pos (by omega)]; rfl
theorem order_swap_eq (x y : Nat) : (FloatKind.f64.format.order x y != some Ordering.eq) = !(FloatKind.f64.format.order y x == some Ordering.eq) := datum_ne_swap _ _
theorem mag_unshift {m : Nat} {e : Int} {a d : Nat} (h : Mag m e a) : Mag (m * 2 ^ d) (e - d) a := by
  unfold Mag at h ⊢
  rcases Int.le_total 0 (e - d) with c | c
  · rw [show (-(e - d)).toNat = 0 by omega, Nat.pow_zero, Nat.mul_one, Nat.mul_assoc, ← Nat.pow_add, show d + (e - d).toNat = e.toNat by omega]
    rw [show (-e).toNat = 0 by omega] at h
    simpa using h
  · rw [show (e - d).toNat = 0 by omega, Nat.pow_zero, Nat.mul_one]
    rcases Int.le_total 0 e with c2 | c2
    · rw [show (-e).toNat = 0 by omega, Nat.pow_zero, Nat.mul_one] at h
      rw [← h, Nat.mul_assoc, ← Nat.pow_add, show e.toNat + (-(e - d)).toNat = d by omega]
    · rw [show e.toNat = 0 by omega, Nat.pow_zero, Nat.mul_one] at h
      rw [h, Nat.mul_assoc, ← Nat.pow_add, show (-e).toNat + d = (-(e - d)).toNat by omega]
theorem partR_wide {b r : Nat} (h : WideOf b r) : PartR r (wholeB b) := by
  unfold WideOf at h
  unfold wholeB
  cases hd : Ieee.single.read b with
  | number s m e =>
    rw [hd] at h
    dsimp only at h
    subst h
    obtain ⟨h1, h2, h3⟩ := read_single hd
    obtain ⟨k, last, d, hr, hk, hl, hk53, hlog, hb1, hb2⟩ := wide_of (s := s) h1 h2 h3
    refine ⟨false, fun w => isInf_any _ (dbl_lt (.number s m e)) w (not_inf hr hk53 hb1 hb2), (fun h => by cases h), fun _ w => ?_⟩
    refine (trunc_same _ _ (fun w => trunc_num _ hr w) w).mono ?_
    rintro e' w' ⟨rfl, rfl⟩
    refine ⟨_, rfl, ?_, Below.refl _ _⟩
    rw [order_swap_eq]
    exact congrArg (! ·) (cut_order hr hk hl hk53 hlog hb1 hb2 (fun _ => rfl))
  | infinity s =>
    rw [hd] at h
    dsimp only at h
    subst h
    exact ⟨true, fun w => isInf_any _ (show Ieee.double.word s Ieee.double.infRung < 2 ^ 64 by cases s <;> decide) w (by rw [abs_inf]; exact inf_gt), fun _ => rfl, fun h => by cases h⟩
  | nan s t =>
    rw [hd] at h
    dsimp only at h
    obtain ⟨hlt, s', t', hr⟩ := h
    refine ⟨_, fun w => isInf_any _ hlt w rfl, fun _ => rfl, fun _ w => ?_⟩
    refine (trunc_nan_any _ hr w).mono ?_
    rintro e' w' ⟨v, rfl, -, hb⟩
    refine ⟨v, rfl, ?_, hb⟩
    have := (nan_cmp (y := v) hr).1
    show (Ieee.double.order r v != some Ordering.eq) = true
    rw [this]; rfl
theorem read_double {b : Nat} {s : Bool} {m : Nat} {e : Int} (h : Ieee.double.read b = .number s m e) : m < 2 ^ 53 ∧ -1074 ≤ e ∧ e ≤ 971 ∧ (0 ≤ e → 2 ^ 52 ≤ m) := by
  have hb : Ieee.double.binade = 2 ^ 52 := rfl
  have hi : Ieee.double.infRung = 2047 * 2 ^ 52 := rfl
  have hlp : Ieee.double.leastPlace = -1074 := by decide
  unfold Ieee.Format.read at h
  simp only [hb, hi, hlp] at h
  generalize b % Ieee.double.signWeight = r at h
  split at h
  · simp only [Ieee.Datum.number.injEq] at h; omega
  · split at h
    · rename_i h1 h2
      simp only [Ieee.Datum.number.injEq] at h
      obtain ⟨-, h3, h4⟩ := h
      have h5 : r % 2 ^ 52 < 2 ^ 52 := Nat.mod_lt _ (by decide)
      have h6 : r / 2 ^ 52 < 2047 := Nat.div_lt_of_lt_mul (by omega)
      omega
    · split at h <;> cases h
theorem read_abs_inf {b : Nat} {s : Bool} (h : Ieee.double.read b = .infinity s) : Ieee.double.read (b % 2 ^ 63) = .infinity false := by
  have hs : Ieee.double.signWeight = 2 ^ 63 := by decide
  unfold Ieee.Format.read at h ⊢
  rw [hs] at h ⊢
  rw [Nat.mod_mod, Nat.div_eq_of_lt (Nat.mod_lt _ (by decide))]
  dsimp only at h ⊢
  split at h
  · cases h
  · rename_i h1
    rw [if_neg h1]
    split at h
    · cases h
    · rename_i h2
      rw [if_neg h2]
      split at h
      · rename_i h3
        rw [if_pos h3]
        rfl
      · cases h
theorem log2_mid {k : Nat} (h1 : 2 ^ 52 ≤ k) (h2 : k < 2 ^ 53) : k.log2 = 52 := by
  have hk : k ≠ 0 := by omega
  rw [Nat.log2_eq_iff hk]
  exact ⟨h1, h2⟩
theorem partR_any {r : Nat} (hlt : r < 2 ^ 64) : PartR r (datWhole (Ieee.double.read r)) := by
  cases hd : Ieee.double.read r with
  | number s k last =>
    obtain ⟨h1, h2, h3, h4⟩ := read_double hd
    refine ⟨false, fun w => isInf_any _ hlt w (not_inf2 hd h1 h2 h3), (fun h => by cases h), fun _ w => ?_⟩
    refine (trunc_same _ _ (fun w => trunc_num _ hd w) w).mono ?_
    rintro e' w' ⟨rfl, rfl⟩
    refine ⟨_, rfl, ?_, Below.refl _ _⟩
    rw [order_swap_eq]
    exact congrArg (! ·) (cut_order2 (d := 0) hd (by simp) (fun _ => by simp) h1 (fun h5 _ => log2_mid (h4 h5) h1) h2 h3 (fun _ => rfl))
  | infinity s =>
    refine ⟨true, fun w => isInf_any _ hlt w ?_, fun _ => rfl, fun h => by cases h⟩
    unfold Ieee.Format.order
    rw [read_abs_inf hd, read_max]
    rfl
  | nan s t =>
    refine ⟨_, fun w => isInf_any _ hlt w rfl, fun _ => rfl, fun _ w => ?_⟩
    refine (trunc_nan_any _ hd w).mono ?_
    rintro e' w' ⟨v, rfl, -, hb⟩
    refine ⟨v, rfl, ?_, hb⟩
    have := (nan_cmp (y := v) hd).1
    show (Ieee.double.order r v != some Ordering.eq) = true
    rw [this]; rfl
theorem fgt_beq {a b : Int} : (some (compare a b) == some Ordering.gt) = decide (b < a) := by
  rw [icmp]
  by_cases h : a < b
  · rw [if_pos h, decide_eq_false (by omega)]; rfl
  · rw [if_neg h]
    by_cases h2 : a = b
    · rw [if_pos h2, decide_eq_false (by omega)]; rfl
    · rw [if_neg h2, decide_eq_true (by omega)]; rfl
theorem abs_num {r : Nat} {n : Int} (h : FNum Ieee.double r n) : FNum Ieee.double (r % 2 ^ 63) n.natAbs := by
  obtain ⟨s, m, e, a, h1, h2, rfl⟩ := h
  exact ⟨false, m, e, a, read_abs h1, h2, by rw [sgn_abs]; rfl⟩
theorem abs_gt {r M : Nat} {n m : Int} (h : FNum Ieee.double r n) (hM : FNum Ieee.double M m) : (FloatKind.f64.format.order (r % 2 ^ 63) M == some Ordering.gt) = !inE (-m) m n := by
  rw [show FloatKind.f64.format.order (r % 2 ^ 63) M = some (compare (n.natAbs : Int) m) from order_num _ (abs_num h) hM, fgt_beq, Bool.eq_iff_iff]
  unfold inE
  simp
  omega
theorem wide_fnum {b r : Nat} (h : WideOf b r) (hw : wholeB b = true) : FNum Ieee.double r (intB b) := by
  obtain ⟨s, m, e, a, h1, h2, h3⟩ := whole_fnum hw
  unfold WideOf at h
  rw [h1] at h
  dsimp only at h
  subst h
  obtain ⟨g1, g2, g3⟩ := read_single h1
  obtain ⟨k, last, d, hr, hk, hl, -⟩ := wide_of (s := s) g1 g2 g3
  refine ⟨s, k, last, a, hr, ?_, h3⟩
  by_cases hm : m = 0
  · have ha := (mag_zero h2).1 hm
    subst hm hk ha
    unfold Mag
    simp
  · rw [hk, hl hm]
    exact mag_unshift h2
end Go.Proofs.YtkoiknmijjiicaaGreatDoor

/- Chapter 1: the errors of samples. -/
namespace Go.Proofs.YtkoiknmijjiicaaGreatDoor
set_option linter.unusedVariables false
set_option linter.unusedSimpArgs false
open Go.RowKit
def partE (a b : Nat) (m : Int) : Int := if wholeB a && wholeB b then (if inE (-m) m (intB a) && inE (-m) m (intB b) then 0 else 2) else 29
/-- The first wrong sample, and its error. -/
def firstE (n : Nat) (g : Nat → Int) : Nat × Int := match (List.range n).find? (fun k => g k != 0) with
  | some k => (k, g k)
  | none => (0, 0)
theorem firstE_hit {n k : Nat} {g : Nat → Int} (hk : k < n) (h0 : ∀ j, j < k → g j = 0) (h1 : g k ≠ 0) : firstE n g = (k, g k) := by
  have : (List.range n).find? (fun k => g k != 0) = some k := by
    rw [List.find?_range_eq_some]
    exact ⟨by simpa using h1, by simpa using hk, fun j hj => by simp [h0 j hj]⟩
  unfold firstE
  rw [this]
theorem firstE_ok {n : Nat} {g : Nat → Int} (h0 : ∀ j, j < n → g j = 0) : firstE n g = (0, 0) := by
  have : (List.range n).find? (fun k => g k != 0) = none := by
    rw [List.find?_range_eq_none]
    intro j hj
    simp [h0 j hj]
  unfold firstE
  rw [this]
theorem firstE_zero {n : Nat} {g : Nat → Int} (h : (firstE n g).2 = 0) : ∀ j, j < n → g j = 0 := by
  intro j hj
  unfold firstE at h
  cases hf : (List.range n).find? (fun k => g k != 0) with
  | some k =>
    rw [hf] at h
    have := (List.find?_range_eq_some.1 hf).1
    simp at this
    exact absurd h this
  | none =>
    have := List.find?_range_eq_none.1 hf j hj
    simpa using this
theorem partE_ok {a b : Nat} {m : Int} (h : partE a b m = 0) : (FNum Ieee.single a (intB a) ∧ -m ≤ intB a ∧ intB a ≤ m) ∧ FNum Ieee.single b (intB b) ∧ -m ≤ intB b ∧ intB b ≤ m := by
  unfold partE inE at h
  by_cases h1 : (wholeB a && wholeB b) = true
  · rw [if_pos h1] at h
    simp only [Bool.and_eq_true] at h1
    split at h
    · rename_i h2
      simp only [Bool.and_eq_true, decide_eq_true_eq] at h2
      exact ⟨⟨whole_fnum h1.1, h2.1⟩, whole_fnum h1.2, h2.2⟩
    · exact absurd h (by decide)
  · rw [if_neg h1] at h
    exact absurd h (by decide)
end Go.Proofs.YtkoiknmijjiicaaGreatDoor

/- Chapter 1: partErr of complex64, for every sample. -/
namespace Go.Proofs.YtkoiknmijjiicaaGreatDoor
set_option linter.unusedVariables false
set_option linter.unusedSimpArgs false
open Go.RowKit
@[go_sem] theorem run_store_float {P : Program} {w : World} {a : Addr} {m : Mode} (k : FloatKind) (b : Nat) : (store a (.float k b) m).run P w = stored P w a (.float k b) m := run_store P w a _ m rfl
@[go_sem] theorem run_store_complex {P : Program} {w : World} {a : Addr} {m : Mode} (k : FloatKind) (b c : Nat) : (store a (.complex k b c) m).run P w = stored P w a (.complex k b c) m := run_store P w a _ m rfl
@[go_sem] theorem idx_parts0 (x y : Value) (w : World) : (Instr.index 222 (.agg #[x, y]) (.int .i64 0)).run Tryz.prog w = .ok x w := by kernel_rfl
@[go_sem] theorem idx_parts1 (x y : Value) (w : World) : (Instr.index 222 (.agg #[x, y]) (.int .i64 1)).run Tryz.prog w = .ok y w := by kernel_rfl
/-- What the two loops of partErr find. -/
def partC (c1 c2 o1 o2 : Bool) : Int := if c1 && c2 then (if o1 || o2 then 2 else 0) else 29
set_option maxRecDepth 20000 in
set_option maxHeartbeats 2000000 in
theorem partErr_core (a b M re im ra ia : Nat) (w w1 : World) (hcv : (convert 146 78 (.complex .f32 a b)).run Tryz.prog w = .ok (.complex .f64 re im) w1) (hb : Below w.heap.size w w1)
    (a1 : ∀ w, Calls Tryz.prog 176 #[.float .f64 re] w fun e w' => e = .returned (.float .f64 ra) ∧ w = w') (a2 : ∀ w, Calls Tryz.prog 176 #[.float .f64 im] w fun e w' => e = .returned (.float .f64 ia) ∧ w = w')
    {c1 c2 o1 o2 : Bool} (p1 : PartR re c1) (p2 : PartR im c2) (ho1 : (FloatKind.f64.format.order ra M == some Ordering.gt) = o1) (ho2 : (FloatKind.f64.format.order ia M == some Ordering.gt) = o2) :
    Calls Tryz.prog 161 #[.complex .f32 a b, .float .f64 M] w fun e w' => e = .returned (.int .i64 (partC c1 c2 o1 o2)) ∧ Below w.heap.size w w' := by
  obtain ⟨g1, i1, k1, t1⟩ := p1
  obtain ⟨g2, i2, k2, t2⟩ := p2
  have HI1 := Lib.hid i1
  have HI2 := Lib.hid i2
  have HA1 := Lib.hid a1
  have HA2 := Lib.hid a2
  have HCV := Lib.hid (show ((convert 146 78 (.complex .f32 a b)) >>= fun v => (Pure.pure (.value v) : Sem Next)).run Tryz.prog w = .ok (.value (.complex .f64 re im)) w1 by rw [Sem.run_bind, hcv]; rfl)
  have HB := Lib.hid hb
  have hsz := hb.size
  have HO1 := Lib.hid ho1
  have HO2 := Lib.hid ho2
  clear i1 i2 a1 a2 hcv hb ho1 ho2
  have HSZ := Lib.hid hsz
  clear hsz
  cases c1
  · have HF := Lib.hid (show (29 : Int) = partC false c2 o1 o2 from rfl)
    cases g1
    · have HT1 := Lib.hid (t1 rfl)
      clear t1 t2 k1 k2
      go_enter Tryz.func161, Tryz.ntmps161
      go_wp2_with (first | ((with_reducible refine wpList_runw (o := ⟨some 12, _, _, _, _, _⟩) (.complex .f64 re im) w1 ?_ ?_ ?_); (focus rfl); (focus (refine Eq.trans ?_ HCV.out; kernel_rfl))))
      refine wp_loop_rounds 3 ?_; rw [rounds_succ]
      go_wp2_with (first | (go_at_call 174; (with_reducible refine (HI1.out _).mono ?_); rintro e w' ⟨rfl, rfl⟩) | (go_at_call 175; (with_reducible refine (HT1.out _).mono ?_); rintro e w' ⟨v1, rfl, hv1, hb⟩; obtain ⟨pp, rfl⟩ := later_of_below hb; clear hb))
      (go_ret; (have hsz := HSZ.out); exact ⟨ret_intE HF.out, HB.out.trans (by (repeat' (first | with_reducible exact Below.refl _ _ | (with_reducible refine below_later_of ?_ ?_ _) | (with_reducible refine Below.alloc ?_ ?_ _) | (with_reducible refine Below.setCell ?_ ?_ _) | (with_reducible refine Below.drew ?_) | (simp; done) | (simp; omega) | omega)))⟩)
    · clear t1 t2 k1 k2
      go_enter Tryz.func161, Tryz.ntmps161
      go_wp2_with (first | ((with_reducible refine wpList_runw (o := ⟨some 12, _, _, _, _, _⟩) (.complex .f64 re im) w1 ?_ ?_ ?_); (focus rfl); (focus (refine Eq.trans ?_ HCV.out; kernel_rfl))))
      refine wp_loop_rounds 3 ?_; rw [rounds_succ]
      go_wp2_with (first | (go_at_call 174; (with_reducible refine (HI1.out _).mono ?_); rintro e w' ⟨rfl, rfl⟩) | (go_at_call 175; (with_reducible refine (HT1.out _).mono ?_); rintro e w' ⟨v1, rfl, hv1, hb⟩; obtain ⟨pp, rfl⟩ := later_of_below hb; clear hb))
      (go_ret; (have hsz := HSZ.out); exact ⟨ret_intE HF.out, HB.out.trans (by (repeat' (first | with_reducible exact Below.refl _ _ | (with_reducible refine below_later_of ?_ ?_ _) | (with_reducible refine Below.alloc ?_ ?_ _) | (with_reducible refine Below.setCell ?_ ?_ _) | (with_reducible refine Below.drew ?_) | (simp; done) | (simp; omega) | omega)))⟩)
  · cases g1
    · have HT1 := Lib.hid (t1 rfl)
      cases c2
      · have HF := Lib.hid (show (29 : Int) = partC true false o1 o2 from rfl)
        cases g2
        · have HT2 := Lib.hid (t2 rfl)
          clear t1 t2 k1 k2
          go_enter Tryz.func161, Tryz.ntmps161
          go_wp2_with (first | ((with_reducible refine wpList_runw (o := ⟨some 12, _, _, _, _, _⟩) (.complex .f64 re im) w1 ?_ ?_ ?_); (focus rfl); (focus (refine Eq.trans ?_ HCV.out; kernel_rfl))))
          refine wp_loop_rounds 3 ?_; rw [rounds_succ]
          go_wp2_with (first | (go_at_call 174; (with_reducible refine (HI1.out _).mono ?_); rintro e w' ⟨rfl, rfl⟩) | (go_at_call 175; (with_reducible refine (HT1.out _).mono ?_); rintro e w' ⟨v1, rfl, hv1, hb⟩; obtain ⟨pp, rfl⟩ := later_of_below hb; clear hb))
          rw [rounds_succ]
          go_wp2_with (first | (go_at_call 174; (with_reducible refine (HI2.out _).mono ?_); rintro e w' ⟨rfl, rfl⟩) | (go_at_call 175; (with_reducible refine (HT2.out _).mono ?_); rintro e w' ⟨v2, rfl, hv2, hb⟩; obtain ⟨pp2, rfl⟩ := later_of_below hb; clear hb))
          (go_ret; (have hsz := HSZ.out); exact ⟨ret_intE HF.out, HB.out.trans (by (repeat' (first | with_reducible exact Below.refl _ _ | (with_reducible refine below_later_of ?_ ?_ _) | (with_reducible refine Below.alloc ?_ ?_ _) | (with_reducible refine Below.setCell ?_ ?_ _) | (with_reducible refine Below.drew ?_) | (simp; done) | (simp; omega) | omega)))⟩)
        · clear t1 t2 k1 k2
          go_enter Tryz.func161, Tryz.ntmps161
          go_wp2_with (first | ((with_reducible refine wpList_runw (o := ⟨some 12, _, _, _, _, _⟩) (.complex .f64 re im) w1 ?_ ?_ ?_); (focus rfl); (focus (refine Eq.trans ?_ HCV.out; kernel_rfl))))
          refine wp_loop_rounds 3 ?_; rw [rounds_succ]
          go_wp2_with (first | (go_at_call 174; (with_reducible refine (HI1.out _).mono ?_); rintro e w' ⟨rfl, rfl⟩) | (go_at_call 175; (with_reducible refine (HT1.out _).mono ?_); rintro e w' ⟨v1, rfl, hv1, hb⟩; obtain ⟨pp, rfl⟩ := later_of_below hb; clear hb))
          rw [rounds_succ]
          go_wp2_with (first | (go_at_call 174; (with_reducible refine (HI2.out _).mono ?_); rintro e w' ⟨rfl, rfl⟩) | (go_at_call 175; (with_reducible refine (HT2.out _).mono ?_); rintro e w' ⟨v2, rfl, hv2, hb⟩; obtain ⟨pp2, rfl⟩ := later_of_below hb; clear hb))
          (go_ret; (have hsz := HSZ.out); exact ⟨ret_intE HF.out, HB.out.trans (by (repeat' (first | with_reducible exact Below.refl _ _ | (with_reducible refine below_later_of ?_ ?_ _) | (with_reducible refine Below.alloc ?_ ?_ _) | (with_reducible refine Below.setCell ?_ ?_ _) | (with_reducible refine Below.drew ?_) | (simp; done) | (simp; omega) | omega)))⟩)
      · cases g2
        · have HT2 := Lib.hid (t2 rfl)
          clear t1 t2 k1 k2
          cases o1
          · cases o2
            · have HF := Lib.hid (show (0 : Int) = partC true true false false from rfl)
              go_enter Tryz.func161, Tryz.ntmps161
              go_wp2_with (first | ((with_reducible refine wpList_runw (o := ⟨some 12, _, _, _, _, _⟩) (.complex .f64 re im) w1 ?_ ?_ ?_); (focus rfl); (focus (refine Eq.trans ?_ HCV.out; kernel_rfl))))
              refine wp_loop_rounds 3 ?_; rw [rounds_succ]
              go_wp2_with (first | (go_at_call 174; (with_reducible refine (HI1.out _).mono ?_); rintro e w' ⟨rfl, rfl⟩) | (go_at_call 175; (with_reducible refine (HT1.out _).mono ?_); rintro e w' ⟨v1, rfl, hv1, hb⟩; obtain ⟨pp, rfl⟩ := later_of_below hb; clear hb))
              rw [rounds_succ]
              go_wp2_with (first | (go_at_call 174; (with_reducible refine (HI2.out _).mono ?_); rintro e w' ⟨rfl, rfl⟩) | (go_at_call 175; (with_reducible refine (HT2.out _).mono ?_); rintro e w' ⟨v2, rfl, hv2, hb⟩; obtain ⟨pp2, rfl⟩ := later_of_below hb; clear hb))
              rw [rounds_succ]
              go_wp2
              refine wp_loop_rounds 3 ?_; rw [rounds_succ]
              have ho1 := HO1.out
              go_wp2_with (first | (go_at_call 176; (with_reducible refine (HA1.out _).mono ?_); rintro e w' ⟨rfl, rfl⟩))
              rw [rounds_succ]
              have ho2 := HO2.out
              go_wp2_with (first | (go_at_call 176; (with_reducible refine (HA2.out _).mono ?_); rintro e w' ⟨rfl, rfl⟩))
              rw [rounds_succ]
              go_wp2
              (go_ret; (have hsz := HSZ.out); exact ⟨ret_intE HF.out, HB.out.trans (by (repeat' (first | with_reducible exact Below.refl _ _ | (with_reducible refine below_later_of ?_ ?_ _) | (with_reducible refine Below.alloc ?_ ?_ _) | (with_reducible refine Below.setCell ?_ ?_ _) | (with_reducible refine Below.drew ?_) | (simp; done) | (simp; omega) | omega)))⟩)
            · have HF := Lib.hid (show (2 : Int) = partC true true false true from rfl)
              go_enter Tryz.func161, Tryz.ntmps161
              go_wp2_with (first | ((with_reducible refine wpList_runw (o := ⟨some 12, _, _, _, _, _⟩) (.complex .f64 re im) w1 ?_ ?_ ?_); (focus rfl); (focus (refine Eq.trans ?_ HCV.out; kernel_rfl))))
              refine wp_loop_rounds 3 ?_; rw [rounds_succ]
              go_wp2_with (first | (go_at_call 174; (with_reducible refine (HI1.out _).mono ?_); rintro e w' ⟨rfl, rfl⟩) | (go_at_call 175; (with_reducible refine (HT1.out _).mono ?_); rintro e w' ⟨v1, rfl, hv1, hb⟩; obtain ⟨pp, rfl⟩ := later_of_below hb; clear hb))
              rw [rounds_succ]
              go_wp2_with (first | (go_at_call 174; (with_reducible refine (HI2.out _).mono ?_); rintro e w' ⟨rfl, rfl⟩) | (go_at_call 175; (with_reducible refine (HT2.out _).mono ?_); rintro e w' ⟨v2, rfl, hv2, hb⟩; obtain ⟨pp2, rfl⟩ := later_of_below hb; clear hb))
              rw [rounds_succ]
              go_wp2
              refine wp_loop_rounds 3 ?_; rw [rounds_succ]
              have ho1 := HO1.out
              go_wp2_with (first | (go_at_call 176; (with_reducible refine (HA1.out _).mono ?_); rintro e w' ⟨rfl, rfl⟩))
              rw [rounds_succ]
              have ho2 := HO2.out
              go_wp2_with (first | (go_at_call 176; (with_reducible refine (HA2.out _).mono ?_); rintro e w' ⟨rfl, rfl⟩))
              (go_ret; (have hsz := HSZ.out); exact ⟨ret_intE HF.out, HB.out.trans (by (repeat' (first | with_reducible exact Below.refl _ _ | (with_reducible refine below_later_of ?_ ?_ _) | (with_reducible refine Below.alloc ?_ ?_ _) | (with_reducible refine Below.setCell ?_ ?_ _) | (with_reducible refine Below.drew ?_) | (simp; done) | (simp; omega) | omega)))⟩)
          · have HF := Lib.hid (show (2 : Int) = partC true true true o2 from rfl)
            go_enter Tryz.func161, Tryz.ntmps161
            go_wp2_with (first | ((with_reducible refine wpList_runw (o := ⟨some 12, _, _, _, _, _⟩) (.complex .f64 re im) w1 ?_ ?_ ?_); (focus rfl); (focus (refine Eq.trans ?_ HCV.out; kernel_rfl))))
            refine wp_loop_rounds 3 ?_; rw [rounds_succ]
            go_wp2_with (first | (go_at_call 174; (with_reducible refine (HI1.out _).mono ?_); rintro e w' ⟨rfl, rfl⟩) | (go_at_call 175; (with_reducible refine (HT1.out _).mono ?_); rintro e w' ⟨v1, rfl, hv1, hb⟩; obtain ⟨pp, rfl⟩ := later_of_below hb; clear hb))
            rw [rounds_succ]
            go_wp2_with (first | (go_at_call 174; (with_reducible refine (HI2.out _).mono ?_); rintro e w' ⟨rfl, rfl⟩) | (go_at_call 175; (with_reducible refine (HT2.out _).mono ?_); rintro e w' ⟨v2, rfl, hv2, hb⟩; obtain ⟨pp2, rfl⟩ := later_of_below hb; clear hb))
            rw [rounds_succ]
            go_wp2
            refine wp_loop_rounds 3 ?_; rw [rounds_succ]
            have ho1 := HO1.out
            go_wp2_with (first | (go_at_call 176; (with_reducible refine (HA1.out _).mono ?_); rintro e w' ⟨rfl, rfl⟩))
            (go_ret; (have hsz := HSZ.out); exact ⟨ret_intE HF.out, HB.out.trans (by (repeat' (first | with_reducible exact Below.refl _ _ | (with_reducible refine below_later_of ?_ ?_ _) | (with_reducible refine Below.alloc ?_ ?_ _) | (with_reducible refine Below.setCell ?_ ?_ _) | (with_reducible refine Below.drew ?_) | (simp; done) | (simp; omega) | omega)))⟩)
        · exact absurd (k2 rfl) (by decide)
    · exact absurd (k1 rfl) (by decide)
theorem wide_lt {b r : Nat} (h : WideOf b r) : r < 2 ^ 64 := by
  unfold WideOf at h
  cases hd : Ieee.single.read b with
  | number s m e => rw [hd] at h; dsimp only at h; subst h; exact dbl_lt _
  | infinity s => rw [hd] at h; dsimp only at h; subst h; cases s <;> decide
  | nan s t => rw [hd] at h; dsimp only at h; exact h.1
theorem partC_partE {a b re im M : Nat} {m : Int} (ha : WideOf a re) (hb : WideOf b im) (hM : FNum Ieee.double M m) :
    partC (wholeB a) (wholeB b) (FloatKind.f64.format.order (re % 2 ^ 63) M == some Ordering.gt) (FloatKind.f64.format.order (im % 2 ^ 63) M == some Ordering.gt) = partE a b m := by
  unfold partC partE
  by_cases h : (wholeB a && wholeB b) = true
  · rw [if_pos h, if_pos h]
    simp only [Bool.and_eq_true] at h
    rw [abs_gt (wide_fnum ha h.1) hM, abs_gt (wide_fnum hb h.2) hM]
    cases inE (-m) m (intB a) <;> cases inE (-m) m (intB b) <;> rfl
  · rw [if_neg h, if_neg h]
theorem partErr_any (a b M : Nat) {m : Int} (hM : FNum Ieee.double M m) (w : World) :
    Calls Tryz.prog 161 #[.complex .f32 a b, .float .f64 M] w fun e w' => e = .returned (.int .i64 (partE a b m)) ∧ Below w.heap.size w w' := by
  obtain ⟨re, im, w1, h1, h2, h3, h4⟩ := wide2 a b w
  have l1 := wide_lt h2
  have l2 := wide_lt h3
  have := partErr_core a b M re im _ _ w w1 h1 h4 (fun w => abs_any re l1 w) (fun w => abs_any im l2 w) (partR_wide h2) (partR_wide h3) rfl rfl
  rw [partC_partE h2 h3 hM] at this
  exact this
end Go.Proofs.YtkoiknmijjiicaaGreatDoor

/- Chapter 1: partErr of complex128, for every number. -/
namespace Go.Proofs.YtkoiknmijjiicaaGreatDoor
set_option linter.unusedVariables false
set_option linter.unusedSimpArgs false
open Go.RowKit
/-- What partErr says of a number of a field. -/
def wholeD (r : Nat) : Bool := datWhole (Ieee.double.read r)
def intD (r : Nat) : Int := datInt (Ieee.double.read r)
theorem whole_fnumD {r : Nat} (h : wholeD r = true) : FNum Ieee.double r (intD r) := whole_num Ieee.double h
theorem intD_of {r : Nat} {n : Int} (h : FNum Ieee.double r n) : wholeD r = true ∧ intD r = n := num_whole _ h
def partD (a b : Nat) (m : Int) : Int := if wholeD a && wholeD b then (if inE (-m) m (intD a) && inE (-m) m (intD b) then 0 else 2) else 29
theorem partD_ok {a b : Nat} {m : Int} (h : partD a b m = 0) : (FNum Ieee.double a (intD a) ∧ -m ≤ intD a ∧ intD a ≤ m) ∧ FNum Ieee.double b (intD b) ∧ -m ≤ intD b ∧ intD b ≤ m := by
  unfold partD inE at h
  by_cases h1 : (wholeD a && wholeD b) = true
  · rw [if_pos h1] at h
    simp only [Bool.and_eq_true] at h1
    split at h
    · rename_i h2
      simp only [Bool.and_eq_true, decide_eq_true_eq] at h2
      exact ⟨⟨whole_fnumD h1.1, h2.1⟩, whole_fnumD h1.2, h2.2⟩
    · exact absurd h (by decide)
  · rw [if_neg h1] at h
    exact absurd h (by decide)
end Go.Proofs.YtkoiknmijjiicaaGreatDoor

/- Chapter 1: samplesErr, CheckImage. -/
namespace Go.Proofs.YtkoiknmijjiicaaGreatDoor
set_option linter.unusedVariables false
set_option linter.unusedSimpArgs false
open Go.RowKit
def gE (f : Nat → Nat × Nat) (m : Int) (k : Nat) : Int := partE (f k).1 (f k).2 m
set_option maxHeartbeats 1000000 in
theorem samplesErr_any (n b off cap M : Nat) (m : Int) (f : Nat → Nat × Nat) (w : World) (hM : FNum Ieee.double M m) (hl : n ≤ 100000) (hbw : b < w.heap.size) (hf : SamplesAt w b off n f) {i0 : Nat} {e0 : Int} (he : firstE n (gE f m) = (i0, e0)) :
    Calls Tryz.prog 140 #[.slice (some ⟨b, off, none⟩) n cap, .float .f64 M] w fun e w' => e = .returned (.tuple #[.int .i64 i0, .int .i64 e0]) ∧ Below w.heap.size w w' := by
  have HF := Lib.hid hf
  have HM := Lib.hid hM
  have HE := Lib.hid he
  clear hf hM he
  go_enter Tryz.func140, Tryz.ntmps140
  go_wp2
  go_loopw [11] (fun i wr => ∃ k : Nat, k ≤ n ∧ i = .int .i64 k ∧ (∀ j, j < k → gE f m j = 0) ∧ Below w.heap.size w wr) (fun i _ => n - (intOf i).toNat)
  case atStart => exact ⟨0, Nat.zero_le _, rfl, fun j hj => absurd hj (Nat.not_lt_zero _), Below.refl _ _⟩
  case round =>
    obtain ⟨k, hk, rfl, hz, hb⟩ := hrel
    have HZ := Lib.hid hz
    have HB := Lib.hid hb
    by_cases hlt : k < n
    · have hdk : decide ((k : Int) < (n : Int)) = true := by simp; omega
      have ck := (hb.cell (p := ⟨b, off + k, none⟩) hbw).trans (HF.out k hlt)
      have hszb := hb.size
      clear hz hb
      rcases Decidable.em (gE f m k = 0) with h0 | h0
      · have HP := Lib.hid (show ∀ W, Calls Tryz.prog 161 #[.complex .f32 (f k).1 (f k).2, .float .f64 M] W fun e w' => e = .returned (.int .i64 0) ∧ Below W.heap.size W w' from fun W => by
          have := partErr_any (f k).1 (f k).2 M HM.out W
          rwa [show partE (f k).1 (f k).2 m = 0 from h0] at this)
        have H0 := Lib.hid h0
        clear h0
        go_wp2_with (first | (go_at_call 161; (with_reducible refine (HP.out _).mono ?_); rintro e w' ⟨rfl, hb⟩; obtain ⟨pp, rfl⟩ := later_of_below hb; clear hb))
        go_roundw
        case rel => exact ⟨k + 1, by omega, by go_num, fun j hj => by rcases Nat.lt_succ_iff_lt_or_eq.1 hj with h | rfl; exact HZ.out j h; exact H0.out, HB.out.trans (by (repeat' (first | with_reducible exact Below.refl _ _ | (with_reducible refine below_later_of ?_ ?_ _) | (with_reducible refine Below.alloc ?_ ?_ _) | (with_reducible refine Below.setCell ?_ ?_ _) | (with_reducible refine Below.drew ?_) | (simp; done) | (simp; omega) | omega)))⟩
        case measure => simp [intOf]; omega
      · have hE := (firstE_hit hlt HZ.out h0).symm.trans HE.out
        obtain ⟨rfl, rfl⟩ := Prod.mk.inj hE
        have HP := Lib.hid (show ∀ W, Calls Tryz.prog 161 #[.complex .f32 (f k).1 (f k).2, .float .f64 M] W fun e w' => e = .returned (.int .i64 (gE f m k)) ∧ Below W.heap.size W w' from fun W => partErr_any (f k).1 (f k).2 M HM.out W)
        have hne : (gE f m k != 0) = true := by simpa using h0
        clear h0 hE HE
        obtain ⟨z, hz0⟩ : ∃ z, gE f m k = z := ⟨_, rfl⟩
        rw [hz0] at hne HP
        have HZ0 := Lib.hid hz0
        clear hz0
        go_wp2_with (first | (go_at_call 161; (with_reducible refine (HP.out _).mono ?_); rintro e w' ⟨rfl, hb⟩; obtain ⟨pp, rfl⟩ := later_of_below hb; clear hb))
        go_ret2
        exact ⟨by rw [HZ0.out]; rfl, HB.out.trans (by (repeat' (first | with_reducible exact Below.refl _ _ | (with_reducible refine below_later_of ?_ ?_ _) | (with_reducible refine Below.alloc ?_ ?_ _) | (with_reducible refine Below.setCell ?_ ?_ _) | (with_reducible refine Below.drew ?_) | (simp; done) | (simp; omega) | omega)))⟩
    · obtain rfl : k = n := by omega
      have hdk : decide ((k : Int) < (k : Int)) = false := by simp
      clear hz hb
      have hE := (firstE_ok HZ.out).symm.trans HE.out
      obtain ⟨rfl, rfl⟩ := Prod.mk.inj hE
      clear hE HE
      go_wp2
      go_ret2
      exact ⟨rfl, HB.out⟩
/-- Numbers of a field in memory: n of them, with these bits. -/
def SumsAt (W : World) (b off n : Nat) (f : Nat → Nat × Nat) : Prop := ∀ k, k < n → W.cell? ⟨b, off + k, none⟩ = some (.complex .f64 (f k).1 (f k).2)
theorem SumsAt.below {w w' : World} {b off n : Nat} {f : Nat → Nat × Nat} (h : SumsAt w b off n f) (hb : b < w.heap.size) (hw : Below w.heap.size w w') : SumsAt w' b off n f :=
  fun k hk => (hw.cell (p := ⟨b, off + k, none⟩) hb).trans (h k hk)
def gD (f : Nat → Nat × Nat) (m : Int) (k : Nat) : Int := partD (f k).1 (f k).2 m
end Go.Proofs.YtkoiknmijjiicaaGreatDoor

/- Chapter 1: CheckImage, CheckField, their errors alone. -/
namespace Go.Proofs.YtkoiknmijjiicaaGreatDoor
set_option linter.unusedVariables false
set_option linter.unusedSimpArgs false
open Go.RowKit
theorem num_2047 : FNum Ieee.double 4656717616654581760 2047 := ⟨false, 9002801208229888, -42, 2047, by decide, by unfold Mag; decide, by decide⟩
theorem num_3 : FNum Ieee.double 4613937818241073152 3 := ⟨false, 6755399441055744, -51, 3, by decide, by unfold Mag; decide, by decide⟩
/-- The number of a sample, and the error of an image. -/
def imgE (L S : Int) (n : Nat) (f : Nat → Nat × Nat) : Nat × Int := if sizeE L S n = 0 then firstE n (gE f 2047) else (0, sizeE L S n)
/-- Where the data of an image lie, if it has the right size. -/
def DataAt (W : World) (L S : Int) (n : Nat) (f : Nat → Nat × Nat) (a : Option Addr) : Prop := sizeE L S n = 0 → ∃ b off, a = some ⟨b, off, none⟩ ∧ b < W.heap.size ∧ SamplesAt W b off n f
theorem DataAt.below {W W' : World} {L S : Int} {n : Nat} {f : Nat → Nat × Nat} {a : Option Addr} (h : DataAt W L S n f a) (hb : Below W.heap.size W W') : DataAt W' L S n f a := fun h0 => by
  obtain ⟨b, off, h1, h2, h3⟩ := h h0
  exact ⟨b, off, h1, by have := hb.size; omega, h3.below h2 hb⟩
set_option maxHeartbeats 1000000 in
theorem checkImage_any (L S : Int) (n cap : Nat) (f : Nat → Nat × Nat) (a : Option Addr) (w : World) (hl : n ≤ 100000) (hd : DataAt w L S n f a) {i0 : Nat} {e0 : Int} (he : imgE L S n f = (i0, e0)) :
    Calls Tryz.prog 120 #[.agg #[.int .i64 L, .int .i64 S, .slice a n cap]] w fun e w' => e = .returned (.tuple #[.int .i64 i0, .int .i64 e0]) ∧ Below w.heap.size w w' := by
  obtain ⟨z, hz⟩ : ∃ z, sizeE L S n = z := ⟨_, rfl⟩
  have HS := Lib.hid (fun w => sizeErr_any L S n w hz)
  by_cases h0 : z = 0
  · subst h0
    obtain ⟨b, off, rfl, hbw, hf⟩ := hd hz
    have he' : firstE n (gE f 2047) = (i0, e0) := by rw [← he]; unfold imgE; rw [if_pos hz]
    have HV := Lib.hid (show ∀ W, Below w.heap.size w W → _ from fun W hW => samplesErr_any n b off cap _ 2047 f W num_2047 hl (by have := hW.size; omega) (hf.below hbw hW) he')
    clear hz hd he he' hf
    go_enter Tryz.func120, Tryz.ntmps120
    go_wp2_with (first | (go_at_call 139; (with_reducible refine (HS.out _).mono ?_); rintro e w' ⟨rfl, rfl⟩) | (go_at_call 140; (with_reducible refine (HV.out _ (by (repeat' (first | with_reducible exact Below.refl _ _ | (with_reducible refine below_later_of ?_ ?_ _) | (with_reducible refine Below.alloc ?_ ?_ _) | (with_reducible refine Below.setCell ?_ ?_ _) | (with_reducible refine Below.drew ?_) | (simp; done) | (simp; omega) | omega)))).mono ?_); rintro e w' ⟨rfl, hb⟩; obtain ⟨pp, rfl⟩ := later_of_below hb; clear hb))
    go_ret2
    exact ⟨rfl, (by (repeat' (first | with_reducible exact Below.refl _ _ | (with_reducible refine below_later_of ?_ ?_ _) | (with_reducible refine Below.alloc ?_ ?_ _) | (with_reducible refine Below.setCell ?_ ?_ _) | (with_reducible refine Below.drew ?_) | (simp; done) | (simp; omega) | omega)))⟩
  · have he' : (0, z) = (i0, e0) := by rw [← he]; unfold imgE; rw [hz, if_neg h0]
    obtain ⟨rfl, rfl⟩ := Prod.mk.inj he'
    have hne : (z != 0) = true := by simpa using h0
    clear hz hd he he' h0
    go_enter Tryz.func120, Tryz.ntmps120
    go_wp2_with (first | (go_at_call 139; (with_reducible refine (HS.out _).mono ?_); rintro e w' ⟨rfl, rfl⟩))
    go_ret2
    exact ⟨rfl, (by (repeat' (first | with_reducible exact Below.refl _ _ | (with_reducible refine below_later_of ?_ ?_ _) | (with_reducible refine Below.alloc ?_ ?_ _) | (with_reducible refine Below.setCell ?_ ?_ _) | (with_reducible refine Below.drew ?_) | (simp; done) | (simp; omega) | omega)))⟩
end Go.Proofs.YtkoiknmijjiicaaGreatDoor

/- Chapter 1: whether a sample is not 0; CheckCode. -/
namespace Go.Proofs.YtkoiknmijjiicaaGreatDoor
set_option linter.unusedVariables false
set_option linter.unusedSimpArgs false
open Go.RowKit
/-- The sample is not 0. -/
def nzC (a b : Nat) : Bool := !FloatKind.f32.format.order a 0 == some Ordering.eq || !FloatKind.f32.format.order b 0 == some Ordering.eq
theorem zero_single : FNum Ieee.single 0 0 := ⟨false, 0, -149, 0, by decide, by unfold Mag; rw [Nat.zero_mul, Nat.zero_mul], rfl⟩
theorem nzC_num {a b : Nat} {x y : Int} (ha : FNum Ieee.single a x) (hb : FNum Ieee.single b y) : nzC a b = (decide (x ≠ 0) || decide (y ≠ 0)) := by
  unfold nzC
  rw [show FloatKind.f32.format.order a 0 = some (compare x 0) from order_num _ ha zero_single, show FloatKind.f32.format.order b 0 = some (compare y 0) from order_num _ hb zero_single, beq_eq_iff, beq_eq_iff, decide_not, decide_not]
theorem ret_boolE {a b : Bool} (h : a = b) : Ending.returned (.bool a) = .returned (.bool b) := by rw [h]
def anyC (n : Nat) (f : Nat → Nat × Nat) : Bool := (List.range n).any fun k => nzC (f k).1 (f k).2
theorem anyC_hit {n k : Nat} {f : Nat → Nat × Nat} (hk : k < n) (h : nzC (f k).1 (f k).2 = true) : anyC n f = true := by
  unfold anyC
  rw [List.any_eq_true]
  exact ⟨k, List.mem_range.2 hk, h⟩
theorem anyC_no {n : Nat} {f : Nat → Nat × Nat} (h : ∀ j, j < n → nzC (f j).1 (f j).2 = false) : anyC n f = false := by
  unfold anyC
  rw [List.any_eq_false]
  intro j hj
  rw [h j (List.mem_range.1 hj)]
  decide
def IdxPost (c : Bool) (w : World) (e : Ending) (w' : World) : Prop := ∃ i : Int, e = .returned (.int .i64 i) ∧ decide (0 ≤ i) = c ∧ (-1 ≤ i ∧ i ≤ 100000) ∧ w = w'
/-- The number of a sample, and the error of a code. -/
def codeE (n : Nat) (f : Nat → Nat × Nat) : Nat × Int :=
  if n = 0 then (0, 10) else if 32 < n then (0, 8) else if (firstE n (gE f 3)).2 = 0 then (if anyC n f then (0, 0) else (0, 11)) else firstE n (gE f 3)
end Go.Proofs.YtkoiknmijjiicaaGreatDoor

/- Chapter 1: Compress. -/
namespace Go.Proofs.YtkoiknmijjiicaaGreatDoor
set_option linter.unusedVariables false
set_option linter.unusedSimpArgs false
open Go.RowKit Ntt
/-- The field that Compress returns, in memory of its own. -/
def CompPost (L S S0 C : Nat) (X Y U V : Nat → Int) (w : World) (e : Ending) (w' : World) : Prop :=
  ∃ a c D, e = .returned (.tuple #[.agg #[.int .i64 L, .int .i64 S, .slice a D.length c], .int .i64 0]) ∧ D.length = L * S ∧ DOk X Y U V S S0 C D ∧ FieldAt w' w.heap.size a D ∧ Below w.heap.size w w'
def xB (f : Nat → Nat × Nat) (k : Nat) : Int := intB (f k).1
def yB (f : Nat → Nat × Nat) (k : Nat) : Int := intB (f k).2
theorem smallS_of {n : Nat} {f : Nat → Nat × Nat} {m : Int} (hm : m ≤ 1000000) (h : ∀ k, k < n → gE f m k = 0) : SmallS n f (xB f) (yB f) m := fun k hk => by
  obtain ⟨⟨h1, h2, h3⟩, h4, h5, h6⟩ := partE_ok (h k hk)
  refine ⟨⟨h1, h4, ?_, ?_⟩, ⟨h2, h3⟩, h5, h6⟩
  · show -1000000 ≤ intB (f k).1 ∧ intB (f k).1 ≤ 1000000
    omega
  · show -1000000 ≤ intB (f k).2 ∧ intB (f k).2 ≤ 1000000
    omega
theorem imgE_zero {L S : Int} {n : Nat} {f : Nat → Nat × Nat} (h : (imgE L S n f).2 = 0) : sizeE L S n = 0 ∧ ∀ k, k < n → gE f 2047 k = 0 := by
  unfold imgE at h
  by_cases h0 : sizeE L S n = 0
  · rw [if_pos h0] at h
    exact ⟨h0, firstE_zero h⟩
  · rw [if_neg h0] at h
    exact absurd h h0
theorem sizeE_zero {L S : Int} {n : Nat} (h : sizeE L S n = 0) : (1 ≤ L ∧ L ≤ 64) ∧ (1 ≤ S ∧ S ≤ 64) ∧ (n : Int) = L * S := by
  unfold sizeE at h
  by_cases h0 : (inE 1 64 L && inE 1 64 S) = true
  · rw [if_pos h0] at h
    simp only [Bool.and_eq_true] at h0
    split at h
    · exact ⟨inE_iff.1 h0.1, inE_iff.1 h0.2, ‹_›⟩
    · exact absurd h (by decide)
  · rw [if_neg h0] at h
    exact absurd h (by decide)
theorem codeE_zero {n : Nat} {f : Nat → Nat × Nat} (h : (codeE n f).2 = 0) : 0 < n ∧ n ≤ 32 ∧ (∀ k, k < n → gE f 3 k = 0) ∧ anyC n f = true := by
  unfold codeE at h
  by_cases h0 : n = 0
  · rw [if_pos h0] at h; exact absurd h (by decide)
  · rw [if_neg h0] at h
    by_cases h1 : 32 < n
    · rw [if_pos h1] at h; exact absurd h (by decide)
    · rw [if_neg h1] at h
      by_cases h2 : (firstE n (gE f 3)).2 = 0
      · rw [if_pos h2] at h
        refine ⟨by omega, by omega, firstE_zero h2, ?_⟩
        cases hc : anyC n f
        · rw [hc] at h; exact absurd h (by decide)
        · rfl
      · rw [if_neg h2] at h
        exact absurd h h2
/-- Where a code lies. -/
def CodeAt (W : World) (n : Nat) (f : Nat → Nat × Nat) (a : Option Addr) : Prop := 0 < n → ∃ b off, a = some ⟨b, off, none⟩ ∧ b < W.heap.size ∧ SamplesAt W b off n f
theorem CodeAt.below {W W' : World} {n : Nat} {f : Nat → Nat × Nat} {a : Option Addr} (h : CodeAt W n f a) (hb : Below W.heap.size W W') : CodeAt W' n f a := fun h0 => by
  obtain ⟨b, off, h1, h2, h3⟩ := h h0
  exact ⟨b, off, h1, by have := hb.size; omega, h3.below h2 hb⟩
theorem ImgBlk.mk' {W : World} {B : Nat} {lines samples : Int} {a : Option Addr} {n cap : Nat} (h0 : W.cell? ⟨B, 0, none⟩ = some (.int .i64 lines)) (h1 : W.cell? ⟨B, 1, none⟩ = some (.int .i64 samples)) (h2 : W.cell? ⟨B, 2, none⟩ = some (.slice a n cap)) : ImgBlk W B lines samples a n cap := ⟨h0, h1, h2⟩
theorem FieldAt.mono {W : World} {b b' : Nat} {a : Option Addr} {D : List (Nat × Nat)} (h : FieldAt W b a D) (hb : b' ≤ b) : FieldAt W b' a D := fun h0 => by
  obtain ⟨g, h1, h2, h3, h4⟩ := h h0
  exact ⟨g, h1, by omega, h3, h4⟩
theorem FieldAt.below {W W' : World} {b : Nat} {a : Option Addr} {D : List (Nat × Nat)} (h : FieldAt W b a D) (hb : Below W.heap.size W W') : FieldAt W' b a D := fun h0 => by
  obtain ⟨g, h1, h2, h3, h4⟩ := h h0
  exact ⟨g, h1, h2, by have := hb.size; omega, fun k z hz => (hb.cell (p := ⟨g, k, none⟩) h3).trans (h4 k z hz)⟩
/-- A store into a block below the field's leaves it as it is. -/
theorem FieldAt.set {W : World} {b : Nat} {a : Option Addr} {D : List (Nat × Nat)} (h : FieldAt W b a D) {p : Addr} (hp : p.block < b) (v : Value) : FieldAt (W.setCell p v) b a D := fun h0 => by
  obtain ⟨g, h1, h2, h3, h4⟩ := h h0
  refine ⟨g, h1, h2, by simpa using h3, fun k z hz => ?_⟩
  rw [World.cell?_setCell_other _ _ _ _ (by intro e; rw [e] at hp; simp at hp; omega)]
  exact h4 k z hz
/-- What a compression says if it answers OK. -/
def CompOk (W : World) (base : Nat) (L S : Int) (n C : Nat) (f fc : Nat → Nat × Nat) (l s : Int) (n' : Nat) (a : Option Addr) : Prop :=
  ∃ L0 S0 : Nat, L = L0 ∧ S = S0 ∧ (1 ≤ L0 ∧ L0 ≤ 64 ∧ 1 ≤ C ∧ C ≤ S0 ∧ S0 ≤ 64 ∧ C ≤ 32) ∧ n = L0 * S0 ∧ l = L0 ∧ s = ((S0 + 1 - C : Nat) : Int) ∧ n' = L0 * (S0 + 1 - C) ∧ SmallS n f (xB f) (yB f) 2047 ∧ SmallS C fc (xB fc) (yB fc) 3 ∧
    ∃ D, D.length = n' ∧ DOk (xB f) (yB f) (xB fc) (yB fc) (S0 + 1 - C) S0 C D ∧ FieldAt W base a D
theorem CompOk.below {W W' : World} {base : Nat} {L S : Int} {n C : Nat} {f fc : Nat → Nat × Nat} {l s : Int} {n' : Nat} {a : Option Addr} (h : CompOk W base L S n C f fc l s n' a) (hb : Below W.heap.size W W') : CompOk W' base L S n C f fc l s n' a := by
  obtain ⟨L0, S0, h1, h2, h3, h4, h5, h6, h7, h8, h9, D, d1, d2, d3⟩ := h
  exact ⟨L0, S0, h1, h2, h3, h4, h5, h6, h7, h8, h9, D, d1, d2, d3.below hb⟩
theorem CompOk.set {W : World} {base : Nat} {L S : Int} {n C : Nat} {f fc : Nat → Nat × Nat} {l s : Int} {n' : Nat} {a : Option Addr} (h : CompOk W base L S n C f fc l s n' a) {p : Addr} (hp : p.block < base) (v : Value) : CompOk (W.setCell p v) base L S n C f fc l s n' a := by
  obtain ⟨L0, S0, h1, h2, h3, h4, h5, h6, h7, h8, h9, D, d1, d2, d3⟩ := h
  exact ⟨L0, S0, h1, h2, h3, h4, h5, h6, h7, h8, h9, D, d1, d2, d3.set hp v⟩
theorem CompOk.mono {W : World} {base base' : Nat} {L S : Int} {n C : Nat} {f fc : Nat → Nat × Nat} {l s : Int} {n' : Nat} {a : Option Addr} (h : CompOk W base L S n C f fc l s n' a) (hb : base' ≤ base) : CompOk W base' L S n C f fc l s n' a := by
  obtain ⟨L0, S0, h1, h2, h3, h4, h5, h6, h7, h8, h9, D, d1, d2, d3⟩ := h
  exact ⟨L0, S0, h1, h2, h3, h4, h5, h6, h7, h8, h9, D, d1, d2, d3.mono hb⟩
theorem dataAt_own {W W' : World} {B n : Nat} {L S : Int} {a : Option Addr} {f : Nat → Nat × Nat} (h : 0 < n → ∃ g, a = some ⟨g, 0, none⟩ ∧ B ≤ g ∧ g < W.heap.size ∧ SamplesAt W g 0 n f) (hb : Below W.heap.size W W') : DataAt W' L S n f a := fun hs => by
  obtain ⟨⟨l1, l2⟩, ⟨s1, s2⟩, hn⟩ := sizeE_zero hs
  have h0 : 0 < L * S := Int.mul_pos (by omega) (by omega)
  obtain ⟨g, h1, -, h3, h4⟩ := h (by omega)
  exact ⟨g, 0, h1, by have := hb.size; omega, h4.below h3 hb⟩
def CompAny (L S : Int) (n C : Nat) (f fc : Nat → Nat × Nat) (w : World) (e : Ending) (w' : World) : Prop :=
  ∃ l s n' a c e0, e = .returned (.tuple #[.agg #[.int .i64 l, .int .i64 s, .slice a n' c], .int .i64 e0]) ∧ (e0 = 0 → CompOk w' w.heap.size L S n C f fc l s n' a) ∧ Below w.heap.size w w'
end Go.Proofs.YtkoiknmijjiicaaGreatDoor
