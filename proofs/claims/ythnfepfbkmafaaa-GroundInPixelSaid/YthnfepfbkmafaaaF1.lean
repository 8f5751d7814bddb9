/- Floats: coarse bounds of conversions and of the square root, in the model's own words. No program in sight. -/
import Derived.Laws.FloatArith
namespace Go.Proofs.Ythnfepfbkmafaaa
set_option linter.unusedVariables false
open Ieee

theorem log2_lt_pow (m : Nat) (h : m ≠ 0) : m < 2 ^ (m.log2 + 1) := Nat.lt_log2_self
theorem pow_le_log2 (m : Nat) (h : m ≠ 0) : 2 ^ m.log2 ≤ m := Nat.log2_self_le h

/-- Cut to the nearest, at most one more than the quotient. -/
theorem cut_le (way : Toward) (neg : Bool) (n drop : Nat) : way.cut neg n drop ≤ n / (1 <<< min drop (n.log2 + 2)) + 1 := by
  unfold Toward.cut
  exact Nat.add_le_add_left (Bool.toNat_le _) _

theorem shl_one (k : Nat) : 1 <<< k = 2 ^ k := by rw [Nat.shiftLeft_eq, Nat.one_mul]

/-- The rung of a positive number of exponent L is at most that of 2 ^ (L + 1). -/
theorem nearest_le (m : Nat) (e : Int) (hm : m ≠ 0) (L : Int) (hL : e + m.log2 = L) (h1 : -1000 ≤ L) (h2 : L ≤ 1000) :
    double.nearest false m e ≤ (L + 1024).toNat * 2 ^ 52 := by
  unfold Format.nearest
  rw [if_neg hm]
  have hlp : double.leastPlace = -1074 := by decide
  have hfb : (double.fractionBits : Int) = 52 := rfl
  have hbin : double.binade = 2 ^ 52 := rfl
  simp only [hlp, hfb, hbin, hL]
  have hmax : max (L - 52) (-1074) = L - 52 := by omega
  rw [hmax]
  unfold Format.word
  simp only [Bool.false_eq_true, if_false]
  refine Nat.le_trans (Nat.min_le_left _ _) ?_
  have hkept : Toward.even.cut false (m <<< (e - (L - 52)).toNat) (L - 52 - e).toNat ≤ 2 ^ 53 := by
    have hlg : m < 2 ^ (m.log2 + 1) := log2_lt_pow m hm
    rcases Int.le_total 0 (e - (L - 52)) with h | h
    · -- no digit is dropped
      have hd : (L - 52 - e).toNat = 0 := by omega
      rw [hd]
      unfold Toward.cut
      simp only [Nat.zero_min, Nat.shiftLeft_zero, Nat.mod_one, Nat.div_one, Nat.mul_zero]
      have : m <<< (e - (L - 52)).toNat < 2 ^ 53 := by
        rw [Nat.shiftLeft_eq]
        have hk : (e - (L - 52)).toNat = 52 - m.log2 ∧ m.log2 ≤ 52 := by omega
        rw [hk.1]
        calc m * 2 ^ (52 - m.log2) < 2 ^ (m.log2 + 1) * 2 ^ (52 - m.log2) := Nat.mul_lt_mul_of_pos_right hlg (Nat.two_pow_pos _)
          _ = 2 ^ 53 := by rw [← Nat.pow_add]; congr 1; omega
      simp
      omega
    · have hs : (e - (L - 52)).toNat = 0 := by omega
      rw [hs, Nat.shiftLeft_zero]
      refine Nat.le_trans (cut_le _ _ _ _) ?_
      have hmin : min (L - 52 - e).toNat (m.log2 + 2) = m.log2 - 52 ∧ 52 ≤ m.log2 := by omega
      rw [hmin.1, shl_one]
      have : m / 2 ^ (m.log2 - 52) < 2 ^ 53 := by
        rw [Nat.div_lt_iff_lt_mul (Nat.two_pow_pos _), ← Nat.pow_add]
        have : 53 + (m.log2 - 52) = m.log2 + 1 := by omega
        rw [this]
        exact hlg
      omega
  have : (L - 52 - -1074).toNat = (L + 1022).toNat := by omega
  rw [this]
  have h3 : (L + 1024).toNat = (L + 1022).toNat + 2 := by omega
  rw [h3, Nat.add_mul]
  omega

/-- What is read of a rung that is not too great: a number of a bounded exponent. -/
theorem read_exp (r K : Nat) (hK : K ≤ 2040) (h : r ≤ K * 2 ^ 52) (hK1 : 1 ≤ K) : ∃ m e, double.read r = .number false m e ∧ (m = 0 ∨ e + (m.log2 : Int) ≤ (K : Int) - 1023) ∧ -1074 ≤ e := by
  have hsw : double.signWeight = 2 ^ 63 := rfl
  have hb : double.binade = 2 ^ 52 := rfl
  have hi : double.infRung = 2047 * 2 ^ 52 := rfl
  have hlp : double.leastPlace = -1074 := by decide
  have hr : r < 2 ^ 63 := by omega
  unfold Format.read
  simp only [hsw, hb, hi, hlp, Nat.mod_eq_of_lt hr, Nat.div_eq_of_lt hr]
  have hneg : ((0 % 2 == 1) : Bool) = false := rfl
  rw [hneg]
  by_cases h1 : r < 2 ^ 52
  · rw [if_pos h1]
    refine ⟨_, _, rfl, ?_, Int.le_refl _⟩
    by_cases h0 : r = 0
    · exact Or.inl h0
    · right
      have : r.log2 < 52 := (Nat.log2_lt h0).2 h1
      omega
  · rw [if_neg h1, if_pos (by omega)]
    refine ⟨_, _, rfl, Or.inr ?_, by omega⟩
    have hlog : (2 ^ 52 + r % 2 ^ 52).log2 = 52 := by
      have h2 : r % 2 ^ 52 < 2 ^ 52 := Nat.mod_lt _ (Nat.two_pow_pos _)
      rw [Nat.log2_eq_iff (by omega)]
      omega
    rw [hlog]
    have hd : r / 2 ^ 52 ≤ K := Nat.div_le_of_le_mul (by rw [Nat.mul_comm]; exact h)
    have hd1 : 1 ≤ r / 2 ^ 52 := (Nat.le_div_iff_mul_le (Nat.two_pow_pos _)).2 (by omega)
    omega

theorem log2_shl (m k : Nat) (hm : m ≠ 0) : (m <<< k).log2 = m.log2 + k := by
  have hp := Nat.two_pow_pos k
  have h0 : m <<< k ≠ 0 := by rw [Nat.shiftLeft_eq]; have := Nat.mul_pos (Nat.pos_of_ne_zero hm) hp; omega
  rw [Nat.log2_eq_iff h0, Nat.shiftLeft_eq, show m.log2 + k + 1 = (m.log2 + 1) + k by omega, Nat.pow_add, Nat.pow_add 2 (m.log2 + 1)]
  exact ⟨Nat.mul_le_mul_right _ (pow_le_log2 m hm), Nat.mul_lt_mul_of_pos_right (log2_lt_pow m hm) hp⟩

theorem rootFrom_sq (n : Nat) : ∀ (todo root : Nat), root * root ≤ n → Datum.rootFrom n todo root * Datum.rootFrom n todo root ≤ n
  | 0, root, h => by simpa [Datum.rootFrom] using h
  | todo + 1, root, h => by
    simp only [Datum.rootFrom]
    apply rootFrom_sq
    split
    · assumption
    · exact h

theorem log2_le_of_sq (r n : Nat) (hr : r ≠ 0) (h : r * r ≤ n) : r.log2 ≤ n.log2 / 2 := by
  have h1 := pow_le_log2 r hr
  have hn : n ≠ 0 := by
    have := Nat.mul_pos (Nat.pos_of_ne_zero hr) (Nat.pos_of_ne_zero hr); omega
  have h2 : 2 ^ (r.log2 + r.log2) ≤ n := by
    rw [Nat.pow_add]
    exact Nat.le_trans (Nat.mul_le_mul h1 h1) h
  have := (Nat.le_log2 hn).2 h2
  omega

/-- The root's exponent is at most half of the number's. -/
theorem root_exp (m : Nat) (e : Int) (hm : m ≠ 0) (L : Int) (hL : e + (m.log2 : Int) ≤ L) : ∃ m' e', Datum.root 54 (.number false m e) = some (.number false m' e') ∧ m' ≠ 0 ∧ e' + (m'.log2 : Int) ≤ L / 2 ∧ (e - 110) / 2 - 1 ≤ e' := by
  simp only [Datum.root]
  rw [if_neg hm]
  simp only [Bool.false_eq_true, if_false]
  generalize hmore : 2 * 54 - m.log2 + ((e - ((2 * 54 - m.log2 : Nat) : Int)) % 2).toNat = more
  have heven : (e - (more : Int)) % 2 = 0 := by omega
  have hnl : (m <<< more).log2 = m.log2 + more := by exact log2_shl m more hm
  have hn0 : m <<< more ≠ 0 := by
    rw [Nat.shiftLeft_eq]
    have := Nat.mul_pos (Nat.pos_of_ne_zero hm) (Nat.two_pow_pos more); omega
  have hsq := rootFrom_sq (m <<< more) ((m <<< more).log2 / 2 + 1) 0 (Nat.zero_le _)
  generalize hwh : Datum.rootFrom (m <<< more) ((m <<< more).log2 / 2 + 1) 0 = whole at hsq ⊢
  refine ⟨_, _, rfl, ?_, ?_, by omega⟩
  · intro h0
    have hw : whole = 0 := by omega
    rw [hw] at h0
    simp [Ne.symm hn0] at h0
  · have hb : (2 * whole + (whole * whole != m <<< more).toNat).log2 ≤ (m.log2 + more) / 2 + 1 := by
      generalize (whole * whole != m <<< more) = b
      have hbt : b.toNat ≤ 1 := by cases b <;> decide
      by_cases hw : whole = 0
      · rw [hw]
        have : (2 * 0 + b.toNat).log2 = 0 := by cases b <;> rfl
        omega
      · have h1 := log2_le_of_sq whole _ hw hsq
        rw [hnl] at h1
        have h2 : 2 * whole + b.toNat < 2 ^ (whole.log2 + 2) := by
          have := log2_lt_pow whole hw
          rw [Nat.pow_succ] at *
          omega
        have := (Nat.log2_lt (by omega)).2 h2
        omega
    have hbi : (((2 * whole + (whole * whole != m <<< more).toNat).log2 : Nat) : Int) ≤ (((m.log2 + more) / 2 + 1 : Nat) : Int) := by exact_mod_cast hb
    push_cast at hbi
    omega

/-- A number cut to a whole one. -/
theorem toInt_lt (m : Nat) (e : Int) (K : Nat) (h : m = 0 ∨ e + (m.log2 : Int) < K) : ∃ r : Nat, (Datum.number false m e).toInt .zero = some (r : Int) ∧ r < 2 ^ K := by
  refine ⟨Toward.zero.cut false (m <<< e.toNat) (-e).toNat, ?_, ?_⟩
  · simp [Datum.toInt, Datum.integral, signed]
  · have hz : Toward.zero.cut false (m <<< e.toNat) (-e).toNat = (m <<< e.toNat) / 2 ^ min (-e).toNat ((m <<< e.toNat).log2 + 2) := by
      unfold Toward.cut; simp [shl_one]
    rw [hz]
    rcases h with h | h
    · subst h; simp [Nat.two_pow_pos]
    · by_cases hm : m = 0
      · subst hm; simp [Nat.two_pow_pos]
      · have hlg := log2_lt_pow m hm
        rcases Int.le_total 0 e with he | he
        · have : (-e).toNat = 0 := by omega
          rw [this, Nat.zero_min, Nat.pow_zero, Nat.div_one, Nat.shiftLeft_eq]
          calc m * 2 ^ e.toNat < 2 ^ (m.log2 + 1) * 2 ^ e.toNat := Nat.mul_lt_mul_of_pos_right hlg (Nat.two_pow_pos _)
            _ = 2 ^ (m.log2 + 1 + e.toNat) := by rw [← Nat.pow_add]
            _ ≤ 2 ^ K := Nat.pow_le_pow_right (by omega) (by omega)
        · have : e.toNat = 0 := by omega
          rw [this, Nat.shiftLeft_zero, Nat.div_lt_iff_lt_mul (Nat.two_pow_pos _), ← Nat.pow_add]
          exact Nat.lt_of_lt_of_le hlg (Nat.pow_le_pow_right (by omega) (by omega))

/-- The root of a whole number below 2 ^ 59, as a float, cut: from 0 to 2 ^ 31. -/
theorem sqrt_bound (n : Int) (h0 : 0 ≤ n) (h1 : n < 576460752303423488) :
    ∃ b, double.sqrt (floatOfInt .f64 n) = some b ∧ ∃ r : Int, floatToIntVal .f64 b .i64 = some r ∧ 0 ≤ r ∧ r ≤ 2147483648 := by
  obtain ⟨k, rfl⟩ := Int.eq_ofNat_of_zero_le h0
  have hneg : decide ((k : Int) < 0) = false := by simp
  have hfl : floatOfInt .f64 (k : Int) = double.nearest false k 0 := by
    unfold floatOfInt FloatKind.nearest FloatKind.encode Format.write
    rw [hneg]; rfl
  rw [hfl]
  have fin : ∀ m e, (m = 0 ∨ e + (m.log2 : Int) < 31) → ∃ r : Int, (∀ b, double.read b = .number false m e → floatToIntVal .f64 b .i64 = some r) ∧ 0 ≤ r ∧ r ≤ 2147483648 := by
    intro m e h
    obtain ⟨r, hr, hlt⟩ := toInt_lt m e 31 h
    refine ⟨r, fun b hb => ?_, by omega, by omega⟩
    unfold floatToIntVal FloatKind.decode
    have : FloatKind.f64.format.read b = .number false m e := hb
    rw [this, hr]
    simp only
    rw [if_pos]
    have e1 : IntKind.i64.min = -9223372036854775808 := by decide
    have e2 : IntKind.i64.max = 9223372036854775807 := by decide
    rw [e1, e2]
    omega
  by_cases hk : k = 0
  · subst hk
    refine ⟨0, by decide +kernel, ?_⟩
    obtain ⟨r, h, hr⟩ := fin 0 (-1074) (Or.inl rfl)
    exact ⟨r, h 0 (by decide +kernel), hr⟩
  · have hl : k.log2 < 59 := (Nat.log2_lt hk).2 (by omega)
    have hn := nearest_le k 0 hk k.log2 (by omega) (by omega) (by omega)
    obtain ⟨m, e, hrd, hme, hlo⟩ := read_exp (double.nearest false k 0) (k.log2 + 1024) (by omega) (by
      have : ((k.log2 : Int) + 1024).toNat = k.log2 + 1024 := by omega
      rw [this] at hn; exact hn) (by omega)
    unfold Format.sqrt
    rw [hrd]
    by_cases hm : m = 0
    · subst hm
      have hroot : Datum.root (double.fractionBits + 2) (.number false 0 e) = some (.number false 0 e) := by simp [Datum.root]
      rw [hroot]
      refine ⟨_, rfl, ?_⟩
      obtain ⟨r, h, hr⟩ := fin 0 (-1074) (Or.inl rfl)
      refine ⟨r, h _ ?_, hr⟩
      show double.read (double.nearest false 0 e) = _
      have : double.nearest false 0 e = 0 := by unfold Format.nearest Format.word; simp
      rw [this]; decide +kernel
    · have hme' : e + (m.log2 : Int) ≤ 59 := by
        rcases hme with h | h
        · exact absurd h hm
        · omega
      obtain ⟨m', e', hroot, hm', hx, hlo'⟩ := root_exp m e hm 59 hme'
      have : Datum.root (double.fractionBits + 2) (.number false m e) = some (.number false m' e') := hroot
      rw [this]
      refine ⟨double.nearest false m' e', rfl, ?_⟩
      have hn' := nearest_le m' e' hm' _ rfl (by omega) (by omega)
      obtain ⟨m2, e2, hrd2, hme2, _⟩ := read_exp (double.nearest false m' e') 1053 (by omega) (Nat.le_trans hn' (Nat.mul_le_mul_right _ (by omega))) (by omega)
      obtain ⟨r, h, hr⟩ := fin m2 e2 (by rcases hme2 with h | h; exact Or.inl h; right; omega)
      exact ⟨r, h _ hrd2, hr⟩
end Go.Proofs.Ythnfepfbkmafaaa
