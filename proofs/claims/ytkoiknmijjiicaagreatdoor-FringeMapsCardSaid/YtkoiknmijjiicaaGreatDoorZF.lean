import Derived.Laws.FloatArith
/- Floats: coarse bounds of conversions and of the square root, in the model's own words. No program in sight. -/
namespace Go.Proofs.YtkoiknmijjiicaaGreatDoor
set_option linter.unusedVariables false
set_option linter.unusedSimpArgs false
open Ieee

theorem log2_lt_pow (m : Nat) (h : m ≠ 0) : m < 2 ^ (m.log2 + 1) := Nat.lt_log2_self
theorem pow_le_log2 (m : Nat) (h : m ≠ 0) : 2 ^ m.log2 ≤ m := Nat.log2_self_le h

/-- Cut to the nearest, at most one more than the quotient. -/
theorem cut_le (way : Toward) (neg : Bool) (n drop : Nat) : way.cut neg n drop ≤ n / (1 <<< min drop (n.log2 + 2)) + 1 := by
  unfold Toward.cut
  exact Nat.add_le_add_left (Bool.toNat_le _) _

theorem shl_one (k : Nat) : 1 <<< k = 2 ^ k := by rw [Nat.shiftLeft_eq, Nat.one_mul]

/-- The rung of a positive number of exponent L is at most that of 2 ^ (L + 1). -/
theorem nearest_le (m : Nat) (e : Int) (hm : m ≠ 0) (L : Int) (hL : e + m.log2 = L) (h1 : -1000 ≤ L) (h2 : L ≤ 1000) :
    double.nearest false m e ≤ (L + 1024).toNat * 2 ^ 52 := by
  unfold Format.nearest
  rw [if_neg hm]
  have hlp : double.leastPlace = -1074 := by decide
  have hfb : (double.fractionBits : Int) = 52 := rfl
  have hbin : double.binade = 2 ^ 52 := rfl
  simp only [hlp, hfb, hbin, hL]
  have hmax : max (L - 52) (-1074) = L - 52 := by omega
  rw [hmax]
  unfold Format.word
  simp only [Bool.false_eq_true, if_false]
  refine Nat.le_trans (Nat.min_le_left _ _) ?_
  have hkept : Toward.even.cut false (m <<< (e - (L - 52)).toNat) (L - 52 - e).toNat ≤ 2 ^ 53 := by
    have hlg : m < 2 ^ (m.log2 + 1) := log2_lt_pow m hm
    rcases Int.le_total 0 (e - (L - 52)) with h | h
    · -- no digit is dropped
      have hd : (L - 52 - e).toNat = 0 := by omega
      rw [hd]
      unfold Toward.cut
      simp only [Nat.zero_min, Nat.shiftLeft_zero, Nat.mod_one, Nat.div_one, Nat.mul_zero]
      have : m <<< (e - (L - 52)).toNat < 2 ^ 53 := by
        rw [Nat.shiftLeft_eq]
        have hk : (e - (L - 52)).toNat = 52 - m.log2 ∧ m.log2 ≤ 52 := by omega
        rw [hk.1]
        calc m * 2 ^ (52 - m.log2) < 2 ^ (m.log2 + 1) * 2 ^ (52 - m.log2) := Nat.mul_lt_mul_of_pos_right hlg (Nat.two_pow_pos _)
          _ = 2 ^ 53 := by rw [← Nat.pow_add]; congr 1; omega
      simp
      omega
    · have hs : (e - (L - 52)).toNat = 0 := by omega
      rw [hs, Nat.shiftLeft_zero]
      refine Nat.le_trans (cut_le _ _ _ _) ?_
      have hmin : min (L - 52 - e).toNat (m.log2 + 2) = m.log2 - 52 ∧ 52 ≤ m.log2 := by omega
      rw [hmin.1, shl_one]
      have : m / 2 ^ (m.log2 - 52) < 2 ^ 53 := by
        rw [Nat.div_lt_iff_lt_mul (Nat.two_pow_pos _), ← Nat.pow_add]
        have : 53 + (m.log2 - 52) = m.log2 + 1 := by omega
        rw [this]
        exact hlg
      omega
  have : (L - 52 - -1074).toNat = (L + 1022).toNat := by omega
  rw [this]
  have h3 : (L + 1024).toNat = (L + 1022).toNat + 2 := by omega
  rw [h3, Nat.add_mul]
  omega

/-- What is read of a rung that is not too great: a number of a bounded exponent. -/
theorem read_exp (r K : Nat) (hK : K ≤ 2040) (h : r ≤ K * 2 ^ 52) (hK1 : 1 ≤ K) : ∃ m e, double.read r = .number false m e ∧ (m = 0 ∨ e + (m.log2 : Int) ≤ (K : Int) - 1023) ∧ -1074 ≤ e := by
  have hsw : double.signWeight = 2 ^ 63 := rfl
  have hb : double.binade = 2 ^ 52 := rfl
  have hi : double.infRung = 2047 * 2 ^ 52 := rfl
  have hlp : double.leastPlace = -1074 := by decide
  have hr : r < 2 ^ 63 := by omega
  unfold Format.read
  simp only [hsw, hb, hi, hlp, Nat.mod_eq_of_lt hr, Nat.div_eq_of_lt hr]
  have hneg : ((0 % 2 == 1) : Bool) = false := rfl
  rw [hneg]
  by_cases h1 : r < 2 ^ 52
  · rw [if_pos h1]
    refine ⟨_, _, rfl, ?_, Int.le_refl _⟩
    by_cases h0 : r = 0
    · exact Or.inl h0
    · right
      have : r.log2 < 52 := (Nat.log2_lt h0).2 h1
      omega
  · rw [if_neg h1, if_pos (by omega)]
    refine ⟨_, _, rfl, Or.inr ?_, by omega⟩
    have hlog : (2 ^ 52 + r % 2 ^ 52).log2 = 52 := by
      have h2 : r % 2 ^ 52 < 2 ^ 52 := Nat.mod_lt _ (Nat.two_pow_pos _)
      rw [Nat.log2_eq_iff (by omega)]
      omega
    rw [hlog]
    have hd : r / 2 ^ 52 ≤ K := Nat.div_le_of_le_mul (by rw [Nat.mul_comm]; exact h)
    have hd1 : 1 ≤ r / 2 ^ 52 := (Nat.le_div_iff_mul_le (Nat.two_pow_pos _)).2 (by omega)
    omega

theorem log2_shl (m k : Nat) (hm : m ≠ 0) : (m <<< k).log2 = m.log2 + k := by
  have hp := Nat.two_pow_pos k
  have h0 : m <<< k ≠ 0 := by rw [Nat.shiftLeft_eq]; have := Nat.mul_pos (Nat.pos_of_ne_zero hm) hp; omega
  rw [Nat.log2_eq_iff h0, Nat.shiftLeft_eq, show m.log2 + k + 1 = (m.log2 + 1) + k by omega, Nat.pow_add, Nat.pow_add 2 (m.log2 + 1)]
  exact ⟨Nat.mul_le_mul_right _ (pow_le_log2 m hm), Nat.mul_lt_mul_of_pos_right (log2_lt_pow m hm) hp⟩

theorem rootFrom_sq (n : Nat) : ∀ (todo root : Nat), root * root ≤ n → Datum.rootFrom n todo root * Datum.rootFrom n todo root ≤ n
  | 0, root, h => by simpa [Datum.rootFrom] using h
  | todo + 1, root, h => by
    simp only [Datum.rootFrom]
    apply rootFrom_sq
    split
    · assumption
    · exact h

theorem log2_le_of_sq (r n : Nat) (hr : r ≠ 0) (h : r * r ≤ n) : r.log2 ≤ n.log2 / 2 := by
  have h1 := pow_le_log2 r hr
  have hn : n ≠ 0 := by
    have := Nat.mul_pos (Nat.pos_of_ne_zero hr) (Nat.pos_of_ne_zero hr); omega
  have h2 : 2 ^ (r.log2 + r.log2) ≤ n := by
    rw [Nat.pow_add]
    exact Nat.le_trans (Nat.mul_le_mul h1 h1) h
  have := (Nat.le_log2 hn).2 h2
  omega

/-- The root's exponent is at most half of the number's. -/
theorem root_exp (m : Nat) (e : Int) (hm : m ≠ 0) (L : Int) (hL : e + (m.log2 : Int) ≤ L) : ∃ m' e', Datum.root 54 (.number false m e) = some (.number false m' e') ∧ m' ≠ 0 ∧ e' + (m'.log2 : Int) ≤ L / 2 ∧ (e - 110) / 2 - 1 ≤ e' := by
  simp only [Datum.root]
  rw [if_neg hm]
  simp only [Bool.false_eq_true, if_false]
  generalize hmore : 2 * 54 - m.log2 + ((e - ((2 * 54 - m.log2 : Nat) : Int)) % 2).toNat = more
  have heven : (e - (more : Int)) % 2 = 0 := by omega
  have hnl : (m <<< more).log2 = m.log2 + more := by exact log2_shl m more hm
  have hn0 : m <<< more ≠ 0 := by
    rw [Nat.shiftLeft_eq]
    have := Nat.mul_pos (Nat.pos_of_ne_zero hm) (Nat.two_pow_pos more); omega
  have hsq := rootFrom_sq (m <<< more) ((m <<< more).log2 / 2 + 1) 0 (Nat.zero_le _)
  generalize hwh : Datum.rootFrom (m <<< more) ((m <<< more).log2 / 2 + 1) 0 = whole at hsq ⊢
  refine ⟨_, _, rfl, ?_, ?_, by omega⟩
  · intro h0
    have hw : whole = 0 := by omega
    rw [hw] at h0
    simp [Ne.symm hn0] at h0
  · have hb : (2 * whole + (whole * whole != m <<< more).toNat).log2 ≤ (m.log2 + more) / 2 + 1 := by
      generalize (whole * whole != m <<< more) = b
      have hbt : b.toNat ≤ 1 := by cases b <;> decide
      by_cases hw : whole = 0
      · rw [hw]
        have : (2 * 0 + b.toNat).log2 = 0 := by cases b <;> rfl
        omega
      · have h1 := log2_le_of_sq whole _ hw hsq
        rw [hnl] at h1
        have h2 : 2 * whole + b.toNat < 2 ^ (whole.log2 + 2) := by
          have := log2_lt_pow whole hw
          rw [Nat.pow_succ] at *
          omega
        have := (Nat.log2_lt (by omega)).2 h2
        omega
    have hbi : (((2 * whole + (whole * whole != m <<< more).toNat).log2 : Nat) : Int) ≤ (((m.log2 + more) / 2 + 1 : Nat) : Int) := by exact_mod_cast hb
    push_cast at hbi
    omega

/-- A number cut to a whole one. -/
theorem toInt_lt (m : Nat) (e : Int) (K : Nat) (h : m = 0 ∨ e + (m.log2 : Int) < K) : ∃ r : Nat, (Datum.number false m e).toInt .zero = some (r : Int) ∧ r < 2 ^ K := by
  refine ⟨Toward.zero.cut false (m <<< e.toNat) (-e).toNat, ?_, ?_⟩
  · simp [Datum.toInt, Datum.integral, signed]
  · have hz : Toward.zero.cut false (m <<< e.toNat) (-e).toNat = (m <<< e.toNat) / 2 ^ min (-e).toNat ((m <<< e.toNat).log2 + 2) := by
      unfold Toward.cut; simp [shl_one]
    rw [hz]
    rcases h with h | h
    · subst h; simp [Nat.two_pow_pos]
    · by_cases hm : m = 0
      · subst hm; simp [Nat.two_pow_pos]
      · have hlg := log2_lt_pow m hm
        rcases Int.le_total 0 e with he | he
        · have : (-e).toNat = 0 := by omega
          rw [this, Nat.zero_min, Nat.pow_zero, Nat.div_one, Nat.shiftLeft_eq]
          calc m * 2 ^ e.toNat < 2 ^ (m.log2 + 1) * 2 ^ e.toNat := Nat.mul_lt_mul_of_pos_right hlg (Nat.two_pow_pos _)
            _ = 2 ^ (m.log2 + 1 + e.toNat) := by rw [← Nat.pow_add]
            _ ≤ 2 ^ K := Nat.pow_le_pow_right (by omega) (by omega)
        · have : e.toNat = 0 := by omega
          rw [this, Nat.shiftLeft_zero, Nat.div_lt_iff_lt_mul (Nat.two_pow_pos _), ← Nat.pow_add]
          exact Nat.lt_of_lt_of_le hlg (Nat.pow_le_pow_right (by omega) (by omega))

/-- The root of a whole number below 2 ^ 59, as a float, cut: from 0 to 2 ^ 31. -/
theorem sqrt_bound (n : Int) (h0 : 0 ≤ n) (h1 : n < 576460752303423488) :
    ∃ b, double.sqrt (floatOfInt .f64 n) = some b ∧ ∃ r : Int, floatToIntVal .f64 b .i64 = some r ∧ 0 ≤ r ∧ r ≤ 2147483648 := by
  obtain ⟨k, rfl⟩ := Int.eq_ofNat_of_zero_le h0
  have hneg : decide ((k : Int) < 0) = false := by simp
  have hfl : floatOfInt .f64 (k : Int) = double.nearest false k 0 := by
    unfold floatOfInt FloatKind.nearest FloatKind.encode Format.write
    rw [hneg]; rfl
  rw [hfl]
  have fin : ∀ m e, (m = 0 ∨ e + (m.log2 : Int) < 31) → ∃ r : Int, (∀ b, double.read b = .number false m e → floatToIntVal .f64 b .i64 = some r) ∧ 0 ≤ r ∧ r ≤ 2147483648 := by
    intro m e h
    obtain ⟨r, hr, hlt⟩ := toInt_lt m e 31 h
    refine ⟨r, fun b hb => ?_, by omega, by omega⟩
    unfold floatToIntVal FloatKind.decode
    have : FloatKind.f64.format.read b = .number false m e := hb
    rw [this, hr]
    simp only
    rw [if_pos]
    have e1 : IntKind.i64.min = -9223372036854775808 := by decide
    have e2 : IntKind.i64.max = 9223372036854775807 := by decide
    rw [e1, e2]
    omega
  by_cases hk : k = 0
  · subst hk
    refine ⟨0, by decide +kernel, ?_⟩
    obtain ⟨r, h, hr⟩ := fin 0 (-1074) (Or.inl rfl)
    exact ⟨r, h 0 (by decide +kernel), hr⟩
  · have hl : k.log2 < 59 := (Nat.log2_lt hk).2 (by omega)
    have hn := nearest_le k 0 hk k.log2 (by omega) (by omega) (by omega)
    obtain ⟨m, e, hrd, hme, hlo⟩ := read_exp (double.nearest false k 0) (k.log2 + 1024) (by omega) (by
      have : ((k.log2 : Int) + 1024).toNat = k.log2 + 1024 := by omega
      rw [this] at hn; exact hn) (by omega)
    unfold Format.sqrt
    rw [hrd]
    by_cases hm : m = 0
    · subst hm
      have hroot : Datum.root (double.fractionBits + 2) (.number false 0 e) = some (.number false 0 e) := by simp [Datum.root]
      rw [hroot]
      refine ⟨_, rfl, ?_⟩
      obtain ⟨r, h, hr⟩ := fin 0 (-1074) (Or.inl rfl)
      refine ⟨r, h _ ?_, hr⟩
      show double.read (double.nearest false 0 e) = _
      have : double.nearest false 0 e = 0 := by unfold Format.nearest Format.word; simp
      rw [this]; decide +kernel
    · have hme' : e + (m.log2 : Int) ≤ 59 := by
        rcases hme with h | h
        · exact absurd h hm
        · omega
      obtain ⟨m', e', hroot, hm', hx, hlo'⟩ := root_exp m e hm 59 hme'
      have : Datum.root (double.fractionBits + 2) (.number false m e) = some (.number false m' e') := hroot
      rw [this]
      refine ⟨double.nearest false m' e', rfl, ?_⟩
      have hn' := nearest_le m' e' hm' _ rfl (by omega) (by omega)
      obtain ⟨m2, e2, hrd2, hme2, _⟩ := read_exp (double.nearest false m' e') 1053 (by omega) (Nat.le_trans hn' (Nat.mul_le_mul_right _ (by omega))) (by omega)
      obtain ⟨r, h, hr⟩ := fin m2 e2 (by rcases hme2 with h | h; exact Or.inl h; right; omega)
      exact ⟨r, h _ hrd2, hr⟩
end Go.Proofs.YtkoiknmijjiicaaGreatDoor

/- Floats that stand for whole numbers: exact rounding, exact sums and products, order, conversions. No program in sight. -/
namespace Go.Proofs.YtkoiknmijjiicaaGreatDoor
set_option linter.unusedVariables false
set_option linter.unusedSimpArgs false
open Ieee
theorem read_word (f : Format) (neg : Bool) (r : Nat) (h : r < f.signWeight) : f.read (f.word neg r) =
    if r < f.binade then .number neg r f.leastPlace else if r < f.infRung then .number neg (f.binade + r % f.binade) (f.leastPlace + (r / f.binade - 1 : Nat)) else if r = f.infRung then .infinity neg else .nan neg (r - f.infRung) := by
  have hp : 0 < f.signWeight := by omega
  unfold Format.read Format.word
  cases neg
  · simp only [Bool.false_eq_true, if_false]
    rw [Nat.mod_eq_of_lt h, Nat.div_eq_of_lt h]
    rfl
  · simp only [if_true]
    rw [Nat.add_mod_left, Nat.mod_eq_of_lt h, Nat.add_div_left _ hp, Nat.div_eq_of_lt h]
    rfl
/-- An exact cut. -/
theorem cut_exact (way : Toward) (neg : Bool) (q drop : Nat) : way.cut neg (q * 2 ^ drop) drop = q := by
  unfold Toward.cut
  dsimp only
  rw [shl_one]
  by_cases hq : q = 0
  · subst hq
    have hg := Nat.two_pow_pos (min drop (Nat.log2 (0 * 2 ^ drop) + 2))
    rw [Nat.zero_mul] at hg ⊢
    generalize 2 ^ min drop (Nat.log2 0 + 2) = g at hg ⊢
    rw [Nat.zero_div, Nat.zero_mod]
    cases way <;> simp <;> omega
  · have h0 : q * 2 ^ drop ≠ 0 := by have := Nat.mul_pos (Nat.pos_of_ne_zero hq) (Nat.two_pow_pos drop); omega
    have h1 : drop ≤ (q * 2 ^ drop).log2 := (Nat.le_log2 h0).2 (Nat.le_mul_of_pos_left _ (Nat.pos_of_ne_zero hq))
    have hg := Nat.two_pow_pos drop
    rw [show min drop ((q * 2 ^ drop).log2 + 2) = drop by omega, Nat.mul_div_cancel _ hg, Nat.mul_mod_left]
    cases way <;> simp <;> omega
/-- A number of few digits is kept. -/
theorem nearest_norm (f : Format) (neg : Bool) (m : Nat) (e : Int) (hm : m ≠ 0) (K : Nat) (k : Nat) (last : Int) (hk1 : 2 ^ f.fractionBits ≤ k) (hk2 : k < 2 ^ (f.fractionBits + 1))
    (hl : last = e + m.log2 - f.fractionBits) (hlp : f.leastPlace ≤ last) (hK : (K : Int) = last - f.leastPlace) (hinf : K + 2 ≤ 2 ^ f.exponentBits - 1)
    (hv : m * 2 ^ (e - last).toNat = k * 2 ^ (last - e).toNat) : f.nearest neg m e = f.word neg (K * f.binade + k) ∧ f.read (f.nearest neg m e) = .number neg k last := by
  have hnear : f.nearest neg m e = f.word neg (K * f.binade + k) := by
    unfold Format.nearest
    rw [if_neg hm]
    have hmax : max (e + (m.log2 : Int) - (f.fractionBits : Int)) f.leastPlace = last := by omega
    simp only [hmax]
    rw [Nat.shiftLeft_eq, hv, cut_exact, show (last - f.leastPlace).toNat = K by omega]
    congr 1
    refine Nat.min_eq_left ?_
    unfold Format.infRung Format.binade
    have : (K + 2) * 2 ^ f.fractionBits ≤ (2 ^ f.exponentBits - 1) * 2 ^ f.fractionBits := Nat.mul_le_mul_right _ hinf
    rw [Nat.add_mul] at this
    rw [Nat.pow_succ] at hk2
    omega
  refine ⟨hnear, ?_⟩
  rw [hnear]
  have hb : 0 < f.binade := Nat.two_pow_pos _
  have hr : K * f.binade + k < f.infRung := by
    unfold Format.infRung
    have : (K + 2) * f.binade ≤ (2 ^ f.exponentBits - 1) * f.binade := Nat.mul_le_mul_right _ hinf
    rw [Nat.add_mul] at this
    have h2 : k < 2 * f.binade := by unfold Format.binade; rw [Nat.pow_succ] at hk2; omega
    omega
  have hs := f.infRung_lt
  rw [read_word f neg _ (by omega), if_neg (by unfold Format.binade at hb ⊢; have := Nat.zero_le (K * 2 ^ f.fractionBits); omega), if_pos hr]
  obtain ⟨j, hj⟩ : ∃ j, k = f.binade + j := ⟨k - f.binade, by unfold Format.binade; omega⟩
  have hj2 : j < f.binade := by rw [Nat.pow_succ] at hk2; unfold Format.binade at hj ⊢; omega
  have e1 : K * f.binade + k = f.binade * (K + 1) + j := by rw [hj, Nat.mul_add, Nat.mul_one, Nat.mul_comm]; omega
  rw [e1, Nat.mul_add_mod, Nat.mod_eq_of_lt hj2, Nat.mul_add_div hb, Nat.div_eq_of_lt hj2, hj]
  congr 1
  omega
/-- The magnitude m * 2 ^ e is the whole number n. -/
def Mag (m : Nat) (e : Int) (n : Nat) : Prop := m * 2 ^ e.toNat = n * 2 ^ (-e).toNat
def sgn (s : Bool) (n : Nat) : Int := if s then -(n : Int) else n
theorem signed_sgn (s : Bool) (m k : Nat) : signed s m k = sgn s (m * 2 ^ k) := by
  unfold signed sgn
  rw [Nat.shiftLeft_eq]
theorem mag_zero {m : Nat} {e : Int} {n : Nat} (h : Mag m e n) : m = 0 ↔ n = 0 := by
  unfold Mag at h
  have h1 := Nat.two_pow_pos e.toNat
  have h2 := Nat.two_pow_pos (-e).toNat
  constructor
  · rintro rfl
    rw [Nat.zero_mul] at h
    exact (Nat.mul_eq_zero.1 h.symm).resolve_right (by omega)
  · rintro rfl
    rw [Nat.zero_mul] at h
    exact (Nat.mul_eq_zero.1 h).resolve_right (by omega)
/-- The exponent of the leading digit. -/
theorem mag_log {m : Nat} {e : Int} {n : Nat} (h : Mag m e n) (hn : n ≠ 0) : e + (m.log2 : Int) = (n.log2 : Int) := by
  have hm : m ≠ 0 := fun h0 => hn ((mag_zero h).1 h0)
  unfold Mag at h
  rw [← Nat.shiftLeft_eq, ← Nat.shiftLeft_eq] at h
  have := congrArg Nat.log2 h
  rw [log2_shl _ _ hm, log2_shl _ _ hn] at this
  omega
theorem pow_split (a b : Nat) : (2 : Nat) ^ (a + b) = 2 ^ a * 2 ^ b := Nat.pow_add 2 a b
/-- A whole number of few digits is written exactly. -/
theorem nearest_whole (f : Format) (hf : f.leastPlace + f.fractionBits ≤ 0) (hE : (f.fractionBits : Int) - f.fractionBits - f.leastPlace + f.fractionBits + 2 ≤ 2 ^ f.exponentBits - 1) (neg : Bool) (m : Nat) (e : Int) (n : Nat) (h : Mag m e n) (hn : n ≠ 0) (hlt : n < 2 ^ (f.fractionBits + 1)) :
    ∃ k last, f.nearest neg m e = f.word neg ((last - f.leastPlace).toNat * f.binade + k) ∧ f.read (f.nearest neg m e) = .number neg k last ∧ Mag k last n ∧ last = (n.log2 : Int) - f.fractionBits ∧ k = n * 2 ^ (f.fractionBits - n.log2) := by
  have hm : m ≠ 0 := fun h0 => hn ((mag_zero h).1 h0)
  have hlog := mag_log h hn
  have hl : n.log2 ≤ f.fractionBits := by have := (Nat.log2_lt hn).2 hlt; omega
  obtain ⟨d, hd⟩ : ∃ d, d + n.log2 = f.fractionBits := ⟨f.fractionBits - n.log2, by omega⟩
  have hd' : f.fractionBits - n.log2 = d := by omega
  have hK : (((n.log2 : Int) - f.fractionBits - f.leastPlace).toNat : Int) = (n.log2 : Int) - f.fractionBits - f.leastPlace := by omega
  have hpe : ((2 ^ f.exponentBits : Nat) : Int) = 2 ^ f.exponentBits := by simp
  have hlast : e + (m.log2 : Int) - f.fractionBits = (n.log2 : Int) - f.fractionBits := by omega
  have key := nearest_norm f neg m e hm ((n.log2 : Int) - f.fractionBits - f.leastPlace).toNat (n * 2 ^ d) ((n.log2 : Int) - f.fractionBits)
    (by rw [← hd, Nat.add_comm, pow_split]; exact Nat.mul_le_mul_right _ (pow_le_log2 n hn))
    (by rw [← hd, show d + n.log2 + 1 = (n.log2 + 1) + d by omega, pow_split]; exact Nat.mul_lt_mul_of_pos_right (log2_lt_pow n hn) (Nat.two_pow_pos _))
    hlast.symm (by omega) hK (by omega) (by
      unfold Mag at h
      rcases Int.le_total 0 e with he | he
      · rw [show (-e).toNat = 0 by omega, Nat.pow_zero, Nat.mul_one] at h
        rw [show (e - ((n.log2 : Int) - f.fractionBits)).toNat = e.toNat + d by omega, show ((n.log2 : Int) - f.fractionBits - e).toNat = 0 by omega, pow_split, ← Nat.mul_assoc, h, Nat.pow_zero, Nat.mul_one]
      · rw [show e.toNat = 0 by omega, Nat.pow_zero, Nat.mul_one] at h
        rw [h, Nat.mul_assoc, Nat.mul_assoc, ← pow_split, ← pow_split]
        congr 2
        omega)
  refine ⟨_, _, key.1, key.2, ?_, rfl, by rw [hd']⟩
  unfold Mag
  rw [show ((n.log2 : Int) - f.fractionBits).toNat = 0 by omega, Nat.pow_zero, Nat.mul_one, show (-((n.log2 : Int) - f.fractionBits)).toNat = d by omega]
end Go.Proofs.YtkoiknmijjiicaaGreatDoor

/- Floats that stand for whole numbers, second part: order, sums, products, what is cut, conversions. No program in sight. -/
namespace Go.Proofs.YtkoiknmijjiicaaGreatDoor
set_option linter.unusedVariables false
set_option linter.unusedSimpArgs false
open Ieee
/-- A format in which whole numbers are as they are. -/
structure GoodF (f : Format) : Prop where
  lp : f.leastPlace + f.fractionBits ≤ 0
  ex : (f.fractionBits : Int) - f.fractionBits - f.leastPlace + f.fractionBits + 2 ≤ 2 ^ f.exponentBits - 1
theorem good_single : GoodF single := ⟨by decide, by decide⟩
theorem good_double : GoodF double := ⟨by decide, by decide⟩
/-- The word b stands for the whole number n. -/
def FNum (f : Format) (b : Nat) (n : Int) : Prop := ∃ s m e a, f.read b = .number s m e ∧ Mag m e a ∧ sgn s a = n
theorem sgn_abs (s : Bool) (a : Nat) : (sgn s a).natAbs = a := by unfold sgn; cases s <;> simp
theorem mag_shift {m : Nat} {e : Int} {n : Nat} (h : Mag m e n) (c : Nat) : Mag m (e + c) (n * 2 ^ c) := by
  unfold Mag at h ⊢
  have e1 : e.toNat + c + (-(e + c)).toNat = (e + c).toNat + (-e).toNat + 0 := by omega
  have h2 : m * 2 ^ e.toNat * 2 ^ (c + (-(e + c)).toNat) = n * 2 ^ (-e).toNat * 2 ^ (c + (-(e + c)).toNat) := by rw [h]
  have p := Nat.two_pow_pos (-e).toNat
  refine Nat.eq_of_mul_eq_mul_right p ?_
  rw [Nat.mul_assoc, Nat.mul_assoc, ← pow_split, Nat.mul_assoc, ← pow_split]
  rw [Nat.mul_assoc, Nat.mul_assoc, ← pow_split, ← pow_split] at h2
  rw [show (e + ↑c).toNat + (-e).toNat = e.toNat + (c + (-(e + ↑c)).toNat) by omega, h2, ← pow_split]
  congr 2
  omega
theorem mag_self (k : Nat) {last : Int} (h : last ≤ 0) : Mag k (last + ((-last).toNat : Nat)) k := by
  unfold Mag
  rw [show last + ((-last).toNat : Nat) = 0 by omega]
  simp
theorem mag_whole (k : Nat) {e : Int} (h : 0 ≤ e) : Mag k e (k * 2 ^ e.toNat) := by
  unfold Mag; rw [show (-e).toNat = 0 by omega, Nat.pow_zero, Nat.mul_one]
theorem mag_nat (n : Nat) : Mag n 0 n := by unfold Mag; simp
/-- Two magnitudes over a common base. -/
theorem mag_base {m : Nat} {i : Int} {x : Nat} (h : Mag m i x) {base : Int} (hb : base ≤ i) : m * 2 ^ (i - base).toNat * 2 ^ base.toNat = x * 2 ^ (-base).toNat := by
  unfold Mag at h
  have p := Nat.two_pow_pos (-i).toNat
  refine Nat.eq_of_mul_eq_mul_right p ?_
  have h2 : m * 2 ^ i.toNat * 2 ^ (-base).toNat = x * 2 ^ (-i).toNat * 2 ^ (-base).toNat := by rw [h]
  rw [Nat.mul_assoc, Nat.mul_assoc, ← pow_split, ← pow_split, Nat.mul_assoc, ← pow_split]
  rw [Nat.mul_assoc, Nat.mul_assoc, ← pow_split, ← pow_split] at h2
  rw [show (i - base).toNat + (base.toNat + (-i).toNat) = i.toNat + (-base).toNat by omega, h2, Nat.add_comm]
theorem sgn_mul (s : Bool) (a b : Nat) : sgn s (a * b) = sgn s a * b := by unfold sgn; cases s <;> simp [Int.neg_mul]
theorem icmp (a b : Int) : compare a b = if a < b then .lt else if a = b then .eq else .gt := rfl
theorem cmp_scale (a b : Int) (p : Nat) (hp : 0 < p) : compare (a * p) (b * p) = compare a b := by
  have hp' : (0 : Int) < p := by omega
  rw [icmp, icmp]
  rcases Int.lt_trichotomy a b with h | h | h
  · rw [if_pos h, if_pos (Int.mul_lt_mul_of_pos_right h hp')]
  · rw [h]; simp
  · have := Int.mul_lt_mul_of_pos_right h hp'
    rw [if_neg (by omega), if_neg (by omega), if_neg (by omega), if_neg (by omega)]
theorem order_shift (f : Format) {a b : Nat} {s t : Bool} {m n : Nat} {i j : Int} (ha : f.read a = .number s m i) (hb : f.read b = .number t n j) (c : Nat) {x y : Nat} (hx : Mag m (i + c) x) (hy : Mag n (j + c) y) :
    f.order a b = some (compare (sgn s x) (sgn t y)) := by
  unfold Format.order
  rw [ha, hb]
  simp only [Datum.order]
  congr 1
  rw [signed_sgn, signed_sgn]
  have e1 := mag_base hx (base := min i j + c) (by omega)
  have e2 := mag_base hy (base := min i j + c) (by omega)
  rw [show i + (c : Int) - (min i j + c) = i - min i j by omega] at e1
  rw [show j + (c : Int) - (min i j + c) = j - min i j by omega] at e2
  have p1 := Nat.two_pow_pos (min i j + (c : Int)).toNat
  have p2 := Nat.two_pow_pos (-(min i j + (c : Int))).toNat
  rw [← cmp_scale _ _ _ p1, ← sgn_mul, ← sgn_mul, e1, e2, sgn_mul, sgn_mul, cmp_scale _ _ _ p2]
theorem order_num (f : Format) {a b : Nat} {x y : Int} (ha : FNum f a x) (hb : FNum f b y) : f.order a b = some (compare x y) := by
  obtain ⟨s, m, e, u, h1, h2, h3⟩ := ha
  obtain ⟨t, n, j, v, k1, k2, k3⟩ := hb
  rw [order_shift f h1 k1 0 (by simpa using h2) (by simpa using k2), h3, k3]
/-- What a number is written as, if it is whole and of few digits. -/
theorem write_num {f : Format} (g : GoodF f) {s : Bool} {m : Nat} {e : Int} {a : Nat} (h : Mag m e a) (hlt : a < 2 ^ (f.fractionBits + 1)) : FNum f (f.write (.number s m e)) (sgn s a) := by
  by_cases h0 : a = 0
  · have hm := (mag_zero h).2 h0
    subst h0 hm
    have hw : f.write (.number s 0 e) = f.word s 0 := by show f.nearest s 0 e = _; unfold Format.nearest; simp
    refine ⟨s, 0, f.leastPlace, 0, ?_, by unfold Mag; simp, rfl⟩
    rw [hw, read_word f s 0 (Nat.two_pow_pos _)]
    exact if_pos (show 0 < f.binade from Nat.two_pow_pos _)
  · obtain ⟨k, last, _, h2, h3, _⟩ := nearest_whole f g.lp g.ex s m e a h h0 hlt
    exact ⟨s, k, last, a, h2, h3, rfl⟩
theorem fnum_int {f : Format} (g : GoodF f) {n : Int} (hlt : n.natAbs < 2 ^ (f.fractionBits + 1)) : FNum f (f.write (.number (decide (n < 0)) n.natAbs 0)) n := by
  have := write_num g (s := decide (n < 0)) (mag_nat n.natAbs) hlt
  have e : sgn (decide (n < 0)) n.natAbs = n := by
    unfold sgn
    by_cases h : n < 0
    · simp [h]; omega
    · simp [h]; omega
  rwa [e] at this
theorem fnum_toInt {f : Format} {b : Nat} {n : Int} (h : FNum f b n) : (f.read b).toInt .zero = some n := by
  obtain ⟨s, m, e, a, h1, h2, h3⟩ := h
  rw [h1]
  unfold Datum.toInt Datum.integral
  simp only
  rw [Nat.shiftLeft_eq]
  unfold Mag at h2
  rw [h2, cut_exact, signed_sgn, Nat.pow_zero, Nat.mul_one, h3]
theorem fnum_unique {f : Format} {b : Nat} {x y : Int} (hx : FNum f b x) (hy : FNum f b y) : x = y := by
  have := fnum_toInt hx
  rw [fnum_toInt hy] at this
  exact (Option.some.inj this).symm
/-- A sum. -/
theorem add_num {f : Format} (g : GoodF f) {a b : Nat} {x y : Int} (ha : FNum f a x) (hb : FNum f b y) (hlt : (x + y).natAbs < 2 ^ (f.fractionBits + 1)) : ∃ r, f.add a b = some r ∧ FNum f r (x + y) := by
  obtain ⟨s, m, i, u, h1, h2, rfl⟩ := ha
  obtain ⟨t, n, j, v, k1, k2, rfl⟩ := hb
  unfold Format.add
  rw [h1, k1]
  simp only [Datum.sum, Option.map_some]
  refine ⟨_, rfl, ?_⟩
  have e1 := mag_base h2 (base := min i j) (by omega)
  have e2 := mag_base k2 (base := min i j) (by omega)
  generalize hT : signed s m (i - min i j).toNat + signed t n (j - min i j).toNat = T
  have hTv : T * ((2 ^ (min i j).toNat : Nat) : Int) = (sgn s u + sgn t v) * ((2 ^ (-(min i j)).toNat : Nat) : Int) := by
    rw [← hT, signed_sgn, signed_sgn, Int.add_mul, Int.add_mul, ← sgn_mul, ← sgn_mul, e1, e2, sgn_mul, sgn_mul]
  have hmag : Mag T.natAbs (min i j) (sgn s u + sgn t v).natAbs := by
    unfold Mag
    have := congrArg Int.natAbs hTv
    rwa [Int.natAbs_mul, Int.natAbs_mul, Int.natAbs_natCast, Int.natAbs_natCast] at this
  have hw := write_num g (s := if T = 0 then s && t else decide (T < 0)) hmag hlt
  have hs : sgn (if T = 0 then s && t else decide (T < 0)) (sgn s u + sgn t v).natAbs = sgn s u + sgn t v := by
    have p1 : (0 : Int) < ((2 ^ (min i j).toNat : Nat) : Int) := by have := Nat.two_pow_pos (min i j).toNat; omega
    have p2 : (0 : Int) < ((2 ^ (-(min i j)).toNat : Nat) : Int) := by have := Nat.two_pow_pos (-(min i j)).toNat; omega
    generalize sgn s u + sgn t v = S at *
    by_cases h0 : T = 0
    · rw [h0, Int.zero_mul] at hTv
      have : S = 0 := (Int.mul_eq_zero.1 hTv.symm).resolve_right (by omega)
      rw [this]
      unfold sgn; split <;> simp
    · rw [if_neg h0]
      unfold sgn
      rcases Int.lt_or_gt_of_ne h0 with h | h
      · have : S < 0 := by
          rcases Int.lt_or_le S 0 with h' | h'
          · exact h'
          · have := Int.mul_nonneg h' (Int.le_of_lt p2)
            have := Int.mul_neg_of_neg_of_pos h p1
            omega
        simp [h]; omega
      · have : 0 < S := by
          rcases Int.lt_or_le 0 S with h' | h'
          · exact h'
          · have := Int.mul_nonneg (show 0 ≤ -S by omega) (Int.le_of_lt p2)
            have := Int.mul_pos h p1
            rw [Int.neg_mul] at *
            omega
        have hn : ¬ T < 0 := by omega
        simp [hn]; omega
  rw [hs] at hw
  exact hw
end Go.Proofs.YtkoiknmijjiicaaGreatDoor

/- Whole floats: what cutting a float towards zero tells. No program in sight. -/
namespace Go.Proofs.YtkoiknmijjiicaaGreatDoor
set_option linter.unusedVariables false
set_option linter.unusedSimpArgs false
open Ieee
def datWhole : Datum → Bool
  | .number _ m e => decide (0 ≤ e) || decide (m % 2 ^ (-e).toNat = 0)
  | _ => false
def datInt : Datum → Int
  | .number s m e => sgn s (if 0 ≤ e then m * 2 ^ e.toNat else m / 2 ^ (-e).toNat)
  | _ => 0
theorem whole_num (f : Format) {b : Nat} (h : datWhole (f.read b) = true) : FNum f b (datInt (f.read b)) := by
  cases hd : f.read b with
  | number s m e =>
    rw [hd] at h
    refine ⟨s, m, e, _, hd, ?_, rfl⟩
    simp only [datWhole, Bool.or_eq_true, decide_eq_true_eq] at h
    split
    · rename_i he; exact mag_whole m he
    · rename_i he
      have h1 := h.resolve_left he
      unfold Mag
      rw [show e.toNat = 0 by omega, Nat.pow_zero, Nat.mul_one, Nat.div_mul_cancel (Nat.dvd_of_mod_eq_zero h1)]
  | infinity s => rw [hd] at h; cases h
  | nan s t => rw [hd] at h; cases h
theorem num_whole (f : Format) {b : Nat} {n : Int} (h : FNum f b n) : datWhole (f.read b) = true ∧ datInt (f.read b) = n := by
  have hw : datWhole (f.read b) = true := by
    obtain ⟨s, m, e, a, h1, h2, h3⟩ := h
    rw [h1]
    unfold datWhole
    by_cases he : 0 ≤ e
    · simp [he]
    · unfold Mag at h2
      rw [show e.toNat = 0 by omega, Nat.pow_zero, Nat.mul_one] at h2
      rw [h2]
      simp
  exact ⟨hw, fnum_unique (whole_num f hw) h⟩
/-- What a word of the narrow format is. -/
theorem read_single {b : Nat} {s : Bool} {m : Nat} {e : Int} (h : single.read b = .number s m e) : m < 2 ^ 24 ∧ -149 ≤ e ∧ e ≤ 104 := by
  have hb : single.binade = 2 ^ 23 := rfl
  have hi : single.infRung = 255 * 2 ^ 23 := rfl
  have hlp : single.leastPlace = -149 := by decide
  unfold Format.read at h
  simp only [hb, hi, hlp] at h
  generalize b % single.signWeight = r at h
  split at h
  · simp only [Datum.number.injEq] at h; omega
  · split at h
    · rename_i h1 h2
      simp only [Datum.number.injEq] at h
      obtain ⟨-, h3, h4⟩ := h
      have h5 : r % 2 ^ 23 < 2 ^ 23 := Nat.mod_lt _ (by decide)
      have h6 : r / 2 ^ 23 < 255 := Nat.div_lt_of_lt_mul (by omega)
      omega
    · split at h <;> cases h
/-- The wide word of a narrow one. -/
theorem wide_of {s : Bool} {m : Nat} {e : Int} (h1 : m < 2 ^ 24) (h2 : -149 ≤ e) (h3 : e ≤ 104) :
    ∃ k last d, double.read (double.write (.number s m e)) = .number s k last ∧ k = m * 2 ^ d ∧ (m ≠ 0 → last = e - (d : Nat)) ∧ k < 2 ^ 53 ∧ (m ≠ 0 → k.log2 = 52) ∧ -1074 ≤ last ∧ last ≤ 127 := by
  by_cases hm : m = 0
  · subst hm
    have hw : double.write (.number s 0 e) = double.word s 0 := by show double.nearest s 0 e = _; unfold Format.nearest; simp
    refine ⟨0, -1074, 0, ?_, by simp, fun h => absurd rfl h, by decide, fun h => absurd rfl h, by omega, by omega⟩
    rw [hw, read_word double s 0 (by decide)]
    rfl
  · have hl : m.log2 < 24 := (Nat.log2_lt hm).2 h1
    have hfb : (double.fractionBits : Int) = 52 := rfl
    have hfb2 : double.fractionBits = 52 := rfl
    have hlp : double.leastPlace = -1074 := by decide
    have hp1 := pow_le_log2 m hm
    have hp2 := log2_lt_pow m hm
    have k1 : 2 ^ 52 ≤ m * 2 ^ (52 - m.log2) := by
      have : (2 : Nat) ^ 52 = 2 ^ m.log2 * 2 ^ (52 - m.log2) := by rw [← pow_split]; congr 1; omega
      rw [this]; exact Nat.mul_le_mul_right _ hp1
    have k2 : m * 2 ^ (52 - m.log2) < 2 ^ 53 := by
      have : (2 : Nat) ^ 53 = 2 ^ (m.log2 + 1) * 2 ^ (52 - m.log2) := by rw [← pow_split]; congr 1; omega
      rw [this]; exact Nat.mul_lt_mul_of_pos_right hp2 (Nat.two_pow_pos _)
    have key := nearest_norm double s m e hm (e + (m.log2 : Int) - 52 + 1074).toNat (m * 2 ^ (52 - m.log2)) (e + (m.log2 : Int) - 52) (by rw [hfb2]; exact k1) (by rw [hfb2]; exact k2)
      (by rw [hfb]) (by rw [hlp]; omega) (by rw [hlp]; omega) (by
        have : (2 : Nat) ^ double.exponentBits - 1 = 2047 := by decide
        rw [this]; omega) (by
        rw [show (e - (e + (m.log2 : Int) - 52)).toNat = 52 - m.log2 by omega, show ((e + (m.log2 : Int) - 52) - e).toNat = 0 by omega, Nat.pow_zero, Nat.mul_one])
    refine ⟨_, _, 52 - m.log2, key.2, rfl, fun _ => by omega, k2, fun _ => ?_, by omega, by omega⟩
    rw [Nat.log2_eq_iff (by omega)]
    exact ⟨k1, k2⟩
/-- What is left of a number that is cut towards zero. -/
def cutT (k : Nat) (last : Int) : Nat := if 0 ≤ last then k * 2 ^ last.toNat else k / 2 ^ (-last).toNat
theorem cut_zero (s : Bool) (k : Nat) (last : Int) : Toward.zero.cut s (k <<< last.toNat) (-last).toNat = cutT k last := by
  unfold cutT
  by_cases h : 0 ≤ last
  · rw [if_pos h, Nat.shiftLeft_eq, show (-last).toNat = 0 by omega]
    have := cut_exact .zero s (k * 2 ^ last.toNat) 0
    rwa [Nat.pow_zero, Nat.mul_one] at this
  · rw [if_neg h, show last.toNat = 0 by omega, Nat.shiftLeft_zero]
    unfold Toward.cut
    dsimp only
    rw [shl_one]
    simp only [Bool.toNat_false, Nat.add_zero]
    by_cases hd : (-last).toNat ≤ k.log2 + 2
    · rw [Nat.min_eq_left hd]
    · rw [Nat.min_eq_right (by omega)]
      by_cases hk : k = 0
      · subst hk; simp
      · have h1 := log2_lt_pow k hk
        have h2 : 2 ^ (k.log2 + 1) ≤ 2 ^ (k.log2 + 2) := Nat.pow_le_pow_right (by omega) (by omega)
        have h3 : 2 ^ (k.log2 + 1) ≤ 2 ^ (-last).toNat := Nat.pow_le_pow_right (by omega) (by omega)
        rw [Nat.div_eq_of_lt (by omega), Nat.div_eq_of_lt (by omega)]
theorem beq_eq_iff {a b : Int} : (some (compare a b) == some Ordering.eq) = decide (a = b) := by
  rw [icmp]
  by_cases h : a < b
  · rw [if_pos h, decide_eq_false (by omega)]; rfl
  · rw [if_neg h]
    by_cases h2 : a = b
    · rw [if_pos h2, decide_eq_true h2]; rfl
    · rw [if_neg h2, decide_eq_false h2]; rfl
theorem sgn_inj (s : Bool) {a b : Nat} : sgn s a = sgn s b ↔ a = b := by unfold sgn; cases s <;> simp <;> omega
/-- A number equals what is left of it just if it is whole. -/
theorem cut_order2 {r : Nat} {s s' : Bool} {m k : Nat} {e last : Int} {d : Nat} (hr : double.read r = .number s k last) (hk : k = m * 2 ^ d) (hl : m ≠ 0 → last = e - (d : Nat)) (hk53 : k < 2 ^ 53) (hlog : 0 ≤ last → m ≠ 0 → k.log2 = 52)
    (h1 : -1074 ≤ last) (h2 : last ≤ 971) (hs : cutT k last ≠ 0 → s' = s) : (double.order (double.write (.number s' (cutT k last) 0)) r == some .eq) = datWhole (.number s m e) := by
  by_cases hm : m = 0
  · subst hm
    rw [Nat.zero_mul] at hk
    subst hk
    have hT : cutT 0 last = 0 := by unfold cutT; split <;> simp
    rw [hT]
    have h3 := write_num good_double (s := s') (mag_nat 0) (by decide)
    have h4 : FNum double r 0 := ⟨s, 0, last, 0, hr, by unfold Mag; simp, by unfold sgn; cases s <;> rfl⟩
    rw [order_num double h3 h4, beq_eq_iff, show sgn s' 0 = 0 by unfold sgn; cases s' <;> rfl]
    simp [datWhole]
  · have hl := hl hm
    have hk0 : k ≠ 0 := by rw [hk]; have := Nat.mul_pos (Nat.pos_of_ne_zero hm) (Nat.two_pow_pos d); omega
    by_cases hlast : 0 ≤ last
    · have hlog := hlog hlast hm
      have hT : cutT k last = k * 2 ^ last.toNat := by unfold cutT; rw [if_pos hlast]
      have hT0 : k * 2 ^ last.toNat ≠ 0 := by have := Nat.mul_pos (Nat.pos_of_ne_zero hk0) (Nat.two_pow_pos last.toNat); omega
      have hs := hs (by rw [hT]; exact hT0)
      subst hs
      rw [hT]
      have hlT : (k * 2 ^ last.toNat).log2 = 52 + last.toNat := by rw [← Nat.shiftLeft_eq, log2_shl _ _ hk0, hlog]
      have hp1 := pow_le_log2 k hk0
      rw [hlog] at hp1
      have key := nearest_norm double s' (k * 2 ^ last.toNat) 0 hT0 (last + 1074).toNat k last hp1 hk53 (by rw [hlT]; show last = 0 + ((52 + last.toNat : Nat) : Int) - 52; omega)
        (show (-1074 : Int) ≤ last by omega) (show ((last + 1074).toNat : Int) = last - (-1074) by omega) (by
          have : (2 : Nat) ^ double.exponentBits - 1 = 2047 := by decide
          rw [this]; omega) (by rw [show (0 - last).toNat = 0 by omega, show (last - 0).toNat = last.toNat by omega, Nat.pow_zero, Nat.mul_one])
      have ho : double.order (double.write (.number s' (k * 2 ^ last.toNat) 0)) r = some (compare (sgn s' (k * 2 ^ last.toNat)) (sgn s' (k * 2 ^ last.toNat))) :=
        order_shift double key.2 hr 0 (by simpa using mag_whole k hlast) (by simpa using mag_whole k hlast)
      rw [ho, beq_eq_iff]
      have : 0 ≤ e := by omega
      simp [datWhole, this]
    · have hT : cutT k last = k / 2 ^ (-last).toNat := by unfold cutT; rw [if_neg hlast]
      have hTk : cutT k last ≤ k := by rw [hT]; exact Nat.div_le_self _ _
      obtain ⟨t, n, j, a, g1, g2, g3⟩ := write_num good_double (s := s') (mag_nat (cutT k last)) (show cutT k last < 2 ^ 53 by omega)
      rw [order_shift double g1 hr (-last).toNat (mag_shift g2 _) (mag_self k (by omega)), beq_eq_iff]
      have hsg : sgn t (a * 2 ^ (-last).toNat) = sgn s (cutT k last * 2 ^ (-last).toNat) := by
        rw [sgn_mul, g3, sgn_mul]
        congr 1
        by_cases h0 : cutT k last = 0
        · rw [h0]; unfold sgn; cases s' <;> cases s <;> rfl
        · rw [hs h0]
      rw [hsg]
      have hdec : decide (sgn s (cutT k last * 2 ^ (-last).toNat) = sgn s k) = decide (k % 2 ^ (-last).toNat = 0) := by
        rw [decide_eq_decide, sgn_inj, hT]
        have := Nat.div_add_mod k (2 ^ (-last).toNat)
        rw [Nat.mul_comm] at this
        omega
      rw [hdec]
      unfold datWhole
      by_cases he : 0 ≤ e
      · have hc : d = (d - (-last).toNat) + (-last).toNat := by omega
        have : k % 2 ^ (-last).toNat = 0 := by rw [hk, hc, pow_split, ← Nat.mul_assoc]; exact Nat.mul_mod_left _ _
        simp [he, this]
      · have hc : (-last).toNat = d + (-e).toNat := by omega
        rw [hc, hk, pow_split, Nat.mul_comm m, Nat.mul_mod_mul_left]
        have p := Nat.two_pow_pos d
        have : (2 ^ d * (m % 2 ^ (-e).toNat) = 0) ↔ (m % 2 ^ (-e).toNat = 0) := by
          rw [Nat.mul_eq_zero]; omega
        simp [he, this]
theorem cut_order {r : Nat} {s s' : Bool} {m k : Nat} {e last : Int} {d : Nat} (hr : double.read r = .number s k last) (hk : k = m * 2 ^ d) (hl : m ≠ 0 → last = e - (d : Nat)) (hk53 : k < 2 ^ 53) (hlog : m ≠ 0 → k.log2 = 52)
    (h1 : -1074 ≤ last) (h2 : last ≤ 127) (hs : cutT k last ≠ 0 → s' = s) : (double.order (double.write (.number s' (cutT k last) 0)) r == some .eq) = datWhole (.number s m e) :=
  cut_order2 hr hk hl hk53 (fun _ => hlog) h1 (by omega) hs
end Go.Proofs.YtkoiknmijjiicaaGreatDoor

/- Whole floats: infinities, the test of the reference, bits without a sign. No program in sight. -/
namespace Go.Proofs.YtkoiknmijjiicaaGreatDoor
set_option linter.unusedVariables false
set_option linter.unusedSimpArgs false
open Ieee
theorem abs_bits (b : Nat) (h : b < 2 ^ 64) : ((BitVec.ofInt 64 (b : Int) &&& ~~~(BitVec.ofInt 64 9223372036854775808)).toNat : Int) = ((b % 2 ^ 63 : Nat) : Int) := by
  rw [BitVec.toNat_and]
  have h1 : (~~~(BitVec.ofInt 64 9223372036854775808)).toNat = 2 ^ 63 - 1 := by decide
  have h2 : (BitVec.ofInt 64 (b : Int)).toNat = b := by
    rw [BitVec.ofInt_natCast, BitVec.toNat_ofNat, Nat.mod_eq_of_lt h]
  rw [h1, h2, Nat.and_two_pow_sub_one_eq_mod]
theorem read_abs {b : Nat} {s : Bool} {k : Nat} {last : Int} (h : double.read b = .number s k last) : double.read (b % 2 ^ 63) = .number false k last := by
  have hs : double.signWeight = 2 ^ 63 := by decide
  unfold Format.read at h ⊢
  rw [hs] at h ⊢
  rw [Nat.mod_mod, Nat.div_eq_of_lt (Nat.mod_lt _ (by decide))]
  dsimp only at h ⊢
  split at h
  · rename_i h1
    rw [if_pos h1]
    simp only [Datum.number.injEq] at h ⊢
    exact ⟨rfl, h.2.1, h.2.2⟩
  · rename_i h1
    rw [if_neg h1]
    split at h
    · rename_i h2
      rw [if_pos h2]
      simp only [Datum.number.injEq] at h ⊢
      exact ⟨rfl, h.2.1, h.2.2⟩
    · split at h <;> cases h
theorem read_max : double.read 9218868437227405311 = .number false 9007199254740991 971 := by decide
/-- No number that comes of a narrow one is beyond all. -/
theorem not_inf2 {b : Nat} {s : Bool} {k : Nat} {last : Int} (h : double.read b = .number s k last) (hk : k < 2 ^ 53) (h1 : -1074 ≤ last) (h2 : last ≤ 971) : (double.order (b % 2 ^ 63) 9218868437227405311 == some Ordering.gt) = false := by
  rw [order_shift double (read_abs h) read_max 1074 (mag_whole k (by omega)) (mag_whole _ (by omega))]
  have h3 : k * 2 ^ (last + (1074 : Nat)).toNat ≤ 9007199254740991 * 2 ^ ((971 : Int) + (1074 : Nat)).toNat :=
    Nat.mul_le_mul (by omega) (Nat.pow_le_pow_right (by omega) (by omega))
  generalize k * 2 ^ (last + (1074 : Nat)).toNat = x at h3 ⊢
  generalize 9007199254740991 * 2 ^ ((971 : Int) + (1074 : Nat)).toNat = y at h3 ⊢
  rw [icmp]
  have h4 : sgn false x ≤ sgn false y := by unfold sgn; simp; omega
  split
  · rfl
  · rw [if_pos (by omega)]; rfl
theorem not_inf {b : Nat} {s : Bool} {k : Nat} {last : Int} (h : double.read b = .number s k last) (hk : k < 2 ^ 53) (h1 : -1074 ≤ last) (h2 : last ≤ 127) : (double.order (b % 2 ^ 63) 9218868437227405311 == some Ordering.gt) = false :=
  not_inf2 h hk h1 (by omega)
theorem read_inf (s : Bool) : double.read (double.word s double.infRung) = .infinity s := by cases s <;> decide
theorem abs_inf (s : Bool) : double.word s double.infRung % 2 ^ 63 = double.infRung := by cases s <;> decide
theorem inf_gt : (double.order double.infRung 9218868437227405311 == some Ordering.gt) = true := by decide
theorem inf_eq (s : Bool) : (double.order (double.word s double.infRung) (double.word s double.infRung) == some Ordering.eq) = true := by cases s <;> decide
theorem nan_cmp {x y : Nat} {s : Bool} {t : Nat} (h : double.read x = .nan s t) : double.order x y = none ∧ double.order y x = none := by
  unfold Format.order
  rw [h]
  constructor
  · cases double.read y <;> rfl
  · cases double.read y <;> rfl
/-- The words that a NaN may be drawn as. -/
theorem nan_drawn (t : Nat) : ∃ s u, double.read ((t % 2) * 2 ^ 63 + 0x7ff0000000000000 + 1 + (t / 2) % (2 ^ 52 - 1)) = .nan s u := by
  have hs : double.signWeight = 2 ^ 63 := by decide
  have hi : double.infRung = 0x7ff0000000000000 := by decide
  have hb : double.binade = 2 ^ 52 := by decide
  have h1 : t / 2 % (2 ^ 52 - 1) < 2 ^ 52 - 1 := Nat.mod_lt _ (by decide)
  generalize t / 2 % (2 ^ 52 - 1) = v at h1
  have h2 : ((t % 2) * 2 ^ 63 + 0x7ff0000000000000 + 1 + v) % 2 ^ 63 = 0x7ff0000000000000 + 1 + v := by
    rw [show (t % 2) * 2 ^ 63 + 0x7ff0000000000000 + 1 + v = 2 ^ 63 * (t % 2) + (0x7ff0000000000000 + 1 + v) by omega, Nat.mul_add_mod, Nat.mod_eq_of_lt (by omega)]
  unfold Format.read
  rw [hs, hi, hb, h2]
  dsimp only
  rw [if_neg (by omega), if_neg (by omega), if_neg (by omega)]
  exact ⟨_, _, rfl⟩
/-- A NaN made quiet is one. -/
theorem nan_quiet (s : Bool) (t : Nat) : ∃ u, double.read (double.write (.nan s (double.quiet t))) = .nan s u := by
  have hb : double.binade = 2 ^ 52 := by decide
  have hs : double.signWeight = 2 ^ 63 := by decide
  have hi : double.infRung = 2047 * 2 ^ 52 := by decide
  have hq : double.quiet t % 2 ^ 52 ≠ 0 := by
    show (t ||| 2 ^ 51) % 2 ^ 52 ≠ 0
    intro h0
    have h1 : ((t ||| 2 ^ 51) % 2 ^ 52).testBit 51 = true := by
      rw [Nat.testBit_mod_two_pow, Nat.testBit_or, Nat.testBit_two_pow_self]
      simp
    rw [h0, Nat.zero_testBit] at h1
    cases h1
  have h2 : double.quiet t % 2 ^ 52 < 2 ^ 52 := Nat.mod_lt _ (by decide)
  show ∃ u, double.read (double.word s (double.infRung + double.quiet t % double.binade)) = .nan s u
  rw [hb]
  generalize double.quiet t % 2 ^ 52 = q at hq h2
  rw [read_word double s _ (by rw [hs, hi]; omega), hb, hi, if_neg (by omega), if_neg (by omega), if_neg (by omega)]
  exact ⟨_, rfl⟩
/-- The reference's bounds, plus and minus 10 ^ 16. -/
def c16m : Nat := 14069741636278059008
def c16p : Nat := 4846369599423283200
theorem num_16m : FNum double c16m (-10000000000000000) := ⟨true, 5000000000000000, 1, 10000000000000000, by decide, by unfold Mag; decide, by decide⟩
theorem num_16p : FNum double c16p 10000000000000000 := ⟨false, 5000000000000000, 1, 10000000000000000, by decide, by unfold Mag; decide, by decide⟩
def geB (a b : Nat) : Bool := double.order a b == some .gt || double.order a b == some .eq
def leB (a b : Nat) : Bool := double.order a b == some .lt || double.order a b == some .eq
end Go.Proofs.YtkoiknmijjiicaaGreatDoor
