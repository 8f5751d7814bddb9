/- Chapter 1: images whose lines turn by quarter turns. Plain. -/
import Derived.Test.YtakohhlmomgegaaDoorU88
import Derived.Test.YtakohhlmomgegaaDoorU69
import Derived.Test.YtakohhlmomgegaaDoorU61
import Derived.Test.YtakohhlmomgegaaDoorZN
namespace Go.Proofs.YtakohhlmomgegaaDoor
set_option linter.unusedVariables false
set_option linter.unusedSimpArgs false
open Go.RowKit Ieee Ntt
/-- So many quarter turns. -/
def rot : Nat → Int × Int → Int × Int
  | 0, z => z
  | k + 1, z => (-(rot k z).2, (rot k z).1)
theorem rot_bd (k : Nat) {z : Int × Int} (h : (-2047 ≤ z.1 ∧ z.1 ≤ 2047) ∧ -2047 ≤ z.2 ∧ z.2 ≤ 2047) : (-2047 ≤ (rot k z).1 ∧ (rot k z).1 ≤ 2047) ∧ -2047 ≤ (rot k z).2 ∧ (rot k z).2 ≤ 2047 := by
  induction k with
  | zero => exact h
  | succ k ih => unfold rot; dsimp only; omega
/-- The parts of the turned image. -/
def tz (a : Nat → Int) (q S i : Nat) : Int × Int := rot (q * (i / S) % 4) (a (2 * (i % S)), a (2 * (i % S) + 1))
def tG (a : Nat → Int) (q S i : Nat) : Nat × Nat := smpI (tz a q S i).1 (tz a q S i).2
/-- The energy of a number of the first line. -/
def tE (a : Nat → Int) (S i : Nat) : Int := a (2 * (i % S)) * a (2 * (i % S)) + a (2 * (i % S) + 1) * a (2 * (i % S) + 1)
def cosQ (q : Nat) : Int := if q % 4 = 0 then 1 else if q % 4 = 2 then -1 else 0
def sinQ (q : Nat) : Int := if q % 4 = 1 then 1 else if q % 4 = 3 then -1 else 0
theorem rot_prod (j k : Nat) (hj : j < 4) (q : Nat) (hq : q < 4) (hk : k = (j + q) % 4) (z : Int × Int) :
    (rot k z).1 * (rot j z).1 + (rot k z).2 * (rot j z).2 = cosQ q * (z.1 * z.1 + z.2 * z.2) ∧ (rot k z).2 * (rot j z).1 - (rot k z).1 * (rot j z).2 = sinQ q * (z.1 * z.1 + z.2 * z.2) := by
  obtain ⟨x, y⟩ := z
  have c : j = 0 ∨ j = 1 ∨ j = 2 ∨ j = 3 := by omega
  have d : q = 0 ∨ q = 1 ∨ q = 2 ∨ q = 3 := by omega
  subst hk
  rcases c with rfl | rfl | rfl | rfl <;> rcases d with rfl | rfl | rfl | rfl <;> simp [rot, cosQ, sinQ] <;> grind
theorem tz_next (a : Nat → Int) {q S : Nat} (hS : 0 < S) (hq : q < 4) (i : Nat) :
    (tz a q S (S + i)).1 * (tz a q S i).1 + (tz a q S (S + i)).2 * (tz a q S i).2 = cosQ q * tE a S i ∧ (tz a q S (S + i)).2 * (tz a q S i).1 - (tz a q S (S + i)).1 * (tz a q S i).2 = sinQ q * tE a S i := by
  unfold tz tE
  rw [Nat.add_mod_left, Nat.add_div_left i hS]
  exact rot_prod _ _ (Nat.mod_lt _ (by decide)) q hq (by rw [Nat.mul_succ]; omega) _
theorem tG_parts {a : Nat → Int} {q S i : Nat} (h : ∀ j, -2047 ≤ a j ∧ a j ≤ 2047) : xB (tG a q S) i = (tz a q S i).1 ∧ yB (tG a q S) i = (tz a q S i).2 := by
  have b := rot_bd (q * (i / S) % 4) (z := (a (2 * (i % S)), a (2 * (i % S) + 1))) ⟨h _, h _⟩
  exact smpI_parts (x := (tz a q S i).1) (y := (tz a q S i).2) (by unfold tz; omega) (by unfold tz; omega)
theorem tG_good {a : Nat → Int} {q S i : Nat} (h : ∀ j, -2047 ≤ a j ∧ a j ≤ 2047) : gE (tG a q S) 2047 i = 0 := by
  obtain ⟨⟨b1, b2⟩, b3, b4⟩ := rot_bd (q * (i / S) % 4) (z := (a (2 * (i % S)), a (2 * (i % S) + 1))) ⟨h _, h _⟩
  obtain ⟨p1, p2⟩ := intB_of (num_nearest (n := (tz a q S i).1) (by unfold tz; omega))
  obtain ⟨p3, p4⟩ := intB_of (num_nearest (n := (tz a q S i).2) (by unfold tz; omega))
  unfold gE partE
  rw [show (tG a q S i).1 = floatOfInt .f32 (tz a q S i).1 from rfl, show (tG a q S i).2 = floatOfInt .f32 (tz a q S i).2 from rfl, p1, p2, p3, p4, if_pos (show (true && true) = true from rfl), if_pos]
  unfold inE tz
  simp only [Bool.and_eq_true, decide_eq_true_eq]
  omega
theorem sq_nn (x : Int) : 0 ≤ x * x := by
  rcases Int.le_total 0 x with c | c
  · exact Int.mul_nonneg c c
  · exact Int.mul_nonneg_of_nonpos_of_nonpos c c
theorem tE_pos (a : Nat → Int) (S i : Nat) : 0 ≤ tE a S i := by
  unfold tE
  have := sq_nn (a (2 * (i % S)))
  have := sq_nn (a (2 * (i % S) + 1))
  omega
theorem sum_pos {n : Nat} {f : Nat → Int} (h : ∀ k, 0 ≤ f k) {j : Nat} (hj : j < n) (hp : 0 < f j) : 0 < sum n f := by
  induction n with
  | zero => omega
  | succ n ih =>
    have h0 : 0 ≤ sum n f := by
      clear ih hj
      induction n with
      | zero => exact Int.le_refl _
      | succ n ih => rw [sum]; have := h n; omega
    rw [sum]
    by_cases e : j = n
    · subst e; omega
    · have := ih (by omega)
      have := h n
      omega
theorem ps_turn {a : Nat → Int} {q S : Nat} (h : ∀ j, -2047 ≤ a j ∧ a j ≤ 2047) (hS : 0 < S) (hq : q < 4) (K : Nat) : psR (xB (tG a q S)) (yB (tG a q S)) S K = cosQ q * sum K (tE a S) ∧ psI (xB (tG a q S)) (yB (tG a q S)) S K = sinQ q * sum K (tE a S) := by
  unfold psR psI
  rw [← sum_mul, ← sum_mul]
  refine ⟨sum_eq fun i _ => ?_, sum_eq fun i _ => ?_⟩
  · rw [(tG_parts h).1, (tG_parts h).1, (tG_parts h).2, (tG_parts h).2]
    exact (tz_next a hS hq i).1
  · rw [(tG_parts h).1, (tG_parts h).1, (tG_parts h).2, (tG_parts h).2]
    exact (tz_next a hS hq i).2
theorem phase_low2 {x y : Int} (h0 : 0 ≤ y) (h1 : y ≤ x) : phaseP x y = lowP x y := by
  have := (lowP_bd x y).2
  have e : phP x y = lowP x y := by
    unfold phP upP quadP
    rw [if_neg (by omega), if_neg (by omega), if_neg (by omega)]
  unfold phaseP
  rw [e, if_pos (by omega)]
/-- A number above 0 has the phase 0. -/
theorem dir_up {m : Nat} (h1 : 1 ≤ m) (h2 : m ≤ 1024) : 0 < (dirP (m : Int)).2 := by
  obtain ⟨k, rfl⟩ : ∃ k, m = k + 1 := ⟨m - 1, by omega⟩
  obtain ⟨⟨a1, a2⟩, ⟨a3, a4⟩, -, a7⟩ := dir_facts (k : Int) (by omega) (by omega)
  obtain ⟨⟨b1, b2⟩, ⟨b3, b4⟩, -, -⟩ := dir_facts ((k : Int) + 1) (by omega) (by omega)
  have hc := a7 (by omega)
  rw [Int.natCast_succ]
  rcases Int.lt_or_le 0 (dirP ((k : Int) + 1)).2 with c | c
  · exact c
  · have e0 : (dirP ((k : Int) + 1)).2 = 0 := by omega
    rw [e0, Int.mul_zero] at hc
    have := Int.mul_nonneg a3 (show 0 ≤ (dirP ((k : Int) + 1)).1 by omega)
    omega
theorem phase_right {T : Int} (hT : 0 < T) : phaseP T 0 = 0 := by
  rw [phase_low2 (Int.le_refl 0) (by omega)]
  obtain ⟨n1, n2⟩ := lowP_bd T 0
  obtain ⟨e1, -⟩ := between (x := T) (y := 0) (by omega) (by omega) (by omega)
  rcases Int.lt_or_le 0 (lowP T 0) with c | c
  · have h := e1 c
    obtain ⟨n, hn⟩ := Int.eq_ofNat_of_zero_le n1
    rw [hn] at h c
    have hd := dir_up (m := 2 * n - 1) (by omega) (by omega)
    have e : ((2 * n - 1 : Nat) : Int) = 2 * (n : Int) - 1 := by omega
    rw [e] at hd
    have := Int.mul_pos hd hT
    simp only [Int.mul_zero] at h
    omega
  · omega
/-- Each quarter turn turns the phase by a quarter. -/
theorem phase_quarter {T : Int} (hT : 0 < T) {q : Nat} (hq : q < 4) : phaseP (cosQ q * T) (sinQ q * T) = wrapP (1024 * (q : Int)) := by
  have d : q = 0 ∨ q = 1 ∨ q = 2 ∨ q = 3 := by omega
  have p0 := phase_right hT
  have p1 : phaseP 0 T = 1024 := by
    have := phase_turn T 0 (by omega)
    rw [p0] at this
    simpa [wrapP] using this
  have p2 : phaseP (-T) 0 = -2048 := by
    have := phase_turn 0 T (by omega)
    rw [p1] at this
    simpa [wrapP] using this
  have p3 : phaseP 0 (-T) = -1024 := by
    have := phase_turn (-T) 0 (by omega)
    rw [p2] at this
    simpa [wrapP] using this
  rcases d with rfl | rfl | rfl | rfl
  · simpa [cosQ, sinQ, wrapP] using p0
  · simpa [cosQ, sinQ, wrapP] using p1
  · simpa [cosQ, sinQ, wrapP] using p2
  · simpa [cosQ, sinQ, wrapP] using p3
theorem turning {a : Nat → Int} {q S L n : Nat} (h : ∀ j, -2047 ≤ a j ∧ a j ≤ 2047) (hS : 1 ≤ S) (hS2 : S ≤ 60) (hL : 2 ≤ L) (hL2 : L ≤ 6) (hq : q < 4) (hn : n = L * S) {j : Nat} (hj : j < S * 2) (hp : a j ≠ 0) : dpE L S n (tG a q S) = 0 ∧ dpV L S n (tG a q S) = wrapP (1024 * (q : Int)) := by
  have hz : sizeE (L : Int) S (n : Int) = 0 := by
    unfold sizeE inE
    rw [if_pos (by simp; omega), if_pos (by rw [hn, Int.natCast_mul])]
  have hi : (imgE L S n (tG a q S)).2 = 0 := by
    unfold imgE
    rw [if_pos hz, firstE_ok fun i _ => tG_good h]
  have hps : psE L S n (tG a q S) = 0 := by
    unfold psE
    rw [if_pos hi, if_neg (by omega)]
  obtain ⟨e1, e2⟩ := ps_turn (a := a) (q := q) (S := S) h (by omega) hq (n - S)
  have hK : S ≤ n - S := by
    rw [hn]
    have := Nat.mul_le_mul_right S hL
    omega
  have hT : 0 < sum (n - S) (tE a S) := by
    refine sum_pos (fun k => tE_pos a S k) (j := j / 2) (by omega) ?_
    unfold tE
    rw [Nat.mod_eq_of_lt (show j / 2 < S by omega)]
    have s1 := sq_nn (a (2 * (j / 2)))
    have s2 := sq_nn (a (2 * (j / 2) + 1))
    have hne : a (2 * (j / 2)) ≠ 0 ∨ a (2 * (j / 2) + 1) ≠ 0 := by
      rcases Nat.mod_two_eq_zero_or_one j with c | c
      · exact Or.inl (by rw [show 2 * (j / 2) = j by omega]; exact hp)
      · exact Or.inr (by rw [show 2 * (j / 2) + 1 = j by omega]; exact hp)
    rcases hne with c | c
    · have : a (2 * (j / 2)) * a (2 * (j / 2)) ≠ 0 := Int.mul_ne_zero c c
      omega
    · have : a (2 * (j / 2) + 1) * a (2 * (j / 2) + 1) ≠ 0 := Int.mul_ne_zero c c
      omega
  have hdp : dpE L S n (tG a q S) = 0 := by
    unfold dpE
    rw [if_pos hps, Int.toNat_natCast, e1, e2, if_neg]
    rintro ⟨c1, c2⟩
    have d : q = 0 ∨ q = 1 ∨ q = 2 ∨ q = 3 := by omega
    rcases d with rfl | rfl | rfl | rfl <;> simp [cosQ, sinQ] at c1 c2 <;> omega
  refine ⟨hdp, ?_⟩
  unfold dpV
  rw [if_pos hdp, Int.toNat_natCast, e1, e2]
  exact phase_quarter hT hq
end Go.Proofs.YtakohhlmomgegaaDoor
