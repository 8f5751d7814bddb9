/- Chapter 4: SquareOf, of the program and of the reference. -/
import Derived.Test.YtfiioadmpjmmgaaDoorX2
import Derived.Test.YtfiioadmpjmmgaaDoorU63
namespace Go.Proofs.YtfiioadmpjmmgaaDoor
set_option linter.unusedVariables false
set_option linter.unusedSimpArgs false
open Go.RowKit Ntt
theorem fl_alt (n d : Int) (hd : 1 ≤ d) : (if n.tmod d < 0 then n.tdiv d - 1 else n.tdiv d) = n / d := fl_gen n d (by omega)
set_option maxHeartbeats 400000 in
theorem bFloorN (n d : Int) (w : World) (h1 : -4611686018427387904 ≤ n) (h2 : n ≤ 4611686018427387904) (hd : 1 ≤ d) (hd2 : d ≤ 4611686018427387904) {v : Int} (hv : n / d = v) :
    Calls Tryd.prog 53 #[.int .i64 n, .int .i64 d] w fun e w' => e = .returned (.int .i64 v) ∧ w = w' := by
  have hf := fl_gen n d (by omega)
  rw [hv] at hf
  obtain ⟨b1, b2⟩ := tdiv_bd n d
  obtain ⟨r, hr⟩ : ∃ r, n.tmod d = r := ⟨_, rfl⟩
  obtain ⟨a, ha⟩ : ∃ a, n.tdiv d = a := ⟨_, rfl⟩
  rw [hr, ha] at hf
  rw [ha] at b1 b2
  have hd0 : ¬ d = 0 := by omega
  have hdm : ¬ d = -1 := by omega
  obtain ⟨b3, b4⟩ : -4611686018427387904 ≤ a ∧ a ≤ 4611686018427387904 := by omega
  have HF := Lib.hid hf
  clear hf hv
  by_cases hc : r < 0
  · have hdc : decide (r < 0) = true := by simpa using hc
    have HV := Lib.hid (show a - 1 = v by have := HF.out; rw [if_pos hc] at this; exact this)
    clear HF
    go_enter Tryd.func53, Tryd.ntmps53
    go_wp2
    go_ret
    exact ⟨by rw [HV.out]; rfl, rfl⟩
  · have hdc : decide (r < 0) = false := by simpa using hc
    have HV := Lib.hid (show a = v by have := HF.out; rw [if_neg hc] at this; exact this)
    clear HF
    go_enter Tryd.func53, Tryd.ntmps53
    go_wp2
    go_ret
    exact ⟨by rw [HV.out]; rfl, rfl⟩
/-- The square of a coherence without its bias, and the error. -/
def sqV (c L : Int) : Int := if 0 < (L * c * c - 1000000) / (L - 1) then (L * c * c - 1000000) / (L - 1) else 0
def sqE (c L : Int) : Int := if inE 0 1000 c && inE 2 10000 L then 0 else 2
def sqR (c L : Int) : Int := if sqE c L = 0 then sqV c L else 0
theorem sqv_le {c L : Int} (h1 : 0 ≤ c) (h2 : c ≤ 1000) (h3 : 2 ≤ L) : sqV c L ≤ c * c := by
  have hc : 0 ≤ c * c := Int.mul_nonneg h1 h1
  have hc2 : c * c ≤ 1000000 := Int.mul_le_mul h2 h2 h1 (by decide)
  unfold sqV
  split
  · refine Int.ediv_le_of_le_mul (by omega) ?_
    rw [Int.mul_assoc]
    generalize c * c = q at *
    have e : q * (L - 1) = L * q - q := by grind
    omega
  · exact hc
theorem sq_mono {c L : Int} (h1 : 0 ≤ c) (h3 : 2 ≤ L) : sqV c L ≤ sqV (c + 1) L := by
  have hq : L * c * c ≤ L * (c + 1) * (c + 1) := by
    have e : L * (c + 1) * (c + 1) = L * c * c + L * (2 * c + 1) := by grind
    have := Int.mul_nonneg (show 0 ≤ L by omega) (show 0 ≤ 2 * c + 1 by omega)
    omega
  have := Int.ediv_le_ediv (show 0 < L - 1 by omega) (show L * c * c - 1000000 ≤ L * (c + 1) * (c + 1) - 1000000 by omega)
  unfold sqV
  split <;> split <;> omega
theorem sq_one {L : Int} (h3 : 2 ≤ L) : sqV 1000 L = 1000000 := by
  unfold sqV
  have e : L * 1000 * 1000 - 1000000 = (L - 1) * 1000000 := by omega
  rw [e, Int.mul_ediv_cancel_left _ (by omega)]
  rfl
theorem sq_facts {c L : Int} (h : sqE c L = 0) : (0 ≤ c ∧ c ≤ 1000) ∧ (2 ≤ L ∧ L ≤ 10000) := by
  unfold sqE at h
  split at h
  · rename_i h1
    simp only [Bool.and_eq_true] at h1
    exact ⟨inE_iff.1 h1.1, inE_iff.1 h1.2⟩
  · exact absurd h (by decide)
theorem sq_bds {c L : Int} (h1 : 0 ≤ c) (h2 : c ≤ 1000) (h3 : 2 ≤ L) (h4 : L ≤ 10000) : (0 ≤ L * c ∧ L * c ≤ 10000000) ∧ (0 ≤ L * c * c ∧ L * c * c ≤ 10000000000) ∧ (-1000000 ≤ (L * c * c - 1000000) / (L - 1) ∧ (L * c * c - 1000000) / (L - 1) ≤ 10000000000) := by
  have m1 : 0 ≤ L * c := Int.mul_nonneg (by omega) h1
  have m2 : L * c ≤ 10000 * 1000 := Int.mul_le_mul h4 h2 h1 (by decide)
  have m3 : 0 ≤ L * c * c := Int.mul_nonneg m1 h1
  have m4 : L * c * c ≤ 10000000 * 1000 := Int.mul_le_mul (by omega) h2 h1 (by decide)
  have hf := fl_gen (L * c * c - 1000000) (L - 1) (by omega)
  obtain ⟨b1, b2⟩ := tdiv_bd (L * c * c - 1000000) (L - 1)
  refine ⟨⟨m1, by omega⟩, ⟨m3, by omega⟩, ?_, ?_⟩
  · exact (Int.le_ediv_iff_mul_le (by omega)).2 (by omega)
  · rw [← hf]; split <;> omega
set_option maxHeartbeats 1000000 in
theorem squareOf_any (c L : Int) (w : World) :
    Calls Tryd.prog 17 #[.int .i64 c, .int .i64 L] w fun e w' => e = .returned (.tuple #[.int .i64 (sqR c L), .int .i64 (sqE c L)]) ∧ w = w' := by
  obtain ⟨E, hE⟩ : ∃ E, sqE c L = E := ⟨_, rfl⟩
  unfold sqR
  rw [hE]
  have hE0 := hE
  unfold sqE at hE
  rcases (show inE 0 1000 c = false ∨ inE 0 1000 c = true by cases inE 0 1000 c <;> simp) with i1 | i1
  · obtain rfl : E = 2 := by rw [← hE, i1]; rfl
    have H1 := Lib.hid i1
    clear i1 hE hE0
    rw [if_neg (by decide)]
    go_enter Tryd.func17, Tryd.ntmps17
    go_wp2_with (first | (go_at_call 51; (with_reducible refine (fWithin _ _ _ _ H1.out).mono ?_); rintro e w' ⟨rfl, rfl⟩))
    go_ret2
    exact ⟨rfl, rfl⟩
  · rcases (show inE 2 10000 L = false ∨ inE 2 10000 L = true by cases inE 2 10000 L <;> simp) with i2 | i2
    · obtain rfl : E = 2 := by rw [← hE, i1, i2]; rfl
      have H1 := Lib.hid i1
      have H2 := Lib.hid i2
      clear i1 i2 hE hE0
      rw [if_neg (by decide)]
      go_enter Tryd.func17, Tryd.ntmps17
      go_wp2_with (first | (go_at_call 51; (with_reducible refine (fWithin _ _ _ _ H1.out).mono ?_); rintro e w' ⟨rfl, rfl⟩) | (go_at_call 51; (with_reducible refine (fWithin _ _ _ _ H2.out).mono ?_); rintro e w' ⟨rfl, rfl⟩))
      go_ret2
      exact ⟨rfl, rfl⟩
    · obtain rfl : E = 0 := by rw [← hE, i1, i2]; rfl
      have H1 := Lib.hid i1
      have H2 := Lib.hid i2
      obtain ⟨⟨a1, a2⟩, a3, a4⟩ := sq_facts hE0
      obtain ⟨⟨m1, m2⟩, ⟨m3, m4⟩, m5, m6⟩ := sq_bds a1 a2 a3 a4
      clear i1 i2 hE hE0
      rw [if_pos rfl]
      unfold sqV
      generalize hq : (L * c * c - 1000000) / (L - 1) = q at *
      have HFL := Lib.hid (fun W => fFloor (L * c * c - 1000000) (L - 1) W (by omega) (by omega) (by omega) (by omega) hq)
      clear hq
      by_cases h0 : 0 < q
      · rw [if_pos h0]
        have d1 : decide ((0 : Int) < q) = true := by simpa using h0
        go_enter Tryd.func17, Tryd.ntmps17
        go_wp2_with (first | (go_at_call 51; (with_reducible refine (fWithin _ _ _ _ H1.out).mono ?_); rintro e w' ⟨rfl, rfl⟩) | (go_at_call 51; (with_reducible refine (fWithin _ _ _ _ H2.out).mono ?_); rintro e w' ⟨rfl, rfl⟩) | (go_at_call 52; (with_reducible refine (HFL.out _).mono ?_); rintro e w' ⟨rfl, rfl⟩))
        go_ret2
        exact ⟨by simp; omega, rfl⟩
      · rw [if_neg h0]
        have d1 : decide ((0 : Int) < q) = false := by simpa using h0
        go_enter Tryd.func17, Tryd.ntmps17
        go_wp2_with (first | (go_at_call 51; (with_reducible refine (fWithin _ _ _ _ H1.out).mono ?_); rintro e w' ⟨rfl, rfl⟩) | (go_at_call 51; (with_reducible refine (fWithin _ _ _ _ H2.out).mono ?_); rintro e w' ⟨rfl, rfl⟩) | (go_at_call 52; (with_reducible refine (HFL.out _).mono ?_); rintro e w' ⟨rfl, rfl⟩))
        go_ret2
        exact ⟨by simp; omega, rfl⟩
set_option maxHeartbeats 1000000 in
theorem rSquareOf_any (c L : Int) (w : World) :
    Calls Tryd.prog 18 #[.int .i64 c, .int .i64 L] w fun e w' => e = .returned (.tuple #[.int .i64 (sqR c L), .int .i64 (sqE c L)]) ∧ w = w' := by
  obtain ⟨E, hE⟩ : ∃ E, sqE c L = E := ⟨_, rfl⟩
  unfold sqR
  rw [hE]
  have hE0 := hE
  unfold sqE at hE
  rcases (show inE 0 1000 c = false ∨ inE 0 1000 c = true by cases inE 0 1000 c <;> simp) with i1 | i1
  · obtain rfl : E = 2 := by rw [← hE, i1]; rfl
    have H1 := Lib.hid i1
    clear i1 hE hE0
    rw [if_neg (by decide)]
    go_enter Tryd.func18, Tryd.ntmps18
    go_wp2_with (first | (go_at_call 27; (with_reducible refine (bWithin _ _ _ _ H1.out).mono ?_); rintro e w' ⟨rfl, rfl⟩))
    go_ret2
    exact ⟨rfl, rfl⟩
  · rcases (show inE 2 10000 L = false ∨ inE 2 10000 L = true by cases inE 2 10000 L <;> simp) with i2 | i2
    · obtain rfl : E = 2 := by rw [← hE, i1, i2]; rfl
      have H1 := Lib.hid i1
      have H2 := Lib.hid i2
      clear i1 i2 hE hE0
      rw [if_neg (by decide)]
      go_enter Tryd.func18, Tryd.ntmps18
      go_wp2_with (first | (go_at_call 27; (with_reducible refine (bWithin _ _ _ _ H1.out).mono ?_); rintro e w' ⟨rfl, rfl⟩) | (go_at_call 27; (with_reducible refine (bWithin _ _ _ _ H2.out).mono ?_); rintro e w' ⟨rfl, rfl⟩))
      go_ret2
      exact ⟨rfl, rfl⟩
    · obtain rfl : E = 0 := by rw [← hE, i1, i2]; rfl
      have H1 := Lib.hid i1
      have H2 := Lib.hid i2
      obtain ⟨⟨a1, a2⟩, a3, a4⟩ := sq_facts hE0
      obtain ⟨⟨m1, m2⟩, ⟨m3, m4⟩, m5, m6⟩ := sq_bds a1 a2 a3 a4
      clear i1 i2 hE hE0
      rw [if_pos rfl]
      unfold sqV
      generalize hq : (L * c * c - 1000000) / (L - 1) = q at *
      have HFL := Lib.hid (fun W => bFloorN (L * c * c - 1000000) (L - 1) W (by omega) (by omega) (by omega) (by omega) hq)
      clear hq
      by_cases h0 : 0 < q
      · rw [if_pos h0]
        have d1 : decide ((0 : Int) < q) = true := by simpa using h0
        go_enter Tryd.func18, Tryd.ntmps18
        go_wp2_with (first | (go_at_call 27; (with_reducible refine (bWithin _ _ _ _ H1.out).mono ?_); rintro e w' ⟨rfl, rfl⟩) | (go_at_call 27; (with_reducible refine (bWithin _ _ _ _ H2.out).mono ?_); rintro e w' ⟨rfl, rfl⟩) | (go_at_call 53; (with_reducible refine (HFL.out _).mono ?_); rintro e w' ⟨rfl, rfl⟩))
        go_ret2
        exact ⟨by simp; omega, rfl⟩
      · rw [if_neg h0]
        have d1 : decide ((0 : Int) < q) = false := by simpa using h0
        go_enter Tryd.func18, Tryd.ntmps18
        go_wp2_with (first | (go_at_call 27; (with_reducible refine (bWithin _ _ _ _ H1.out).mono ?_); rintro e w' ⟨rfl, rfl⟩) | (go_at_call 27; (with_reducible refine (bWithin _ _ _ _ H2.out).mono ?_); rintro e w' ⟨rfl, rfl⟩) | (go_at_call 53; (with_reducible refine (HFL.out _).mono ?_); rintro e w' ⟨rfl, rfl⟩))
        go_ret2
        exact ⟨by simp; omega, rfl⟩
end Go.Proofs.YtfiioadmpjmmgaaDoor
