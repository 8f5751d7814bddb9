/- InPixel: the reference. -/
import Derived.Test.YtokpdmlmlkkekaaQ2
import Derived.Test.YtokpdmlmlkkekaaZR
namespace Go.Proofs.Ytokpdmlmlkkekaa
set_option linter.unusedVariables false
open Go.RowKit
/-- The bins tell what the slants tell. -/
theorem bin_le {t : Trk} {s n : Int} (h : 1 ≤ t.bin) : binP t s ≤ n ↔ s ≤ t.near + t.bin * n + t.bin - 1 := by
  unfold binP
  rw [floorP_pos h]
  have : (s - t.near) / t.bin < n + 1 ↔ s - t.near < (n + 1) * t.bin := Int.ediv_lt_iff_lt_mul (by omega)
  rw [Int.add_mul, Int.one_mul, Int.mul_comm n] at this
  omega
theorem le_bin {t : Trk} {s n : Int} (h : 1 ≤ t.bin) : n ≤ binP t s ↔ t.near + t.bin * n ≤ s := by
  unfold binP
  rw [floorP_pos h]
  have : n ≤ (s - t.near) / t.bin ↔ n * t.bin ≤ s - t.near := Int.le_ediv_iff_mul_le (by omega)
  rw [Int.mul_comm n] at this
  omega
theorem offLo_min {t : Trk} {a b : Int} (h : a ≤ b) : min (offP t a) (offP t b) = offLoP t a b := by
  unfold offLoP offP; cases t.east <;> simp <;> omega
theorem offHi_max {t : Trk} {a b : Int} (h : a ≤ b) : max (offP t a) (offP t b) = offHiP t a b := by
  unfold offHiP offP; cases t.east <;> simp <;> omega
/-- The answer as the reference finds it. -/
theorem inPixel_alt {t : Trk} {q : Pix} {b : Bx} (ht : 1 ≤ t.bin) (hs : s1P t q b ≤ s2P t q b) : inPixelP t q b =
    if offHiP t b.x1 b.x2 < 1 then 0
    else if !inR (l1P t b) (l2P t b) q.line || !inR (binP t (s1P t q b)) (binP t (s2P t q b)) q.bin then 0
    else if decide (1 ≤ offLoP t b.x1 b.x2) && (decide (l1P t b = l2P t b) && decide (binP t (s1P t q b) = binP t (s2P t q b))) then 2 else 1 := by
  unfold inPixelP
  have e1 := @bin_le t (s1P t q b) q.bin ht
  have e2 := @le_bin t (s2P t q b) q.bin ht
  have e3 := @le_bin t (s1P t q b) q.bin ht
  have e4 := @bin_le t (s2P t q b) q.bin ht
  have e5 : binP t (s1P t q b) ≤ binP t (s2P t q b) := by
    have := (@le_bin t (s1P t q b) (binP t (s1P t q b)) ht).1 (Int.le_refl _)
    exact (@le_bin t (s2P t q b) (binP t (s1P t q b)) ht).2 (by omega)
  generalize binP t (s1P t q b) = u at *
  generalize binP t (s2P t q b) = v at *
  generalize s1P t q b = s at *
  generalize s2P t q b = r at *
  generalize t.near + t.bin * q.bin = a at *
  split
  · rfl
  · by_cases g1 : inR (l1P t b) (l2P t b) q.line = true
    · rw [g1]
      have h1 : (decide (r < a) || decide (a + t.bin - 1 < s)) = !inR u v q.bin := by
        unfold inR
        rw [Bool.eq_iff_iff]; simp; omega
      rw [h1]
      by_cases g2 : inR u v q.bin = true
      · rw [g2]
        simp only [Bool.not_true, Bool.false_or, Bool.false_eq_true, if_false]
        have g3 := inR_iff.1 g2
        have h2 : (decide (a ≤ s) && decide (r ≤ a + t.bin - 1)) = decide (u = v) := by
          rw [Bool.eq_iff_iff]; simp; omega
        rw [h2]
      · rw [Bool.not_eq_true] at g2
        rw [g2]
        simp
    · rw [Bool.not_eq_true] at g1
      rw [g1]
      simp

theorem rootP_mono {a b : Int} (h0 : 0 ≤ a) (h : a ≤ b) (hb : b < 4611686018427387904) : rootP a ≤ rootP b := by
  obtain ⟨r0, r1, r2⟩ := rootP_spec a h0 (by omega)
  obtain ⟨s0, s1, s2⟩ := rootP_spec b (by omega) hb
  have : rootP a < rootP b + 1 := lt_of_sq_lt (by omega) (by omega)
  omega
theorem sq_mono {a b : Int} (h0 : 0 ≤ a) (h : a ≤ b) : a * a ≤ b * b := Int.mul_le_mul h h h0 (by omega)
theorem slants_le {t : Trk} {q : Pix} {b : Bx} (ot : t.Ok) (op : q.Ok t) (ob : b.Ok) (h0 : 1 ≤ offHiP t b.x1 b.x2) : s1P t q b ≤ s2P t q b := by
  obtain ⟨o1, o2, o3, o4, o5⟩ := offs_bd ot ob
  obtain ⟨-, -, -, -, -, -, d1, d2, d3, d4⟩ := box_bd ot op
  have e1 := sq_mono (a := max 1 (offLoP t b.x1 b.x2)) (b := offHiP t b.x1 b.x2) (by omega) (by omega)
  have e2 := sq_mono (a := depthP t q.hi) (b := depthP t q.lo) (by unfold depthP; have := op.top; omega) (by unfold depthP; have := op.ord; omega)
  obtain ⟨q1, q2⟩ := sq_bd (offHiP t b.x1 b.x2) 200000000 (by omega) (by omega)
  obtain ⟨q3, q4⟩ := sq_bd (max 1 (offLoP t b.x1 b.x2)) 200000000 (by omega) (by omega)
  unfold s1P s2P
  exact rootP_mono (by omega) (by omega) (by omega)
end Go.Proofs.Ytokpdmlmlkkekaa
