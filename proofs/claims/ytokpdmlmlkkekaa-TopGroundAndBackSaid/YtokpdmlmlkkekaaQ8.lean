/- There and back, plain. -/
import Derived.Test.YtokpdmlmlkkekaaQ5
namespace Go.Proofs.Ytokpdmlmlkkekaa
set_option linter.unusedVariables false
theorem pixelOfP_err {t : Trk} {x y z a b e : Int} (h : pixelOfP t x y z = (a, b, e)) (he : e ≠ 0) : a = 0 ∧ b = 0 := by
  unfold pixelOfP at h
  split at h
  · split at h
    · simp only [Prod.mk.injEq] at h; omega
    · split at h
      · simp only [Prod.mk.injEq] at h; omega
      · split at h
        · simp only [Prod.mk.injEq] at h; omega
        · simp only [Prod.mk.injEq] at h; omega
  · simp only [Prod.mk.injEq] at h; omega
/-- What a place with a pixel is. -/
structure Seen (t : Trk) (x y z a b : Int) : Prop where
  trk : checkTrackP t = 0
  plc : placeB x y z = true
  off : 1 ≤ offP t x
  deep : 1 ≤ depthP t z
  line : lineP t y = a
  bin : binP t (rootP (squareP t x z)) = b
  a1 : 0 ≤ a
  a2 : a ≤ t.lines - 1
  b1 : 0 ≤ b
  b2 : b ≤ t.bins - 1
theorem pixelOfP_ok {t : Trk} {x y z a b : Int} (h : pixelOfP t x y z = (a, b, 0)) : Seen t x y z a b := by
  unfold pixelOfP at h
  split at h
  · rename_i hs
    have hs' := hs
    unfold seenP first2 at hs'
    have ht : checkTrackP t = 0 := by
      split at hs'
      · assumption
      · contradiction
    split at h
    · simp only [Prod.mk.injEq] at h; omega
    · split at h
      · simp only [Prod.mk.injEq] at h; omega
      · split at h
        · rename_i h1 h2 h3
          simp only [Prod.mk.injEq, and_true] at h
          rw [Bool.and_eq_true, inR_iff, inR_iff] at h3
          obtain ⟨e1, e2⟩ := h
          subst e1 e2
          exact ⟨ht, (seenP_ok hs).2, by omega, by omega, rfl, rfl, h3.1.1, h3.1.2, h3.2.1, h3.2.2⟩
        · simp only [Prod.mk.injEq] at h; omega
  · simp only [Prod.mk.injEq] at h
    rename_i hs
    exact absurd h.2.2 hs
theorem rootUpP_le {m o : Int} (h0 : 0 ≤ o) (h1 : 0 ≤ m) (h : m ≤ o * o) (hm : m < 4611686018427387904) : rootUpP m ≤ o := by
  obtain ⟨r0, r1, r2⟩ := rootP_spec m h1 hm
  unfold rootUpP
  split
  · have : rootP m < o := lt_of_sq_lt h0 (by omega)
    omega
  · exact le_of_sq_le h0 (by omega)
theorem le_rootP {m o : Int} (h0 : 0 ≤ o) (h : o * o ≤ m) (hm : m < 4611686018427387904) : o ≤ rootP m := by
  obtain ⟨r0, r1, r2⟩ := rootP_spec m (by have := Int.mul_nonneg h0 h0; omega) hm
  have : o < rootP m + 1 := lt_of_sq_lt (by omega) (by omega)
  omega
theorem row_of {t : Trk} {y a : Int} (o : t.Ok) (h : lineP t y = a) : (rowsP t a).1 ≤ y ∧ y ≤ (rowsP t a).2 := by
  unfold lineP floorP at h
  unfold rowsP
  have h0 := o.st0
  by_cases hs : t.step < 0
  · rw [if_pos hs] at h ⊢
    have h1 := (Int.le_ediv_iff_mul_le (a := a) (b := -(y - t.sy)) (c := -t.step) (by omega)).1 (by omega)
    have h2 := (Int.ediv_lt_iff_lt_mul (a := -(y - t.sy)) (b := a + 1) (c := -t.step) (by omega)).1 (by omega)
    rw [Int.mul_neg] at h1 h2
    simp only
    omega
  · rw [if_neg hs] at h ⊢
    have h1 := (Int.le_ediv_iff_mul_le (a := a) (b := y - t.sy) (c := t.step) (by omega)).1 (by omega)
    have h2 := (Int.ediv_lt_iff_lt_mul (a := y - t.sy) (b := a + 1) (c := t.step) (by omega)).1 (by omega)
    simp only
    omega
/-- The box of a pixel has each place with this pixel. -/
theorem back {t : Trk} {x y z : Int} {q : Pix} (s : Seen t x y z q.line q.bin) (hp : checkPixelP t q = 0) (h1 : q.lo ≤ z) (h2 : z ≤ q.hi) :
    ∃ a b c d, boxOfP t q = ⟨a, b, c, d, 0⟩ ∧ a ≤ x ∧ x ≤ b ∧ c ≤ y ∧ y ≤ d := by
  have ot := checkTrackP_ok s.trk
  have op := checkPixelP_ok hp
  obtain ⟨m1, m2, m3, m4, m5, m6, d1, d2, d3, d4⟩ := box_bd ot op
  have hpl := placeB_iff.1 s.plc
  have htop := op.top
  have hoff := s.off
  have hdeep := s.deep
  obtain ⟨c1, c2⟩ := squareP_bd t x z ot.sx1 ot.sx2 ot.sz1 ot.sz2 (by omega) (by omega) (by omega) (by omega)
  obtain ⟨r0, r1, r2⟩ := rootP_spec (squareP t x z) c1 (by omega)
  have g1 := (@le_bin t (rootP (squareP t x z)) q.bin ot.bi1).1 (by have := s.bin; omega)
  have g2 := (@bin_le t (rootP (squareP t x z)) q.bin ot.bi1).1 (by have := s.bin; omega)
  have hn := ot.ne1
  have e1 := sq_mono (a := t.near + t.bin * q.bin) (b := rootP (squareP t x z)) (by omega) g1
  have e2 := sq_mono (a := rootP (squareP t x z) + 1) (b := t.near + t.bin * q.bin + t.bin) (by omega) (by omega)
  have e3 := sq_mono (a := depthP t q.hi) (b := depthP t z) (by unfold depthP; omega) (by unfold depthP; omega)
  have e4 := sq_mono (a := depthP t z) (b := depthP t q.lo) (by omega) (by unfold depthP; omega)
  have e5 : squareP t x z = offP t x * offP t x + depthP t z * depthP t z := rfl
  have e6 := sq_mono (a := 1) (b := offP t x) (by omega) hoff
  have hm : mostP t q = (t.near + t.bin * q.bin + t.bin) * (t.near + t.bin * q.bin + t.bin) - 1 - depthP t q.hi * depthP t q.hi := rfl
  have hl : leastP t q = (t.near + t.bin * q.bin) * (t.near + t.bin * q.bin) - depthP t q.lo * depthP t q.lo := rfl
  have k1 : offP t x ≤ rootP (mostP t q) := le_rootP (by omega) (by omega) (by omega)
  have k2 : rootUpP (max 1 (leastP t q)) ≤ offP t x := rootUpP_le (by omega) (by omega) (by omega) (by omega)
  obtain ⟨w1, w2⟩ := row_of ot s.line
  refine ⟨_, _, _, _, by unfold boxOfP; rw [if_pos s.trk, if_pos hp, if_neg (by omega), if_neg (by omega)], ?_, ?_, w1, w2⟩
  · unfold columnsP
    unfold offP at k1 k2
    cases he : t.east <;> simp [he] at k1 k2 ⊢ <;> omega
  · unfold columnsP
    unfold offP at k1 k2
    cases he : t.east <;> simp [he] at k1 k2 ⊢ <;> omega
end Go.Proofs.Ytokpdmlmlkkekaa
