/- InPixel, plain: what its answers tell of the places of a box. -/
import Derived.Test.YtokpdmlmlkkekaaQ3
namespace Go.Proofs.Ytokpdmlmlkkekaa
set_option linter.unusedVariables false
theorem lineP_between {t : Trk} {y1 y y2 : Int} (o : t.Ok) (h1 : y1 ≤ y) (h2 : y ≤ y2) : min (lineP t y1) (lineP t y2) ≤ lineP t y ∧ lineP t y ≤ max (lineP t y1) (lineP t y2) := by
  unfold lineP floorP
  by_cases hs : t.step < 0
  · simp only [if_pos hs]
    have a := Int.ediv_le_ediv (c := -t.step) (by omega) (show -(y - t.sy) ≤ -(y1 - t.sy) by omega)
    have b := Int.ediv_le_ediv (c := -t.step) (by omega) (show -(y2 - t.sy) ≤ -(y - t.sy) by omega)
    omega
  · simp only [if_neg hs]
    have h0 := o.st0
    have a := Int.ediv_le_ediv (c := t.step) (by omega) (show y1 - t.sy ≤ y - t.sy by omega)
    have b := Int.ediv_le_ediv (c := t.step) (by omega) (show y - t.sy ≤ y2 - t.sy by omega)
    omega
theorem off_between {t : Trk} {x1 x x2 : Int} (h1 : x1 ≤ x) (h2 : x ≤ x2) : offLoP t x1 x2 ≤ offP t x ∧ offP t x ≤ offHiP t x1 x2 := by
  unfold offLoP offHiP offP; cases t.east <;> simp <;> omega
/-- The slant of a place of the box, with a height of the pixel, lies between the box's two. -/
theorem slant_between {t : Trk} {q : Pix} {b : Bx} {x z : Int} (ot : t.Ok) (op : q.Ok t) (ob : b.Ok) (h1 : b.x1 ≤ x) (h2 : x ≤ b.x2) (h3 : q.lo ≤ z) (h4 : z ≤ q.hi) (h0 : 1 ≤ offP t x) :
    s1P t q b ≤ rootP (squareP t x z) ∧ rootP (squareP t x z) ≤ s2P t q b := by
  obtain ⟨o1, o2, o3, o4, o5⟩ := offs_bd ot ob
  obtain ⟨-, -, -, -, -, -, d1, d2, d3, d4⟩ := box_bd ot op
  obtain ⟨f1, f2⟩ := @off_between t b.x1 x b.x2 h1 h2
  have := op.top
  have e1 := sq_mono (a := max 1 (offLoP t b.x1 b.x2)) (b := offP t x) (by omega) (by omega)
  have e2 := sq_mono (a := offP t x) (b := offHiP t b.x1 b.x2) (by omega) (by omega)
  have e3 := sq_mono (a := depthP t q.hi) (b := depthP t z) (by unfold depthP; omega) (by unfold depthP; omega)
  have e4 := sq_mono (a := depthP t z) (b := depthP t q.lo) (by unfold depthP; omega) (by unfold depthP; omega)
  obtain ⟨q1, q2⟩ := sq_bd (offHiP t b.x1 b.x2) 200000000 (by omega) (by omega)
  obtain ⟨q3, q4⟩ := sq_bd (max 1 (offLoP t b.x1 b.x2)) 200000000 (by omega) (by omega)
  unfold s1P s2P squareP
  exact ⟨rootP_mono (by omega) (by omega) (by omega), rootP_mono (by omega) (by omega) (by omega)⟩
theorem placeB_of {t : Trk} {q : Pix} {b : Bx} {x y z : Int} (op : q.Ok t) (ob : b.Ok) (h1 : b.x1 ≤ x) (h2 : x ≤ b.x2) (h3 : b.y1 ≤ y) (h4 : y ≤ b.y2) (h5 : q.lo ≤ z) (h6 : z ≤ q.hi) : placeB x y z = true := by
  have := ob.x1a; have := ob.x2b; have := ob.y1a; have := ob.y2b; have := op.lo1; have := op.hi2
  rw [placeB_iff]; omega
theorem seen_zero {t : Trk} {x y z : Int} (ht : checkTrackP t = 0) (hp : placeB x y z = true) : seenP t x y z = 0 := by
  unfold seenP first2 checkPlaceP; rw [ht, hp]; rfl
/-- Yes: each place of the box has this pixel. -/
theorem yes_own {t : Trk} {q : Pix} {b : Bx} {x y z : Int} (ht : checkTrackP t = 0) (op : q.Ok t) (ob : b.Ok) (h1 : b.x1 ≤ x) (h2 : x ≤ b.x2) (h3 : b.y1 ≤ y) (h4 : y ≤ b.y2) (h5 : q.lo ≤ z) (h6 : z ≤ q.hi)
    (hn : inPixelP t q b = 2) : pixelOfP t x y z = (q.line, q.bin, 0) := by
  have ot := checkTrackP_ok ht
  obtain ⟨f1, f2⟩ := @off_between t b.x1 x b.x2 h1 h2
  obtain ⟨l1, l2⟩ := lineP_between ot h3 h4
  have hL1 : l1P t b = min (lineP t b.y1) (lineP t b.y2) := rfl
  have hL2 : l2P t b = max (lineP t b.y1) (lineP t b.y2) := rfl
  unfold inPixelP at hn
  split at hn
  · omega
  · split at hn
    · omega
    · rename_i hA
      split at hn
      · rename_i hB
        simp only [Bool.or_eq_true, Bool.not_eq_true', decide_eq_true_eq, not_or] at hA
        simp only [Bool.and_eq_true, decide_eq_true_eq] at hB
        obtain ⟨a1, a2, a3⟩ := hA
        obtain ⟨b1, b2, b3, b4⟩ := hB
        have a1' := inR_iff.1 (by simpa using a1)
        obtain ⟨s1, s2⟩ := slant_between ot op ob h1 h2 h5 h6 (show 1 ≤ offP t x by omega)
        have e1 : q.bin ≤ binP t (rootP (squareP t x z)) := (le_bin ot.bi1).2 (by omega)
        have e2 : binP t (rootP (squareP t x z)) ≤ q.bin := (bin_le ot.bi1).2 (by omega)
        have e3 : lineP t y = q.line := by omega
        have e4 : binP t (rootP (squareP t x z)) = q.bin := by omega
        unfold pixelOfP
        rw [if_pos (seen_zero ht (placeB_of op ob h1 h2 h3 h4 h5 h6)), if_neg (by omega), if_neg (by have := op.top; unfold depthP; omega), e3, e4,
          if_pos (by rw [Bool.and_eq_true, inR_iff, inR_iff]; exact ⟨⟨op.l1, op.l2⟩, op.b1, op.b2⟩)]
      · omega
/-- A place of the box with this pixel: not No. -/
theorem own_not_no {t : Trk} {q : Pix} {b : Bx} {x y z : Int} (ht : checkTrackP t = 0) (op : q.Ok t) (ob : b.Ok) (h1 : b.x1 ≤ x) (h2 : x ≤ b.x2) (h3 : b.y1 ≤ y) (h4 : y ≤ b.y2) (h5 : q.lo ≤ z) (h6 : z ≤ q.hi)
    (hp : pixelOfP t x y z = (q.line, q.bin, 0)) : inPixelP t q b ≠ 0 := by
  have ot := checkTrackP_ok ht
  obtain ⟨f1, f2⟩ := @off_between t b.x1 x b.x2 h1 h2
  obtain ⟨l1, l2⟩ := lineP_between ot h3 h4
  have hL1 : l1P t b = min (lineP t b.y1) (lineP t b.y2) := rfl
  have hL2 : l2P t b = max (lineP t b.y1) (lineP t b.y2) := rfl
  unfold pixelOfP at hp
  rw [if_pos (seen_zero ht (placeB_of op ob h1 h2 h3 h4 h5 h6))] at hp
  split at hp
  · simp only [Prod.mk.injEq] at hp; omega
  · split at hp
    · simp only [Prod.mk.injEq] at hp; omega
    · split at hp
      · simp only [Prod.mk.injEq, and_true] at hp
        obtain ⟨e1, e2⟩ := hp
        obtain ⟨s1, s2⟩ := slant_between ot op ob h1 h2 h5 h6 (show 1 ≤ offP t x by omega)
        have g1 := (@le_bin t (rootP (squareP t x z)) q.bin ot.bi1).1 (by omega)
        have g2 := (@bin_le t (rootP (squareP t x z)) q.bin ot.bi1).1 (by omega)
        unfold inPixelP
        rw [if_neg (by omega), if_neg]
        · split <;> decide
        · simp only [Bool.or_eq_true, Bool.not_eq_true', decide_eq_true_eq, not_or]
          refine ⟨?_, by omega, by omega⟩
          rw [Bool.not_eq_false, inR_iff]; omega
      · simp only [Prod.mk.injEq] at hp; omega
theorem insideP_bd2 {lo hi n : Int} (h : lo ≤ hi) : lo ≤ insideP lo hi n ∧ insideP lo hi n ≤ hi := by
  have hm1 := Int.emod_nonneg n (show hi - lo + 1 ≠ 0 by omega)
  have hm2 := Int.emod_lt_of_pos n (show 0 < hi - lo + 1 by omega)
  unfold insideP; omega
theorem inPixelP_range (t : Trk) (q : Pix) (b : Bx) : inPixelP t q b = 0 ∨ inPixelP t q b = 1 ∨ inPixelP t q b = 2 := by
  unfold inPixelP
  split
  · exact Or.inl rfl
  · split
    · exact Or.inl rfl
    · split
      · exact Or.inr (Or.inr rfl)
      · exact Or.inr (Or.inl rfl)
end Go.Proofs.Ytokpdmlmlkkekaa
