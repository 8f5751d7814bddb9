/- Chapters 1 and 4, plain: the interferogram with the image shifted by a line, looked down to one number. -/
import Derived.Test.YtcmjlfhnibjofaaX97
namespace Go.Proofs.Ytcmjlfhnibjofaa
set_option linter.unusedVariables false
set_option linter.unusedSimpArgs false
open Go.RowKit Ieee Ntt
theorem sh_gE {f : Nat → Nat × Nat} {L S n : Nat} (hn : n = L * S) (hS : 1 ≤ S) (hL : L ≤ 64) (hX : SmallS n f (xB f) (yB f) 2047) {i : Nat} (hi : i < n) : gE (shB f L S 1 0) 2047 i = 0 := by
  have e := sh_row (f := f) hn hS hL hi
  obtain ⟨u, v, huv, hu, hv⟩ : ∃ u v : Int, shB f L S 1 0 i = smpI u v ∧ (-2047 ≤ u ∧ u ≤ 2047) ∧ -2047 ≤ v ∧ v ≤ 2047 := by
    unfold shB
    rw [e]
    rcases (show i < S ∨ S ≤ i by omega) with c | c
    · rw [if_pos c]
      exact ⟨0, 0, rfl, by omega, by omega⟩
    · rw [if_neg (by omega)]
      obtain ⟨-, b1, b2⟩ := hX (i - S) (by omega)
      exact ⟨_, _, rfl, b1, b2⟩
  obtain ⟨p1, p2⟩ := intB_of (num_nearest (n := u) (by omega))
  obtain ⟨p3, p4⟩ := intB_of (num_nearest (n := v) (by omega))
  unfold gE partE
  rw [huv, show (smpI u v).1 = floatOfInt .f32 u from rfl, show (smpI u v).2 = floatOfInt .f32 v from rfl, p1, p2, p3, p4, if_pos (show (true && true) = true from rfl), inE_iff.2 hu, inE_iff.2 hv]
  rfl
theorem sh_img {f : Nat → Nat × Nat} {L S n : Nat} (hn : n = L * S) (he : (imgE L S n f).2 = 0) : (imgE L S n (shB f L S 1 0)).2 = 0 := by
  obtain ⟨s1, g1⟩ := imgE_zero he
  obtain ⟨⟨l1, l2⟩, ⟨l3, l4⟩, -⟩ := sizeE_okU s1
  have hX : SmallS n f (xB f) (yB f) 2047 := smallS_of (by decide) g1
  unfold imgE
  rw [if_pos s1, firstE_ok]
  intro k hk
  exact sh_gE hn (by omega) (by omega) hX hk
theorem pair_sh {f : Nat → Nat × Nat} {L S n : Nat} (hn : n = L * S) (he : (imgE L S n f).2 = 0) : pairE L S n f L S n (shB f L S 1 0) = 0 := by
  have h2 := sh_img hn he
  unfold pairE
  rw [he, h2]
  simp [first2]
theorem pair_fld {f g : Nat → Nat × Nat} {L S : Int} {n : Nat} (h : pairE L S n f L S n g = 0) : (fldE L S n (ifB f g)).2 = 0 := by
  obtain ⟨e1, e2, -, -⟩ := pairE_zero h
  obtain ⟨s1, g1⟩ := imgE_zero e1
  obtain ⟨s2, g2⟩ := imgE_zero e2
  have hX : SmallS n f (xB f) (yB f) 2047 := smallS_of (by decide) g1
  have hU : SmallS n g (xB g) (yB g) 2047 := smallS_of (by decide) g2
  unfold fldE
  rw [if_pos s1, firstE_ok]
  intro k hk
  obtain ⟨b1, b2⟩ := intfF_bd (hX k hk).2 (hU k hk).2
  unfold gD ifB nmF
  dsimp only
  rw [partD_f64 _ _ _ (by omega) (by omega), inE_iff.2 (by omega), inE_iff.2 (by omega)]
  rfl
/-- The sum of neighbouring lines. -/
def nbR (f : Nat → Nat × Nat) (S n : Nat) : Int := psR (xB f) (yB f) S (n - S)
def nbI (f : Nat → Nat × Nat) (S n : Nat) : Int := psI (xB f) (yB f) S (n - S)
theorem lkL_one {L : Nat} (h : 1 ≤ L) : lkL (L : Int) (L : Int) = 1 := Nat.div_self (show 0 < (L : Int).toNat by simp; omega)
theorem lk_val {f : Nat → Nat × Nat} {L S n : Nat} (hn : n = L * S) (he : (imgE L S n f).2 = 0) : lkF (ifB f (shB f L S 1 0)) S L S 0 = (nbR f S n, nbI f S n) := by
  obtain ⟨s1, g1⟩ := imgE_zero he
  obtain ⟨s2, g2⟩ := imgE_zero (sh_img hn he)
  obtain ⟨⟨l1, l2⟩, ⟨l3, l4⟩, -⟩ := sizeE_okU s1
  have hX : SmallS n f (xB f) (yB f) 2047 := smallS_of (by decide) g1
  have hU : SmallS n (shB f L S 1 0) (xB (shB f L S 1 0)) (yB (shB f L S 1 0)) 2047 := smallS_of (by decide) g2
  obtain ⟨e1, e2⟩ := sum_shift (f := f) hn (by omega) (by omega) (by omega) hX hU
  rw [lk_whole (by omega), ← hn, e1, e2]
  rfl
theorem lk_err {f : Nat → Nat × Nat} {L S n : Nat} (hn : n = L * S) (he : (imgE L S n f).2 = 0) : lkE L S n (ifB f (shB f L S 1 0)) L S = if largeB (nbR f S n, nbI f S n) = true then 8 else 0 := by
  obtain ⟨s1, -⟩ := imgE_zero he
  obtain ⟨⟨l1, l2⟩, ⟨l3, l4⟩, -⟩ := sizeE_okU s1
  unfold lkE
  rw [if_pos (pair_fld (pair_sh hn he)), if_pos (by rw [Bool.and_eq_true]; exact ⟨inE_iff.2 (by omega), inE_iff.2 (by omega)⟩), lkL_one (by omega), lkL_one (by omega)]
  congr 1
  unfold anyL
  simp [lk_val hn he]
theorem one_fld {x y : Int} (h : largeB (x, y) = false) {F : Nat → Int × Int} (hF : F 0 = (x, y)) : (fldE 1 1 1 (nmF F)).2 = 0 ∧ xD (nmF F) 0 = x ∧ yD (nmF F) 0 = y := by
  have hs := anyL_off (n := 1) (F := F) (anyL_no fun j hj => by obtain rfl : j = 0 := (by omega); rw [hF]; exact h) 0 (by decide)
  rw [hF] at hs
  obtain ⟨⟨p1, p2⟩, p3, p4⟩ := hs
  refine ⟨?_, ?_, ?_⟩
  · unfold fldE
    rw [if_pos (by decide), firstE_ok]
    intro k hk
    obtain rfl : k = 0 := by omega
    unfold gD nmF
    rw [hF]
    dsimp only at p1 p2 p3 p4 ⊢
    rw [partD_f64 _ _ _ (by omega) (by omega), inE_iff.2 (by omega), inE_iff.2 (by omega)]
    rfl
  · unfold xD nmF
    rw [hF]
    exact intD_f64I (by dsimp only at p1 p2 ⊢; omega)
  · unfold yD nmF
    rw [hF]
    exact intD_f64I (by dsimp only at p3 p4 ⊢; omega)
theorem nb_small {f : Nat → Nat × Nat} {L S n : Nat} (hn : n = L * S) (he : (imgE L S n f).2 = 0) : (-40000000000 ≤ nbR f S n ∧ nbR f S n ≤ 40000000000) ∧ -40000000000 ≤ nbI f S n ∧ nbI f S n ≤ 40000000000 := by
  obtain ⟨s1, g1⟩ := imgE_zero he
  obtain ⟨⟨l1, l2⟩, ⟨l3, l4⟩, -⟩ := sizeE_okU s1
  have h1 : S ≤ n := by rw [hn]; exact Nat.le_mul_of_pos_left _ (by omega)
  have h2 : n ≤ 4096 := by rw [hn]; exact Nat.mul_le_mul (show L ≤ 64 by omega) (show S ≤ 64 by omega)
  exact ps_bd (smallS_of (by decide) g1) (by omega) h2
end Go.Proofs.Ytcmjlfhnibjofaa
