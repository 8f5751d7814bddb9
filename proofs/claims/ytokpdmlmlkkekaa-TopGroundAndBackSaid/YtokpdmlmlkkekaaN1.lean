/- Shadows, in plain Lean: what the nearest cell that hides another one is; what a raised cell does. -/
import Derived.Test.YtokpdmlmlkkekaaM5
namespace Go.Proofs.Ytokpdmlmlkkekaa
set_option linter.unusedVariables false
open Go.RowKit
theorem hides_iff {a b c d : Int} : hidesP a b c d = true ↔ a < c ∧ c * b ≤ a * d := by unfold hidesP; simp
theorem hides_raise {a b c d b' : Int} (h : hidesP a b c d = true) (hb : b' ≤ b) (hc : 0 ≤ c) : hidesP a b' c d = true := by
  obtain ⟨h1, h2⟩ := hides_iff.1 h
  exact hides_iff.2 ⟨h1, Int.le_trans (Int.mul_le_mul_of_nonneg_left hb hc) h2⟩
theorem best_hides {t : Trk} {r : Rel} {fi : Nat → Int} {row k : Int} : ∀ {n : Nat}, 0 ≤ bestP t r fi row k n → ∃ j : Nat, bestP t r fi row k n = j ∧ j < n ∧ hidesP (soP t r j) (sdP t r fi row j) (soP t r k) (sdP t r fi row k) = true
  | 0, h => by unfold bestP at h; omega
  | n + 1, h => by
    unfold bestP at h ⊢
    split at h
    · rename_i h1
      exact ⟨n, by rw [if_pos h1], by omega, h1.1⟩
    · rename_i h1
      obtain ⟨j, h2, h3, h4⟩ := best_hides h
      exact ⟨j, by rw [if_neg h1]; exact h2, by omega, h4⟩
theorem best_none {t : Trk} {r : Rel} {fi : Nat → Int} {row k : Int} : ∀ {n : Nat}, bestP t r fi row k n < 0 → ∀ j : Nat, j < n → hidesP (soP t r j) (sdP t r fi row j) (soP t r k) (sdP t r fi row k) = false
  | 0, _, j, hj => by omega
  | n + 1, h, j, hj => by
    by_cases h1 : hidesP (soP t r n) (sdP t r fi row n) (soP t r k) (sdP t r fi row k) = true ∧ (bestP t r fi row k n < 0 ∨ soP t r n < soP t r (bestP t r fi row k n))
    · rw [bestP, if_pos h1] at h; omega
    · rw [bestP, if_neg h1] at h
      by_cases e : j = n
      · subst e
        cases hh : hidesP (soP t r j) (sdP t r fi row j) (soP t r k) (sdP t r fi row k)
        · rfl
        · exact absurd ⟨hh, Or.inl h⟩ h1
      · exact best_none h j (by omega)
theorem anyShadow_iff {t : Trk} {r : Rel} {fi : Nat → Int} {row : Int} {k n : Nat} : anyShadow t r fi row k n = true ↔ ∃ j : Nat, j < n ∧ hidesP (soP t r j) (sdP t r fi row j) (soP t r k) (sdP t r fi row k) = true := by
  unfold anyShadow
  simp [List.any_eq_true]
theorem best_shadow {t : Trk} {r : Rel} {fi : Nat → Int} {row : Int} {k n : Nat} : 0 ≤ bestP t r fi row k n ↔ anyShadow t r fi row k n = true := by
  rw [anyShadow_iff]
  constructor
  · intro h
    obtain ⟨j, -, h2, h3⟩ := best_hides h
    exact ⟨j, h2, h3⟩
  · rintro ⟨j, h2, h3⟩
    by_cases h : 0 ≤ bestP t r fi row k n
    · exact h
    · have := best_none (Int.lt_of_not_ge h) j h2
      rw [this] at h3
      cases h3
theorem px_mono {r : Rel} (o : r.Ok) {j k : Int} (h : j ≤ k) : pxP r j ≤ pxP r k := by
  have := Int.mul_le_mul_of_nonneg_right h (show 0 ≤ r.cell by have := o.c1; omega)
  unfold pxP; omega
theorem so_east {t : Trk} {r : Rel} (o : r.Ok) (he : t.east = true) {j k : Int} (h : soP t r j < soP t r k) : j < k := by
  refine Int.lt_of_not_ge fun hk => ?_
  have := px_mono o hk
  unfold soP offP at h
  rw [if_pos he, if_pos he] at h
  omega
theorem so_west {t : Trk} {r : Rel} (o : r.Ok) (he : t.east = false) {j k : Int} (h : soP t r j < soP t r k) : k < j := by
  refine Int.lt_of_not_ge fun hk => ?_
  have := px_mono o hk
  unfold soP offP at h
  rw [if_neg (by rw [he]; simp), if_neg (by rw [he]; simp)] at h
  omega
theorem kindB_two (o s : Bool) : (2 ≤ kindB o s) = (s = true) := by cases o <;> cases s <;> simp [kindB]
theorem kindB_shadow (o s : Bool) : (kindB o s == 2 || kindB o s == 3) = s := by cases o <;> cases s <;> rfl
theorem kindB_bd (o s : Bool) : 0 ≤ kindB o s ∧ kindB o s ≤ 3 := by cases o <;> cases s <;> decide
/-- A relief with other floats. -/
def reData (r : Rel) (ds : List Nat) : Rel := { r with ds := ds }
theorem idx_ne {r : Rel} (o : r.Ok) {row j k : Int} (a1 : 0 ≤ row) (a2 : row < r.rows) (b1 : 0 ≤ j) (b2 : j < r.cols) (c1 : 0 ≤ k) (c2 : k < r.cols) (h : j ≠ k) : idxP r row j ≠ idxP r row k := by
  obtain ⟨h1, -, -, -⟩ := idx_lt o a1 a2 b1 b2
  obtain ⟨h2, -, -, -⟩ := idx_lt o a1 a2 c1 c2
  intro e
  rw [e] at h1
  omega
theorem bitAt_set {ds : List Nat} {i j v : Nat} (hi : i < ds.length) : bitAt (ds.set i v) j = if j = i then v else bitAt ds j := by
  unfold bitAt
  by_cases e : j = i
  · subst e; rw [if_pos rfl, List.getElem?_set_self hi]; rfl
  · rw [if_neg e, List.getElem?_set_ne (Ne.symm e)]
theorem sd_raise {t : Trk} {r : Rel} {fi : Nat → Int} (o : r.Ok) {row c j : Int} {v : Nat} (a1 : 0 ≤ row) (a2 : row < r.rows) (b1 : 0 ≤ c) (b2 : c < r.cols) (c1 : 0 ≤ j) (c2 : j < r.cols) (hv : fi (bitAt r.ds (idxP r row c)) ≤ fi v) :
    sdP t (reData r (r.ds.set (idxP r row c) v)) fi row j ≤ sdP t r fi row j ∧ (j ≠ c → sdP t (reData r (r.ds.set (idxP r row c) v)) fi row j = sdP t r fi row j) := by
  obtain ⟨-, -, -, hl⟩ := idx_lt o a1 a2 b1 b2
  have he : sdP t (reData r (r.ds.set (idxP r row c) v)) fi row j = depthP t (fi (if idxP r row j = idxP r row c then v else bitAt r.ds (idxP r row j))) := by
    unfold sdP
    rw [← bitAt_set hl]
    rfl
  by_cases e : j = c
  · subst e
    refine ⟨?_, fun h => absurd rfl h⟩
    rw [he, if_pos rfl]
    unfold sdP depthP
    omega
  · rw [he, if_neg (idx_ne o a1 a2 c1 c2 b1 b2 e)]
    exact ⟨Int.le_refl _, fun _ => rfl⟩
/-- A cell behind a raised one does not come out of shadow. -/
theorem shadow_raise {t : Trk} {r : Rel} {fi : Nat → Int} (o : r.Ok) {row c : Int} {v k n : Nat} (a1 : 0 ≤ row) (a2 : row < r.rows) (b1 : 0 ≤ c) (b2 : c < r.cols) (hk : (k : Int) < r.cols) (hn : (n : Int) ≤ r.cols) (hkc : (k : Int) ≠ c) (hv : fi (bitAt r.ds (idxP r row c)) ≤ fi v)
    (ho : 0 ≤ soP t r k) (h : anyShadow t r fi row k n = true) : anyShadow t (reData r (r.ds.set (idxP r row c) v)) fi row k n = true := by
  obtain ⟨j, hj, hh⟩ := anyShadow_iff.1 h
  refine anyShadow_iff.2 ⟨j, hj, ?_⟩
  have h1 := (sd_raise (t := t) (j := j) o a1 a2 b1 b2 (Int.natCast_nonneg j) (by omega) hv).1
  have h2 := (sd_raise (t := t) (j := k) o a1 a2 b1 b2 (Int.natCast_nonneg k) hk hv).2 hkc
  rw [h2]
  exact hides_raise hh h1 ho
end Go.Proofs.Ytokpdmlmlkkekaa
