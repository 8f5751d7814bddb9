/- A flat relief: every height as the first. -/
import Derived.Test.YthnfepfbkmafaaaC10
namespace Go.Proofs.Ythnfepfbkmafaaa
set_option linter.unusedVariables false
open Go.RowKit
def flatR (r : Rel) : Rel := reData r (List.replicate r.ds.length (bitAt r.ds 0))
theorem flat_len (r : Rel) : (flatR r).ds.length = r.ds.length := by simp [flatR, reData]
theorem flatR_at (r : Rel) {k : Nat} (hk : k < r.ds.length) : bitAt (flatR r).ds k = bitAt r.ds 0 := by
  simp [flatR, reData, bitAt, hk]
theorem flat_relErr {r : Rel} (h : relErrP feB r = 0) : relErrP feB (flatR r) = 0 := by
  obtain ⟨o, hz⟩ := relErrP_ok h
  unfold relErrP at h ⊢
  have e1 : relPlaceB (flatR r) = relPlaceB r := rfl
  have e2 : relSizeB (flatR r) = relSizeB r := by unfold relSizeB; rw [flat_len]; rfl
  rw [e1, e2]
  split at h
  · rename_i k1
    split at h
    · rename_i k2
      rw [if_pos k1, if_pos k2, flat_len]
      refine scan_zero _ 0 fun j _ hj => ?_
      rw [flatR_at r (by omega)]
      exact hz 0 (by omega)
    · exact absurd h (by decide)
  · exact absurd h (by decide)
theorem flat_idx {r : Rel} (o : r.Ok) {i j : Int} (a1 : 0 ≤ i) (a2 : i < r.rows) (b1 : 0 ≤ j) (b2 : j < r.cols) : bitAt (flatR r).ds (idxP (flatR r) i j) = bitAt r.ds 0 := by
  obtain ⟨-, -, -, hlt⟩ := idx_lt o a1 a2 b1 b2
  exact flatR_at r hlt
theorem flat_deep {t : Trk} {r : Rel} (o : r.Ok) (hd : deepUpto t r intB r.ds.length = true) : 1 ≤ depthP t (intB (bitAt r.ds 0)) := by
  have hp : 0 < r.ds.length := by
    obtain ⟨_, _, _, h⟩ := idx_lt o (Int.le_refl 0) (show (0 : Int) < r.rows by have := o.r1; omega) (Int.le_refl 0) (show (0 : Int) < r.cols by have := o.l1; omega)
    omega
  have h := (List.all_eq_true.1 hd) 0 (List.mem_range.2 hp)
  have h2 : 1 ≤ depK t r intB 0 := of_decide_eq_true h
  unfold depK sdP idxP at h2
  simpa using h2
theorem flat_view {t : Trk} {r : Rel} (h : viewErrP feB intB t r = 0) : viewErrP feB intB t (flatR r) = 0 := by
  obtain ⟨h1, h2, h3, h4⟩ := viewErrP_ok h
  have o := (relErrP_ok h2).1
  have hb : ¬ BadOff t (flatR r) := fun ⟨k, hk, ho⟩ => h3 ⟨k, by rw [flat_len] at hk; exact hk, ho⟩
  have hd : deepUpto t (flatR r) intB (flatR r).ds.length = true := by
    unfold deepUpto
    rw [flat_len]
    refine List.all_eq_true.2 fun k hk => decide_eq_true ?_
    have hk := List.mem_range.1 hk
    have hc1 := o.l1
    have hr1 := o.r1
    obtain ⟨nr, hnr⟩ : ∃ nr : Nat, r.rows = nr := ⟨r.rows.toNat, by omega⟩
    obtain ⟨nc, hnc⟩ : ∃ nc : Nat, r.cols = nc := ⟨r.cols.toNat, by omega⟩
    have hN : r.ds.length = nr * nc := by
      have := o.len
      rw [hnr, hnc, ← Int.natCast_mul] at this
      exact Int.ofNat_inj.1 this
    have e : (flatR r).cols.toNat = nc := by show r.cols.toNat = nc; omega
    have hi : k / nc < nr := Nat.div_lt_of_lt_mul (by rw [Nat.mul_comm]; omega)
    have hj : k % nc < nc := Nat.mod_lt _ (by omega)
    unfold depK sdP
    rw [e, flat_idx o (Int.natCast_nonneg _) (by omega) (Int.natCast_nonneg _) (by omega)]
    exact flat_deep o h4
  unfold viewErrP first2
  rw [if_pos h1, flat_relErr h2, if_pos rfl, if_neg hb, if_pos hd]
theorem flat_kind {t : Trk} {r : Rel} (h : viewErrP feB intB t r = 0) {i k : Nat} (hi : (i : Int) < r.rows) (hk : (k : Int) < r.cols) : kindP t (flatR r) intB i k = 0 := by
  obtain ⟨h1, h2, h3, h4⟩ := viewErrP_ok h
  have o := (relErrP_ok h2).1
  have hd := flat_deep o h4
  have hs : ∀ j : Nat, (j : Int) < r.cols → sdP t (flatR r) intB i j = depthP t (intB (bitAt r.ds 0)) := fun j hj => by
    unfold sdP
    rw [flat_idx o (Int.natCast_nonneg _) hi (Int.natCast_nonneg _) hj]
  have hso : ∀ j : Nat, (j : Int) < r.cols → 1 ≤ soP t (flatR r) j := fun j hj => so_pos h3 o (Int.natCast_nonneg j) hj
  have hA : anyOver t (flatR r) intB i k (flatR r).cols.toNat = false := by
    unfold anyOver
    refine List.any_eq_false.2 fun j hj => ?_
    have hj : (j : Int) < r.cols := by have := List.mem_range.1 hj; have e : (flatR r).cols = r.cols := rfl; omega
    rw [hs j hj, hs k hk, flat_lies (hso j hj) (hso k hk)]
    exact Bool.false_ne_true
  have hB : anyShadow t (flatR r) intB i k (flatR r).cols.toNat = false := by
    unfold anyShadow
    refine List.any_eq_false.2 fun j hj => ?_
    have hj : (j : Int) < r.cols := by have := List.mem_range.1 hj; have e : (flatR r).cols = r.cols := rfl; omega
    rw [hs j hj, hs k hk, flat_hides hd]
    exact Bool.false_ne_true
  unfold kindP
  rw [hA, hB]
  rfl
theorem flat_row {t : Trk} {r : Rel} (h : viewErrP feB intB t r = 0) {c : Int} (hc : c ≠ 0) {i : Nat} (hi : (i : Int) < r.rows) : ∀ k : Nat, (k : Int) ≤ r.cols → cntRow t (flatR r) intB i c k = 0
  | 0, _ => rfl
  | k + 1, hk => by
    rw [cntRow, flat_row h hc hi k (by omega), flat_kind h hi (by omega), if_neg (fun e => hc e.symm)]
    rfl
theorem flat_grid {t : Trk} {r : Rel} (h : viewErrP feB intB t r = 0) {c : Int} (hc : c ≠ 0) : ∀ n : Nat, (n : Int) ≤ r.rows → cntGrid t (flatR r) intB c n = 0
  | 0, _ => rfl
  | n + 1, hn => by
    have h1 := (relErrP_ok (viewErrP_ok h).2.1).1.l1
    rw [cntGrid, flat_grid h hc n (by omega), flat_row h hc (by omega) _ (by show (r.cols.toNat : Int) ≤ r.cols; omega)]
    rfl
theorem flat_count {t : Trk} {r : Rel} (h : viewErrP feB intB t r = 0) : countP t (flatR r) intB 0 = (r.ds.length : Int) ∧ countP t (flatR r) intB 1 = 0 ∧ countP t (flatR r) intB 2 = 0 ∧ countP t (flatR r) intB 3 = 0 := by
  have o := (relErrP_ok (viewErrP_ok h).2.1).1
  have r1 := o.r1
  have z : ∀ c : Int, c ≠ 0 → countP t (flatR r) intB c = 0 := fun c hc => by
    unfold countP
    exact flat_grid h hc _ (by show (r.rows.toNat : Int) ≤ r.rows; omega)
  have hs := count_sum (t := t) (fi := intB) (reData_ok (ds := List.replicate r.ds.length (bitAt r.ds 0)) o (by simp))
  have e1 := z 1 (by decide)
  have e2 := z 2 (by decide)
  have e3 := z 3 (by decide)
  have hl := flat_len r
  unfold flatR at e1 e2 e3 hl ⊢
  refine ⟨?_, e1, e2, e3⟩
  rw [hl] at hs
  omega
end Go.Proofs.Ythnfepfbkmafaaa
