/- Chapter 1: EchoByTransforms, the plain law. -/
import Derived.Test.YtakohhlmomgegaaDoorU76
import Derived.Test.YtakohhlmomgegaaDoorZM
import Derived.Test.YtakohhlmomgegaaDoorZN
namespace Go.Proofs.YtakohhlmomgegaaDoor
set_option linter.unusedVariables false
set_option linter.unusedSimpArgs false
open Go.RowKit Ntt
/-- So many numbers modulo the prime, and then 0. -/
def padP (X : Nat → Int) (n j : Nat) : Int := if j < n then X j % 998244353 else 0
def padL (X : Nat → Int) (n : Nat) : List Int := (List.range 64).map (padP X n)
theorem padL_len (X : Nat → Int) (n : Nat) : (padL X n).length = 64 := by simp [padL]
theorem padP_bd (X : Nat → Int) (n j : Nat) : 0 ≤ padP X n j ∧ padP X n j < 998244353 := by
  unfold padP
  split <;> omega
theorem padL_at (X : Nat → Int) {n : Nat} (hn : n ≤ 64) (j : Nat) : intAt (padL X n) j = padP X n j := by
  unfold padL
  by_cases h : j < 64
  · exact intAt_map _ h
  · unfold intAt padP
    rw [List.getElem?_eq_none (by simp; omega), if_neg (by omega)]
    rfl
theorem padL_ok (X : Nat → Int) (n : Nat) : listE (padL X n) = 0 := listE_of (by rw [padL_len]; decide) fun k hk => by
  rw [padL_len] at hk
  unfold padL
  rw [intAt_map _ hk]
  exact padP_bd X n k
/-- The samples of whole numbers. -/
def sF (X : Nat → Int) (k : Nat) : Nat × Nat := smpI (X k) 0
theorem sF_good {X : Nat → Int} {m : Int} (hm : 0 ≤ m) (hm2 : m ≤ 2047) {i : Nat} (h : -m ≤ X i ∧ X i ≤ m) : gE (sF X) m i = 0 := by
  obtain ⟨p1, p2⟩ := intB_of (num_nearest (n := X i) (by omega))
  obtain ⟨p3, p4⟩ := intB_of (num_nearest (n := 0) (by omega))
  unfold gE partE
  rw [show (sF X i).1 = floatOfInt .f32 (X i) from rfl, show (sF X i).2 = floatOfInt .f32 0 from rfl, p1, p2, p3, p4, if_pos (show (true && true) = true from rfl), if_pos]
  unfold inE
  simp only [Bool.and_eq_true, decide_eq_true_eq]
  omega
theorem sF_parts {X : Nat → Int} (h : ∀ j, -2047 ≤ X j ∧ X j ≤ 2047) : xB (sF X) = X ∧ yB (sF X) = fun _ => 0 := by
  refine ⟨funext fun k => ?_, funext fun k => ?_⟩
  · have := h k
    exact (smpI_parts (x := X k) (y := 0) (by omega) (by omega)).1
  · have := h k
    exact (smpI_parts (x := X k) (y := 0) (by omega) (by omega)).2
theorem sF_img {X : Nat → Int} (h : ∀ j, -2047 ≤ X j ∧ X j ≤ 2047) {n : Nat} (h1 : 1 ≤ n) (h2 : n ≤ 64) : imgE 1 n n (sF X) = (0, 0) := by
  unfold imgE
  rw [if_pos (by unfold sizeE inE; rw [if_pos (by simp; omega), if_pos (by omega)]), firstE_ok fun i _ => sF_good (by decide) (by decide) (h i)]
theorem sF_code {X : Nat → Int} (h : ∀ j, -3 ≤ X j ∧ X j ≤ 3) {n j : Nat} (h1 : 1 ≤ n) (h2 : n ≤ 32) (hj : j < n) (h0 : X j ≠ 0) : codeE n (sF X) = (0, 0) := by
  unfold codeE
  have hf := firstE_ok (n := n) (g := gE (sF X) 3) fun i _ => sF_good (by decide) (by decide) (h i)
  have ha : anyC n (sF X) = true := anyC_hit hj (by
    show nzC (floatOfInt .f32 (X j)) (floatOfInt .f32 0) = true
    rw [nzC_num (x := X j) (y := 0) (num_nearest (n := X j) (by have := h j; omega)) (num_nearest (n := 0) (by omega))]
    simp [h0])
  rw [if_neg (by omega), if_neg (by omega), hf, if_pos rfl, if_pos ha]
/-- A line's sum with a code. -/
def linP (X U : Nat → Int) (C s : Nat) : Int := sum C fun k => X (s + k) * U k
theorem linP_bd {X U : Nat → Int} (hX : ∀ j, -2047 ≤ X j ∧ X j ≤ 2047) (hU : ∀ j, -3 ≤ U j ∧ U j ≤ 3) {C : Nat} (hC : C ≤ 20) (s : Nat) : -122820 ≤ linP X U C s ∧ linP X U C s ≤ 122820 := by
  have h := sum_bd (n := C) (f := fun k => X (s + k) * U k) (B := 6141) fun k _ => mul_bd2 (A := 2047) (B := 3) (hX _) (hU _)
  have h2 : (C : Int) * 6141 ≤ 122820 := by omega
  unfold linP
  omega
theorem compB_line {X U : Nat → Int} {S S0 C i : Nat} (hi : i < S) : compB X (fun _ => 0) U (fun _ => 0) S S0 C i = (f64I (linP X U C i), f64I 0) := by
  unfold compB
  rw [Nat.div_eq_of_lt hi, Nat.mod_eq_of_lt hi, Nat.zero_mul, Nat.zero_add]
  have h1 : reP X (fun _ => 0) U (fun _ => 0) i C = linP X U C i := by
    unfold reP linP
    exact sum_eq fun k _ => by simp
  have h2 : imP X (fun _ => 0) U (fun _ => 0) i C = 0 := by
    unfold imP
    rw [sum_eq (g := fun _ => 0) (fun k _ => by simp), sum_zero]
  rw [h1, h2]
/-- The line by transforms. -/
theorem line_trans {X U : Nat → Int} (hX : ∀ j, -2047 ≤ X j ∧ X j ≤ 2047) (hU : ∀ j, -3 ≤ U j ∧ U j ≤ 3) {n C s : Nat} (hn : n ≤ 40) (hC : C ≤ 20) (h : s + C ≤ n) :
    (0 ≤ intAt (crL (padL X n) (padL U C)) s ∧ intAt (crL (padL X n) (padL U C)) s < 998244353) ∧
    (499122176 < intAt (crL (padL X n) (padL U C)) s → intAt (crL (padL X n) (padL U C)) s - 998244353 = linP X U C s) ∧
    (intAt (crL (padL X n) (padL U C)) s ≤ 499122176 → intAt (crL (padL X n) (padL U C)) s = linP X U C s) := by
  have e : intAt (crL (padL X n) (padL U C)) s = corr 64 (padP X n) (padP U C) s % PP := by
    unfold crL
    rw [padL_len, intAt_map _ (by omega), show intAt (padL X n) = padP X n from funext (padL_at X (by omega)), show intAt (padL U C) = padP U C from funext (padL_at U (by omega))]
  rw [e]
  have hb := linP_bd hX hU hC s
  have hc : Cg PP (corr 64 (padP X n) (padP U C) s) (linP X U C s) := by
    rw [corr_flat (C := C) _ _ s (by omega) (fun i hi => by unfold padP; rw [if_neg (by omega)])]
    refine sum_cg fun i hi => ?_
    unfold padP
    rw [if_pos (by omega), if_pos hi]
    exact (Cg.emod _).mul (Cg.emod _)
  have hs := signedP_of hc (by omega) (by omega)
  unfold signedP at hs
  have d1 := Int.emod_nonneg (corr 64 (padP X n) (padP U C) s) (show PP ≠ 0 by decide)
  have d2 := Int.emod_lt_of_pos (corr 64 (padP X n) (padP U C) s) (show 0 < PP by decide)
  generalize corr 64 (padP X n) (padP U C) s % PP = d at hs d1 d2 ⊢
  have hP : PP = 998244353 := rfl
  rw [hP] at hs d2
  refine ⟨⟨d1, d2⟩, fun h => ?_, fun h => ?_⟩
  · rw [if_pos h] at hs
    exact hs
  · rw [if_neg (by omega)] at hs
    exact hs
end Go.Proofs.YtakohhlmomgegaaDoor
