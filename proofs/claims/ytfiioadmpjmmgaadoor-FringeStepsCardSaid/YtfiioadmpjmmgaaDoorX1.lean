/- Chapter 4, plain: wrapped steps, the turns around boxes, residues. No program in sight. -/
import Derived.Test.YtfiioadmpjmmgaaDoorZU
namespace Go.Proofs.YtfiioadmpjmmgaaDoor
set_option linter.unusedVariables false
set_option linter.unusedSimpArgs false
open Ntt
/-- The wrapped phase. -/
def wrP (n : Int) : Int := (n + 2048) % 4096 - 2048
theorem wrP_bd (n : Int) : -2048 ≤ wrP n ∧ wrP n ≤ 2047 := by unfold wrP; omega
theorem wrP_two (n : Int) : (n % 4096 + 2048) % 4096 - 2048 = wrP n := by unfold wrP; omega
theorem wrP_same {n : Int} (h1 : -2048 ≤ n) (h2 : n ≤ 2047) : wrP n = n := by unfold wrP; omega
theorem wrP_sub (a b : Int) : wrP (wrP a - wrP b) = wrP (a - b) := by unfold wrP; omega
/-- The phase of a pixel of a list of rows. -/
def zAt (C : Nat) (z : Nat → Int) (r c : Nat) : Int := z (r * C + c)
def sR (z : Nat → Nat → Int) (r c : Nat) : Int := wrP (z r (c + 1) - z r c)
def sD (z : Nat → Nat → Int) (r c : Nat) : Int := wrP (z (r + 1) c - z r c)
/-- The sums along the borders. -/
def sumWd (z : Nat → Nat → Int) (r0 c0 h k : Nat) : Int := sum k fun i => sR z r0 (c0 + i) - sR z (r0 + h) (c0 + i)
def sumHi (z : Nat → Nat → Int) (r0 c0 w k : Nat) : Int := sum k fun i => sD z (r0 + i) (c0 + w) - sD z (r0 + i) c0
def aroundP (z : Nat → Nat → Int) (r0 c0 h w : Nat) : Int := sumWd z r0 c0 h w + sumHi z r0 c0 w h
def plqP (z : Nat → Nat → Int) (r c : Nat) : Int := aroundP z r c 1 1
theorem plqP_eq (z : Nat → Nat → Int) (r c : Nat) : plqP z r c = sR z r c - sR z (r + 1) c + (sD z r (c + 1) - sD z r c) := by
  unfold plqP aroundP sumWd sumHi
  simp only [sum, Nat.add_zero]
  omega
/-- Bounds of what has been added. -/
theorem sumWd_bd (z : Nat → Nat → Int) (r0 c0 h : Nat) : ∀ k : Nat, -(4095 * (k : Int)) ≤ sumWd z r0 c0 h k ∧ sumWd z r0 c0 h k ≤ 4095 * (k : Int)
  | 0 => by simp [sumWd, sum]
  | k + 1 => by
    obtain ⟨h1, h2⟩ := sumWd_bd z r0 c0 h k
    have a := wrP_bd (z r0 (c0 + k + 1) - z r0 (c0 + k))
    have b := wrP_bd (z (r0 + h) (c0 + k + 1) - z (r0 + h) (c0 + k))
    unfold sumWd at h1 h2 ⊢
    rw [sum]
    unfold sR
    unfold sR at h1 h2
    omega
theorem sumHi_bd (z : Nat → Nat → Int) (r0 c0 w : Nat) : ∀ k : Nat, -(4095 * (k : Int)) ≤ sumHi z r0 c0 w k ∧ sumHi z r0 c0 w k ≤ 4095 * (k : Int)
  | 0 => by simp [sumHi, sum]
  | k + 1 => by
    obtain ⟨h1, h2⟩ := sumHi_bd z r0 c0 w k
    have a := wrP_bd (z (r0 + k + 1) (c0 + w) - z (r0 + k) (c0 + w))
    have b := wrP_bd (z (r0 + k + 1) c0 - z (r0 + k) c0)
    unfold sumHi at h1 h2 ⊢
    rw [sum]
    unfold sD
    unfold sD at h1 h2
    omega
/-- The turns of a plaquette: whole, and one at most. -/
theorem plq_turn (z : Nat → Nat → Int) (r c : Nat) : ∃ t : Int, plqP z r c = 4096 * t ∧ -1 ≤ t ∧ t ≤ 1 := by
  rw [plqP_eq]
  unfold sR sD
  generalize z r c = a
  generalize z r (c + 1) = b
  generalize z (r + 1) c = d
  generalize z (r + 1) (c + 1) = e
  refine ⟨(wrP (b - a) - wrP (e - d) + (wrP (e - b) - wrP (d - a))) / 4096, ?_, ?_, ?_⟩ <;> unfold wrP <;> omega
def turnP (z : Nat → Nat → Int) (r c : Nat) : Int := (plqP z r c).tdiv 4096
theorem turnP_of {z : Nat → Nat → Int} {r c : Nat} : plqP z r c = 4096 * turnP z r c ∧ -1 ≤ turnP z r c ∧ turnP z r c ≤ 1 := by
  obtain ⟨t, h1, h2, h3⟩ := plq_turn z r c
  have : turnP z r c = t := by
    unfold turnP
    rw [h1]
    exact Int.mul_tdiv_cancel_left t (by decide)
  rw [this]
  exact ⟨h1, h2, h3⟩
theorem sum_tele (f : Nat → Int) : ∀ k : Nat, sum k (fun i => f (i + 1) - f i) = f k - f 0
  | 0 => by simp [sum]
  | k + 1 => by rw [sum, sum_tele f k]; omega
theorem sumI_sub (n : Nat) (f g : Nat → Int) : sum n (fun k => f k - g k) = sum n f - sum n g := by
  induction n with
  | zero => rfl
  | succ n ih => rw [sum, sum, sum, ih]; omega
/-- The turns around a box are the sum of those of its plaquettes. -/
theorem around_sum (z : Nat → Nat → Int) (r0 c0 w : Nat) : ∀ h : Nat, aroundP z r0 c0 h w = sum h fun i => sum w fun j => plqP z (r0 + i) (c0 + j)
  | 0 => by
    unfold aroundP sumWd sumHi
    simp only [sum, Nat.add_zero]
    rw [show (fun i => sR z r0 (c0 + i) - sR z r0 (c0 + i)) = fun _ => (0 : Int) from funext fun i => by omega, sum_zero]
    rfl
  | h + 1 => by
    rw [sum, ← around_sum z r0 c0 w h]
    have e : (sum w fun j => plqP z (r0 + h) (c0 + j)) = sum w (fun j => sR z (r0 + h) (c0 + j) - sR z (r0 + h + 1) (c0 + j)) + (sD z (r0 + h) (c0 + w) - sD z (r0 + h) c0) := by
      rw [sum_eq (g := fun j => (sR z (r0 + h) (c0 + j) - sR z (r0 + h + 1) (c0 + j)) + (sD z (r0 + h) (c0 + j + 1) - sD z (r0 + h) (c0 + j))) (fun j _ => by rw [plqP_eq]), sum_add]
      have ht := sum_tele (fun j => sD z (r0 + h) (c0 + j)) w
      have ht' : sum w (fun j => sD z (r0 + h) (c0 + j + 1) - sD z (r0 + h) (c0 + j)) = sD z (r0 + h) (c0 + w) - sD z (r0 + h) c0 := ht
      rw [ht']
    rw [e]
    unfold aroundP sumWd sumHi
    rw [sum, sumI_sub w (fun i => sR z r0 (c0 + i)), sumI_sub w (fun i => sR z r0 (c0 + i)), sumI_sub w (fun j => sR z (r0 + h) (c0 + j))]
    rw [show r0 + (h + 1) = r0 + h + 1 from rfl]
    omega
theorem around_turns (z : Nat → Nat → Int) (r0 c0 h w : Nat) : (aroundP z r0 c0 h w).tdiv 4096 = sum h fun i => sum w fun j => turnP z (r0 + i) (c0 + j) := by
  rw [around_sum]
  have e : (sum h fun i => sum w fun j => plqP z (r0 + i) (c0 + j)) = 4096 * sum h fun i => sum w fun j => turnP z (r0 + i) (c0 + j) := by
    rw [← sum_mul]
    refine sum_eq fun i _ => ?_
    rw [← sum_mul]
    exact sum_eq fun j _ => turnP_of.1
  rw [e]
  exact Int.mul_tdiv_cancel_left _ (by decide)
/-! The residues, as they are listed. -/
structure Res where
  r : Nat
  c : Nat
  t : Int
def resRow (wh : Nat → Nat → Bool) (T : Nat → Nat → Int) (r : Nat) : Nat → List Res
  | 0 => []
  | k + 1 => if wh r k && decide (T r k ≠ 0) then resRow wh T r k ++ [⟨r, k, T r k⟩] else resRow wh T r k
def resAll (wh : Nat → Nat → Bool) (T : Nat → Nat → Int) (C : Nat) : Nat → List Res
  | 0 => []
  | k + 1 => resAll wh T C k ++ resRow wh T k C
theorem resRow_len (wh : Nat → Nat → Bool) (T : Nat → Nat → Int) (r : Nat) : ∀ k, (resRow wh T r k).length ≤ k
  | 0 => Nat.le_refl _
  | k + 1 => by
    have := resRow_len wh T r k
    rw [resRow]
    split
    · rw [List.length_append]; simp; omega
    · omega
theorem resAll_len (wh : Nat → Nat → Bool) (T : Nat → Nat → Int) (C : Nat) : ∀ k, (resAll wh T C k).length ≤ k * C
  | 0 => Nat.zero_le _
  | k + 1 => by
    have h1 := resAll_len wh T C k
    have h2 := resRow_len wh T k C
    rw [resAll, List.length_append, Nat.add_mul, Nat.one_mul]
    omega
theorem resRow_mem {wh : Nat → Nat → Bool} {T : Nat → Nat → Int} {r : Nat} {x : Res} : ∀ {k : Nat}, x ∈ resRow wh T r k → x.r = r ∧ x.c < k ∧ x.t = T r x.c ∧ x.t ≠ 0
  | 0, h => by simp [resRow] at h
  | k + 1, h => by
    rw [resRow] at h
    split at h
    · rename_i hc
      rw [List.mem_append] at h
      rcases h with h | h
      · obtain ⟨h1, h2, h3, h4⟩ := resRow_mem h
        exact ⟨h1, by omega, h3, h4⟩
      · simp at h
        subst h
        simp only [Bool.and_eq_true, decide_eq_true_eq] at hc
        exact ⟨rfl, Nat.lt_succ_self _, rfl, hc.2⟩
    · obtain ⟨h1, h2, h3, h4⟩ := resRow_mem h
      exact ⟨h1, by omega, h3, h4⟩
theorem resAll_mem {wh : Nat → Nat → Bool} {T : Nat → Nat → Int} {C : Nat} {x : Res} : ∀ {k : Nat}, x ∈ resAll wh T C k → x.r < k ∧ x.c < C ∧ x.t = T x.r x.c ∧ x.t ≠ 0
  | 0, h => by simp [resAll] at h
  | k + 1, h => by
    rw [resAll, List.mem_append] at h
    rcases h with h | h
    · obtain ⟨h1, h2⟩ := resAll_mem h
      exact ⟨by omega, h2⟩
    · obtain ⟨h1, h2, h3, h4⟩ := resRow_mem h
      rw [h1]
      exact ⟨Nat.lt_succ_self _, h2, h3, h4⟩
/-- The sum over the residues that are asked for. -/
def resSum (f : Res → Bool) : List Res → Int
  | [] => 0
  | x :: l => (if f x then x.t else 0) + resSum f l
theorem resSum_app (f : Res → Bool) : ∀ a b : List Res, resSum f (a ++ b) = resSum f a + resSum f b
  | [], b => by simp [resSum]
  | x :: a, b => by rw [List.cons_append, resSum, resSum, resSum_app f a b]; omega
def resSumN (f : Res → Bool) (l : List Res) (k : Nat) : Int := resSum f (l.take k)
theorem resSumN_succ (f : Res → Bool) (l : List Res) {k : Nat} {x : Res} (h : l[k]? = some x) : resSumN f l (k + 1) = resSumN f l k + if f x then x.t else 0 := by
  unfold resSumN
  rw [List.take_add_one, h, resSum_app]
  simp [resSum]
theorem resRow_sum {wh : Nat → Nat → Bool} {T : Nat → Nat → Int} {r : Nat} (f : Res → Bool) (g : Nat → Bool) (hf : ∀ c t, f ⟨r, c, t⟩ = g c) : ∀ k, (∀ c, c < k → wh r c = true) → resSum f (resRow wh T r k) = sum k fun c => if g c then T r c else 0
  | 0, _ => rfl
  | k + 1, h => by
    have ih := resRow_sum (T := T) f g hf k (fun c hc => h c (by omega))
    rw [resRow, sum, ← ih]
    rw [h k (by omega), Bool.true_and]
    split
    · rw [resSum_app, resSum, resSum, hf]; dsimp only; omega
    · rename_i h0
      simp at h0
      rw [h0]
      simp
theorem resAll_sum {wh : Nat → Nat → Bool} {T : Nat → Nat → Int} {C : Nat} (f : Res → Bool) (g : Nat → Nat → Bool) (hf : ∀ r c t, f ⟨r, c, t⟩ = g r c) : ∀ k, (∀ r c, r < k → c < C → wh r c = true) → resSum f (resAll wh T C k) = sum k fun r => sum C fun c => if g r c then T r c else 0
  | 0, _ => rfl
  | k + 1, h => by
    rw [resAll, resSum_app, sum, resAll_sum f g hf k (fun r c hr hc => h r c (by omega) hc), resRow_sum f (g k) (fun c t => hf k c t) C (fun c hc => h k c (by omega) hc)]
/-- A sum over a part of a range. -/
theorem sum_part (f : Nat → Int) (a : Nat) : ∀ (n k : Nat), a + k ≤ n → sum n (fun i => if decide (a ≤ i) && decide (i < a + k) then f i else 0) = sum k fun i => f (a + i)
  | 0, k, h => by
    obtain rfl : k = 0 := by omega
    rfl
  | n + 1, k, h => by
    rw [sum]
    by_cases h1 : a + k ≤ n
    · rw [sum_part f a n k h1, if_neg (by simp; omega)]; omega
    · by_cases h0 : k = 0
      · subst h0
        rw [if_neg (by simp only [Bool.and_eq_true, decide_eq_true_eq]; omega)]
        rw [sum_eq (g := fun _ => 0) (fun i hi => if_neg (by simp only [Bool.and_eq_true, decide_eq_true_eq]; omega)), sum_zero]
        rfl
      · obtain ⟨j, rfl⟩ : ∃ j, n = a + j := ⟨n - a, by omega⟩
        obtain rfl : k = j + 1 := by omega
        rw [sum, if_pos (by simp)]
        rw [← sum_part f a (a + j) j (Nat.le_refl _)]
        congr 1
        refine sum_eq fun i hi => ?_
        have e : (decide (a ≤ i) && decide (i < a + (j + 1))) = (decide (a ≤ i) && decide (i < a + j)) := by
          rw [Bool.eq_iff_iff]; simp only [Bool.and_eq_true, decide_eq_true_eq]; omega
        rw [e]
theorem box_sum (T : Nat → Nat → Int) {R C r0 c0 h w : Nat} (hr : r0 + h ≤ R) (hc : c0 + w ≤ C) :
    (sum R fun r => sum C fun c => if (decide (r0 ≤ r) && decide (r < r0 + h)) && (decide (c0 ≤ c) && decide (c < c0 + w)) then T r c else 0) = sum h fun i => sum w fun j => T (r0 + i) (c0 + j) := by
  rw [← sum_part (fun r => sum w fun j => T r (c0 + j)) r0 R h hr]
  refine sum_eq fun r _ => ?_
  by_cases hb : (decide (r0 ≤ r) && decide (r < r0 + h)) = true
  · rw [if_pos hb, hb]
    simp only [Bool.true_and]
    exact sum_part (fun c => T r c) c0 C w hc
  · rw [if_neg hb]
    rw [sum_eq (g := fun _ => 0) (fun c _ => if_neg (by simp [Bool.not_eq_true] at hb ⊢; omega)), sum_zero]
/-- No residues where no step is of half a turn. -/
theorem plq_flat {z : Nat → Nat → Int} {r c : Nat} (h1 : -2047 ≤ z r (c + 1) - z r c ∧ z r (c + 1) - z r c ≤ 2047) (h2 : -2047 ≤ z (r + 1) (c + 1) - z (r + 1) c ∧ z (r + 1) (c + 1) - z (r + 1) c ≤ 2047)
    (h3 : -2047 ≤ z (r + 1) c - z r c ∧ z (r + 1) c - z r c ≤ 2047) (h4 : -2047 ≤ z (r + 1) (c + 1) - z r (c + 1) ∧ z (r + 1) (c + 1) - z r (c + 1) ≤ 2047) : plqP z r c = 0 := by
  rw [plqP_eq]
  unfold sR sD
  rw [wrP_same (by omega) (by omega), wrP_same (by omega) (by omega), wrP_same (by omega) (by omega), wrP_same (by omega) (by omega)]
  omega
theorem plq_wrap (z : Nat → Nat → Int) (r c : Nat) : plqP (fun r c => wrP (z r c)) r c = plqP z r c := by
  rw [plqP_eq, plqP_eq]
  unfold sR sD
  simp only [wrP_sub]
end Go.Proofs.YtfiioadmpjmmgaaDoor
