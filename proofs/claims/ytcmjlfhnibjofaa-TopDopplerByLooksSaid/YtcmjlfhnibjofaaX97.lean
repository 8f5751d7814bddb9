/- Chapters 1 and 4, plain: the sum of neighbouring lines is the interferogram with the shifted image, looked down to one number. -/
import Derived.Test.YtcmjlfhnibjofaaXS
import Derived.Test.YtcmjlfhnibjofaaX27
import Derived.Test.YtcmjlfhnibjofaaU88
import Derived.Test.YtcmjlfhnibjofaaZW
namespace Go.Proofs.Ytcmjlfhnibjofaa
set_option linter.unusedVariables false
set_option linter.unusedSimpArgs false
open Go.RowKit Ieee Ntt
theorem sumN_zero (f : Nat → Int) : ∀ k, sumN f 0 k = sum k f
  | 0 => rfl
  | k + 1 => by rw [sumN, sum, sumN_zero f k, Nat.zero_add]
theorem sum_both (f : Nat → Int) (a : Nat) : ∀ b, sum (a + b) f = sum a f + sum b (fun i => f (a + i))
  | 0 => by rw [Nat.add_zero, sum]; omega
  | b + 1 => by
    rw [Nat.add_succ, sum, sum, sum_both f a b]
    omega
theorem sum_same {f g : Nat → Int} : ∀ {n : Nat}, (∀ k, k < n → f k = g k) → sum n f = sum n g
  | 0, _ => rfl
  | n + 1, h => by rw [sum, sum, sum_same (n := n) (fun k hk => h k (by omega)), h n (by omega)]
theorem sum_none {f : Nat → Int} : ∀ {n : Nat}, (∀ k, k < n → f k = 0) → sum n f = 0
  | 0, _ => rfl
  | n + 1, h => by rw [sum, sum_none (n := n) (fun k hk => h k (by omega)), h n (by omega)]; rfl
/-- The window of a whole field is the sum of its numbers. -/
theorem win_whole (G : Nat → Int) (S : Nat) : ∀ m, winW G S 0 S 0 m = sum (m * S) G
  | 0 => by rw [Nat.zero_mul]; rfl
  | m + 1 => by
    have ih := win_whole G S m
    unfold winW at ih ⊢
    rw [sumN, ih, Nat.add_mul, Nat.one_mul, sum_both]
    unfold rowW
    rw [sumN_zero, Nat.zero_add]
theorem lk_whole {f : Nat → Nat × Nat} {L S : Nat} (hS : 1 ≤ S) : lkF f S L S 0 = (sum (L * S) (xD f), sum (L * S) (yD f)) := by
  unfold lkF lookF lkL
  have e : (S : Int).toNat / (S : Int).toNat = 1 := Nat.div_self (by omega)
  rw [e]
  simp only [Int.toNat_natCast, Nat.zero_mod, Nat.zero_div, Nat.zero_mul]
  rw [win_whole, win_whole]
theorem sh_row {f : Nat → Nat × Nat} {L S n : Nat} (hn : n = L * S) (hS : 1 ≤ S) (hL : L ≤ 64) {i : Nat} (hi : i < n) :
    shX f L S 1 0 (i / S) (i % S) = if i < S then (0, 0) else (xB f (i - S), yB f (i - S)) := by
  have h1 : i / S < L := Nat.div_lt_of_lt_mul (by rw [Nat.mul_comm]; omega)
  have h2 : i % S < S := Nat.mod_lt _ (by omega)
  have h3 := Nat.div_add_mod i S
  unfold shX
  rcases (show i < S ∨ S ≤ i by omega) with c | c
  · have e0 : i / S = 0 := Nat.div_eq_of_lt c
    rw [if_neg, if_pos c]
    rw [e0]
    unfold inE
    simp
  · have e1 : 1 ≤ i / S := (Nat.le_div_iff_mul_le (by omega)).2 (by omega)
    rw [if_pos, if_neg (by omega)]
    · have e : ((((i / S : Nat) : Int) - 1) * S + (((i % S : Nat) : Int) - 0)).toNat = i - S := by
        obtain ⟨q, hq⟩ : ∃ q, i / S = q + 1 := ⟨i / S - 1, by omega⟩
        rw [hq] at h3 ⊢
        have e2 : (((q + 1 : Nat) : Int) - 1) * S = ((q * S : Nat) : Int) := by rw [Int.natCast_mul]; congr 1; omega
        rw [e2]
        rw [Nat.mul_add, Nat.mul_comm S q, Nat.mul_one] at h3
        omega
      rw [e]
    · unfold inE
      simp only [Bool.and_eq_true, decide_eq_true_eq]
      omega
theorem shB_small {f : Nat → Nat × Nat} {L S n : Nat} (hn : n = L * S) (hS : 1 ≤ S) (hL : L ≤ 64) (hX : SmallS n f (xB f) (yB f) 2047) {i : Nat} (hi : i < n) :
    (xB (shB f L S 1 0) i = if i < S then 0 else xB f (i - S)) ∧ (yB (shB f L S 1 0) i = if i < S then 0 else yB f (i - S)) := by
  have e := sh_row (f := f) hn hS hL hi
  unfold xB yB shB
  rw [e]
  rcases (show i < S ∨ S ≤ i by omega) with c | c
  · rw [if_pos c, if_pos c, if_pos c]
    exact smpI_parts (x := 0) (y := 0) (by decide) (by decide)
  · rw [if_neg (by omega), if_neg (by omega), if_neg (by omega)]
    obtain ⟨-, b1, b2⟩ := hX (i - S) (by omega)
    exact smpI_parts (by omega) (by omega)
/-- The interferogram with the shifted image sums up to the sum of neighbouring lines. -/
theorem sum_shift {f : Nat → Nat × Nat} {L S n : Nat} (hn : n = L * S) (hL1 : 1 ≤ L) (hL : L ≤ 64) (hS : 1 ≤ S) (hX : SmallS n f (xB f) (yB f) 2047) (hU : SmallS n (shB f L S 1 0) (xB (shB f L S 1 0)) (yB (shB f L S 1 0)) 2047) :
    sum n (xD (ifB f (shB f L S 1 0))) = psR (xB f) (yB f) S (n - S) ∧ sum n (yD (ifB f (shB f L S 1 0))) = psI (xB f) (yB f) S (n - S) := by
  have hSn : S ≤ n := by rw [hn]; exact Nat.le_mul_of_pos_left _ (by omega)
  have key : ∀ i, i < n → xD (ifB f (shB f L S 1 0)) i = (if i < S then 0 else xB f i * xB f (i - S) + yB f i * yB f (i - S)) ∧ yD (ifB f (shB f L S 1 0)) i = (if i < S then 0 else yB f i * xB f (i - S) - xB f i * yB f (i - S)) := fun i hi => by
    obtain ⟨e1, e2⟩ := shB_small hn hS hL hX hi
    obtain ⟨b1, b2⟩ := intfF_bd (hX i hi).2 (hU i hi).2
    have h1 : xD (ifB f (shB f L S 1 0)) i = (intfF (xB f) (yB f) (xB (shB f L S 1 0)) (yB (shB f L S 1 0)) i).1 := by unfold xD ifB nmF; exact intD_f64I (by omega)
    have h2 : yD (ifB f (shB f L S 1 0)) i = (intfF (xB f) (yB f) (xB (shB f L S 1 0)) (yB (shB f L S 1 0)) i).2 := by unfold yD ifB nmF; exact intD_f64I (by omega)
    rw [h1, h2]
    show (xB f i * xB (shB f L S 1 0) i + yB f i * yB (shB f L S 1 0) i = _) ∧ (yB f i * xB (shB f L S 1 0) i - xB f i * yB (shB f L S 1 0) i = _)
    rw [e1, e2]
    split <;> simp
  have hsp : n = S + (n - S) := by omega
  constructor
  · have e : sum n (xD (ifB f (shB f L S 1 0))) = sum (S + (n - S)) (xD (ifB f (shB f L S 1 0))) := by rw [← hsp]
    rw [e, sum_both, sum_none (fun k hk => by rw [(key k (by omega)).1, if_pos hk]), Int.zero_add]
    unfold psR
    exact sum_same fun k hk => by rw [(key (S + k) (by omega)).1, if_neg (by omega), Nat.add_sub_cancel_left]
  · have e : sum n (yD (ifB f (shB f L S 1 0))) = sum (S + (n - S)) (yD (ifB f (shB f L S 1 0))) := by rw [← hsp]
    rw [e, sum_both, sum_none (fun k hk => by rw [(key k (by omega)).2, if_pos hk]), Int.zero_add]
    unfold psI
    exact sum_same fun k hk => by rw [(key (S + k) (by omega)).2, if_neg (by omega), Nat.add_sub_cancel_left]
end Go.Proofs.Ytcmjlfhnibjofaa
