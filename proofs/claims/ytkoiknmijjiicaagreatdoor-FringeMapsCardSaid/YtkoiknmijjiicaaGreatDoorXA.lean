import Derived.Test.YtkoiknmijjiicaaGreatDoorZU
import Derived.Test.YtkoiknmijjiicaaGreatDoorZH
import Derived.Test.YtkoiknmijjiicaaGreatDoorZJ
import Derived.Test.YtkoiknmijjiicaaGreatDoorZG
import Derived.Test.YtkoiknmijjiicaaGreatDoorU63
import Derived.Test.YtkoiknmijjiicaaGreatDoorZK
import Derived.Test.YtkoiknmijjiicaaGreatDoorU117
import Derived.Lib.SlFresh
import Derived.Deep.Upon
/- Chapter 4, plain: wrapped steps, the turns around boxes, residues. No program in sight. -/
namespace Go.Proofs.YtkoiknmijjiicaaGreatDoor
set_option linter.unusedVariables false
set_option linter.unusedSimpArgs false
open Ntt
/-- The wrapped phase. -/
def wrP (n : Int) : Int := (n + 2048) % 4096 - 2048
theorem wrP_bd (n : Int) : -2048 ≤ wrP n ∧ wrP n ≤ 2047 := by unfold wrP; omega
theorem wrP_two (n : Int) : (n % 4096 + 2048) % 4096 - 2048 = wrP n := by unfold wrP; omega
theorem wrP_same {n : Int} (h1 : -2048 ≤ n) (h2 : n ≤ 2047) : wrP n = n := by unfold wrP; omega
theorem wrP_sub (a b : Int) : wrP (wrP a - wrP b) = wrP (a - b) := by unfold wrP; omega
/-- The phase of a pixel of a list of rows. -/
def zAt (C : Nat) (z : Nat → Int) (r c : Nat) : Int := z (r * C + c)
def sR (z : Nat → Nat → Int) (r c : Nat) : Int := wrP (z r (c + 1) - z r c)
def sD (z : Nat → Nat → Int) (r c : Nat) : Int := wrP (z (r + 1) c - z r c)
/-- The sums along the borders. -/
def sumWd (z : Nat → Nat → Int) (r0 c0 h k : Nat) : Int := sum k fun i => sR z r0 (c0 + i) - sR z (r0 + h) (c0 + i)
def sumHi (z : Nat → Nat → Int) (r0 c0 w k : Nat) : Int := sum k fun i => sD z (r0 + i) (c0 + w) - sD z (r0 + i) c0
def aroundP (z : Nat → Nat → Int) (r0 c0 h w : Nat) : Int := sumWd z r0 c0 h w + sumHi z r0 c0 w h
def plqP (z : Nat → Nat → Int) (r c : Nat) : Int := aroundP z r c 1 1
theorem plqP_eq (z : Nat → Nat → Int) (r c : Nat) : plqP z r c = sR z r c - sR z (r + 1) c + (sD z r (c + 1) - sD z r c) := by
  unfold plqP aroundP sumWd sumHi
  simp only [sum, Nat.add_zero]
  omega
/-- Bounds of what has been added. -/
theorem sumWd_bd (z : Nat → Nat → Int) (r0 c0 h : Nat) : ∀ k : Nat, -(4095 * (k : Int)) ≤ sumWd z r0 c0 h k ∧ sumWd z r0 c0 h k ≤ 4095 * (k : Int)
  | 0 => by simp [sumWd, sum]
  | k + 1 => by
    obtain ⟨h1, h2⟩ := sumWd_bd z r0 c0 h k
    have a := wrP_bd (z r0 (c0 + k + 1) - z r0 (c0 + k))
    have b := wrP_bd (z (r0 + h) (c0 + k + 1) - z (r0 + h) (c0 + k))
    unfold sumWd at h1 h2 ⊢
    rw [sum]
    unfold sR
    unfold sR at h1 h2
    omega
theorem sumHi_bd (z : Nat → Nat → Int) (r0 c0 w : Nat) : ∀ k : Nat, -(4095 * (k : Int)) ≤ sumHi z r0 c0 w k ∧ sumHi z r0 c0 w k ≤ 4095 * (k : Int)
  | 0 => by simp [sumHi, sum]
  | k + 1 => by
    obtain ⟨h1, h2⟩ := sumHi_bd z r0 c0 w k
    have a := wrP_bd (z (r0 + k + 1) (c0 + w) - z (r0 + k) (c0 + w))
    have b := wrP_bd (z (r0 + k + 1) c0 - z (r0 + k) c0)
    unfold sumHi at h1 h2 ⊢
    rw [sum]
    unfold sD
    unfold sD at h1 h2
    omega
/-- The turns of a plaquette: whole, and one at most. -/
theorem plq_turn (z : Nat → Nat → Int) (r c : Nat) : ∃ t : Int, plqP z r c = 4096 * t ∧ -1 ≤ t ∧ t ≤ 1 := by
  rw [plqP_eq]
  unfold sR sD
  generalize z r c = a
  generalize z r (c + 1) = b
  generalize z (r + 1) c = d
  generalize z (r + 1) (c + 1) = e
  refine ⟨(wrP (b - a) - wrP (e - d) + (wrP (e - b) - wrP (d - a))) / 4096, ?_, ?_, ?_⟩ <;> unfold wrP <;> omega
def turnP (z : Nat → Nat → Int) (r c : Nat) : Int := (plqP z r c).tdiv 4096
theorem turnP_of {z : Nat → Nat → Int} {r c : Nat} : plqP z r c = 4096 * turnP z r c ∧ -1 ≤ turnP z r c ∧ turnP z r c ≤ 1 := by
  obtain ⟨t, h1, h2, h3⟩ := plq_turn z r c
  have : turnP z r c = t := by
    unfold turnP
    rw [h1]
    exact Int.mul_tdiv_cancel_left t (by decide)
  rw [this]
  exact ⟨h1, h2, h3⟩
theorem sum_tele (f : Nat → Int) : ∀ k : Nat, sum k (fun i => f (i + 1) - f i) = f k - f 0
  | 0 => by simp [sum]
  | k + 1 => by rw [sum, sum_tele f k]; omega
theorem sumI_sub (n : Nat) (f g : Nat → Int) : sum n (fun k => f k - g k) = sum n f - sum n g := by
  induction n with
  | zero => rfl
  | succ n ih => rw [sum, sum, sum, ih]; omega
/-- The turns around a box are the sum of those of its plaquettes. -/
theorem around_sum (z : Nat → Nat → Int) (r0 c0 w : Nat) : ∀ h : Nat, aroundP z r0 c0 h w = sum h fun i => sum w fun j => plqP z (r0 + i) (c0 + j)
  | 0 => by
    unfold aroundP sumWd sumHi
    simp only [sum, Nat.add_zero]
    rw [show (fun i => sR z r0 (c0 + i) - sR z r0 (c0 + i)) = fun _ => (0 : Int) from funext fun i => by omega, sum_zero]
    rfl
  | h + 1 => by
    rw [sum, ← around_sum z r0 c0 w h]
    have e : (sum w fun j => plqP z (r0 + h) (c0 + j)) = sum w (fun j => sR z (r0 + h) (c0 + j) - sR z (r0 + h + 1) (c0 + j)) + (sD z (r0 + h) (c0 + w) - sD z (r0 + h) c0) := by
      rw [sum_eq (g := fun j => (sR z (r0 + h) (c0 + j) - sR z (r0 + h + 1) (c0 + j)) + (sD z (r0 + h) (c0 + j + 1) - sD z (r0 + h) (c0 + j))) (fun j _ => by rw [plqP_eq]), sum_add]
      have ht := sum_tele (fun j => sD z (r0 + h) (c0 + j)) w
      have ht' : sum w (fun j => sD z (r0 + h) (c0 + j + 1) - sD z (r0 + h) (c0 + j)) = sD z (r0 + h) (c0 + w) - sD z (r0 + h) c0 := ht
      rw [ht']
    rw [e]
    unfold aroundP sumWd sumHi
    rw [sum, sumI_sub w (fun i => sR z r0 (c0 + i)), sumI_sub w (fun i => sR z r0 (c0 + i)), sumI_sub w (fun j => sR z (r0 + h) (c0 + j))]
    rw [show r0 + (h + 1) = r0 + h + 1 from rfl]
    omega
theorem around_turns (z : Nat → Nat → Int) (r0 c0 h w : Nat) : (aroundP z r0 c0 h w).tdiv 4096 = sum h fun i => sum w fun j => turnP z (r0 + i) (c0 + j) := by
  rw [around_sum]
  have e : (sum h fun i => sum w fun j => plqP z (r0 + i) (c0 + j)) = 4096 * sum h fun i => sum w fun j => turnP z (r0 + i) (c0 + j) := by
    rw [← sum_mul]
    refine sum_eq fun i _ => ?_
    rw [← sum_mul]
    exact sum_eq fun j _ => turnP_of.1
  rw [e]
  exact Int.mul_tdiv_cancel_left _ (by decide)
/-! The residues, as they are listed. -/
structure Res where
  r : Nat
  c : Nat
  t : Int
def resRow (wh : Nat → Nat → Bool) (T : Nat → Nat → Int) (r : Nat) : Nat → List Res
  | 0 => []
  | k + 1 => if wh r k && decide (T r k ≠ 0) then resRow wh T r k ++ [⟨r, k, T r k⟩] else resRow wh T r k
def resAll (wh : Nat → Nat → Bool) (T : Nat → Nat → Int) (C : Nat) : Nat → List Res
  | 0 => []
  | k + 1 => resAll wh T C k ++ resRow wh T k C
theorem resRow_len (wh : Nat → Nat → Bool) (T : Nat → Nat → Int) (r : Nat) : ∀ k, (resRow wh T r k).length ≤ k
  | 0 => Nat.le_refl _
  | k + 1 => by
    have := resRow_len wh T r k
    rw [resRow]
    split
    · rw [List.length_append]; simp; omega
    · omega
theorem resAll_len (wh : Nat → Nat → Bool) (T : Nat → Nat → Int) (C : Nat) : ∀ k, (resAll wh T C k).length ≤ k * C
  | 0 => Nat.zero_le _
  | k + 1 => by
    have h1 := resAll_len wh T C k
    have h2 := resRow_len wh T k C
    rw [resAll, List.length_append, Nat.add_mul, Nat.one_mul]
    omega
theorem resRow_mem {wh : Nat → Nat → Bool} {T : Nat → Nat → Int} {r : Nat} {x : Res} : ∀ {k : Nat}, x ∈ resRow wh T r k → x.r = r ∧ x.c < k ∧ x.t = T r x.c ∧ x.t ≠ 0
  | 0, h => by simp [resRow] at h
  | k + 1, h => by
    rw [resRow] at h
    split at h
    · rename_i hc
      rw [List.mem_append] at h
      rcases h with h | h
      · obtain ⟨h1, h2, h3, h4⟩ := resRow_mem h
        exact ⟨h1, by omega, h3, h4⟩
      · simp at h
        subst h
        simp only [Bool.and_eq_true, decide_eq_true_eq] at hc
        exact ⟨rfl, Nat.lt_succ_self _, rfl, hc.2⟩
    · obtain ⟨h1, h2, h3, h4⟩ := resRow_mem h
      exact ⟨h1, by omega, h3, h4⟩
theorem resAll_mem {wh : Nat → Nat → Bool} {T : Nat → Nat → Int} {C : Nat} {x : Res} : ∀ {k : Nat}, x ∈ resAll wh T C k → x.r < k ∧ x.c < C ∧ x.t = T x.r x.c ∧ x.t ≠ 0
  | 0, h => by simp [resAll] at h
  | k + 1, h => by
    rw [resAll, List.mem_append] at h
    rcases h with h | h
    · obtain ⟨h1, h2⟩ := resAll_mem h
      exact ⟨by omega, h2⟩
    · obtain ⟨h1, h2, h3, h4⟩ := resRow_mem h
      rw [h1]
      exact ⟨Nat.lt_succ_self _, h2, h3, h4⟩
/-- The sum over the residues that are asked for. -/
def resSum (f : Res → Bool) : List Res → Int
  | [] => 0
  | x :: l => (if f x then x.t else 0) + resSum f l
theorem resSum_app (f : Res → Bool) : ∀ a b : List Res, resSum f (a ++ b) = resSum f a + resSum f b
  | [], b => by simp [resSum]
  | x :: a, b => by rw [List.cons_append, resSum, resSum, resSum_app f a b]; omega
def resSumN (f : Res → Bool) (l : List Res) (k : Nat) : Int := resSum f (l.take k)
theorem resSumN_succ (f : Res → Bool) (l : List Res) {k : Nat} {x : Res} (h : l[k]? = some x) : resSumN f l (k + 1) = resSumN f l k + if f x then x.t else 0 := by
  unfold resSumN
  rw [List.take_add_one, h, resSum_app]
  simp [resSum]
theorem resRow_sum {wh : Nat → Nat → Bool} {T : Nat → Nat → Int} {r : Nat} (f : Res → Bool) (g : Nat → Bool) (hf : ∀ c t, f ⟨r, c, t⟩ = g c) : ∀ k, (∀ c, c < k → wh r c = true) → resSum f (resRow wh T r k) = sum k fun c => if g c then T r c else 0
  | 0, _ => rfl
  | k + 1, h => by
    have ih := resRow_sum (T := T) f g hf k (fun c hc => h c (by omega))
    rw [resRow, sum, ← ih]
    rw [h k (by omega), Bool.true_and]
    split
    · rw [resSum_app, resSum, resSum, hf]; dsimp only; omega
    · rename_i h0
      simp at h0
      rw [h0]
      simp
theorem resAll_sum {wh : Nat → Nat → Bool} {T : Nat → Nat → Int} {C : Nat} (f : Res → Bool) (g : Nat → Nat → Bool) (hf : ∀ r c t, f ⟨r, c, t⟩ = g r c) : ∀ k, (∀ r c, r < k → c < C → wh r c = true) → resSum f (resAll wh T C k) = sum k fun r => sum C fun c => if g r c then T r c else 0
  | 0, _ => rfl
  | k + 1, h => by
    rw [resAll, resSum_app, sum, resAll_sum f g hf k (fun r c hr hc => h r c (by omega) hc), resRow_sum f (g k) (fun c t => hf k c t) C (fun c hc => h k c (by omega) hc)]
/-- A sum over a part of a range. -/
theorem sum_part (f : Nat → Int) (a : Nat) : ∀ (n k : Nat), a + k ≤ n → sum n (fun i => if decide (a ≤ i) && decide (i < a + k) then f i else 0) = sum k fun i => f (a + i)
  | 0, k, h => by
    obtain rfl : k = 0 := by omega
    rfl
  | n + 1, k, h => by
    rw [sum]
    by_cases h1 : a + k ≤ n
    · rw [sum_part f a n k h1, if_neg (by simp; omega)]; omega
    · by_cases h0 : k = 0
      · subst h0
        rw [if_neg (by simp only [Bool.and_eq_true, decide_eq_true_eq]; omega)]
        rw [sum_eq (g := fun _ => 0) (fun i hi => if_neg (by simp only [Bool.and_eq_true, decide_eq_true_eq]; omega)), sum_zero]
        rfl
      · obtain ⟨j, rfl⟩ : ∃ j, n = a + j := ⟨n - a, by omega⟩
        obtain rfl : k = j + 1 := by omega
        rw [sum, if_pos (by simp)]
        rw [← sum_part f a (a + j) j (Nat.le_refl _)]
        congr 1
        refine sum_eq fun i hi => ?_
        have e : (decide (a ≤ i) && decide (i < a + (j + 1))) = (decide (a ≤ i) && decide (i < a + j)) := by
          rw [Bool.eq_iff_iff]; simp only [Bool.and_eq_true, decide_eq_true_eq]; omega
        rw [e]
theorem box_sum (T : Nat → Nat → Int) {R C r0 c0 h w : Nat} (hr : r0 + h ≤ R) (hc : c0 + w ≤ C) :
    (sum R fun r => sum C fun c => if (decide (r0 ≤ r) && decide (r < r0 + h)) && (decide (c0 ≤ c) && decide (c < c0 + w)) then T r c else 0) = sum h fun i => sum w fun j => T (r0 + i) (c0 + j) := by
  rw [← sum_part (fun r => sum w fun j => T r (c0 + j)) r0 R h hr]
  refine sum_eq fun r _ => ?_
  by_cases hb : (decide (r0 ≤ r) && decide (r < r0 + h)) = true
  · rw [if_pos hb, hb]
    simp only [Bool.true_and]
    exact sum_part (fun c => T r c) c0 C w hc
  · rw [if_neg hb]
    rw [sum_eq (g := fun _ => 0) (fun c _ => if_neg (by simp [Bool.not_eq_true] at hb ⊢; omega)), sum_zero]
/-- No residues where no step is of half a turn. -/
theorem plq_flat {z : Nat → Nat → Int} {r c : Nat} (h1 : -2047 ≤ z r (c + 1) - z r c ∧ z r (c + 1) - z r c ≤ 2047) (h2 : -2047 ≤ z (r + 1) (c + 1) - z (r + 1) c ∧ z (r + 1) (c + 1) - z (r + 1) c ≤ 2047)
    (h3 : -2047 ≤ z (r + 1) c - z r c ∧ z (r + 1) c - z r c ≤ 2047) (h4 : -2047 ≤ z (r + 1) (c + 1) - z r (c + 1) ∧ z (r + 1) (c + 1) - z r (c + 1) ≤ 2047) : plqP z r c = 0 := by
  rw [plqP_eq]
  unfold sR sD
  rw [wrP_same (by omega) (by omega), wrP_same (by omega) (by omega), wrP_same (by omega) (by omega), wrP_same (by omega) (by omega)]
  omega
theorem plq_wrap (z : Nat → Nat → Int) (r c : Nat) : plqP (fun r c => wrP (z r c)) r c = plqP z r c := by
  rw [plqP_eq, plqP_eq]
  unfold sR sD
  simp only [wrP_sub]
end Go.Proofs.YtkoiknmijjiicaaGreatDoor

/- Chapter 4: within, floor, wrap; the error of a map. -/
namespace Go.Proofs.YtkoiknmijjiicaaGreatDoor
set_option linter.unusedVariables false
set_option linter.unusedSimpArgs false
open Go.RowKit Ntt
theorem fWithin (n lo hi : Int) (w : World) {c : Bool} (hc : inE lo hi n = c) :
    Calls Tryz.prog 64 #[.int .i64 n, .int .i64 lo, .int .i64 hi] w fun e w' => e = .returned (.bool c) ∧ w = w' := by
  subst hc
  unfold inE
  go_enter Tryz.func64, Tryz.ntmps64
  by_cases h1 : lo ≤ n
  · go_wp2
    go_ret
    exact ⟨by simp [h1], rfl⟩
  · have hd : decide (lo ≤ n) = false := by simpa using h1
    go_wp2
    go_ret
    exact ⟨by simp, rfl⟩
theorem fl_gen (x d : Int) (hd : 0 < d) : (if x.tmod d < 0 then x.tdiv d - 1 else x.tdiv d) = x / d := by
  rcases Int.le_total 0 x with h | h
  · rw [Int.tmod_eq_emod_of_nonneg h, Int.tdiv_eq_ediv_of_nonneg h, if_neg (by have := Int.emod_nonneg x (show d ≠ 0 by omega); omega)]
  · obtain ⟨y, rfl⟩ : ∃ y, x = -y := ⟨-x, by omega⟩
    rw [Int.neg_tmod, Int.tmod_eq_emod_of_nonneg (a := y) (by omega), Int.neg_tdiv, Int.tdiv_eq_ediv_of_nonneg (a := y) (by omega)]
    have e := Int.emod_add_mul_ediv y d
    have r0 := Int.emod_nonneg y (show d ≠ 0 by omega)
    have r1 := Int.emod_lt_of_pos y hd
    generalize y % d = r at *
    generalize y / d = q at *
    split
    · have : -y = (d - r) + d * (-q - 1) := by grind
      rw [this, Int.add_mul_ediv_left _ _ (by omega), Int.ediv_eq_zero_of_lt (by omega) (by omega)]
      omega
    · obtain rfl : r = 0 := by omega
      have : -y = d * (-q) := by grind
      rw [this, Int.mul_ediv_cancel_left _ (by omega)]
theorem tdiv_bd (n d : Int) : -(n.natAbs : Int) ≤ n.tdiv d ∧ n.tdiv d ≤ n.natAbs := by
  have h2 : (n.tdiv d).natAbs ≤ n.natAbs := by rw [Int.natAbs_tdiv]; exact Nat.div_le_self _ _
  omega
set_option maxHeartbeats 400000 in
theorem fFloor (n d : Int) (w : World) (h1 : -4611686018427387904 ≤ n) (h2 : n ≤ 4611686018427387904) (hd : 1 ≤ d) (hd2 : d ≤ 4611686018427387904) {v : Int} (hv : n / d = v) :
    Calls Tryz.prog 80 #[.int .i64 n, .int .i64 d] w fun e w' => e = .returned (.int .i64 v) ∧ w = w' := by
  have hf := fl_gen n d (by omega)
  rw [hv] at hf
  obtain ⟨b1, b2⟩ := tdiv_bd n d
  obtain ⟨r, hr⟩ : ∃ r, n.tmod d = r := ⟨_, rfl⟩
  obtain ⟨a, ha⟩ : ∃ a, n.tdiv d = a := ⟨_, rfl⟩
  rw [hr, ha] at hf
  rw [ha] at b1 b2
  have hd0 : ¬ d = 0 := by omega
  have hdm : ¬ d = -1 := by omega
  obtain ⟨b3, b4⟩ : -4611686018427387904 ≤ a ∧ a ≤ 4611686018427387904 := by omega
  have HF := Lib.hid hf
  clear hf hv
  by_cases hc : r < 0
  · have hdc : decide (r < 0) = true := by simpa using hc
    have HV := Lib.hid (show a - 1 = v by have := HF.out; rw [if_pos hc] at this; exact this)
    clear HF
    go_enter Tryz.func80, Tryz.ntmps80
    go_wp2
    go_ret
    exact ⟨by rw [HV.out]; rfl, rfl⟩
  · have hdc : decide (r < 0) = false := by simpa using hc
    have HV := Lib.hid (show a = v by have := HF.out; rw [if_neg hc] at this; exact this)
    clear HF
    go_enter Tryz.func80, Tryz.ntmps80
    go_wp2
    go_ret
    exact ⟨by rw [HV.out]; rfl, rfl⟩
set_option maxHeartbeats 400000 in
theorem fWrap (n : Int) (w : World) (h1 : -1000000000000000 ≤ n) (h2 : n ≤ 1000000000000000) {v : Int} (hv : wrP n = v) :
    Calls Tryz.prog 107 #[.int .i64 n] w fun e w' => e = .returned (.int .i64 v) ∧ w = w' := by
  obtain ⟨q, hq⟩ : ∃ q, n / 4096 = q := ⟨_, rfl⟩
  have HFL := Lib.hid (fun w => fFloor n 4096 w (by omega) (by omega) (by decide) (by decide) hq)
  have hb : 0 ≤ n - 4096 * q ∧ n - 4096 * q < 4096 := by omega
  obtain ⟨c1, c2⟩ := hb
  unfold wrP at hv
  by_cases hc : 2048 ≤ n - 4096 * q
  · have hdc : decide (2048 ≤ n - 4096 * q) = true := by simpa using hc
    have HV := Lib.hid (show n - 4096 * q - 4096 = v by omega)
    clear hv hq
    go_enter Tryz.func107, Tryz.ntmps107
    go_wp2_with (first | (go_at_call 80; (with_reducible refine (HFL.out _).mono ?_); rintro e w' ⟨rfl, rfl⟩))
    go_ret
    exact ⟨by rw [HV.out]; rfl, rfl⟩
  · have hdc : decide (2048 ≤ n - 4096 * q) = false := by simpa using hc
    have HV := Lib.hid (show n - 4096 * q = v by omega)
    clear hv hq
    go_enter Tryz.func107, Tryz.ntmps107
    go_wp2_with (first | (go_at_call 80; (with_reducible refine (HFL.out _).mono ?_); rintro e w' ⟨rfl, rfl⟩))
    go_ret
    exact ⟨by rw [HV.out]; rfl, rfl⟩
set_option maxHeartbeats 1000000 in
theorem fSized (l s n : Int) (w : World) {e0 : Int} (he : sizeE l s n = e0) :
    Calls Tryz.prog 62 #[.int .i64 l, .int .i64 s, .int .i64 n] w fun e w' => e = .returned (.int .i64 e0) ∧ w = w' := by
  subst he
  rcases (show inE 1 64 l = false ∨ inE 1 64 l = true by cases inE 1 64 l <;> simp) with h1 | h1
  · have HF := Lib.hid (show sizeE l s n = 2 by unfold sizeE; rw [h1]; rfl)
    have H1 := Lib.hid h1
    clear h1
    go_enter Tryz.func62, Tryz.ntmps62
    go_wp2_with (first | (go_at_call 64; (with_reducible refine (fWithin l _ _ _ H1.out).mono ?_); rintro e w' ⟨rfl, rfl⟩))
    go_ret
    exact ⟨ret_intE HF.out.symm, rfl⟩
  · rcases (show inE 1 64 s = false ∨ inE 1 64 s = true by cases inE 1 64 s <;> simp) with h2 | h2
    · have HF := Lib.hid (show sizeE l s n = 2 by unfold sizeE; rw [h1, h2]; rfl)
      have H1 := Lib.hid h1
      have H2 := Lib.hid h2
      clear h1 h2
      go_enter Tryz.func62, Tryz.ntmps62
      go_wp2_with (first | (go_at_call 64; (with_reducible refine (fWithin l _ _ _ H1.out).mono ?_); rintro e w' ⟨rfl, rfl⟩) | (go_at_call 64; (with_reducible refine (fWithin s _ _ _ H2.out).mono ?_); rintro e w' ⟨rfl, rfl⟩))
      go_ret
      exact ⟨ret_intE HF.out.symm, rfl⟩
    · obtain ⟨a1, a2⟩ := inE_iff.1 h1
      obtain ⟨b1, b2⟩ := inE_iff.1 h2
      obtain ⟨m1, m2⟩ : 0 ≤ l * s ∧ l * s ≤ 4096 := ⟨Int.mul_nonneg (by omega) (by omega), by
        have := Int.mul_le_mul a2 b2 (by omega) (by decide)
        omega⟩
      have H1 := Lib.hid h1
      have H2 := Lib.hid h2
      by_cases hn : n = l * s
      · have HF := Lib.hid (show sizeE l s n = 0 by unfold sizeE; rw [h1, h2, if_pos (show (true && true) = true from rfl), if_pos hn])
        have hb : (n != l * s) = false := by simpa using hn
        clear h1 h2 hn
        go_enter Tryz.func62, Tryz.ntmps62
        go_wp2_with (first | (go_at_call 64; (with_reducible refine (fWithin l _ _ _ H1.out).mono ?_); rintro e w' ⟨rfl, rfl⟩) | (go_at_call 64; (with_reducible refine (fWithin s _ _ _ H2.out).mono ?_); rintro e w' ⟨rfl, rfl⟩))
        go_ret
        exact ⟨ret_intE HF.out.symm, rfl⟩
      · have HF := Lib.hid (show sizeE l s n = 10 by unfold sizeE; rw [h1, h2, if_pos (show (true && true) = true from rfl), if_neg hn])
        have hb : (n != l * s) = true := by simpa using hn
        clear h1 h2 hn
        go_enter Tryz.func62, Tryz.ntmps62
        go_wp2_with (first | (go_at_call 64; (with_reducible refine (fWithin l _ _ _ H1.out).mono ?_); rintro e w' ⟨rfl, rfl⟩) | (go_at_call 64; (with_reducible refine (fWithin s _ _ _ H2.out).mono ?_); rintro e w' ⟨rfl, rfl⟩))
        go_ret
        exact ⟨ret_intE HF.out.symm, rfl⟩
/-- A phase of a right map. -/
def phOk (p : Int) : Bool := decide (p = 1000000000000) || inE (-100000000) 100000000 p
def mapG (zs : List Int) (k : Nat) : Int := if phOk (intAt zs k) then 0 else 2
/-- The number of the first wrong pixel, and the error of a map. -/
def mapE (R C : Int) (zs : List Int) : Nat × Int := if sizeE R C zs.length = 0 then firstE zs.length (mapG zs) else (0, sizeE R C zs.length)
set_option maxHeartbeats 400000 in
theorem checkMap1 (p : Int) (w : World) {c : Bool} (hc : phOk p = c) : Calls Tryz.prog 63 #[.int .i64 p] w fun e w' => e = .returned (.bool (!c)) ∧ w = w' := by
  unfold phOk at hc
  by_cases h : p = 1000000000000
  · have hb : (p != 1000000000000) = false := by simpa using h
    have HF := Lib.hid (show false = !c by rw [← hc, decide_eq_true h]; rfl)
    clear hc h
    go_enter Tryz.func63, Tryz.ntmps63
    go_wp2
    go_ret
    exact ⟨ret_bool HF.out, rfl⟩
  · have hb : (p != 1000000000000) = true := by simpa using h
    rw [decide_eq_false h, Bool.false_or] at hc
    have HW := Lib.hid hc
    clear h hc
    go_enter Tryz.func63, Tryz.ntmps63
    go_wp2_with (first | (go_at_call 64; (with_reducible refine (fWithin _ _ _ _ HW.out).mono ?_); rintro e w' ⟨rfl, rfl⟩))
    go_ret
    exact ⟨rfl, rfl⟩
set_option maxHeartbeats 1000000 in
theorem indexFunc_m (zs : List Int) (v : Value) (w : World) (hl : zs.length ≤ 100000) (hv : IntsV w v zs) {k0 : Nat} {e0 : Int} (he : firstE zs.length (mapG zs) = (k0, e0)) :
    Calls Tryz.prog 65 #[v, .func (.func 63) #[] #[]] w fun e w' => e = .returned (.int .i64 (if e0 = 0 then -1 else k0)) ∧ w = w' := by
  obtain ⟨-, a, cap, rfl, h4⟩ := hv
  have HE := Lib.hid he
  have H4 := Lib.hid h4
  obtain ⟨n, hn⟩ : ∃ n, zs.length = n := ⟨_, rfl⟩
  rw [hn] at hl HE H4 ⊢
  clear he h4
  go_enter Tryz.func65, Tryz.ntmps65
  go_wp2
  go_loop [8] (fun i => ∃ k : Nat, k ≤ n ∧ i = .int .i64 k ∧ ∀ j, j < k → mapG zs j = 0) (fun i => n - (intOf i).toNat)
  case atStart => exact ⟨0, Nat.zero_le _, rfl, fun j hj => absurd hj (Nat.not_lt_zero _)⟩
  case round =>
    obtain ⟨k, hk, rfl, hz⟩ := hrel
    have HZ := Lib.hid hz
    clear hz
    by_cases hlt : k < n
    · have hdk : decide ((k : Int) < (n : Int)) = true := by simp; omega
      obtain ⟨b, off, rfl, hbw, hc⟩ := H4.out (by omega)
      have ck := hc k hlt
      clear hc
      rcases (show phOk (intAt zs k) = false ∨ phOk (intAt zs k) = true by cases phOk (intAt zs k) <;> simp) with h0 | h0
      · have HP := Lib.hid (fun W => checkMap1 (intAt zs k) W h0)
        have h1 : mapG zs k = 2 := by unfold mapG; rw [h0]; rfl
        have hE := (firstE_hit hlt HZ.out (by rw [h1]; decide)).symm.trans HE.out
        rw [h1] at hE
        obtain ⟨rfl, rfl⟩ := Prod.mk.inj hE
        clear h0 h1 hE HE HZ
        generalize intAt zs k = p at *
        go_wp2_with (first | (go_at_call 63; (with_reducible refine (HP.out _).mono ?_); rintro e w' ⟨rfl, rfl⟩))
        go_ret
        exact ⟨rfl, rfl⟩
      · have HP := Lib.hid (fun W => checkMap1 (intAt zs k) W h0)
        have H0 := Lib.hid (show mapG zs k = 0 by unfold mapG; rw [h0]; rfl)
        clear h0
        generalize intAt zs k = p at ck HP
        go_wp2_with (first | (go_at_call 63; (with_reducible refine (HP.out _).mono ?_); rintro e w' ⟨rfl, rfl⟩))
        go_round
        case rel => exact ⟨k + 1, by omega, by go_num, fun j hj => by rcases Nat.lt_succ_iff_lt_or_eq.1 hj with h | rfl; exact HZ.out j h; exact H0.out⟩
        case measure => simp [intOf]; omega
    · obtain rfl : k = n := by omega
      have hdk : decide ((k : Int) < (k : Int)) = false := by simp
      have hE := (firstE_ok HZ.out).symm.trans HE.out
      obtain ⟨rfl, rfl⟩ := Prod.mk.inj hE
      clear HE HZ hE
      go_wp2
      go_ret
      exact ⟨rfl, rfl⟩
set_option maxHeartbeats 1000000 in
theorem checkMap_any (R C : Int) (zs : List Int) (v : Value) (w : World) (hl : zs.length ≤ 100000) (hv : IntsV w v zs) {i0 : Nat} {e0 : Int} (he : mapE R C zs = (i0, e0)) :
    Calls Tryz.prog 19 #[.agg #[.int .i64 R, .int .i64 C, v]] w fun e w' => e = .returned (.tuple #[.int .i64 i0, .int .i64 e0]) ∧ Below w.heap.size w w' := by
  obtain ⟨z, hz⟩ : ∃ z, sizeE R C zs.length = z := ⟨_, rfl⟩
  have HS := Lib.hid (fun w => fSized R C zs.length w hz)
  by_cases h0 : z = 0
  · subst h0
    have he' : firstE zs.length (mapG zs) = (i0, e0) := by rw [← he]; unfold mapE; rw [if_pos hz]
    have HI := Lib.hid (show ∀ W, Below w.heap.size w W → _ from fun W hW => indexFunc_m zs v W hl (hv.below hW) he')
    have hz2 : e0 = 0 → i0 = 0 := fun h => by
      subst h
      have h1 := firstE_zero (n := zs.length) (g := mapG zs) (by rw [he'])
      have := (firstE_ok h1).symm.trans he'
      exact (Prod.mk.inj this).1.symm
    have he2 : e0 = 0 ∨ e0 = 2 := by
      unfold firstE at he'
      split at he'
      · rename_i k hk
        have := (Prod.mk.inj he').2
        unfold mapG at this
        split at this <;> omega
      · have := (Prod.mk.inj he').2
        omega
    obtain ⟨-, a, cap, rfl, -⟩ := hv
    clear hz he he'
    rcases he2 with rfl | rfl
    · obtain rfl := hz2 rfl
      go_enter Tryz.func19, Tryz.ntmps19
      go_wp2_with (first | (go_at_call 62; (with_reducible refine (HS.out _).mono ?_); rintro e w' ⟨rfl, rfl⟩) | (go_at_call 65; (with_reducible refine (HI.out _ (by (repeat' (first | with_reducible exact Below.refl _ _ | (with_reducible refine below_later_of ?_ ?_ _) | (with_reducible refine Below.alloc ?_ ?_ _) | (with_reducible refine Below.setCell ?_ ?_ _) | (with_reducible refine Below.drew ?_) | (simp; done) | (simp; omega) | omega)))).mono ?_); rintro e w' ⟨rfl, rfl⟩))
      go_ret2
      exact ⟨rfl, (by (repeat' (first | with_reducible exact Below.refl _ _ | (with_reducible refine below_later_of ?_ ?_ _) | (with_reducible refine Below.alloc ?_ ?_ _) | (with_reducible refine Below.setCell ?_ ?_ _) | (with_reducible refine Below.drew ?_) | (simp; done) | (simp; omega) | omega)))⟩
    · clear hz2
      have hd : decide ((0 : Int) ≤ (i0 : Int)) = true := by simp
      go_enter Tryz.func19, Tryz.ntmps19
      go_wp2_with (first | (go_at_call 62; (with_reducible refine (HS.out _).mono ?_); rintro e w' ⟨rfl, rfl⟩) | (go_at_call 65; (with_reducible refine (HI.out _ (by (repeat' (first | with_reducible exact Below.refl _ _ | (with_reducible refine below_later_of ?_ ?_ _) | (with_reducible refine Below.alloc ?_ ?_ _) | (with_reducible refine Below.setCell ?_ ?_ _) | (with_reducible refine Below.drew ?_) | (simp; done) | (simp; omega) | omega)))).mono ?_); rintro e w' ⟨rfl, rfl⟩))
      go_ret2
      exact ⟨rfl, (by (repeat' (first | with_reducible exact Below.refl _ _ | (with_reducible refine below_later_of ?_ ?_ _) | (with_reducible refine Below.alloc ?_ ?_ _) | (with_reducible refine Below.setCell ?_ ?_ _) | (with_reducible refine Below.drew ?_) | (simp; done) | (simp; omega) | omega)))⟩
  · have he' : (0, z) = (i0, e0) := by rw [← he]; unfold mapE; rw [hz, if_neg h0]
    obtain ⟨rfl, rfl⟩ := Prod.mk.inj he'
    have hne : (z != 0) = true := by simpa using h0
    obtain ⟨-, a, cap, rfl, -⟩ := hv
    clear hz he he' h0
    go_enter Tryz.func19, Tryz.ntmps19
    go_wp2_with (first | (go_at_call 62; (with_reducible refine (HS.out _).mono ?_); rintro e w' ⟨rfl, rfl⟩))
    go_ret2
    exact ⟨rfl, (by (repeat' (first | with_reducible exact Below.refl _ _ | (with_reducible refine below_later_of ?_ ?_ _) | (with_reducible refine Below.alloc ?_ ?_ _) | (with_reducible refine Below.setCell ?_ ?_ _) | (with_reducible refine Below.drew ?_) | (simp; done) | (simp; omega) | omega)))⟩
set_option maxHeartbeats 1000000 in
theorem mapErr_any (R C : Int) (zs : List Int) (v : Value) (w : World) (hl : zs.length ≤ 100000) (hv : IntsV w v zs) {e0 : Int} (he : (mapE R C zs).2 = e0) :
    Calls Tryz.prog 58 #[.agg #[.int .i64 R, .int .i64 C, v]] w fun e w' => e = .returned (.int .i64 e0) ∧ Below w.heap.size w w' := by
  have HI := Lib.hid (show ∀ W, Below w.heap.size w W → _ from fun W hW => checkMap_any R C zs v W hl (hv.below hW) (i0 := (mapE R C zs).1) (e0 := e0) (by rw [← he]))
  obtain ⟨-, a, cap, rfl, -⟩ := hv
  clear he
  generalize (mapE R C zs).1 = i0 at HI
  go_enter Tryz.func58, Tryz.ntmps58
  go_wp2_with (first | (go_at_call 19; (with_reducible refine (HI.out _ (by (repeat' (first | with_reducible exact Below.refl _ _ | (with_reducible refine below_later_of ?_ ?_ _) | (with_reducible refine Below.alloc ?_ ?_ _) | (with_reducible refine Below.setCell ?_ ?_ _) | (with_reducible refine Below.drew ?_) | (simp; done) | (simp; omega) | omega)))).mono ?_); rintro e w' ⟨rfl, hb⟩; obtain ⟨pp, rfl⟩ := later_of_below hb; clear hb))
  go_ret
  exact ⟨rfl, (by (repeat' (first | with_reducible exact Below.refl _ _ | (with_reducible refine below_later_of ?_ ?_ _) | (with_reducible refine Below.alloc ?_ ?_ _) | (with_reducible refine Below.setCell ?_ ?_ _) | (with_reducible refine Below.drew ?_) | (simp; done) | (simp; omega) | omega)))⟩
end Go.Proofs.YtkoiknmijjiicaaGreatDoor

/- Chapter 4: pixels, steps. -/
namespace Go.Proofs.YtkoiknmijjiicaaGreatDoor
set_option linter.unusedVariables false
set_option linter.unusedSimpArgs false
open Go.RowKit Ntt
/-- A map without errors, of R rows and C columns. -/
structure MapOk (R C : Nat) (zs : List Int) : Prop where
  len : zs.length = R * C
  r1 : 1 ≤ R
  r2 : R ≤ 64
  c1 : 1 ≤ C
  c2 : C ≤ 64
  ok : ∀ k, k < zs.length → phOk (intAt zs k) = true
theorem MapOk.size {R C : Nat} {zs : List Int} (h : MapOk R C zs) : zs.length ≤ 4096 := by rw [h.len]; exact Nat.mul_le_mul h.r2 h.c2
theorem MapOk.idx {R C : Nat} {zs : List Int} (h : MapOk R C zs) {r c : Nat} (hr : r < R) (hc : c < C) : r * C + c < zs.length := by
  rw [h.len]
  have h1 : (r + 1) * C ≤ R * C := Nat.mul_le_mul_right _ hr
  rw [Nat.add_mul, Nat.one_mul] at h1
  omega
theorem phOk_bd {p : Int} (h : phOk p = true) : -1000000000000 ≤ p ∧ p ≤ 1000000000000 := by
  unfold phOk inE at h
  simp only [Bool.or_eq_true, Bool.and_eq_true, decide_eq_true_eq] at h
  omega
theorem MapOk.bd {R C : Nat} {zs : List Int} (h : MapOk R C zs) (k : Nat) : -1000000000000 ≤ intAt zs k ∧ intAt zs k ≤ 1000000000000 := by
  by_cases hk : k < zs.length
  · exact phOk_bd (h.ok k hk)
  · have : intAt zs k = 0 := by unfold intAt; rw [List.getElem?_eq_none (by omega)]; rfl
    omega
theorem sizeE_ok {l s n : Int} (h : sizeE l s n = 0) : (1 ≤ l ∧ l ≤ 64) ∧ (1 ≤ s ∧ s ≤ 64) ∧ n = l * s := by
  unfold sizeE at h
  split at h
  · rename_i h1
    simp only [Bool.and_eq_true] at h1
    split at h
    · rename_i h2
      exact ⟨inE_iff.1 h1.1, inE_iff.1 h1.2, h2⟩
    · exact absurd h (by decide)
  · exact absurd h (by decide)
theorem mapE_zero {R C : Int} {zs : List Int} (h : (mapE R C zs).2 = 0) : ∃ R' C' : Nat, R = R' ∧ C = C' ∧ MapOk R' C' zs := by
  unfold mapE at h
  split at h
  · rename_i hs
    obtain ⟨⟨a1, a2⟩, ⟨b1, b2⟩, hn⟩ := sizeE_ok hs
    obtain ⟨R', rfl⟩ := Int.eq_ofNat_of_zero_le (show 0 ≤ R by omega)
    obtain ⟨C', rfl⟩ := Int.eq_ofNat_of_zero_le (show 0 ≤ C by omega)
    refine ⟨R', C', rfl, rfl, by exact_mod_cast hn, by omega, by omega, by omega, by omega, fun k hk => ?_⟩
    have := firstE_zero h k hk
    unfold mapG at this
    cases hp : phOk (intAt zs k)
    · rw [hp] at this; exact absurd this (by decide)
    · rfl
  · rename_i hs
    exact absurd h hs
theorem MapOk.err {R C : Nat} {zs : List Int} (h : MapOk R C zs) : mapE R C zs = (0, 0) := by
  have hs : sizeE R C zs.length = 0 := by
    have h1 := h.r1
    have h2 := h.r2
    have h3 := h.c1
    have h4 := h.c2
    unfold sizeE inE
    rw [if_pos (by simp; omega), if_pos (by rw [h.len, Int.natCast_mul])]
  unfold mapE
  rw [if_pos hs]
  exact firstE_ok fun j hj => by unfold mapG; rw [h.ok j hj]; rfl
/-- The pixel that is void. -/
def nvB (p : Int) : Bool := decide (p ≠ 1000000000000)
theorem idx_cast {r C c i : Nat} (h : r * C + c = i) : (r : Int) * (C : Int) + (c : Int) = (i : Int) := by rw [← h, Int.natCast_add, Int.natCast_mul]
set_option maxHeartbeats 1000000 in
theorem fAt (R C r c : Nat) (zs : List Int) (v : Value) (w : World) (hm : MapOk R C zs) (hv : IntsV w v zs) (hr : r < R) (hc : c < C) {p : Int} (hp : zAt C (intAt zs) r c = p) :
    Calls Tryz.prog 137 #[.agg #[.int .i64 R, .int .i64 C, v], .int .i64 r, .int .i64 c] w fun e w' => e = .returned (.int .i64 p) ∧ Below w.heap.size w w' := by
  have hi := hm.idx hr hc
  have hsz := hm.size
  obtain ⟨i, hi2⟩ : ∃ i, r * C + c = i := ⟨_, rfl⟩
  have hx := idx_cast hi2
  unfold zAt at hp
  rw [hi2] at hi hp
  obtain ⟨-, a, cap, rfl, h4⟩ := hv
  obtain ⟨b, off, rfl, hbw, hce⟩ := h4 (by omega)
  have ci := hce i hi
  rw [hp] at ci
  have h1 := hm.c2
  have h2 := hm.r2
  have hq : 0 ≤ (r : Int) * C ∧ (r : Int) * C ≤ 4096 := ⟨Int.mul_nonneg (by omega) (by omega), by omega⟩
  obtain ⟨q1, q2⟩ := hq
  clear h4 hce hm hp hi2
  generalize zs.length = n at *
  have hi1 : (i : Int) < (n : Int) := by omega
  go_enter Tryz.func137, Tryz.ntmps137
  go_wp2
  go_ret
  exact ⟨rfl, (by (repeat' (first | with_reducible exact Below.refl _ _ | (with_reducible refine below_later_of ?_ ?_ _) | (with_reducible refine Below.alloc ?_ ?_ _) | (with_reducible refine Below.setCell ?_ ?_ _) | (with_reducible refine Below.drew ?_) | (simp; done) | (simp; omega) | omega)))⟩
def pixB (R C : Nat) (r c : Int) : Bool := inE 0 ((R : Int) - 1) r && inE 0 ((C : Int) - 1) c
/-- The pixel that a step goes to. -/
def toR (r : Nat) (d : Bool) : Nat := if d then r + 1 else r
def toC (c : Nat) (d : Bool) : Nat := if d then c else c + 1
set_option maxHeartbeats 1000000 in
theorem fStep (R C r c : Nat) (d : Bool) (zs : List Int) (v : Value) (w : World) (hm : MapOk R C zs) (hv : IntsV w v zs) (hr : toR r d < R) (hc : toC c d < C) {p q : Int} (hp : zAt C (intAt zs) r c = p) (hq : zAt C (intAt zs) (toR r d) (toC c d) = q) :
    Calls Tryz.prog 115 #[.agg #[.int .i64 R, .int .i64 C, v], .int .i64 r, .int .i64 c, .bool d] w fun e w' => e = .returned (.tuple #[.int .i64 (wrP (q - p)), .bool (nvB p && nvB q)]) ∧ Below w.heap.size w w' := by
  have hr0 : r < R := by unfold toR at hr; split at hr <;> omega
  have hc0 : c < C := by unfold toC at hc; split at hc <;> omega
  have b1 := hm.bd (r * C + c)
  have b2 := hm.bd (toR r d * C + toC c d)
  have c2 := hm.c2
  have r2 := hm.r2
  unfold zAt at hp hq
  rw [hp] at b1
  rw [hq] at b2
  have HA1 := Lib.hid (show ∀ W, Below w.heap.size w W → _ from fun W hW => fAt R C r c zs v W hm (hv.below hW) hr0 hc0 hp)
  have HA2 := Lib.hid (show ∀ W, Below w.heap.size w W → _ from fun W hW => fAt R C (toR r d) (toC c d) zs v W hm (hv.below hW) hr hc hq)
  have HWR := Lib.hid (fun W => fWrap (q - p) W (by omega) (by omega) (v := wrP (q - p)) rfl)
  obtain ⟨-, a, cap, rfl, -⟩ := hv
  obtain ⟨b3, b4⟩ := b1
  obtain ⟨b5, b6⟩ := b2
  clear hm hp hq
  generalize wrP (q - p) = n at HWR ⊢
  cases d
  · simp only [toR, toC, Bool.false_eq_true, if_false] at HA2 hr hc
    have e2 : ((c + 1 : Nat) : Int) = (c : Int) + 1 := by omega
    rw [e2] at HA2
    by_cases h1 : p = 1000000000000
    · have d1 : (p != 1000000000000) = false := by simpa using h1
      have HF := Lib.hid (show false = (nvB p && nvB q) by unfold nvB; simp [h1])
      generalize (nvB p && nvB q) = f at HF ⊢
      clear h1
      go_enter Tryz.func115, Tryz.ntmps115
      go_wp2_with (first | (go_at_call 137; (with_reducible refine (HA1.out _ (by (repeat' (first | with_reducible exact Below.refl _ _ | (with_reducible refine below_later_of ?_ ?_ _) | (with_reducible refine Below.alloc ?_ ?_ _) | (with_reducible refine Below.setCell ?_ ?_ _) | (with_reducible refine Below.drew ?_) | (simp; done) | (simp; omega) | omega)))).mono ?_); rintro e w' ⟨rfl, hb⟩; obtain ⟨p1, rfl⟩ := later_of_below hb; clear hb) | (go_at_call 137; (with_reducible refine (HA2.out _ (by (repeat' (first | with_reducible exact Below.refl _ _ | (with_reducible refine below_later_of ?_ ?_ _) | (with_reducible refine Below.alloc ?_ ?_ _) | (with_reducible refine Below.setCell ?_ ?_ _) | (with_reducible refine Below.drew ?_) | (simp; done) | (simp; omega) | omega)))).mono ?_); rintro e w' ⟨rfl, hb⟩; obtain ⟨p2, rfl⟩ := later_of_below hb; clear hb) | (go_at_call 107; (with_reducible refine (HWR.out _).mono ?_); rintro e w' ⟨rfl, rfl⟩))
      go_ret2
      exact ⟨by rw [HF.out]; rfl, (by (repeat' (first | with_reducible exact Below.refl _ _ | (with_reducible refine below_later_of ?_ ?_ _) | (with_reducible refine Below.alloc ?_ ?_ _) | (with_reducible refine Below.setCell ?_ ?_ _) | (with_reducible refine Below.drew ?_) | (simp; done) | (simp; omega) | omega)))⟩
    · have d1 : (p != 1000000000000) = true := by simpa using h1
      have HF := Lib.hid (show (q != 1000000000000) = (nvB p && nvB q) by unfold nvB; rw [decide_eq_true h1, Bool.true_and, decide_not]; rfl)
      generalize (nvB p && nvB q) = f at HF ⊢
      clear h1
      go_enter Tryz.func115, Tryz.ntmps115
      go_wp2_with (first | (go_at_call 137; (with_reducible refine (HA1.out _ (by (repeat' (first | with_reducible exact Below.refl _ _ | (with_reducible refine below_later_of ?_ ?_ _) | (with_reducible refine Below.alloc ?_ ?_ _) | (with_reducible refine Below.setCell ?_ ?_ _) | (with_reducible refine Below.drew ?_) | (simp; done) | (simp; omega) | omega)))).mono ?_); rintro e w' ⟨rfl, hb⟩; obtain ⟨p1, rfl⟩ := later_of_below hb; clear hb) | (go_at_call 137; (with_reducible refine (HA2.out _ (by (repeat' (first | with_reducible exact Below.refl _ _ | (with_reducible refine below_later_of ?_ ?_ _) | (with_reducible refine Below.alloc ?_ ?_ _) | (with_reducible refine Below.setCell ?_ ?_ _) | (with_reducible refine Below.drew ?_) | (simp; done) | (simp; omega) | omega)))).mono ?_); rintro e w' ⟨rfl, hb⟩; obtain ⟨p2, rfl⟩ := later_of_below hb; clear hb) | (go_at_call 107; (with_reducible refine (HWR.out _).mono ?_); rintro e w' ⟨rfl, rfl⟩))
      go_ret2
      exact ⟨by rw [HF.out]; rfl, (by (repeat' (first | with_reducible exact Below.refl _ _ | (with_reducible refine below_later_of ?_ ?_ _) | (with_reducible refine Below.alloc ?_ ?_ _) | (with_reducible refine Below.setCell ?_ ?_ _) | (with_reducible refine Below.drew ?_) | (simp; done) | (simp; omega) | omega)))⟩
  · simp only [toR, toC, if_true] at HA2 hr hc
    have e2 : ((r + 1 : Nat) : Int) = (r : Int) + 1 := by omega
    rw [e2] at HA2
    by_cases h1 : p = 1000000000000
    · have d1 : (p != 1000000000000) = false := by simpa using h1
      have HF := Lib.hid (show false = (nvB p && nvB q) by unfold nvB; simp [h1])
      generalize (nvB p && nvB q) = f at HF ⊢
      clear h1
      go_enter Tryz.func115, Tryz.ntmps115
      go_wp2_with (first | (go_at_call 137; (with_reducible refine (HA1.out _ (by (repeat' (first | with_reducible exact Below.refl _ _ | (with_reducible refine below_later_of ?_ ?_ _) | (with_reducible refine Below.alloc ?_ ?_ _) | (with_reducible refine Below.setCell ?_ ?_ _) | (with_reducible refine Below.drew ?_) | (simp; done) | (simp; omega) | omega)))).mono ?_); rintro e w' ⟨rfl, hb⟩; obtain ⟨p1, rfl⟩ := later_of_below hb; clear hb) | (go_at_call 137; (with_reducible refine (HA2.out _ (by (repeat' (first | with_reducible exact Below.refl _ _ | (with_reducible refine below_later_of ?_ ?_ _) | (with_reducible refine Below.alloc ?_ ?_ _) | (with_reducible refine Below.setCell ?_ ?_ _) | (with_reducible refine Below.drew ?_) | (simp; done) | (simp; omega) | omega)))).mono ?_); rintro e w' ⟨rfl, hb⟩; obtain ⟨p2, rfl⟩ := later_of_below hb; clear hb) | (go_at_call 107; (with_reducible refine (HWR.out _).mono ?_); rintro e w' ⟨rfl, rfl⟩))
      go_ret2
      exact ⟨by rw [HF.out]; rfl, (by (repeat' (first | with_reducible exact Below.refl _ _ | (with_reducible refine below_later_of ?_ ?_ _) | (with_reducible refine Below.alloc ?_ ?_ _) | (with_reducible refine Below.setCell ?_ ?_ _) | (with_reducible refine Below.drew ?_) | (simp; done) | (simp; omega) | omega)))⟩
    · have d1 : (p != 1000000000000) = true := by simpa using h1
      have HF := Lib.hid (show (q != 1000000000000) = (nvB p && nvB q) by unfold nvB; rw [decide_eq_true h1, Bool.true_and, decide_not]; rfl)
      generalize (nvB p && nvB q) = f at HF ⊢
      clear h1
      go_enter Tryz.func115, Tryz.ntmps115
      go_wp2_with (first | (go_at_call 137; (with_reducible refine (HA1.out _ (by (repeat' (first | with_reducible exact Below.refl _ _ | (with_reducible refine below_later_of ?_ ?_ _) | (with_reducible refine Below.alloc ?_ ?_ _) | (with_reducible refine Below.setCell ?_ ?_ _) | (with_reducible refine Below.drew ?_) | (simp; done) | (simp; omega) | omega)))).mono ?_); rintro e w' ⟨rfl, hb⟩; obtain ⟨p1, rfl⟩ := later_of_below hb; clear hb) | (go_at_call 137; (with_reducible refine (HA2.out _ (by (repeat' (first | with_reducible exact Below.refl _ _ | (with_reducible refine below_later_of ?_ ?_ _) | (with_reducible refine Below.alloc ?_ ?_ _) | (with_reducible refine Below.setCell ?_ ?_ _) | (with_reducible refine Below.drew ?_) | (simp; done) | (simp; omega) | omega)))).mono ?_); rintro e w' ⟨rfl, hb⟩; obtain ⟨p2, rfl⟩ := later_of_below hb; clear hb) | (go_at_call 107; (with_reducible refine (HWR.out _).mono ?_); rintro e w' ⟨rfl, rfl⟩))
      go_ret2
      exact ⟨by rw [HF.out]; rfl, (by (repeat' (first | with_reducible exact Below.refl _ _ | (with_reducible refine below_later_of ?_ ?_ _) | (with_reducible refine Below.alloc ?_ ?_ _) | (with_reducible refine Below.setCell ?_ ?_ _) | (with_reducible refine Below.drew ?_) | (simp; done) | (simp; omega) | omega)))⟩
end Go.Proofs.YtkoiknmijjiicaaGreatDoor

/- Chapter 4: the turns around a box. -/
namespace Go.Proofs.YtkoiknmijjiicaaGreatDoor
set_option linter.unusedVariables false
set_option linter.unusedSimpArgs false
open Go.RowKit Ntt
/-- What turns knows: the map, the box, the sum so far, whether all was whole. -/
structure TnSt (w : World) (R C : Nat) (u : Value) (b0 b1 b2 b3 : Int) (s : Int) (q : Bool) (wr : World) : Prop where
  m0 : wr.cell? ⟨w.heap.size, 0, none⟩ = some (.int .i64 R)
  m1 : wr.cell? ⟨w.heap.size, 1, none⟩ = some (.int .i64 C)
  m2 : wr.cell? ⟨w.heap.size, 2, none⟩ = some u
  b0 : wr.cell? ⟨w.heap.size + 1, 0, none⟩ = some (.int .i64 b0)
  b1 : wr.cell? ⟨w.heap.size + 1, 1, none⟩ = some (.int .i64 b1)
  b2 : wr.cell? ⟨w.heap.size + 1, 2, none⟩ = some (.int .i64 b2)
  b3 : wr.cell? ⟨w.heap.size + 1, 3, none⟩ = some (.int .i64 b3)
  s0 : wr.cell? ⟨w.heap.size + 2, 0, none⟩ = some (.int .i64 s)
  s1 : wr.frozen? ⟨w.heap.size + 2, 0, none⟩ = false
  q0 : wr.cell? ⟨w.heap.size + 3, 0, none⟩ = some (.bool q)
  q1 : wr.frozen? ⟨w.heap.size + 3, 0, none⟩ = false
  bel : Below w.heap.size w wr
  lt : w.heap.size + 3 < wr.heap.size
theorem TnSt.below {w wr W : World} {R C : Nat} {u : Value} {b0 b1 b2 b3 s : Int} {q : Bool} (h : TnSt w R C u b0 b1 b2 b3 s q wr) (hb : Below wr.heap.size wr W) : TnSt w R C u b0 b1 b2 b3 s q W := by
  have hlt := h.lt
  have hs := hb.size
  have e : ∀ k j, k ≤ 3 → W.cell? ⟨w.heap.size + k, j, none⟩ = wr.cell? ⟨w.heap.size + k, j, none⟩ := fun k j hk => hb.cell (p := ⟨w.heap.size + k, j, none⟩) (show w.heap.size + k < wr.heap.size by omega)
  have f : ∀ k j, k ≤ 3 → W.frozen? ⟨w.heap.size + k, j, none⟩ = wr.frozen? ⟨w.heap.size + k, j, none⟩ := fun k j hk => hb.frozen (p := ⟨w.heap.size + k, j, none⟩) (show w.heap.size + k < wr.heap.size by omega)
  exact ⟨(e 0 0 (by decide)).trans h.m0, (e 0 1 (by decide)).trans h.m1, (e 0 2 (by decide)).trans h.m2, (e 1 0 (by decide)).trans h.b0, (e 1 1 (by decide)).trans h.b1, (e 1 2 (by decide)).trans h.b2, (e 1 3 (by decide)).trans h.b3,
    (e 2 0 (by decide)).trans h.s0, (f 2 0 (by decide)).trans h.s1, (e 3 0 (by decide)).trans h.q0, (f 3 0 (by decide)).trans h.q1, h.bel.trans (hb.mono (by omega)), by omega⟩
theorem TnSt.put {w wr : World} {R C : Nat} {u : Value} {b0 b1 b2 b3 s : Int} {q : Bool} (h : TnSt w R C u b0 b1 b2 b3 s q wr) (s' : Int) (q' : Bool) :
    TnSt w R C u b0 b1 b2 b3 s' q' ((wr.setCell ⟨w.heap.size + 2, 0, none⟩ (.int .i64 s')).setCell ⟨w.heap.size + 3, 0, none⟩ (.bool q')) := by
  have hlt := h.lt
  refine ⟨by simp [go_sem, h.m0], by simp [go_sem, h.m1], by simp [go_sem, h.m2], by simp [go_sem, h.b0], by simp [go_sem, h.b1], by simp [go_sem, h.b2], by simp [go_sem, h.b3], by simp [go_sem, h.s0], by simp [go_sem, h.s1], by simp [go_sem, h.q0], by simp [go_sem, h.q1], ?_, by simp; omega⟩
  exact (h.bel.setCell (p := ⟨w.heap.size + 2, 0, none⟩) (show w.heap.size ≤ w.heap.size + 2 by omega) _).setCell (p := ⟨w.heap.size + 3, 0, none⟩) (show w.heap.size ≤ w.heap.size + 3 by omega) _
set_option maxHeartbeats 2000000 in
theorem fAdd (R C r c : Nat) (d : Bool) (sg ri ci : Int) (zs : List Int) (u : Value) (b0 b1 b2 b3 s : Int) (q : Bool) (w W : World) (hm : MapOk R C zs) (hv : IntsV w u zs) (hst : TnSt w R C u b0 b1 b2 b3 s q W) (hsg : sg = 1 ∨ sg = -1) (hs1 : -1000000000 ≤ s) (hs2 : s ≤ 1000000000)
    (hr : toR r d < R) (hc : toC c d < C) (hri : ri = r) (hci : ci = c) {x y s' : Int} {q' : Bool} (hx : zAt C (intAt zs) r c = x) (hy : zAt C (intAt zs) (toR r d) (toC c d) = y) (hs' : s + sg * wrP (y - x) = s') (hq' : (q && (nvB x && nvB y)) = q') :
    Calls Tryz.prog 114 #[.int .i64 sg, .int .i64 ri, .int .i64 ci, .bool d, .pointer (some ⟨w.heap.size, 0, none⟩), .pointer (some ⟨w.heap.size + 2, 0, none⟩), .pointer (some ⟨w.heap.size + 3, 0, none⟩)] W fun e w' => e = .returned (.tuple #[]) ∧ TnSt w R C u b0 b1 b2 b3 s' q' w' := by
  subst hri hci
  have HST := Lib.hid (fStep R C r c d zs u W hm (hv.below hst.bel) hr hc hx hy)
  obtain ⟨n1, n2⟩ := wrP_bd (y - x)
  generalize wrP (y - x) = n at *
  generalize (nvB x && nvB y) = f at *
  have HS := Lib.hid hst
  have m0 := hst.m0
  have m1 := hst.m1
  have m2 := hst.m2
  have s0 := hst.s0
  have s1 := hst.s1
  have q0 := hst.q0
  have q1 := hst.q1
  have hlt := hst.lt
  obtain ⟨-, a, cap, rfl, -⟩ := hv
  have HSS := Lib.hid hs'
  have HQQ := Lib.hid hq'
  obtain ⟨p3, p4⟩ : -2048 ≤ sg * n ∧ sg * n ≤ 2048 := by rcases hsg with rfl | rfl <;> omega
  clear hst hm hx hy hr hc hs' hq' hsg
  cases q
  · go_enter Tryz.func114, Tryz.ntmps114
    go_wp2_with (first | (go_at_call 115; (with_reducible refine (HST.out).mono ?_); rintro e w' ⟨rfl, hb⟩; obtain ⟨p1, rfl⟩ := later_of_below hb; clear hb))
    go_end0
    refine ⟨rfl, ?_⟩
    rw [← HSS.out, ← HQQ.out]
    exact (HS.out.below (below_later W p1)).put _ _
  · go_enter Tryz.func114, Tryz.ntmps114
    go_wp2_with (first | (go_at_call 115; (with_reducible refine (HST.out).mono ?_); rintro e w' ⟨rfl, hb⟩; obtain ⟨p1, rfl⟩ := later_of_below hb; clear hb))
    go_end0
    refine ⟨rfl, ?_⟩
    rw [← HSS.out, ← HQQ.out]
    exact (HS.out.below (below_later W p1)).put _ _
/-! Whether all pixels of a border are told. -/
def okR (z : Nat → Nat → Int) (r c : Nat) : Bool := nvB (z r c) && nvB (z r (c + 1))
def okD (z : Nat → Nat → Int) (r c : Nat) : Bool := nvB (z r c) && nvB (z (r + 1) c)
def whWd (z : Nat → Nat → Int) (r0 c0 h : Nat) : Nat → Bool
  | 0 => true
  | k + 1 => (whWd z r0 c0 h k && okR z r0 (c0 + k)) && okR z (r0 + h) (c0 + k)
def whHi (z : Nat → Nat → Int) (r0 c0 w : Nat) (b : Bool) : Nat → Bool
  | 0 => b
  | k + 1 => (whHi z r0 c0 w b k && okD z (r0 + k) (c0 + w)) && okD z (r0 + k) c0
def wholeP (z : Nat → Nat → Int) (r0 c0 h w : Nat) : Bool := whHi z r0 c0 w (whWd z r0 c0 h w) h
theorem sumWd_succ (z : Nat → Nat → Int) (r0 c0 h k : Nat) : sumWd z r0 c0 h k + 1 * wrP (z r0 (c0 + k + 1) - z r0 (c0 + k)) + -1 * wrP (z (r0 + h) (c0 + k + 1) - z (r0 + h) (c0 + k)) = sumWd z r0 c0 h (k + 1) := by
  unfold sumWd
  rw [sum]
  unfold sR
  omega
theorem sumHi_succ (z : Nat → Nat → Int) (r0 c0 w k : Nat) (t : Int) : t + sumHi z r0 c0 w k + 1 * wrP (z (r0 + k + 1) (c0 + w) - z (r0 + k) (c0 + w)) + -1 * wrP (z (r0 + k + 1) c0 - z (r0 + k) c0) = t + sumHi z r0 c0 w (k + 1) := by
  unfold sumHi
  rw [sum]
  unfold sD
  omega
theorem wp_worldT {P : Program} {c : Code} {Q : Exit → Act → World → Prop} {a : Act} {w : World} (F : World → Prop) (hf : F w) (h : ∀ W, F W → Code.wp P c Q a W) : Code.wp P c Q a w := h w hf
set_option maxRecDepth 20000 in
set_option maxHeartbeats 4000000 in
theorem fTurns (R C r0 c0 h wd : Nat) (zs : List Int) (u : Value) (w : World) (hm : MapOk R C zs) (hv : IntsV w u zs) (hr : r0 + h < R) (hc : c0 + wd < C) {n : Int} {q : Bool} (hn : (aroundP (zAt C (intAt zs)) r0 c0 h wd).tdiv 4096 = n) (hq : wholeP (zAt C (intAt zs)) r0 c0 h wd = q) :
    Calls Tryz.prog 78 #[.agg #[.int .i64 R, .int .i64 C, u], .agg #[.int .i64 r0, .int .i64 c0, .int .i64 h, .int .i64 wd]] w fun e w' => e = .returned (.tuple #[.int .i64 n, .bool q]) ∧ Below w.heap.size w w' := by
  have HM := Lib.hid hm
  have HV := Lib.hid hv
  have hR := hm.r2
  have hC := hm.c2
  obtain ⟨z, hz⟩ : ∃ z, zAt C (intAt zs) = z := ⟨_, rfl⟩
  have HZ := Lib.hid (show ∀ r c, zAt C (intAt zs) r c = z r c from fun r c => by rw [hz])
  rw [hz] at hn hq
  have HN := Lib.hid hn
  have HQ := Lib.hid hq
  obtain ⟨hl, a, cap, rfl, -⟩ := hv
  clear hm hz hn hq hl
  go_enter Tryz.func78, Tryz.ntmps78
  go_wp2
  refine wp_worldT (fun W => TnSt w R C (.slice a zs.length cap) r0 c0 h wd 0 true W) ⟨by simp [go_sem], by simp [go_sem], by simp [go_sem], by simp [go_sem], by simp [go_sem], by simp [go_sem], by simp [go_sem], by simp [go_sem], by simp [go_sem], by simp [go_sem], by simp [go_sem], (by (repeat' (first | with_reducible exact Below.refl _ _ | (with_reducible refine below_later_of ?_ ?_ _) | (with_reducible refine Below.alloc ?_ ?_ _) | (with_reducible refine Below.setCell ?_ ?_ _) | (with_reducible refine Below.drew ?_) | (simp; done) | (simp; omega) | omega))), by simp⟩ ?_
  rintro W0 hst
  have HS0 := Lib.hid hst
  clear hst
  go_loopw [14] (fun i wr => ∃ k : Nat, k ≤ wd ∧ i = .int .i64 k ∧ TnSt w R C (.slice a zs.length cap) r0 c0 h wd (sumWd z r0 c0 h k) (whWd z r0 c0 h k) wr) (fun i _ => wd - (intOf i).toNat)
  case atStart => exact ⟨0, Nat.zero_le _, rfl, HS0.out⟩
  case round =>
    obtain ⟨k, hk, rfl, hst⟩ := hrel
    obtain ⟨bd1, bd2⟩ := sumWd_bd z r0 c0 h k
    by_cases hlt : k < wd
    · have hdk : decide ((k : Int) < (wd : Int)) = true := by simp; omega
      have m0 := hst.m0; have b0 := hst.b0; have b1 := hst.b1; have b2 := hst.b2; have b3 := hst.b3
      have hltw := hst.lt
      have HA1 := Lib.hid (show ∀ ri ci : Int, ri = (r0 : Int) → ci = ((c0 + k : Nat) : Int) → _ from fun ri ci h1 h2 => fAdd R C r0 (c0 + k) false 1 ri ci zs _ r0 c0 h wd _ _ w wr HM.out HV.out hst (.inl rfl) (by omega) (by omega) (by simp only [toR, Bool.false_eq_true, if_false]; omega) (by simp only [toC, Bool.false_eq_true, if_false]; omega) h1 h2 (HZ.out _ _) (HZ.out _ _) rfl rfl)
      have st1 := wrP_bd (z r0 (c0 + k + 1) - z r0 (c0 + k))
      have HA2 := Lib.hid (show ∀ W, TnSt w R C (.slice a zs.length cap) r0 c0 h wd (sumWd z r0 c0 h k + 1 * wrP (z (toR r0 false) (toC (c0 + k) false) - z r0 (c0 + k))) (whWd z r0 c0 h k && (nvB (z r0 (c0 + k)) && nvB (z (toR r0 false) (toC (c0 + k) false)))) W → ∀ ri ci : Int, ri = ((r0 + h : Nat) : Int) → ci = ((c0 + k : Nat) : Int) → _ from fun W hst ri ci h1 h2 => fAdd R C (r0 + h) (c0 + k) false (-1) ri ci zs _ r0 c0 h wd _ _ w W HM.out HV.out hst (.inr rfl) (by simp only [toR, toC, Bool.false_eq_true, if_false]; omega) (by simp only [toR, toC, Bool.false_eq_true, if_false]; omega) (by simp only [toR, Bool.false_eq_true, if_false]; omega) (by simp only [toC, Bool.false_eq_true, if_false]; omega) h1 h2 (HZ.out _ _) (HZ.out _ _) (sumWd_succ z r0 c0 h k) rfl)
      clear hst st1 bd1 bd2
      go_wp2_with (first | (go_at_call 114; (with_reducible refine (HA1.out _ _ (by omega) (by omega)).mono ?_); rintro e w1 ⟨rfl, hst1⟩; have HS1 := Lib.hid hst1; have e0 := hst1.b0; have e1 := hst1.b1; have e2 := hst1.b2; have e3 := hst1.b3; have hlt1 := hst1.lt; clear hst1) | (go_at_call 114; (with_reducible refine (HA2.out _ HS1.out _ _ (by omega) (by omega)).mono ?_); rintro e w2 ⟨rfl, hst2⟩; have HS2 := Lib.hid hst2; clear hst2))
      go_roundw
      case rel => exact ⟨k + 1, by omega, by go_num, HS2.out⟩
      case measure => simp [intOf]; omega
    · obtain rfl : k = wd := by omega
      have hdk : decide ((k : Int) < (k : Int)) = false := by simp
      have m0 := hst.m0; have b0 := hst.b0; have b1 := hst.b1; have b2 := hst.b2; have b3 := hst.b3
      have hltw := hst.lt
      have HS3 := Lib.hid hst
      obtain ⟨T, hT⟩ : ∃ T, sumWd z r0 c0 h k = T := ⟨_, rfl⟩
      rw [hT] at bd1 bd2 HS3
      have HT := Lib.hid hT
      obtain ⟨B, hB⟩ : ∃ B, whWd z r0 c0 h k = B := ⟨_, rfl⟩
      rw [hB] at HS3
      have HB := Lib.hid hB
      clear hst hT hB
      go_wp2
      go_loopw [39] (fun i wr => ∃ j : Nat, j ≤ h ∧ i = .int .i64 j ∧ TnSt w R C (.slice a zs.length cap) r0 c0 h k (T + sumHi z r0 c0 k j) (whHi z r0 c0 k B j) wr) (fun i _ => h - (intOf i).toNat)
      case atStart => exact ⟨0, Nat.zero_le _, rfl, by have := HS3.out; unfold sumHi whHi; rw [sum, Int.add_zero]; exact this⟩
      case round =>
        clear b0 b1 b2 b3 hltw m0
        obtain ⟨j, hj, rfl, hst⟩ := hrel
        obtain ⟨bd3, bd4⟩ := sumHi_bd z r0 c0 k j
        by_cases hlt2 : j < h
        · have hdj : decide ((j : Int) < (h : Int)) = true := by simp; omega
          have m0 := hst.m0; have b0 := hst.b0; have b1 := hst.b1; have b2 := hst.b2; have b3 := hst.b3
          have hltw := hst.lt
          have HA1 := Lib.hid (show ∀ ri ci : Int, ri = ((r0 + j : Nat) : Int) → ci = ((c0 + k : Nat) : Int) → _ from fun ri ci h1 h2 => fAdd R C (r0 + j) (c0 + k) true 1 ri ci zs _ r0 c0 h k _ _ w wr HM.out HV.out hst (.inl rfl) (by omega) (by omega) (by simp only [toR, if_true]; omega) (by simp only [toC, if_true]; omega) h1 h2 (HZ.out _ _) (HZ.out _ _) rfl rfl)
          have st1 := wrP_bd (z (r0 + j + 1) (c0 + k) - z (r0 + j) (c0 + k))
          have HA2 := Lib.hid (show ∀ W, TnSt w R C (.slice a zs.length cap) r0 c0 h k (T + sumHi z r0 c0 k j + 1 * wrP (z (toR (r0 + j) true) (toC (c0 + k) true) - z (r0 + j) (c0 + k))) (whHi z r0 c0 k B j && (nvB (z (r0 + j) (c0 + k)) && nvB (z (toR (r0 + j) true) (toC (c0 + k) true)))) W → ∀ ri ci : Int, ri = ((r0 + j : Nat) : Int) → ci = (c0 : Int) → _ from fun W hst ri ci h1 h2 => fAdd R C (r0 + j) c0 true (-1) ri ci zs _ r0 c0 h k _ _ w W HM.out HV.out hst (.inr rfl) (by simp only [toR, toC, if_true]; omega) (by simp only [toR, toC, if_true]; omega) (by simp only [toR, if_true]; omega) (by simp only [toC, if_true]; omega) h1 h2 (HZ.out _ _) (HZ.out _ _) (sumHi_succ z r0 c0 k j T) rfl)
          clear hst st1 bd3 bd4
          go_wp2_with (first | (go_at_call 114; (with_reducible refine (HA1.out _ _ (by omega) (by omega)).mono ?_); rintro e w1 ⟨rfl, hst1⟩; have HS1 := Lib.hid hst1; have e0 := hst1.b0; have e1 := hst1.b1; have e2 := hst1.b2; have e3 := hst1.b3; have hlt1 := hst1.lt; clear hst1) | (go_at_call 114; (with_reducible refine (HA2.out _ HS1.out _ _ (by omega) (by omega)).mono ?_); rintro e w2 ⟨rfl, hst2⟩; have HS2 := Lib.hid hst2; clear hst2))
          go_roundw
          case rel => exact ⟨j + 1, by omega, by go_num, HS2.out⟩
          case measure => simp [intOf]; omega
        · obtain rfl : j = h := by omega
          have hdj : decide ((j : Int) < (j : Int)) = false := by simp
          have hbel := hst.bel
          have HBE := Lib.hid hbel
          have s0 := hst.s0
          have q0 := hst.q0
          have hltw := hst.lt
          have HQ2 := Lib.hid (show whHi z r0 c0 k B j = q from by rw [← HB.out]; exact HQ.out)
          have HN2 := Lib.hid (show (T + sumHi z r0 c0 k j).tdiv 4096 = n from by rw [← HT.out]; exact HN.out)
          generalize whHi z r0 c0 k B j = qq at *
          obtain ⟨bd5, bd6⟩ : -1000000 ≤ T + sumHi z r0 c0 k j ∧ T + sumHi z r0 c0 k j ≤ 1000000 := by omega
          clear bd3 bd4
          generalize T + sumHi z r0 c0 k j = t at *
          obtain ⟨td1, td2⟩ := tdiv_bd t 4096
          obtain ⟨td3, td4⟩ : -1000000 ≤ t.tdiv 4096 ∧ t.tdiv 4096 ≤ 1000000 := by omega
          clear td1 td2
          clear hst hbel
          go_wp2
          refine wp_region_calm (by kernel_rfl) (by kernel_rfl) ?_
          repeat (go_big_quiet_step (fail))
          refine wpQuiet_nil ?_
          rintro _ ⟨pz, rfl⟩
          go_wp2
          go_ret2
          exact ⟨by rw [← HN2.out, ← HQ2.out]; rfl, HBE.out.trans (by (repeat' (first | with_reducible exact Below.refl _ _ | (with_reducible refine below_later_of ?_ ?_ _) | (with_reducible refine Below.alloc ?_ ?_ _) | (with_reducible refine Below.setCell ?_ ?_ _) | (with_reducible refine Below.drew ?_) | (simp; done) | (simp; omega) | omega)))⟩
end Go.Proofs.YtkoiknmijjiicaaGreatDoor

/- Chapter 4: Residues, TurnsAround. -/
namespace Go.Proofs.YtkoiknmijjiicaaGreatDoor
set_option linter.unusedVariables false
set_option linter.unusedSimpArgs false
open Go.RowKit Ntt
/-- The cells of residues. -/
def rsC : List Res → List Value
  | [] => []
  | x :: D => .int .i64 x.r :: .int .i64 x.c :: .int .i64 x.t :: rsC D
theorem rsC_len : ∀ D : List Res, (rsC D).length = D.length * 3
  | [] => rfl
  | x :: D => by simp only [rsC, List.length_cons, rsC_len D]; omega
theorem rsC_snoc (D : List Res) (x : Res) : rsC (D ++ [x]) = rsC D ++ [.int .i64 x.r, .int .i64 x.c, .int .i64 x.t] := by
  induction D with
  | nil => rfl
  | cons q D ih => simp only [List.cons_append, rsC, ih]
theorem rsC_at : ∀ (D : List Res) (k : Nat) (x : Res), D[k]? = some x → (rsC D)[k * 3]? = some (.int .i64 x.r) ∧ (rsC D)[k * 3 + 1]? = some (.int .i64 x.c) ∧ (rsC D)[k * 3 + 2]? = some (.int .i64 x.t)
  | [], k, x, h => by simp at h
  | y :: D, 0, x, h => by
    obtain rfl : y = x := by simpa using h
    exact ⟨rfl, rfl, rfl⟩
  | y :: D, k + 1, x, h => by
    have := rsC_at D k x (by simpa using h)
    rw [show (k + 1) * 3 = k * 3 + 1 + 1 + 1 by omega]
    simpa [rsC] using this
/-- The value is a slice of these residues. -/
def RsV (w : World) (v : Value) (D : List Res) : Prop := D.length ≤ 100000 ∧ ∃ a cap, v = .slice a D.length cap ∧ (0 < D.length → ∃ b, a = some ⟨b, 0, none⟩ ∧ b < w.heap.size ∧ ∀ k x, D[k]? = some x → w.cell? ⟨b, k * 3, none⟩ = some (.int .i64 x.r) ∧ w.cell? ⟨b, k * 3 + 1, none⟩ = some (.int .i64 x.c) ∧ w.cell? ⟨b, k * 3 + 2, none⟩ = some (.int .i64 x.t))
theorem RsV.below {w w' : World} {v : Value} {D : List Res} (h : RsV w v D) (hb : Below w.heap.size w w') : RsV w' v D := by
  obtain ⟨h1, a, cap, h2, h3⟩ := h
  refine ⟨h1, a, cap, h2, fun h0 => ?_⟩
  obtain ⟨b, h4, h5, h6⟩ := h3 h0
  refine ⟨b, h4, Nat.lt_of_lt_of_le h5 hb.size, fun k x hk => ?_⟩
  obtain ⟨c0, c1, c2⟩ := h6 k x hk
  exact ⟨(hb.cell (p := ⟨b, k * 3, none⟩) h5).trans c0, (hb.cell (p := ⟨b, k * 3 + 1, none⟩) h5).trans c1, (hb.cell (p := ⟨b, k * 3 + 2, none⟩) h5).trans c2⟩
theorem rsV_own {W : World} {base : Nat} {e : TypeId} {v : Value} {D : List Res} (h : W.ownsRow base e 3 v D.length (rsC D)) (hl : D.length ≤ 100000) : RsV W v D := by
  refine ⟨hl, ?_⟩
  have h0 := h
  obtain ⟨-, ⟨rfl, h1⟩ | ⟨g, cap, cur, rfl, h2, h3, -⟩⟩ := h0
  · exact ⟨none, 0, by rw [h1], fun hp => by omega⟩
  · refine ⟨_, cap, rfl, fun hp => ⟨g, rfl, (Array.getElem?_eq_some_iff.1 h3).1, fun k x hk => ?_⟩⟩
    have hkl : k < D.length := (List.getElem?_eq_some_iff.1 hk).1
    obtain ⟨r1, r2, r3⟩ := rsC_at D k x hk
    rw [h.cellAt (k * 3) (by omega), h.cellAt (k * 3 + 1) (by omega), h.cellAt (k * 3 + 2) (by omega)]
    exact ⟨r1, r2, r3⟩
theorem infoRs : (Tryz.prog.info? 76).map (fun i => (i.zero, i.size, i.bytes)) = some (some (.agg #[.int .i64 0, .int .i64 0, .int .i64 0]), 3, 24) := by kernel_rfl
/-- A row of residues of one's own. -/
def RsR (B : Nat) (w : World) (D : List Res) (v : Value) (wr : World) : Prop := wr.ownsRow B 76 3 v D.length (rsC D) ∧ Below B w wr
theorem cells_three (w : World) (x y z : Value) (T : TypeId) (j : Nat) (u : Value) (h : [x, y, z][j]? = some u) : (w.alloc (.cells #[x, y, z] T)).cell? ((⟨w.heap.size, 0, none⟩ : Addr).add j) = some u := by
  have : (⟨w.heap.size, 0, none⟩ : Addr).add j = ⟨w.heap.size, j, none⟩ := by simp [Addr.add]; omega
  rw [this, World.cell?_alloc_new]
  simpa using h
theorem rsR_put {B : Nat} {w wr w1 : World} {D : List Res} {v v' : Value} {x : Res} {o : Obj} (h : RsR B w D v wr) (hB : B ≤ wr.heap.size) {m : Nat} (hm : D.length = m) (ho : w1.ownsRow B 76 3 v' (m + 1) (rsC D ++ [.int .i64 x.r, .int .i64 x.c, .int .i64 x.t])) (hg : (wr.alloc o).grownBy w1 v.ownBlock) : RsR B w (D ++ [x]) v' w1 := by
  subst hm
  refine ⟨?_, h.2.trans ((((Below.refl B wr).alloc hB o)).grown hg (by simp; omega) (fun g hg => (h.1.lt g hg).1))⟩
  rw [rsC_snoc, List.length_append]
  exact ho
theorem rsR_below {B : Nat} {w wr W : World} {D : List Res} {v : Value} (h : RsR B w D v wr) (hB : B ≤ wr.heap.size) (hb : Below wr.heap.size wr W) : RsR B w D v W :=
  ⟨h.1.kept (row := none) ⟨hb.os, hb.tape, hb.output, hb.size, fun k hk _ => hb.block k hk⟩ (Classical.em _), h.2.trans (hb.mono hB)⟩
theorem rsR_slice {B : Nat} {w wr : World} {D : List Res} {v : Value} (h : RsR B w D v wr) : ∃ a c, v = .slice a D.length c := by
  obtain ⟨-, ⟨rfl, h1⟩ | ⟨g, cap, cur, rfl, h2, h3, -⟩⟩ := h.1
  · exact ⟨none, 0, by rw [h1]⟩
  · exact ⟨_, cap, rfl⟩
theorem any_worldR4 {G : World → Prop} {w : World} (F : World → Prop) (hf : F w) (h : ∀ W, F W → G W) : G w := h w hf
def whT (z : Nat → Nat → Int) (r c : Nat) : Bool := wholeP z r c 1 1
/-- The residues of a map. -/
def resM (R C : Nat) (zs : List Int) : List Res := resAll (whT (zAt C (intAt zs))) (turnP (zAt C (intAt zs))) (C - 1) (R - 1)
theorem resM_len {R C : Nat} {zs : List Int} (h : MapOk R C zs) : (resM R C zs).length ≤ 4096 := by
  refine Nat.le_trans (resAll_len _ _ _ _) ?_
  have h1 := h.r2
  have h2 := h.c2
  exact Nat.mul_le_mul (show R - 1 ≤ 64 by omega) (show C - 1 ≤ 64 by omega)
set_option maxHeartbeats 1000000 in
theorem fResidues_bad (R C : Int) (zs : List Int) (v : Value) (w : World) (hl : zs.length ≤ 100000) (hv : IntsV w v zs) {e0 : Int} (he : (mapE R C zs).2 = e0) (h0 : e0 ≠ 0) :
    Calls Tryz.prog 27 #[.agg #[.int .i64 R, .int .i64 C, v]] w fun e w' => e = .returned (.tuple #[.slice none 0 0, .int .i64 e0]) ∧ Below w.heap.size w w' := by
  have HME := Lib.hid (show ∀ W, Below w.heap.size w W → _ from fun W hW => mapErr_any R C zs v W hl (hv.below hW) he)
  have hne : (e0 != 0) = true := by simpa using h0
  obtain ⟨-, a, cap, rfl, -⟩ := hv
  clear he h0
  go_enter Tryz.func27, Tryz.ntmps27
  go_wp2_with (first | (go_at_call 58; (with_reducible refine (HME.out _ (by (repeat' (first | with_reducible exact Below.refl _ _ | (with_reducible refine below_later_of ?_ ?_ _) | (with_reducible refine Below.alloc ?_ ?_ _) | (with_reducible refine Below.setCell ?_ ?_ _) | (with_reducible refine Below.drew ?_) | (simp; done) | (simp; omega) | omega)))).mono ?_); rintro e w' ⟨rfl, hb⟩; obtain ⟨pe, rfl⟩ := later_of_below hb; clear hb))
  go_ret2
  exact ⟨rfl, (by (repeat' (first | with_reducible exact Below.refl _ _ | (with_reducible refine below_later_of ?_ ?_ _) | (with_reducible refine Below.alloc ?_ ?_ _) | (with_reducible refine Below.setCell ?_ ?_ _) | (with_reducible refine Below.drew ?_) | (simp; done) | (simp; omega) | omega)))⟩
set_option maxRecDepth 20000 in
set_option maxHeartbeats 4000000 in
theorem fResidues_ok (R C : Nat) (zs : List Int) (v : Value) (w : World) (hm : MapOk R C zs) (hv : IntsV w v zs) :
    Calls Tryz.prog 27 #[.agg #[.int .i64 R, .int .i64 C, v]] w fun e w' => ∃ u, e = .returned (.tuple #[u, .int .i64 0]) ∧ RsV w' u (resM R C zs) ∧ Below w.heap.size w w' := by
  obtain ⟨i0, hi0, hz0, hz1, hz2⟩ := info_parts infoRs
  have hsz := hm.size
  have HME := Lib.hid (show ∀ W, Below w.heap.size w W → _ from fun W hW => mapErr_any R C zs v W (by omega) (hv.below hW) (e0 := 0) (by rw [hm.err]))
  have HM := Lib.hid hm
  have HV := Lib.hid hv
  have hR := hm.r2
  have hC := hm.c2
  have hR1 := hm.r1
  have hC1 := hm.c1
  have HLN := Lib.hid (resM_len hm)
  obtain ⟨z, hz⟩ : ∃ z, zAt C (intAt zs) = z := ⟨_, rfl⟩
  have HZ := Lib.hid hz
  obtain ⟨-, a, cap, rfl, -⟩ := hv
  have HRM := Lib.hid (show resM R C zs = resAll (whT z) (turnP z) (C - 1) (R - 1) by unfold resM; rw [hz])
  clear hm hz
  have hri : ((R : Int) - 1) = ((R - 1 : Nat) : Int) := by omega
  have hci : ((C : Int) - 1) = ((C - 1 : Nat) : Int) := by omega
  go_enter Tryz.func27, Tryz.ntmps27
  go_wp2_with (first | (go_at_call 58; (with_reducible refine (HME.out _ (by (repeat' (first | with_reducible exact Below.refl _ _ | (with_reducible refine below_later_of ?_ ?_ _) | (with_reducible refine Below.alloc ?_ ?_ _) | (with_reducible refine Below.setCell ?_ ?_ _) | (with_reducible refine Below.drew ?_) | (simp; done) | (simp; omega) | omega)))).mono ?_); rintro e w' ⟨rfl, hb⟩; obtain ⟨pe, rfl⟩ := later_of_below hb; clear hb))
  refine any_worldR4 (fun W => (W.cell? ⟨w.heap.size, 0, none⟩ = some (.int .i64 R) ∧ W.cell? ⟨w.heap.size, 1, none⟩ = some (.int .i64 C) ∧ W.cell? ⟨w.heap.size, 2, none⟩ = some (.slice a zs.length cap)) ∧ Below w.heap.size w W ∧ w.heap.size < W.heap.size) ⟨⟨by simp [go_sem], by simp [go_sem], by simp [go_sem]⟩, (by (repeat' (first | with_reducible exact Below.refl _ _ | (with_reducible refine below_later_of ?_ ?_ _) | (with_reducible refine Below.alloc ?_ ?_ _) | (with_reducible refine Below.setCell ?_ ?_ _) | (with_reducible refine Below.drew ?_) | (simp; done) | (simp; omega) | omega))), by simp; omega⟩ ?_
  rintro W1 ⟨⟨c0, c1, c2⟩, hb1, hlt1⟩
  have HB0 := Lib.hid hb1
  have C0 := Lib.hid c0
  have C1 := Lib.hid c1
  have C2 := Lib.hid c2
  clear hb1
  go_wp2
  go_loopw [5, 18] (fun v i wr => ∃ (r : Nat) (u : Value), r ≤ R - 1 ∧ i = .int .i64 r ∧ u = v ∧ RsR (w.heap.size + 1) W1 (resAll (whT z) (turnP z) (C - 1) r) u wr) (fun _ i _ => R - 1 - (intOf i).toNat)
  case atStart => exact ⟨0, _, Nat.zero_le _, rfl, rfl, World.ownsRow_nil _ _ _ _, Below.refl _ _⟩
  case round =>
    clear c0 c1 c2
    obtain ⟨r, u, hr, rfl, rfl, hg⟩ := hrel
    have HG0 := Lib.hid hg
    by_cases hlt : r < R - 1
    · have hdr : decide ((r : Int) < (R : Int) - 1) = true := by simp; omega
      have c1 := (hg.2.cell (p := ⟨w.heap.size, 1, none⟩) (Nat.lt_succ_self _)).trans C1.out
      have hlw := hg.2.size
      clear hg
      go_wp2
      go_loopw [5, 24] (fun v i wr => ∃ (c : Nat) (u : Value), c ≤ C - 1 ∧ i = .int .i64 c ∧ u = v ∧ RsR (w.heap.size + 1) W1 (resAll (whT z) (turnP z) (C - 1) r ++ resRow (whT z) (turnP z) r c) u wr) (fun _ i _ => C - 1 - (intOf i).toNat)
      case atStart => exact ⟨0, _, Nat.zero_le _, rfl, rfl, by simp only [resRow, List.append_nil]; exact HG0.out⟩
      case round =>
        clear c1 hlw
        obtain ⟨c, u, hc, rfl, rfl, hg⟩ := hrel
        obtain ⟨D, hD⟩ : ∃ D, resAll (whT z) (turnP z) (C - 1) r ++ resRow (whT z) (turnP z) r c = D := ⟨_, rfl⟩
        rw [hD] at hg
        have HD := Lib.hid hD
        have HR := Lib.hid hg
        by_cases hltc : c < C - 1
        · have hdc : decide ((c : Int) < (C : Int) - 1) = true := by simp; omega
          have c0 := (hg.2.cell (p := ⟨w.heap.size, 0, none⟩) (Nat.lt_succ_self _)).trans C0.out
          have c1 := (hg.2.cell (p := ⟨w.heap.size, 1, none⟩) (Nat.lt_succ_self _)).trans C1.out
          have c2 := (hg.2.cell (p := ⟨w.heap.size, 2, none⟩) (Nat.lt_succ_self _)).trans C2.out
          have hlw := hg.2.size
          have hbw := (HB0.out.trans (hg.2.mono (Nat.le_succ _)))
          obtain ⟨q, hq⟩ : ∃ q, wholeP z r c 1 1 = q := ⟨_, rfl⟩
          obtain ⟨n, hn⟩ : ∃ n, turnP z r c = n := ⟨_, rfl⟩
          have HTN := Lib.hid (show Calls Tryz.prog 78 #[.agg #[.int .i64 R, .int .i64 C, .slice a zs.length cap], .agg #[.int .i64 r, .int .i64 c, .int .i64 1, .int .i64 1]] wr fun e w' => e = .returned (.tuple #[.int .i64 n, .bool q]) ∧ Below wr.heap.size wr w' from
            fTurns R C r c 1 1 zs _ wr HM.out (HV.out.below hbw) (by omega) (by omega) (by rw [HZ.out]; exact hn) (by rw [HZ.out]; exact hq))
          have hrow : resAll (whT z) (turnP z) (C - 1) r ++ resRow (whT z) (turnP z) r (c + 1) = if q && decide (n ≠ 0) then D ++ [⟨r, c, n⟩] else D := by
            rw [← hD, resRow, hn]
            unfold whT
            rw [hq]
            split
            · rw [List.append_assoc]
            · rfl
          have HLD := Lib.hid (show D.length ≤ 10000 by
            have h1 := resAll_len (whT z) (turnP z) (C - 1) r
            have h2 := resRow_len (whT z) (turnP z) r c
            have h3 : r * (C - 1) ≤ 64 * 64 := Nat.mul_le_mul (by omega) (by omega)
            rw [← hD, List.length_append]
            omega)
          clear hD
          obtain ⟨a', c', rfl⟩ := rsR_slice hg
          clear hg hbw hq hn
          cases q
          · have HEQ := Lib.hid (show resAll (whT z) (turnP z) (C - 1) r ++ resRow (whT z) (turnP z) r (c + 1) = D by rw [hrow]; rfl)
            clear hrow
            go_wp2_with (first | (go_at_call 78; (with_reducible refine (HTN.out).mono ?_); rintro e w' ⟨rfl, hb⟩; have HB1 := Lib.hid hb; have hz1 := hb.size; obtain ⟨p1, rfl⟩ := later_of_below hb; clear hb))
            have HN := Lib.hid (rsR_below HR.out (by omega) HB1.out)
            go_roundw
            case rel => exact ⟨c + 1, _, by omega, by go_num, rfl, by rw [HEQ.out]; exact HN.out⟩
            case measure => simp [intOf]; omega
          · by_cases h0 : n = 0
            · have hn0 : (n != 0) = false := by simpa using h0
              have HEQ := Lib.hid (show resAll (whT z) (turnP z) (C - 1) r ++ resRow (whT z) (turnP z) r (c + 1) = D by rw [hrow, h0]; rfl)
              clear hrow h0
              go_wp2_with (first | (go_at_call 78; (with_reducible refine (HTN.out).mono ?_); rintro e w' ⟨rfl, hb⟩; have HB1 := Lib.hid hb; have hz1 := hb.size; obtain ⟨p1, rfl⟩ := later_of_below hb; clear hb))
              have HN := Lib.hid (rsR_below HR.out (by omega) HB1.out)
              go_roundw
              case rel => exact ⟨c + 1, _, by omega, by go_num, rfl, by rw [HEQ.out]; exact HN.out⟩
              case measure => simp [intOf]; omega
            · have hn0 : (n != 0) = true := by simpa using h0
              have HEQ := Lib.hid (show resAll (whT z) (turnP z) (C - 1) r ++ resRow (whT z) (turnP z) r (c + 1) = D ++ [⟨r, c, n⟩] by rw [hrow]; simp [h0])
              clear hrow h0
              have hld := HLD.out
              go_wp2_with (first | (go_at_call 78; (with_reducible refine (HTN.out).mono ?_); rintro e wx ⟨rfl, hb⟩; have HG := Lib.hid (rsR_below HR.out (by omega) hb); have hsw := hb.size; clear hb) | (at_builtin; refine wpList_append_own _ rfl _ _ 62 rfl (w.heap.size + 1) 76 i0 (.agg #[.int .i64 0, .int .i64 0, .int .i64 0]) 3 24 Tryz.underlying62 hi0 hz0 hz1 hz2 rfl (by decide) _ _ _ rfl (HG.out.1.alloc _) ⟨wx.heap.size, 0, none⟩ 1 1 [.int .i64 r, .int .i64 c, .int .i64 n] rfl rfl ?d1 ?d2 ?d3 ?d4 ?d5 ?_))
              case d1 => exact cells_three _ _ _ _ _
              case d2 => first | rfl | (intro u hu; simp at hu; rcases hu with rfl | rfl | rfl <;> rfl)
              case d3 => unfold maxLen; omega
              case d4 => omega
              case d5 => first | omega | (simp; omega)
              intro v' w1 hown' hgrow _
              have HN := Lib.hid (rsR_put (x := ⟨r, c, n⟩) HG.out (by omega) rfl hown' hgrow)
              clear hown' hgrow hld
              go_wp2
              go_roundw
              case rel => exact ⟨c + 1, _, by omega, by go_num, rfl, by rw [HEQ.out]; exact HN.out⟩
              case measure => simp [intOf]; omega
        · obtain rfl : c = C - 1 := by omega
          have hdc : decide (((C - 1 : Nat) : Int) < (C : Int) - 1) = false := by simp; omega
          have c0 := (hg.2.cell (p := ⟨w.heap.size, 0, none⟩) (Nat.lt_succ_self _)).trans C0.out
          have hlw := hg.2.size
          clear hg hD
          go_wp2
          go_roundw
          case rel => exact ⟨r + 1, _, by omega, by go_num, rfl, by rw [resAll, HD.out]; exact HR.out⟩
          case measure => simp [intOf]; omega
    · obtain rfl : r = R - 1 := by omega
      have hdr : decide (((R - 1 : Nat) : Int) < (R : Int) - 1) = false := by simp; omega
      obtain ⟨a', c', rfl⟩ := rsR_slice hg
      clear hg
      go_wp2
      go_ret2
      have hg := HG0.out
      rw [← HRM.out] at hg ⊢
      exact ⟨_, rfl, rsV_own hg.1 (by have := HLN.out; omega), HB0.out.trans (hg.2.mono (Nat.le_succ _))⟩
end Go.Proofs.YtkoiknmijjiicaaGreatDoor

/- Chapter 4: SquareOf, of the program and of the reference. -/
namespace Go.Proofs.YtkoiknmijjiicaaGreatDoor
set_option linter.unusedVariables false
set_option linter.unusedSimpArgs false
open Go.RowKit Ntt
theorem fl_alt (n d : Int) (hd : 1 ≤ d) : (if n.tmod d < 0 then n.tdiv d - 1 else n.tdiv d) = n / d := fl_gen n d (by omega)
set_option maxHeartbeats 400000 in
theorem bFloorN (n d : Int) (w : World) (h1 : -4611686018427387904 ≤ n) (h2 : n ≤ 4611686018427387904) (hd : 1 ≤ d) (hd2 : d ≤ 4611686018427387904) {v : Int} (hv : n / d = v) :
    Calls Tryz.prog 97 #[.int .i64 n, .int .i64 d] w fun e w' => e = .returned (.int .i64 v) ∧ w = w' := by
  have hf := fl_gen n d (by omega)
  rw [hv] at hf
  obtain ⟨b1, b2⟩ := tdiv_bd n d
  obtain ⟨r, hr⟩ : ∃ r, n.tmod d = r := ⟨_, rfl⟩
  obtain ⟨a, ha⟩ : ∃ a, n.tdiv d = a := ⟨_, rfl⟩
  rw [hr, ha] at hf
  rw [ha] at b1 b2
  have hd0 : ¬ d = 0 := by omega
  have hdm : ¬ d = -1 := by omega
  obtain ⟨b3, b4⟩ : -4611686018427387904 ≤ a ∧ a ≤ 4611686018427387904 := by omega
  have HF := Lib.hid hf
  clear hf hv
  by_cases hc : r < 0
  · have hdc : decide (r < 0) = true := by simpa using hc
    have HV := Lib.hid (show a - 1 = v by have := HF.out; rw [if_pos hc] at this; exact this)
    clear HF
    go_enter Tryz.func97, Tryz.ntmps97
    go_wp2
    go_ret
    exact ⟨by rw [HV.out]; rfl, rfl⟩
  · have hdc : decide (r < 0) = false := by simpa using hc
    have HV := Lib.hid (show a = v by have := HF.out; rw [if_neg hc] at this; exact this)
    clear HF
    go_enter Tryz.func97, Tryz.ntmps97
    go_wp2
    go_ret
    exact ⟨by rw [HV.out]; rfl, rfl⟩
/-- The square of a coherence without its bias, and the error. -/
def sqV (c L : Int) : Int := if 0 < (L * c * c - 1000000) / (L - 1) then (L * c * c - 1000000) / (L - 1) else 0
def sqE (c L : Int) : Int := if inE 0 1000 c && inE 2 10000 L then 0 else 2
def sqR (c L : Int) : Int := if sqE c L = 0 then sqV c L else 0
theorem sqv_le {c L : Int} (h1 : 0 ≤ c) (h2 : c ≤ 1000) (h3 : 2 ≤ L) : sqV c L ≤ c * c := by
  have hc : 0 ≤ c * c := Int.mul_nonneg h1 h1
  have hc2 : c * c ≤ 1000000 := Int.mul_le_mul h2 h2 h1 (by decide)
  unfold sqV
  split
  · refine Int.ediv_le_of_le_mul (by omega) ?_
    rw [Int.mul_assoc]
    generalize c * c = q at *
    have e : q * (L - 1) = L * q - q := by grind
    omega
  · exact hc
theorem sq_mono {c L : Int} (h1 : 0 ≤ c) (h3 : 2 ≤ L) : sqV c L ≤ sqV (c + 1) L := by
  have hq : L * c * c ≤ L * (c + 1) * (c + 1) := by
    have e : L * (c + 1) * (c + 1) = L * c * c + L * (2 * c + 1) := by grind
    have := Int.mul_nonneg (show 0 ≤ L by omega) (show 0 ≤ 2 * c + 1 by omega)
    omega
  have := Int.ediv_le_ediv (show 0 < L - 1 by omega) (show L * c * c - 1000000 ≤ L * (c + 1) * (c + 1) - 1000000 by omega)
  unfold sqV
  split <;> split <;> omega
theorem sq_one {L : Int} (h3 : 2 ≤ L) : sqV 1000 L = 1000000 := by
  unfold sqV
  have e : L * 1000 * 1000 - 1000000 = (L - 1) * 1000000 := by omega
  rw [e, Int.mul_ediv_cancel_left _ (by omega)]
  rfl
theorem sq_facts {c L : Int} (h : sqE c L = 0) : (0 ≤ c ∧ c ≤ 1000) ∧ (2 ≤ L ∧ L ≤ 10000) := by
  unfold sqE at h
  split at h
  · rename_i h1
    simp only [Bool.and_eq_true] at h1
    exact ⟨inE_iff.1 h1.1, inE_iff.1 h1.2⟩
  · exact absurd h (by decide)
theorem sq_bds {c L : Int} (h1 : 0 ≤ c) (h2 : c ≤ 1000) (h3 : 2 ≤ L) (h4 : L ≤ 10000) : (0 ≤ L * c ∧ L * c ≤ 10000000) ∧ (0 ≤ L * c * c ∧ L * c * c ≤ 10000000000) ∧ (-1000000 ≤ (L * c * c - 1000000) / (L - 1) ∧ (L * c * c - 1000000) / (L - 1) ≤ 10000000000) := by
  have m1 : 0 ≤ L * c := Int.mul_nonneg (by omega) h1
  have m2 : L * c ≤ 10000 * 1000 := Int.mul_le_mul h4 h2 h1 (by decide)
  have m3 : 0 ≤ L * c * c := Int.mul_nonneg m1 h1
  have m4 : L * c * c ≤ 10000000 * 1000 := Int.mul_le_mul (by omega) h2 h1 (by decide)
  have hf := fl_gen (L * c * c - 1000000) (L - 1) (by omega)
  obtain ⟨b1, b2⟩ := tdiv_bd (L * c * c - 1000000) (L - 1)
  refine ⟨⟨m1, by omega⟩, ⟨m3, by omega⟩, ?_, ?_⟩
  · exact (Int.le_ediv_iff_mul_le (by omega)).2 (by omega)
  · rw [← hf]; split <;> omega
set_option maxHeartbeats 1000000 in
theorem squareOf_any (c L : Int) (w : World) :
    Calls Tryz.prog 31 #[.int .i64 c, .int .i64 L] w fun e w' => e = .returned (.tuple #[.int .i64 (sqR c L), .int .i64 (sqE c L)]) ∧ w = w' := by
  obtain ⟨E, hE⟩ : ∃ E, sqE c L = E := ⟨_, rfl⟩
  unfold sqR
  rw [hE]
  have hE0 := hE
  unfold sqE at hE
  rcases (show inE 0 1000 c = false ∨ inE 0 1000 c = true by cases inE 0 1000 c <;> simp) with i1 | i1
  · obtain rfl : E = 2 := by rw [← hE, i1]; rfl
    have H1 := Lib.hid i1
    clear i1 hE hE0
    rw [if_neg (by decide)]
    go_enter Tryz.func31, Tryz.ntmps31
    go_wp2_with (first | (go_at_call 64; (with_reducible refine (fWithin _ _ _ _ H1.out).mono ?_); rintro e w' ⟨rfl, rfl⟩))
    go_ret2
    exact ⟨rfl, rfl⟩
  · rcases (show inE 2 10000 L = false ∨ inE 2 10000 L = true by cases inE 2 10000 L <;> simp) with i2 | i2
    · obtain rfl : E = 2 := by rw [← hE, i1, i2]; rfl
      have H1 := Lib.hid i1
      have H2 := Lib.hid i2
      clear i1 i2 hE hE0
      rw [if_neg (by decide)]
      go_enter Tryz.func31, Tryz.ntmps31
      go_wp2_with (first | (go_at_call 64; (with_reducible refine (fWithin _ _ _ _ H1.out).mono ?_); rintro e w' ⟨rfl, rfl⟩) | (go_at_call 64; (with_reducible refine (fWithin _ _ _ _ H2.out).mono ?_); rintro e w' ⟨rfl, rfl⟩))
      go_ret2
      exact ⟨rfl, rfl⟩
    · obtain rfl : E = 0 := by rw [← hE, i1, i2]; rfl
      have H1 := Lib.hid i1
      have H2 := Lib.hid i2
      obtain ⟨⟨a1, a2⟩, a3, a4⟩ := sq_facts hE0
      obtain ⟨⟨m1, m2⟩, ⟨m3, m4⟩, m5, m6⟩ := sq_bds a1 a2 a3 a4
      clear i1 i2 hE hE0
      rw [if_pos rfl]
      unfold sqV
      generalize hq : (L * c * c - 1000000) / (L - 1) = q at *
      have HFL := Lib.hid (fun W => fFloor (L * c * c - 1000000) (L - 1) W (by omega) (by omega) (by omega) (by omega) hq)
      clear hq
      by_cases h0 : 0 < q
      · rw [if_pos h0]
        have d1 : decide ((0 : Int) < q) = true := by simpa using h0
        go_enter Tryz.func31, Tryz.ntmps31
        go_wp2_with (first | (go_at_call 64; (with_reducible refine (fWithin _ _ _ _ H1.out).mono ?_); rintro e w' ⟨rfl, rfl⟩) | (go_at_call 64; (with_reducible refine (fWithin _ _ _ _ H2.out).mono ?_); rintro e w' ⟨rfl, rfl⟩) | (go_at_call 80; (with_reducible refine (HFL.out _).mono ?_); rintro e w' ⟨rfl, rfl⟩))
        go_ret2
        exact ⟨by simp; omega, rfl⟩
      · rw [if_neg h0]
        have d1 : decide ((0 : Int) < q) = false := by simpa using h0
        go_enter Tryz.func31, Tryz.ntmps31
        go_wp2_with (first | (go_at_call 64; (with_reducible refine (fWithin _ _ _ _ H1.out).mono ?_); rintro e w' ⟨rfl, rfl⟩) | (go_at_call 64; (with_reducible refine (fWithin _ _ _ _ H2.out).mono ?_); rintro e w' ⟨rfl, rfl⟩) | (go_at_call 80; (with_reducible refine (HFL.out _).mono ?_); rintro e w' ⟨rfl, rfl⟩))
        go_ret2
        exact ⟨by simp; omega, rfl⟩
end Go.Proofs.YtkoiknmijjiicaaGreatDoor

/- Chapter 4: copies of maps, maps and residues compared; the laws' small helpers. -/
namespace Go.Proofs.YtkoiknmijjiicaaGreatDoor
set_option linter.unusedVariables false
set_option linter.unusedSimpArgs false
open Go.RowKit Ntt
/-- A slice of integers in memory from some block on. -/
def OwnIV (B : Nat) (w : World) (v : Value) (zs : List Int) : Prop :=
  zs.length ≤ 1000000000 ∧ ∃ a cap, v = .slice a zs.length cap ∧ (0 < zs.length → ∃ b off, a = some ⟨b, off, none⟩ ∧ B ≤ b ∧ b < w.heap.size ∧ ∀ k, k < zs.length → w.cell? ⟨b, off + k, none⟩ = some (.int .i64 (intAt zs k)))
theorem OwnIV.ints {B : Nat} {w : World} {v : Value} {zs : List Int} (h : OwnIV B w v zs) : IntsV w v zs := by
  obtain ⟨h1, a, cap, h2, h3⟩ := h
  refine ⟨h1, a, cap, h2, fun h0 => ?_⟩
  obtain ⟨b, off, h4, -, h5, h6⟩ := h3 h0
  exact ⟨b, off, h4, h5, h6⟩
theorem OwnIV.mono {B B' : Nat} {w : World} {v : Value} {zs : List Int} (h : OwnIV B w v zs) (hB : B' ≤ B) : OwnIV B' w v zs := by
  obtain ⟨h1, a, cap, h2, h3⟩ := h
  refine ⟨h1, a, cap, h2, fun h0 => ?_⟩
  obtain ⟨b, off, h4, h7, h5, h6⟩ := h3 h0
  exact ⟨b, off, h4, by omega, h5, h6⟩
theorem OwnIV.below {B : Nat} {w w' : World} {v : Value} {zs : List Int} (h : OwnIV B w v zs) (hw : Below w.heap.size w w') : OwnIV B w' v zs := by
  obtain ⟨h1, a, cap, h2, h3⟩ := h
  refine ⟨h1, a, cap, h2, fun h0 => ?_⟩
  obtain ⟨b, off, h4, h7, h5, h6⟩ := h3 h0
  exact ⟨b, off, h4, h7, Nat.lt_of_lt_of_le h5 hw.size, fun k hk => (hw.cell (p := ⟨b, off + k, none⟩) h5).trans (h6 k hk)⟩
theorem OwnIV.set {B : Nat} {w : World} {v : Value} {zs : List Int} (h : OwnIV B w v zs) {p : Addr} (hp : p.block < B) (u : Value) : OwnIV B (w.setCell p u) v zs := by
  obtain ⟨h1, a, cap, h2, h3⟩ := h
  refine ⟨h1, a, cap, h2, fun h0 => ?_⟩
  obtain ⟨b, off, h4, h7, h5, h6⟩ := h3 h0
  refine ⟨b, off, h4, h7, by simpa using h5, fun k hk => ?_⟩
  rw [World.cell?_setCell_other _ _ _ _ (by intro e; rw [e] at hp; simp at hp; omega)]
  exact h6 k hk
theorem ownIV_own {w : World} {base n cap g : Nat} {zs : List Int} (h : w.ownsRow base 3 1 (.slice (some ⟨g, 0, none⟩) n cap) n (zs.map (.int .i64))) (hm : n ≤ 1000000000) : OwnIV base w (.slice (some ⟨g, 0, none⟩) n cap) zs := by
  have hl : zs.length = n := by have := h.1; simpa using this
  subst hl
  refine ⟨hm, _, _, rfl, fun hp => ⟨g, 0, rfl, (h.lt g rfl).1, (h.lt g rfl).2, fun k hk => ?_⟩⟩
  rw [Nat.zero_add, h.cellAt k (by omega)]
  unfold intAt
  simp [hk]
def ListPost4 (xs : List Int) (w : World) (e : Ending) (w' : World) : Prop :=
  ∃ a c, e = .returned (.slice a xs.length c) ∧ OwnIV w.heap.size w' (.slice a xs.length c) xs ∧ Below w.heap.size w w'
set_option maxHeartbeats 1000000 in
theorem copyI_some (zs : List Int) (b off cap : Nat) (w : World) (hl : zs.length ≤ 1000000000) (hp : 0 < zs.length) (hbw : b < w.heap.size) (hc : ∀ k, k < zs.length → w.cell? ⟨b, off + k, none⟩ = some (.int .i64 (intAt zs k))) :
    Calls Tryz.prog 66 #[.slice (some ⟨b, off, none⟩) zs.length cap] w (ListPost4 zs w) := by
  obtain ⟨i0, hi, hz0, hz1, hz2⟩ := info_parts info3
  have HC := Lib.hid (show ∀ W, Below w.heap.size w W → ∀ j u, (zs.map (Value.int .i64))[j]? = some u → W.cell? ((⟨b, off, none⟩ : Addr).add j) = some u from fun W hW j u hu => by
    obtain ⟨h1, rfl⟩ := intVals_at zs hu
    have e : (⟨b, off, none⟩ : Addr).add j = ⟨b, off + j, none⟩ := by simp [Addr.add] <;> omega
    rw [e]
    exact (hW.cell (p := ⟨b, off + j, none⟩) hbw).trans (hc j h1))
  clear hc
  go_enter Tryz.func66, Tryz.ntmps66
  go_wp2_with (at_builtin; refine wpList_append_own _ rfl _ _ 42 rfl w.heap.size 3 i0 (.int .i64 0) 1 8 Tryz.underlying42 hi hz0 hz1 hz2 rfl (by decide) _ 0 [] rfl (ownsRow_new1 _ _ _ _ (by simp) (by simp)) ⟨b, off, none⟩ zs.length cap (zs.map (.int .i64)) rfl ?c1 ?c2 ?c3 ?c4 ?c5 ?c6 ?_)
  case c1 => simp
  case c2 => exact HC.out _ (by (repeat' (first | with_reducible exact Below.refl _ _ | (with_reducible refine below_later_of ?_ ?_ _) | (with_reducible refine Below.alloc ?_ ?_ _) | (with_reducible refine Below.setCell ?_ ?_ _) | (with_reducible refine Below.drew ?_) | (simp; done) | (simp; omega) | omega)))
  case c3 => intro u hu; simp at hu; obtain ⟨z, _, rfl⟩ := hu; rfl
  case c4 => unfold maxLen; omega
  case c5 => omega
  case c6 => simp
  intro v' w1 hown hgrow _
  have hown2 : w1.ownsRow w.heap.size 3 1 v' zs.length (zs.map (.int .i64)) := by simpa using hown
  obtain ⟨g, c, rfl⟩ := row_slice hown2 hp
  have HPV := Lib.hid (ownIV_own hown2 hl)
  have HB := Lib.hid (show Below w.heap.size w w1 from (show Below w.heap.size w _ from (by (repeat' (first | with_reducible exact Below.refl _ _ | (with_reducible refine below_later_of ?_ ?_ _) | (with_reducible refine Below.alloc ?_ ?_ _) | (with_reducible refine Below.setCell ?_ ?_ _) | (with_reducible refine Below.drew ?_) | (simp; done) | (simp; omega) | omega)))).grown hgrow (by simp) (fun g hg => by simp [Value.ownBlock] at hg; omega))
  clear hown hown2 hgrow
  go_wp2
  go_ret
  exact ⟨_, _, rfl, HPV.out, HB.out⟩
set_option maxHeartbeats 400000 in
theorem copyI_none (a : Option Addr) (cap : Nat) (w : World) :
    Calls Tryz.prog 66 #[.slice a 0 cap] w (ListPost4 [] w) := by
  obtain ⟨i0, hi, hz0, hz1, hz2⟩ := info_parts info3
  have HS := Lib.hid (show ∀ w : World, Src Tryz.prog i0.size 42 (.slice a 0 cap) 0 [] w from fun w => by
    refine ⟨.inl ⟨_, Tryz.underlying42⟩, fun _ => rfl, ?_, ?_, by simp, fun u hu => by simp at hu⟩ <;> cases a <;> simp [Builtin.firstCells, loadCells, loadCellsFrom])
  go_enter Tryz.func66, Tryz.ntmps66
  go_wp2_with (at_builtin; refine Lib.wpList_append_run_sl _ rfl _ _ 42 rfl _ _ rfl rfl (run_append_nothing _ _ _ _ 3 i0 Tryz.underlying42 hi _ 0 0 (Nat.le_refl _) _ (HS.out _)) ?_)
  go_wp2
  go_ret
  exact ⟨_, _, rfl, ⟨by simp, _, 0, rfl, fun h => absurd h (by decide)⟩, (by (repeat' (first | with_reducible exact Below.refl _ _ | (with_reducible refine below_later_of ?_ ?_ _) | (with_reducible refine Below.alloc ?_ ?_ _) | (with_reducible refine Below.setCell ?_ ?_ _) | (with_reducible refine Below.drew ?_) | (simp; done) | (simp; omega) | omega)))⟩
theorem copyI_any (zs : List Int) (v : Value) (w : World) (hv : IntsV w v zs) : Calls Tryz.prog 66 #[v] w (ListPost4 zs w) := by
  obtain ⟨hl, a, cap, rfl, h4⟩ := hv
  by_cases h0 : 0 < zs.length
  · obtain ⟨b, off, rfl, hbw, hc⟩ := h4 h0
    exact copyI_some zs b off cap w hl h0 hbw hc
  · obtain rfl : zs = [] := List.length_eq_zero_iff.1 (by omega)
    exact copyI_none a cap w
/-- A map that is returned. -/
def MapPost (R C : Int) (zs : List Int) (w : World) (e : Ending) (w' : World) : Prop :=
  ∃ a c, e = .returned (.agg #[.int .i64 R, .int .i64 C, .slice a zs.length c]) ∧ OwnIV w.heap.size w' (.slice a zs.length c) zs ∧ Below w.heap.size w w'
theorem any_worldM {G : World → Prop} {w : World} (F : World → Prop) (hf : F w) (h : ∀ W, F W → G W) : G w := h w hf
set_option maxHeartbeats 1000000 in
theorem bCopyPhases (R C : Int) (zs : List Int) (v : Value) (w : World) (hv : IntsV w v zs) :
    Calls Tryz.prog 20 #[.agg #[.int .i64 R, .int .i64 C, v]] w (MapPost R C zs w) := by
  have HCI := Lib.hid (show ∀ W, Below w.heap.size w W → _ from fun W hW => copyI_any zs v W (hv.below hW))
  obtain ⟨-, a, cap, rfl, -⟩ := hv
  go_enter Tryz.func20, Tryz.ntmps20
  go_wp2_with (first | (go_at_call 66; (with_reducible refine (HCI.out _ (by (repeat' (first | with_reducible exact Below.refl _ _ | (with_reducible refine below_later_of ?_ ?_ _) | (with_reducible refine Below.alloc ?_ ?_ _) | (with_reducible refine Below.setCell ?_ ?_ _) | (with_reducible refine Below.drew ?_) | (simp; done) | (simp; omega) | omega)))).mono ?_); rintro e w' ⟨a', c', rfl, hv', hb⟩; have HV' := Lib.hid hv'; clear hv'; obtain ⟨p1, rfl⟩ := later_of_below hb; clear hb))
  refine bodyPost_ret ?_ rfl ⟨a', c', rfl, ?_, (by (repeat' (first | with_reducible exact Below.refl _ _ | (with_reducible refine below_later_of ?_ ?_ _) | (with_reducible refine Below.alloc ?_ ?_ _) | (with_reducible refine Below.setCell ?_ ?_ _) | (with_reducible refine Below.drew ?_) | (simp; done) | (simp; omega) | omega)))⟩
  · first | (simp [results, Tryz.results20, go_sem]; done) | simp [results, Tryz.results20, go_sem, ↓IntWalk.iteOmega]
  · refine OwnIV.mono (OwnIV.set (OwnIV.set (OwnIV.set (OwnIV.set HV'.out ?_ _) ?_ _) ?_ _) ?_ _) ?_ <;> simp <;> omega
set_option maxHeartbeats 1000000 in
theorem bSamePhases (R C R' C' : Int) (xs ys : List Int) (v u : Value) (w : World) (hx : IntsV w v xs) (hy : IntsV w u ys) {c : Bool} (hc : (R == R' && (C == C' && decide (xs = ys))) = c) :
    Calls Tryz.prog 17 #[.agg #[.int .i64 R, .int .i64 C, v], .agg #[.int .i64 R', .int .i64 C', u]] w fun e w' => e = .returned (.bool c) ∧ Below w.heap.size w w' := by
  have HC := Lib.hid hc
  obtain ⟨q, hq⟩ : ∃ q, decide (xs = ys) = q := ⟨_, rfl⟩
  have HIN := Lib.hid (show ∀ W, Below w.heap.size w W → _ from fun W hW => bInts xs ys v u W (hx.below hW) (hy.below hW) hq)
  rw [hq] at HC
  obtain ⟨-, a, cap, rfl, -⟩ := hx
  obtain ⟨-, a', cap', rfl, -⟩ := hy
  clear hc hq
  cases h1 : (R == R')
  · rw [h1] at HC
    go_enter Tryz.func17, Tryz.ntmps17
    go_wp2
    go_ret
    exact ⟨ret_bool HC.out, (by (repeat' (first | with_reducible exact Below.refl _ _ | (with_reducible refine below_later_of ?_ ?_ _) | (with_reducible refine Below.alloc ?_ ?_ _) | (with_reducible refine Below.setCell ?_ ?_ _) | (with_reducible refine Below.drew ?_) | (simp; done) | (simp; omega) | omega)))⟩
  · cases h2 : (C == C')
    · rw [h1, h2] at HC
      go_enter Tryz.func17, Tryz.ntmps17
      go_wp2
      go_ret
      exact ⟨ret_bool HC.out, (by (repeat' (first | with_reducible exact Below.refl _ _ | (with_reducible refine below_later_of ?_ ?_ _) | (with_reducible refine Below.alloc ?_ ?_ _) | (with_reducible refine Below.setCell ?_ ?_ _) | (with_reducible refine Below.drew ?_) | (simp; done) | (simp; omega) | omega)))⟩
    · rw [h1, h2] at HC
      go_enter Tryz.func17, Tryz.ntmps17
      go_wp2_with (first | (go_at_call 61; (with_reducible refine (HIN.out _ (by (repeat' (first | with_reducible exact Below.refl _ _ | (with_reducible refine below_later_of ?_ ?_ _) | (with_reducible refine Below.alloc ?_ ?_ _) | (with_reducible refine Below.setCell ?_ ?_ _) | (with_reducible refine Below.drew ?_) | (simp; done) | (simp; omega) | omega)))).mono ?_); rintro e w' ⟨rfl, hb⟩; obtain ⟨p1, rfl⟩ := later_of_below hb; clear hb))
      go_ret
      exact ⟨ret_bool HC.out, (by (repeat' (first | with_reducible exact Below.refl _ _ | (with_reducible refine below_later_of ?_ ?_ _) | (with_reducible refine Below.alloc ?_ ?_ _) | (with_reducible refine Below.setCell ?_ ?_ _) | (with_reducible refine Below.drew ?_) | (simp; done) | (simp; omega) | omega)))⟩
set_option maxHeartbeats 400000 in
theorem lLight (R C : Int) (n cap : Nat) (a : Option Addr) (w : World) {c : Bool} (hc : decide (n ≤ 150) = c) :
    Calls Tryz.prog 18 #[.agg #[.int .i64 R, .int .i64 C, .slice a n cap]] w fun e w' => e = .returned (.bool c) ∧ Below w.heap.size w w' := by
  have hd : decide ((n : Int) ≤ 150) = c := by rw [← hc, decide_eq_decide]; omega
  clear hc
  go_enter Tryz.func18, Tryz.ntmps18
  go_wp2
  go_ret
  exact ⟨rfl, (by (repeat' (first | with_reducible exact Below.refl _ _ | (with_reducible refine below_later_of ?_ ?_ _) | (with_reducible refine Below.alloc ?_ ?_ _) | (with_reducible refine Below.setCell ?_ ?_ _) | (with_reducible refine Below.drew ?_) | (simp; done) | (simp; omega) | omega)))⟩
/-! Residues compared. -/
theorem equal_struct3 {P : Program} (n : Nat) (t : TypeId) (f0 f1 f2 : Go.Field) (x0 x1 x2 y0 y1 y2 : Value) (b0 b1 b2 : Bool) (w : World) (ht : P.underlying t = some (.struct #[f0, f1, f2])) (hp : P.stoodInHeld t = false) (xs ys : Array Value) (n0 : (f0.name == "_") = false) (n1 : (f1.name == "_") = false) (n2 : (f2.name == "_") = false)
    (p0 : ∀ w, (part f0.type xs f0.offset).run P w = .ok x0 w) (p1 : ∀ w, (part f1.type xs f1.offset).run P w = .ok x1 w) (p2 : ∀ w, (part f2.type xs f2.offset).run P w = .ok x2 w) (q0 : ∀ w, (part f0.type ys f0.offset).run P w = .ok y0 w) (q1 : ∀ w, (part f1.type ys f1.offset).run P w = .ok y1 w) (q2 : ∀ w, (part f2.type ys f2.offset).run P w = .ok y2 w)
    (h0 : ∀ w, (Op.equalIn n f0.type x0 y0).run P w = .ok b0 w) (h1 : ∀ w, (Op.equalIn n f1.type x1 y1).run P w = .ok b1 w) (h2 : ∀ w, (Op.equalIn n f2.type x2 y2).run P w = .ok b2 w) :
    (Op.equalIn (n + 1) t (.agg xs) (.agg ys)).run P w = .ok (b0 && (b1 && b2)) w := by
  have n0' : f0.name ≠ "_" := by simpa using n0
  have n1' : f1.name ≠ "_" := by simpa using n1
  have n2' : f2.name ≠ "_" := by simpa using n2
  simp only [Op.equalIn, Sem.run_bind, run_underlying ht, Result.andThen_ok, run_program, hp, Bool.false_eq_true, if_false]
  cases b0 <;> cases b1 <;> cases b2 <;> simp [p0, p1, p2, q0, q1, q2, h0, h1, h2, n0', n1', n2']
noncomputable def fQ0 : Go.Field := (Tryz.prog.fieldsOf 76)[0]!
noncomputable def fQ1 : Go.Field := (Tryz.prog.fieldsOf 76)[1]!
noncomputable def fQ2 : Go.Field := (Tryz.prog.fieldsOf 76)[2]!
theorem tyQ0 : fQ0.type = 3 := by kernel_rfl
theorem tyQ1 : fQ1.type = 3 := by kernel_rfl
theorem tyQ2 : fQ2.type = 3 := by kernel_rfl
theorem undQ : Tryz.prog.underlying 76 = some (.struct #[fQ0, fQ1, fQ2]) := by kernel_rfl
theorem eqRs (a b c d e f : Int) (w : World) : (Op.equalIn 10000 76 (.agg #[.int .i64 a, .int .i64 b, .int .i64 c]) (.agg #[.int .i64 d, .int .i64 e, .int .i64 f])).run Tryz.prog w = .ok (a == d && (b == e && c == f)) w :=
  equal_struct3 9999 _ fQ0 fQ1 fQ2 (.int .i64 a) (.int .i64 b) (.int .i64 c) (.int .i64 d) (.int .i64 e) (.int .i64 f) _ _ _ w undQ (by kernel_rfl) _ _ (by kernel_rfl) (by kernel_rfl) (by kernel_rfl) (fun w => by kernel_rfl) (fun w => by kernel_rfl) (fun w => by kernel_rfl) (fun w => by kernel_rfl) (fun w => by kernel_rfl) (fun w => by kernel_rfl)
    (fun w => by rw [tyQ0]; exact equal_int 9998 3 _ Tryz.underlying3 a d w) (fun w => by rw [tyQ1]; exact equal_int 9998 3 _ Tryz.underlying3 b e w) (fun w => by rw [tyQ2]; exact equal_int 9998 3 _ Tryz.underlying3 c f w)
attribute [go_sem] eqRs
set_option maxHeartbeats 2000000 in
theorem lSameRes (D : List Res) (v u : Value) (w : World) (hx : RsV w v D) (hy : RsV w u D) :
    Calls Tryz.prog 32 #[v, u] w fun e w' => e = .returned (.bool true) ∧ Below w.heap.size w w' := by
  obtain ⟨x1, a, cap, rfl, x4⟩ := hx
  obtain ⟨-, a', cap', rfl, y4⟩ := hy
  have hl' : ((D.length : Int) != (D.length : Int)) = false := bne_self_eq_false _
  have HX4 := Lib.hid x4
  have HY4 := Lib.hid y4
  obtain ⟨n, hn⟩ : ∃ n, D.length = n := ⟨_, rfl⟩
  have HN := Lib.hid hn
  rw [hn] at hl' HX4 HY4 x1 ⊢
  clear x4 y4 hn
  go_enter Tryz.func32, Tryz.ntmps32
  go_wp2
  go_loopw [5] (fun i wr => ∃ k : Nat, k ≤ n ∧ i = .int .i64 k ∧ Below w.heap.size w wr) (fun i _ => n - (intOf i).toNat)
  case atStart => exact ⟨0, Nat.zero_le _, rfl, Below.refl _ _⟩
  case round =>
    obtain ⟨k, hk, rfl, hnx⟩ := hrel
    have HX := Lib.hid hnx
    have hsz := hnx.size
    by_cases hlt : k < n
    · obtain ⟨b, rfl, hbw, hcx⟩ := HX4.out (by omega)
      obtain ⟨b', rfl, hbw', hcy⟩ := HY4.out (by omega)
      obtain ⟨x, hx⟩ : ∃ x, D[k]? = some x := ⟨_, List.getElem?_eq_getElem (by rw [HN.out]; exact hlt)⟩
      obtain ⟨e0, e1, e2⟩ := hcx k x hx
      obtain ⟨f0, f1, f2⟩ := hcy k x hx
      obtain ⟨r, c, t⟩ := x
      dsimp only at e0 e1 e2 f0 f1 f2
      replace e0 := (hnx.cell (p := ⟨b, k * 3, none⟩) hbw).trans e0
      replace e1 := (hnx.cell (p := ⟨b, k * 3 + 1, none⟩) hbw).trans e1
      replace e2 := (hnx.cell (p := ⟨b, k * 3 + 2, none⟩) hbw).trans e2
      replace f0 := (hnx.cell (p := ⟨b', k * 3, none⟩) hbw').trans f0
      replace f1 := (hnx.cell (p := ⟨b', k * 3 + 1, none⟩) hbw').trans f1
      replace f2 := (hnx.cell (p := ⟨b', k * 3 + 2, none⟩) hbw').trans f2
      have hbr : b < wr.heap.size := by omega
      have hbr' : b' < wr.heap.size := by omega
      have hdk : decide ((k : Int) < (n : Int)) = true := by simp; omega
      have hk0 : (0 : Int) ≤ (k : Int) := by omega
      have hk1 : (k : Int) < (n : Int) := by omega
      have d1 : ((r : Int) == (r : Int)) = true := by simp
      have d2 : ((c : Int) == (c : Int)) = true := by simp
      have d3 : (t == t) = true := by simp
      clear hnx hcx hcy hx
      go_wp2
      refine wp_region_calm (by kernel_rfl) (by kernel_rfl) ?_
      repeat (go_big_quiet_step (fail))
      refine wpQuiet_nil ?_
      rintro _ ⟨pp, rfl⟩
      go_wp2
      go_roundw
      case rel => exact ⟨k + 1, by omega, by go_num, HX.out.trans (below_mono_of hsz (by (repeat' (first | with_reducible exact Below.refl _ _ | (with_reducible refine below_later_of ?_ ?_ _) | (with_reducible refine Below.alloc ?_ ?_ _) | (with_reducible refine Below.setCell ?_ ?_ _) | (with_reducible refine Below.drew ?_) | (simp; done) | (simp; omega) | omega))))⟩
      case measure => simp [intOf]; omega
    · obtain rfl : k = n := by omega
      have hdk : decide ((k : Int) < (k : Int)) = false := by simp
      clear hnx
      go_wp2
      go_ret
      exact ⟨rfl, HX.out⟩
end Go.Proofs.YtkoiknmijjiicaaGreatDoor

/- Chapter 4: the reference: errors of maps, pixels, steps, turns, residues. -/
namespace Go.Proofs.YtkoiknmijjiicaaGreatDoor
set_option linter.unusedVariables false
set_option linter.unusedSimpArgs false
open Go.RowKit Ntt
set_option maxHeartbeats 400000 in
theorem bWrp (n : Int) (w : World) (h1 : -9223372036854775808 ≤ n) (h2 : n ≤ 9223372036854775807) {v : Int} (hv : wrP n = v) : Calls Tryz.prog 112 #[.int .i64 n] w fun e w' => e = .returned (.int .i64 v) ∧ w = w' := by
  have HM1 := Lib.hid (fun w => bMod n 4096 w (by decide) (by decide) h1 h2)
  have a1 := Int.emod_nonneg n (show (4096 : Int) ≠ 0 by decide)
  have a2 := Int.emod_lt_of_pos n (show (0 : Int) < 4096 by decide)
  have HM2 := Lib.hid (fun w => bMod (n % 4096 + 2048) 4096 w (by decide) (by decide) (by omega) (by omega))
  have HF := Lib.hid (show (n % 4096 + 2048) % 4096 - 2048 = v by rw [wrP_two]; exact hv)
  have b1 := Int.emod_nonneg (n % 4096 + 2048) (show (4096 : Int) ≠ 0 by decide)
  have b2 := Int.emod_lt_of_pos (n % 4096 + 2048) (show (0 : Int) < 4096 by decide)
  generalize n % 4096 = q at *
  generalize (q + 2048) % 4096 = p at *
  clear hv
  go_enter Tryz.func112, Tryz.ntmps112
  go_wp2_with (first | (go_at_call 136; (with_reducible refine (HM1.out _).mono ?_); rintro e w' ⟨rfl, rfl⟩) | (go_at_call 136; (with_reducible refine (HM2.out _).mono ?_); rintro e w' ⟨rfl, rfl⟩))
  go_ret
  exact ⟨ret_intE HF.out, rfl⟩
set_option maxHeartbeats 1000000 in
theorem rSize4 (l s n : Int) (w : World) {e0 : Int} (he : sizeE l s n = e0) :
    Calls Tryz.prog 74 #[.int .i64 l, .int .i64 s, .int .i64 n] w fun e w' => e = .returned (.int .i64 e0) ∧ w = w' := by
  subst he
  rcases (show inE 1 64 l = false ∨ inE 1 64 l = true by cases inE 1 64 l <;> simp) with h1 | h1
  · have HF := Lib.hid (show sizeE l s n = 2 by unfold sizeE; rw [h1]; rfl)
    have H1 := Lib.hid h1
    clear h1
    go_enter Tryz.func74, Tryz.ntmps74
    go_wp2_with (first | (go_at_call 46; (with_reducible refine (bWithin l _ _ _ H1.out).mono ?_); rintro e w' ⟨rfl, rfl⟩))
    go_ret
    exact ⟨ret_intE HF.out.symm, rfl⟩
  · rcases (show inE 1 64 s = false ∨ inE 1 64 s = true by cases inE 1 64 s <;> simp) with h2 | h2
    · have HF := Lib.hid (show sizeE l s n = 2 by unfold sizeE; rw [h1, h2]; rfl)
      have H1 := Lib.hid h1
      have H2 := Lib.hid h2
      clear h1 h2
      go_enter Tryz.func74, Tryz.ntmps74
      go_wp2_with (first | (go_at_call 46; (with_reducible refine (bWithin l _ _ _ H1.out).mono ?_); rintro e w' ⟨rfl, rfl⟩) | (go_at_call 46; (with_reducible refine (bWithin s _ _ _ H2.out).mono ?_); rintro e w' ⟨rfl, rfl⟩))
      go_ret
      exact ⟨ret_intE HF.out.symm, rfl⟩
    · obtain ⟨a1, a2⟩ := inE_iff.1 h1
      obtain ⟨b1, b2⟩ := inE_iff.1 h2
      obtain ⟨m1, m2⟩ : 0 ≤ l * s ∧ l * s ≤ 4096 := ⟨Int.mul_nonneg (by omega) (by omega), by
        have := Int.mul_le_mul a2 b2 (by omega) (by decide)
        omega⟩
      have H1 := Lib.hid h1
      have H2 := Lib.hid h2
      by_cases hn : n = l * s
      · have HF := Lib.hid (show sizeE l s n = 0 by unfold sizeE; rw [h1, h2, if_pos (show (true && true) = true from rfl), if_pos hn])
        have hb : (n != l * s) = false := by simpa using hn
        clear h1 h2 hn
        go_enter Tryz.func74, Tryz.ntmps74
        go_wp2_with (first | (go_at_call 46; (with_reducible refine (bWithin l _ _ _ H1.out).mono ?_); rintro e w' ⟨rfl, rfl⟩) | (go_at_call 46; (with_reducible refine (bWithin s _ _ _ H2.out).mono ?_); rintro e w' ⟨rfl, rfl⟩))
        go_ret
        exact ⟨ret_intE HF.out.symm, rfl⟩
      · have HF := Lib.hid (show sizeE l s n = 10 by unfold sizeE; rw [h1, h2, if_pos (show (true && true) = true from rfl), if_neg hn])
        have hb : (n != l * s) = true := by simpa using hn
        clear h1 h2 hn
        go_enter Tryz.func74, Tryz.ntmps74
        go_wp2_with (first | (go_at_call 46; (with_reducible refine (bWithin l _ _ _ H1.out).mono ?_); rintro e w' ⟨rfl, rfl⟩) | (go_at_call 46; (with_reducible refine (bWithin s _ _ _ H2.out).mono ?_); rintro e w' ⟨rfl, rfl⟩))
        go_ret
        exact ⟨ret_intE HF.out.symm, rfl⟩
set_option maxRecDepth 20000 in
set_option maxHeartbeats 2000000 in
theorem rCheckMap (R C : Int) (zs : List Int) (v : Value) (w : World) (hl : zs.length ≤ 100000) (hv : IntsV w v zs) {i0 : Nat} {e0 : Int} (he : mapE R C zs = (i0, e0)) :
    Calls Tryz.prog 23 #[.agg #[.int .i64 R, .int .i64 C, v]] w fun e w' => e = .returned (.tuple #[.int .i64 i0, .int .i64 e0]) ∧ Below w.heap.size w w' := by
  obtain ⟨z, hz⟩ : ∃ z, sizeE R C zs.length = z := ⟨_, rfl⟩
  have HS := Lib.hid (fun w => rSize4 R C zs.length w hz)
  obtain ⟨-, a, cap, rfl, h4⟩ := hv
  have H4 := Lib.hid h4
  obtain ⟨n, hn⟩ : ∃ n, zs.length = n := ⟨_, rfl⟩
  clear h4
  by_cases h0 : z = 0
  · subst h0
    have HE := Lib.hid (show firstE zs.length (mapG zs) = (i0, e0) by rw [← he]; unfold mapE; rw [if_pos hz])
    rw [hn] at hl HE H4 HS ⊢
    clear hz he
    go_enter Tryz.func23, Tryz.ntmps23
    go_wp2_with (first | (go_at_call 74; (with_reducible refine (HS.out _).mono ?_); rintro e w' ⟨rfl, rfl⟩))
    go_loop [5] (fun i => ∃ k : Nat, k ≤ n ∧ i = .int .i64 k ∧ ∀ j, j < k → mapG zs j = 0) (fun i => n - (intOf i).toNat)
    case atStart => exact ⟨0, Nat.zero_le _, rfl, fun j hj => absurd hj (Nat.not_lt_zero _)⟩
    case round =>
      obtain ⟨k, hk, rfl, hz⟩ := hrel
      have HZ := Lib.hid hz
      clear hz
      by_cases hlt : k < n
      · have hdk : decide ((k : Int) < (n : Int)) = true := by simp; omega
        have hk0 : (0 : Int) ≤ (k : Int) := by omega
        have hk1 : (k : Int) < (n : Int) := by omega
        obtain ⟨b, off, rfl, hbw, hc⟩ := H4.out (by omega)
        have ck := hc k hlt
        clear hc
        rcases (show phOk (intAt zs k) = false ∨ phOk (intAt zs k) = true by cases phOk (intAt zs k) <;> simp) with h0 | h0
        · have h1 : mapG zs k = 2 := by unfold mapG; rw [h0]; rfl
          have hE := (firstE_hit hlt HZ.out (by rw [h1]; decide)).symm.trans HE.out
          rw [h1] at hE
          obtain ⟨rfl, rfl⟩ := Prod.mk.inj hE
          have hp : (intAt zs k != 1000000000000) = true ∧ inE (-100000000) 100000000 (intAt zs k) = false := by
            unfold phOk at h0
            simp only [Bool.or_eq_false_iff, decide_eq_false_iff_not] at h0
            exact ⟨by simpa using h0.1, h0.2⟩
          obtain ⟨hp1, hp2⟩ := hp
          have HW := Lib.hid hp2
          clear h0 h1 hE HE HZ hp2
          generalize intAt zs k = p at *
          go_wp2_with (first | (go_at_call 46; (with_reducible refine (bWithin _ _ _ _ HW.out).mono ?_); rintro e w' ⟨rfl, rfl⟩))
          go_ret2
          exact ⟨rfl, (by (repeat' (first | with_reducible exact Below.refl _ _ | (with_reducible refine below_later_of ?_ ?_ _) | (with_reducible refine Below.alloc ?_ ?_ _) | (with_reducible refine Below.setCell ?_ ?_ _) | (with_reducible refine Below.drew ?_) | (simp; done) | (simp; omega) | omega)))⟩
        · have H0 := Lib.hid (show mapG zs k = 0 by unfold mapG; rw [h0]; rfl)
          by_cases hp : intAt zs k = 1000000000000
          · have hp1 : (intAt zs k != 1000000000000) = false := by simpa using hp
            clear h0 hp
            generalize intAt zs k = p at ck hp1
            go_wp2
            go_round
            case rel => exact ⟨k + 1, by omega, by go_num, fun j hj => by rcases Nat.lt_succ_iff_lt_or_eq.1 hj with h | rfl; exact HZ.out j h; exact H0.out⟩
            case measure => simp [intOf]; omega
          · have hp1 : (intAt zs k != 1000000000000) = true := by simpa using hp
            have HW := Lib.hid (show inE (-100000000) 100000000 (intAt zs k) = true by unfold phOk at h0; rw [decide_eq_false hp] at h0; exact h0)
            clear h0 hp
            generalize intAt zs k = p at ck hp1 HW
            go_wp2_with (first | (go_at_call 46; (with_reducible refine (bWithin _ _ _ _ HW.out).mono ?_); rintro e w' ⟨rfl, rfl⟩))
            go_round
            case rel => exact ⟨k + 1, by omega, by go_num, fun j hj => by rcases Nat.lt_succ_iff_lt_or_eq.1 hj with h | rfl; exact HZ.out j h; exact H0.out⟩
            case measure => simp [intOf]; omega
      · obtain rfl : k = n := by omega
        have hdk : decide ((k : Int) < (k : Int)) = false := by simp
        have hE := (firstE_ok HZ.out).symm.trans HE.out
        obtain ⟨rfl, rfl⟩ := Prod.mk.inj hE
        clear HE HZ hE
        go_wp2
        go_ret2
        exact ⟨rfl, (by (repeat' (first | with_reducible exact Below.refl _ _ | (with_reducible refine below_later_of ?_ ?_ _) | (with_reducible refine Below.alloc ?_ ?_ _) | (with_reducible refine Below.setCell ?_ ?_ _) | (with_reducible refine Below.drew ?_) | (simp; done) | (simp; omega) | omega)))⟩
  · have he' : (0, z) = (i0, e0) := by rw [← he]; unfold mapE; rw [hz, if_neg h0]
    obtain ⟨rfl, rfl⟩ := Prod.mk.inj he'
    have hne : (z != 0) = true := by simpa using h0
    clear hz he he' h0 hn
    go_enter Tryz.func23, Tryz.ntmps23
    go_wp2_with (first | (go_at_call 74; (with_reducible refine (HS.out _).mono ?_); rintro e w' ⟨rfl, rfl⟩))
    go_ret2
    exact ⟨rfl, (by (repeat' (first | with_reducible exact Below.refl _ _ | (with_reducible refine below_later_of ?_ ?_ _) | (with_reducible refine Below.alloc ?_ ?_ _) | (with_reducible refine Below.setCell ?_ ?_ _) | (with_reducible refine Below.drew ?_) | (simp; done) | (simp; omega) | omega)))⟩
/-- A step between two phases: the number, and the error. -/
def stV (p q : Int) : Int := if nvB p && nvB q then wrP (q - p) else 0
def stE (p q : Int) : Int := if nvB p && nvB q then 0 else 31
theorem pixB_in {R C r c : Nat} (hr : r < R) (hc : c < C) : pixB R C r c = true := by unfold pixB inE; simp; omega
theorem pixB_nat {R C : Nat} {r c : Int} (h : pixB R C r c = true) : ∃ r' c' : Nat, r = r' ∧ c = c' ∧ r' < R ∧ c' < C := by
  unfold pixB inE at h
  simp only [Bool.and_eq_true, decide_eq_true_eq] at h
  obtain ⟨r', rfl⟩ := Int.eq_ofNat_of_zero_le (show 0 ≤ r by omega)
  obtain ⟨c', rfl⟩ := Int.eq_ofNat_of_zero_le (show 0 ≤ c by omega)
  exact ⟨r', c', rfl, rfl, by omega, by omega⟩
end Go.Proofs.YtkoiknmijjiicaaGreatDoor
