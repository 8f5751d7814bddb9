/- Chapter 4: the coherence of three sums: the greatest number of thousandths. -/
import Derived.Test.YtkoiknmijjiicaaGreatDoorXA
import Derived.Test.YtkoiknmijjiicaaGreatDoorShelf
namespace Go.Proofs.YtkoiknmijjiicaaGreatDoor
set_option linter.unusedVariables false
set_option linter.unusedSimpArgs false
open Go.RowKit Ieee Ntt
def cohG (s a : Nat) : Nat → Nat
  | 0 => 0
  | t + 1 => if (t + 1) * (t + 1) * a ≤ 1000000 * s then t + 1 else cohG s a t
/-- The greatest number of thousandths whose square times all is at most a million times some. -/
def cohP (s a : Nat) : Nat := if a = 0 then 0 else cohG s a 1000
theorem cohG_le (s a : Nat) : ∀ n, cohG s a n ≤ n
  | 0 => Nat.le_refl _
  | n + 1 => by
    rw [cohG]
    split
    · omega
    · have := cohG_le s a n; omega
theorem sq_le_sq {t u a : Nat} (h : t ≤ u) : t * t * a ≤ u * u * a := Nat.mul_le_mul_right _ (Nat.mul_le_mul h h)
theorem cohG_eq {s a t : Nat} (h1 : t * t * a ≤ 1000000 * s) : ∀ n, t ≤ n → (t = n ∨ 1000000 * s < (t + 1) * (t + 1) * a) → cohG s a n = t
  | 0, h, _ => by rw [cohG]; omega
  | n + 1, h, h2 => by
    rw [cohG]
    rcases (show t = n + 1 ∨ t ≤ n by omega) with rfl | c
    · rw [if_pos h1]
    · rcases h2 with e | h2
      · omega
      · have := sq_le_sq (t := t + 1) (u := n + 1) (a := a) (by omega)
        rw [if_neg (by omega)]
        exact cohG_eq h1 n c (.inr h2)
theorem cohP_le (s a : Nat) : cohP s a ≤ 1000 := by
  unfold cohP
  split
  · omega
  · exact cohG_le s a 1000
theorem cohP_eq {s a t : Nat} (ha : a ≠ 0) (h0 : t ≤ 1000) (h1 : t * t * a ≤ 1000000 * s) (h2 : t = 1000 ∨ 1000000 * s < (t + 1) * (t + 1) * a) : cohP s a = t := by
  unfold cohP
  rw [if_neg ha]
  exact cohG_eq h1 1000 h0 h2
set_option maxRecDepth 20000 in
set_option maxHeartbeats 4000000 in
theorem fCoherent (s a : Nat) (w : World) (hs : s < 4611686018427387904) (ha : a < 4611686018427387904) :
    Calls Tryz.prog 44 #[.int .i64 s, .int .i64 a] w fun e w' => e = .returned (.int .i64 (cohP s a : Nat)) ∧ w = w' := by
  by_cases h0 : a = 0
  · subst h0
    have e : cohP s 0 = 0 := by unfold cohP; rw [if_pos rfl]
    rw [e]
    go_enter Tryz.func44, Tryz.ntmps44
    go_wp2
    go_ret
    exact ⟨rfl, rfl⟩
  · obtain ⟨H, hH⟩ : ∃ H, 1000000 * s / 18446744073709551616 = H := ⟨_, rfl⟩
    obtain ⟨J, hJ⟩ : ∃ J, 1000000 * s % 18446744073709551616 = J := ⟨_, rfl⟩
    have HM1 := Lib.hid (show ∀ W, Calls Tryz.prog 89 #[.int .u64 1000000, .int .u64 s] W fun e w' => e = .returned (.tuple #[.int .u64 H, .int .u64 J]) ∧ W = w' from fun W => by
      refine (Tryz.bits_Mul64 1000000 s (by decide) (by omega) W).mono ?_
      rintro e w' ⟨rfl, rfl⟩
      rw [hH, hJ]
      exact ⟨rfl, rfl⟩)
    have hw0 : IntKind.u64.wrap (s : Int) = (s : Int) := IntWalk.u64_in _ (by omega)
    have hw1 : IntKind.u64.wrap (a : Int) = (a : Int) := IntWalk.u64_in _ (by omega)
    have hne : ((a : Int) == 0) = false := by simp; omega
    have HEQ := Lib.hid (show ∀ t, t ≤ 1000 → t * t * a ≤ 1000000 * s → (t = 1000 ∨ 1000000 * s < (t + 1) * (t + 1) * a) → cohP s a = t from fun t => cohP_eq h0)
    have HHJ := Lib.hid (And.intro hH hJ)
    generalize cohP s a = R at HEQ ⊢
    clear hH hJ
    go_enter Tryz.func44, Tryz.ntmps44
    go_wp2_with (first | (go_at_call 89; (with_reducible refine (HM1.out _).mono ?_); rintro e w' ⟨rfl, rfl⟩))
    go_loop [7, 8] (fun i j => ∃ l h : Nat, i = .int .i64 l ∧ j = .int .i64 h ∧ l ≤ h ∧ h ≤ 1000 ∧ l * l * a ≤ 1000000 * s ∧ (h = 1000 ∨ 1000000 * s < (h + 1) * (h + 1) * a)) (fun i j => (intOf j).toNat - (intOf i).toNat)
    case atStart => exact ⟨0, 1000, rfl, rfl, by decide, by decide, by omega, .inl rfl⟩
    case round =>
      obtain ⟨l, h, rfl, rfl, hlh, hh, h1, h2⟩ := hrel
      rcases (show l < h ∨ l = h by omega) with c | rfl
      · have hd : decide ((l : Int) < (h : Int)) = true := by simp; omega
        obtain ⟨t, ht⟩ : ∃ t, (l + h + 1) / 2 = t := ⟨_, rfl⟩
        have hq : Int.tdiv ((l : Int) + (h : Int) + 1) 2 = (t : Int) := by
          rw [Int.tdiv_eq_ediv_of_nonneg (by omega)]
          omega
        have ht1 : l < t := by omega
        have ht2 : t ≤ h := by omega
        obtain ⟨T, hT⟩ : ∃ T, t * t = T := ⟨_, rfl⟩
        have hTb : T ≤ 1000000 := by rw [← hT]; exact Nat.mul_le_mul (show t ≤ 1000 by omega) (show t ≤ 1000 by omega)
        have hTT : (t : Int) * (t : Int) = (T : Int) := by rw [← hT, Int.natCast_mul]
        have hw2 : IntKind.u64.wrap (T : Int) = (T : Int) := IntWalk.u64_in _ (by omega)
        have hw3 : IntKind.i64.wrap (T : Int) = (T : Int) := IntWalk.i64_in _ (by omega)
        obtain ⟨P, hP⟩ : ∃ P, T * a = P := ⟨_, rfl⟩
        obtain ⟨U, hU⟩ : ∃ U, P / 18446744073709551616 = U := ⟨_, rfl⟩
        obtain ⟨V, hV⟩ : ∃ V, P % 18446744073709551616 = V := ⟨_, rfl⟩
        have HM2 := Lib.hid (show ∀ W, Calls Tryz.prog 89 #[.int .u64 T, .int .u64 a] W fun e w' => e = .returned (.tuple #[.int .u64 U, .int .u64 V]) ∧ W = w' from fun W => by
          refine (Tryz.bits_Mul64 T a (by omega) (by omega) W).mono ?_
          rintro e w' ⟨rfl, rfl⟩
          rw [hP, hU, hV]
          exact ⟨rfl, rfl⟩)
        obtain ⟨hH, hJ⟩ := HHJ.out
        have HLE := Lib.hid (show P ≤ 1000000 * s → t * t * a ≤ 1000000 * s from fun g => by rw [hT, hP]; exact g)
        have HGT := Lib.hid (show ¬ P ≤ 1000000 * s → (t - 1 + 1) * (t - 1 + 1) * a > 1000000 * s from fun g => by rw [show t - 1 + 1 = t by omega, hT, hP]; omega)
        have HH2 := Lib.hid h2
        have HH1 := Lib.hid h1
        have e1 : ((t : Int) - 1) = ((t - 1 : Nat) : Int) := by omega
        have HUV := Lib.hid (And.intro hU hV)
        clear h1 h2 hT hP hU hV hH hJ
        go_wp2_with (first | (go_at_call 89; (with_reducible refine (HM2.out _).mono ?_); rintro e w' ⟨rfl, rfl⟩))
        all_goals
          obtain ⟨hH, hJ⟩ := HHJ.out
          obtain ⟨hU, hV⟩ := HUV.out
          first
            | (have g := HLE.out (by omega)
               go_round
               case rel => exact ⟨t, h, rfl, rfl, ht2, hh, g, HH2.out⟩
               case measure => simp [intOf]; omega)
            | (have g := HGT.out (by omega)
               go_round
               case rel => exact ⟨l, t - 1, rfl, by first | rfl | (congr 1), by omega, by omega, HH1.out, .inr g⟩
               case measure => simp [intOf]; omega)
      · have hd : decide ((l : Int) < (l : Int)) = false := by simp
        have HR := Lib.hid (HEQ.out l hh h1 h2)
        clear h1 h2
        go_wp2
        go_ret
        exact ⟨ret_intE (by rw [HR.out]), rfl⟩
end Go.Proofs.YtkoiknmijjiicaaGreatDoor
