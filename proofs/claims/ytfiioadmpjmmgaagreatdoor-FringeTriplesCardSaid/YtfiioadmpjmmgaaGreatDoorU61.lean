/- Chapter 1: the reference's roots and directions. -/
import Derived.Test.YtfiioadmpjmmgaaGreatDoorU60
namespace Go.Proofs.YtfiioadmpjmmgaaGreatDoor
set_option linter.unusedVariables false
set_option linter.unusedSimpArgs false
open Go.RowKit
theorem sq_le {s : Int} (h0 : 0 ≤ s) (h1 : s ≤ 2147483648) : 0 ≤ s * s ∧ s * s ≤ 4611686018427387904 := by
  obtain ⟨a, b⟩ := sq_bd s 2147483648 (by omega) h1
  exact ⟨a, by omega⟩
set_option maxHeartbeats 1000000 in
theorem bRoot (n : Int) (w : World) (h0 : 0 ≤ n) : Calls Tryz.prog 208 #[.int .i64 n] w fun e w' => e = .returned (.int .i64 (rootP n)) ∧ w = w' := by
  go_enter Tryz.func208, Tryz.ntmps208
  go_wp2
  go_loop [3, 4] (fun a b => ∃ (k : Nat) (r B : Int), a = .int .i64 r ∧ b = .int .i64 B ∧ k ≤ 31 ∧ 0 ≤ r ∧ r + 2 ^ k ≤ 2147483648 ∧ ((k = 0 ∧ B = 0) ∨ ∃ j, k = j + 1 ∧ B = 2 ^ j) ∧ rootGo n k r = rootP n) (fun _ b => (intOf b).toNat)
  case atStart => exact ⟨31, 0, 1073741824, rfl, rfl, by decide, by decide, by decide, .inr ⟨30, rfl, by decide⟩, rfl⟩
  case round =>
    obtain ⟨k, r, B, rfl, rfl, hk, hr, hs, hB, hg⟩ := hrel
    rcases hB with ⟨rfl, rfl⟩ | ⟨j, rfl, hB⟩
    · have HF := Lib.hid (show r = rootP n from hg)
      have hd : decide ((0 : Int) < 0) = false := by decide
      clear hg hs
      go_wp2
      go_ret
      exact ⟨ret_intE HF.out, rfl⟩
    · have hp : (0 : Int) < 2 ^ j := Int.pow_pos (by omega)
      rw [Int.pow_succ, ← hB] at hs
      have HB := Lib.hid hB
      rw [← hB] at hp
      have hd : decide ((0 : Int) < B) = true := by simpa using hp
      simp only [rootGo] at hg
      rw [← hB] at hg
      have HG := Lib.hid hg
      obtain ⟨q1, q2⟩ := sq_le (s := r + B) (by omega) (by omega)
      have HN := Lib.hid (show ((j = 0 ∧ B / 2 = 0) ∨ ∃ i, j = i + 1 ∧ B / 2 = 2 ^ i) from by
        cases j with
        | zero => exact .inl ⟨rfl, by rw [hB]; decide⟩
        | succ i => exact .inr ⟨i, rfl, by rw [hB, Int.pow_succ]; omega⟩)
      clear hg hB
      by_cases hc : (r + B) * (r + B) ≤ n
      · have hdc : decide ((r + B) * (r + B) ≤ n) = true := by simpa using hc
        rw [if_pos hc] at HG
        clear hc
        go_wp2
        go_round
        case rel => exact ⟨j, r + B, B / 2, rfl, by first | rfl | simp, by omega, by omega, by have := HB.out; omega, HN.out, HG.out⟩
        case measure => simp [intOf]; omega
      · have hdc : decide ((r + B) * (r + B) ≤ n) = false := by simpa using hc
        rw [if_neg hc] at HG
        clear hc
        go_wp2
        go_round
        case rel => exact ⟨j, r, B / 2, rfl, by first | rfl | simp, by omega, by omega, by have := HB.out; omega, HN.out, HG.out⟩
        case measure => simp [intOf]; omega
set_option maxHeartbeats 1000000 in
theorem rHalf (a b : Int × Int) (w : World) (ha : WayOk a) (hb : WayOk b) :
    Calls Tryz.prog 187 #[.agg #[.int .i64 a.1, .int .i64 a.2], .agg #[.int .i64 b.1, .int .i64 b.2]] w fun e w' => e = .returned (.agg #[.int .i64 (midP a b).1, .int .i64 (midP a b).2]) ∧ Below w.heap.size w w' := by
  obtain ⟨⟨h1, h2⟩, h3, h4⟩ := sum_ok ha hb
  obtain ⟨⟨n1, n2⟩, r1, r2⟩ := norm_bd h1 h2 h3 h4
  obtain ⟨a1, a2⟩ := a
  obtain ⟨b1, b2⟩ := b
  obtain ⟨ha1, ha2, ha3, ha4⟩ := ha
  obtain ⟨hb1, hb2, hb3, hb4⟩ := hb
  dsimp only at h1 h2 h3 h4 n1 n2 r1 r2 ha1 ha2 ha3 ha4 hb1 hb2 hb3 hb4 ⊢
  unfold midP
  dsimp only
  obtain ⟨s1, s2⟩ := sq_bd (a1 + b1) 33554432 (by omega) h2
  obtain ⟨s3, s4⟩ := sq_bd (a2 + b2) 33554432 (by omega) (by omega)
  have HR := Lib.hid (fun w => bRoot ((a1 + b1) * (a1 + b1) + (a2 + b2) * (a2 + b2)) w n2)
  generalize rootP ((a1 + b1) * (a1 + b1) + (a2 + b2) * (a2 + b2)) = r at r1 r2 HR ⊢
  have d1 : 0 ≤ (a1 + b1) * 16777216 / r := Int.ediv_nonneg (by omega) (by omega)
  have d2 : (a1 + b1) * 16777216 / r ≤ (a1 + b1) * 16777216 := Int.ediv_le_self _ (by omega)
  have d3 : 0 ≤ (a2 + b2) * 16777216 / r := Int.ediv_nonneg (by omega) (by omega)
  have d4 : (a2 + b2) * 16777216 / r ≤ (a2 + b2) * 16777216 := Int.ediv_le_self _ (by omega)
  go_enter Tryz.func187, Tryz.ntmps187
  go_wp2
  go_region
  go_wp2_with (first | (go_at_call 208; (with_reducible refine (HR.out _).mono ?_); rintro e w' ⟨rfl, rfl⟩))
  go_region
  go_wp2
  refine bodyPost_ret ?_ rfl ⟨rfl, (by (repeat' (first | with_reducible exact Below.refl _ _ | (with_reducible refine below_later_of ?_ ?_ _) | (with_reducible refine Below.alloc ?_ ?_ _) | (with_reducible refine Below.setCell ?_ ?_ _) | (with_reducible refine Below.drew ?_) | (simp; done) | (simp; omega) | omega)))⟩
  first | (simp [results, Tryz.results187, go_sem]; done) | simp [results, Tryz.results187, go_sem, ↓IntWalk.iteOmega]
set_option maxHeartbeats 1000000 in
theorem rEnds (w : World) : Calls Tryz.prog 186 #[] w fun e w' => e = .returned (.tuple #[.agg #[.int .i64 16777216, .int .i64 0], .agg #[.int .i64 11863283, .int .i64 11863283]]) ∧ Below w.heap.size w w' := by
  have HR := Lib.hid (show ∀ w, Calls Tryz.prog 208 #[.int .i64 140737488355328] w fun e w' => e = .returned (.int .i64 11863283) ∧ w = w' from fun w => by
    have := bRoot 140737488355328 w (by decide)
    rwa [root_half] at this)
  go_enter Tryz.func186, Tryz.ntmps186
  go_wp2_with (first | (go_at_call 208; (with_reducible refine (HR.out _).mono ?_); rintro e w' ⟨rfl, rfl⟩))
  refine bodyPost_ret ?_ rfl ⟨rfl, (by (repeat' (first | with_reducible exact Below.refl _ _ | (with_reducible refine below_later_of ?_ ?_ _) | (with_reducible refine Below.alloc ?_ ?_ _) | (with_reducible refine Below.setCell ?_ ?_ _) | (with_reducible refine Below.drew ?_) | (simp; done) | (simp; omega) | omega)))⟩
  first | (simp [results, Tryz.results186, go_sem]; done) | simp [results, Tryz.results186, go_sem, ↓IntWalk.iteOmega]
/-- The reference's direction. -/
def rseek (m : Int) : Nat → Int → Int × Int → Int → Int × Int → Int × Int
  | 0, _, _, _, b => b
  | f + 1, lo, a, hi, b => if (lo + hi) / 2 = m then midP a b else if (lo + hi) / 2 < m then rseek m f ((lo + hi) / 2) (midP a b) hi b else rseek m f lo a ((lo + hi) / 2) (midP a b)
def rdirP (m : Int) : Int × Int := if m = 0 then oneW else rseek m 10 0 oneW 1024 halfW
theorem seek_same (m : Int) : ∀ (f : Nat) (lo hi : Int) (a b : Int × Int), hi = lo + 2 ^ f → lo < m → m < hi → (seekP (dirB m) f lo a hi b).2 = rseek m f lo a hi b
  | 0, lo, hi, a, b, h, h1, h2 => by simp at h; omega
  | f + 1, lo, hi, a, b, h, h1, h2 => by
    have hp : (0 : Int) < 2 ^ f := Int.pow_pos (by omega)
    rw [Int.pow_succ] at h
    have d1 : (dirB m ((lo + hi) / 2) (midP a b)).1 = decide ((lo + hi) / 2 < m) := rfl
    have d2 : (dirB m ((lo + hi) / 2) (midP a b)).2 = (m == (lo + hi) / 2) := rfl
    simp only [seekP, rseek]
    by_cases e : (lo + hi) / 2 = m
    · rw [if_pos (by rw [d2, e]; simp), if_pos e]
    · have e' : ¬ (dirB m ((lo + hi) / 2) (midP a b)).2 = true := by rw [d2]; simp; omega
      rw [if_neg e', if_neg e]
      by_cases c : (lo + hi) / 2 < m
      · rw [if_pos (by rw [d1]; simpa using c), if_pos c]
        exact seek_same m f _ _ _ _ (by omega) c h2
      · rw [if_neg (by rw [d1]; simpa using c), if_neg c]
        exact seek_same m f _ _ _ _ (by omega) h1 (by omega)
theorem rseek_last : ∀ (f : Nat) (lo hi : Int) (a b : Int × Int), hi = lo + 2 ^ f → rseek hi f lo a hi b = b
  | 0, lo, hi, a, b, h => rfl
  | f + 1, lo, hi, a, b, h => by
    have hp : (0 : Int) < 2 ^ f := Int.pow_pos (by omega)
    rw [Int.pow_succ] at h
    simp only [rseek]
    rw [if_neg (by omega), if_pos (by omega)]
    exact rseek_last f _ _ _ _ (by omega)
theorem dir_same (m : Int) (h0 : 0 ≤ m) (h1 : m ≤ 1024) : dirP m = rdirP m := by
  unfold dirP rdirP
  by_cases e : m = 0
  · rw [if_pos e, if_pos e]
  · rw [if_neg e, if_neg e]
    by_cases c : m = 1024
    · subst c
      rw [if_pos rfl]
      exact (rseek_last 10 0 1024 oneW halfW (by decide)).symm
    · rw [if_neg c]
      unfold searchP
      exact seek_same m 10 0 1024 oneW halfW (by decide) (by omega) (by omega)
def dirOk (m : Nat) : Bool :=
  let d := rdirP m
  let n := rdirP (m + 1)
  decide (1 ≤ d.1) && decide (d.1 ≤ 16777216) && decide (0 ≤ d.2) && decide (d.2 ≤ 16777216) && decide (281474842492944 ≤ d.1 * d.1 + d.2 * d.2) && decide (d.1 * d.1 + d.2 * d.2 ≤ 281475010265089) && (decide (m = 1024) || decide (d.2 * n.1 < d.1 * n.2))
theorem dirs_ok : (List.range 1025).all dirOk = true := by decide +kernel
theorem dir_facts (m : Int) (h0 : 0 ≤ m) (h1 : m ≤ 1024) : (1 ≤ (dirP m).1 ∧ (dirP m).1 ≤ 16777216) ∧ (0 ≤ (dirP m).2 ∧ (dirP m).2 ≤ 16777216) ∧ (281474842492944 ≤ (dirP m).1 * (dirP m).1 + (dirP m).2 * (dirP m).2 ∧ (dirP m).1 * (dirP m).1 + (dirP m).2 * (dirP m).2 ≤ 281475010265089) ∧ (m ≠ 1024 → (dirP m).2 * (dirP (m + 1)).1 < (dirP m).1 * (dirP (m + 1)).2) := by
  obtain ⟨k, rfl⟩ := Int.eq_ofNat_of_zero_le h0
  have h := List.all_eq_true.1 dirs_ok k (List.mem_range.2 (by omega))
  unfold dirOk at h
  simp only [Bool.and_eq_true, Bool.or_eq_true, decide_eq_true_eq] at h
  obtain ⟨⟨⟨⟨⟨⟨a1, a2⟩, a3⟩, a4⟩, a5⟩, a6⟩, a7⟩ := h
  rw [← dir_same k h0 h1] at a1 a2 a3 a4 a5 a6 a7
  refine ⟨⟨a1, a2⟩, ⟨a3, a4⟩, ⟨a5, a6⟩, fun hne => ?_⟩
  rcases a7 with a7 | a7
  · exact absurd (by rw [a7]; rfl) hne
  · rwa [← dir_same ((k : Int) + 1) (by omega) (by omega)] at a7
end Go.Proofs.YtfiioadmpjmmgaaGreatDoor
