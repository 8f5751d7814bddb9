import Derived.Test.YthnfepfbkmafaaaA1
import Derived.Deep.LoopGhost
namespace Go.Proofs.Ythnfepfbkmafaaa
set_option linter.unusedVariables false
open Go.RowKit

set_option maxHeartbeats 400000 in
theorem floor_pos (n b : Int) (w : World) (hb : 1 ≤ b) (hb2 : b ≤ 9223372036854775807) (h1 : -9223372036854775807 ≤ n) (h2 : n ≤ 9223372036854775807) :
    Calls Try.prog 129 #[.int .i64 n, .int .i64 b] w fun e w' => e = .returned (.int .i64 (n / b)) ∧ w = w' := by
  have hf := floor_of_tdiv n b hb
  have hq : n.tdiv b ≤ 9223372036854775807 ∧ -9223372036854775807 ≤ n.tdiv b := by
    have := Int.natAbs_tdiv_le_natAbs n b
    omega
  obtain ⟨q1, q2⟩ := hq
  by_cases hm : n.tmod b < 0
  · rw [if_pos hm] at hf
    have hq3 : -9223372036854775808 ≤ n.tdiv b - 1 := by omega
    have HF := Lib.hid hf
    clear hf
    have hn : n < 0 := by
      rcases Int.lt_or_le n 0 with h | h
      · exact h
      · exact absurd (Int.tmod_nonneg b h) (by omega)
    go_enter Try.func129, Try.ntmps129
    go_wp2
    go_ret
    exact ⟨ret_int HF.out, rfl⟩
  · rw [if_neg hm] at hf
    have HF := Lib.hid hf
    clear hf
    by_cases hn : 0 ≤ n
    · have h0 : 0 ≤ n % b := Int.emod_nonneg n (by omega)
      go_enter Try.func129, Try.ntmps129
      go_wp2
      go_ret
      exact ⟨ret_int HF.out, rfl⟩
    · go_enter Try.func129, Try.ntmps129
      go_wp2
      go_ret
      exact ⟨ret_int HF.out, rfl⟩

set_option maxHeartbeats 400000 in
theorem floor_neg (n b : Int) (w : World) (hb : 1 ≤ b) (hb2 : b ≤ 9223372036854775807) (h1 : -9223372036854775807 ≤ n) (h2 : n ≤ 9223372036854775807) :
    Calls Try.prog 129 #[.int .i64 (-n), .int .i64 (-b)] w fun e w' => e = .returned (.int .i64 (n / b)) ∧ w = w' := by
  have hf := floor_of_tdiv n b hb
  have hq : n.tdiv b ≤ 9223372036854775807 ∧ -9223372036854775807 ≤ n.tdiv b := by
    have := Int.natAbs_tdiv_le_natAbs n b
    omega
  obtain ⟨q1, q2⟩ := hq
  have hb3 : 0 < b := by omega
  by_cases hm : n.tmod b < 0
  · rw [if_pos hm] at hf
    have hq3 : -9223372036854775808 ≤ n.tdiv b - 1 := by omega
    have HF := Lib.hid hf
    clear hf
    have hn : n < 0 := by
      rcases Int.lt_or_le n 0 with h | h
      · exact h
      · exact absurd (Int.tmod_nonneg b h) (by omega)
    go_enter Try.func129, Try.ntmps129
    go_wp2
    go_ret
    exact ⟨ret_int HF.out, rfl⟩
  · rw [if_neg hm] at hf
    have HF := Lib.hid hf
    clear hf
    by_cases hn : 0 ≤ n
    · have h0 : 0 ≤ n % b := Int.emod_nonneg n (by omega)
      go_enter Try.func129, Try.ntmps129
      go_wp2
      go_ret
      exact ⟨ret_int HF.out, rfl⟩
    · go_enter Try.func129, Try.ntmps129
      go_wp2
      go_ret
      exact ⟨ret_int HF.out, rfl⟩

theorem floor_any (n b : Int) (w : World) (hb : b ≠ 0) (hb1 : -9223372036854775807 ≤ b) (hb2 : b ≤ 9223372036854775807) (h1 : -9223372036854775807 ≤ n) (h2 : n ≤ 9223372036854775807) :
    Calls Try.prog 129 #[.int .i64 n, .int .i64 b] w fun e w' => e = .returned (.int .i64 (floorP n b)) ∧ w = w' := by
  by_cases hp : b < 0
  · have e : floorP n b = (-n) / (-b) := by unfold floorP; rw [if_pos hp]
    rw [e]
    have := floor_neg (-n) (-b) w (by omega) (by omega) (by omega) (by omega)
    rwa [Int.neg_neg, Int.neg_neg] at this
  · have e : floorP n b = n / b := by unfold floorP; rw [if_neg hp]
    rw [e]
    exact floor_pos n b w (by omega) hb2 h1 h2

set_option maxHeartbeats 400000 in
theorem all_any (lo hi : Int) (b : Nat) (zs : List Int) (w : World) (hz : zs.length ≤ 100) (hc : ∀ k, k < zs.length → w.cell? ⟨b, k, none⟩ = some (.int .i64 (zs[k]?.getD 0))) :
    Calls Try.prog 90 #[.int .i64 lo, .int .i64 hi, .slice (some ⟨b, 0, none⟩) zs.length zs.length] w fun e w' => e = .returned (.bool (zs.all (inR lo hi))) ∧ w = w' := by
  have HC := Lib.hid hc
  clear hc
  go_enter Try.func90, Try.ntmps90
  go_wp2
  go_loop [11] (fun i => ∃ k : Nat, k ≤ zs.length ∧ i = .int .i64 k ∧ (zs.take k).all (inR lo hi) = true) (fun i => zs.length - (intOf i).toNat)
  case atStart => exact ⟨0, Nat.zero_le _, rfl, rfl⟩
  case round =>
    obtain ⟨k, hk, rfl, hall⟩ := hrel
    have HA := Lib.hid hall
    clear hall
    by_cases hlt : k < zs.length
    · have hcell := HC.out k hlt
      have htk : (zs.take (k + 1)).all (inR lo hi) = ((zs.take k).all (inR lo hi) && inR lo hi (zs[k]?.getD 0)) := by
        rw [List.take_succ_eq_append_getElem hlt, List.all_append, List.getElem?_eq_getElem hlt]; simp
      have hmem : zs[k]?.getD 0 ∈ zs := by rw [List.getElem?_eq_getElem hlt]; simp
      generalize zs[k]?.getD 0 = z at hcell htk hmem
      have HT := Lib.hid htk
      have HM := Lib.hid hmem
      clear htk hmem
      cases hin : inR lo hi z
      · go_wp2_with (go_at_call 85; refine (within_any _ _ _ _).mono ?_; rintro e w' ⟨rfl, rfl⟩)
        go_ret
        refine ⟨ret_bool ?_, rfl⟩
        symm
        rw [Bool.eq_false_iff]
        intro hh
        have := List.all_eq_true.1 hh z HM.out
        rw [hin] at this
        cases this
      · go_wp2_with (go_at_call 85; refine (within_any _ _ _ _).mono ?_; rintro e w' ⟨rfl, rfl⟩)
        go_round
        case rel => exact ⟨k + 1, by omega, by go_num, by rw [HT.out, HA.out, hin]; rfl⟩
        case measure => simp [intOf]; omega
    · go_wp2
      go_ret
      refine ⟨ret_bool ?_, rfl⟩
      rw [← HA.out, List.take_of_length_le (by omega)]

theorem all1 (lo hi x : Int) (b : Nat) (w : World) (c : Bool) (hc : inR lo hi x = c) (h0 : w.cell? ⟨b, 0, none⟩ = some (.int .i64 x)) :
    Calls Try.prog 90 #[.int .i64 lo, .int .i64 hi, .slice (some ⟨b, 0, none⟩) 1 1] w fun e w' => e = .returned (.bool c) ∧ w = w' :=
  (all_any lo hi b [x] w (by simp) (fun k hk => by
    match k, hk with
    | 0, _ => exact h0)).mono fun e w' ⟨he, hw⟩ => ⟨by rw [he, ← hc]; simp, hw⟩
theorem all2 (lo hi x y : Int) (b : Nat) (w : World) (c : Bool) (hc : (inR lo hi x && inR lo hi y) = c) (h0 : w.cell? ⟨b, 0, none⟩ = some (.int .i64 x)) (h1 : w.cell? ⟨b, 1, none⟩ = some (.int .i64 y)) :
    Calls Try.prog 90 #[.int .i64 lo, .int .i64 hi, .slice (some ⟨b, 0, none⟩) 2 2] w fun e w' => e = .returned (.bool c) ∧ w = w' :=
  (all_any lo hi b [x, y] w (by simp) (fun k hk => by
    match k, hk with
    | 0, _ => exact h0
    | 1, _ => exact h1)).mono fun e w' ⟨he, hw⟩ => ⟨by rw [he, ← hc]; simp, hw⟩
theorem all3 (lo hi x y z : Int) (b : Nat) (w : World) (c : Bool) (hc : (inR lo hi x && (inR lo hi y && inR lo hi z)) = c) (h0 : w.cell? ⟨b, 0, none⟩ = some (.int .i64 x)) (h1 : w.cell? ⟨b, 1, none⟩ = some (.int .i64 y)) (h2 : w.cell? ⟨b, 2, none⟩ = some (.int .i64 z)) :
    Calls Try.prog 90 #[.int .i64 lo, .int .i64 hi, .slice (some ⟨b, 0, none⟩) 3 3] w fun e w' => e = .returned (.bool c) ∧ w = w' :=
  (all_any lo hi b [x, y, z] w (by simp) (fun k hk => by
    match k, hk with
    | 0, _ => exact h0
    | 1, _ => exact h1
    | 2, _ => exact h2)).mono fun e w' ⟨he, hw⟩ => ⟨by rw [he, ← hc]; simp, hw⟩
theorem all4 (lo hi x y z u : Int) (b : Nat) (w : World) (c : Bool) (hc : (inR lo hi x && (inR lo hi y && (inR lo hi z && inR lo hi u))) = c) (h0 : w.cell? ⟨b, 0, none⟩ = some (.int .i64 x)) (h1 : w.cell? ⟨b, 1, none⟩ = some (.int .i64 y)) (h2 : w.cell? ⟨b, 2, none⟩ = some (.int .i64 z)) (h3 : w.cell? ⟨b, 3, none⟩ = some (.int .i64 u)) :
    Calls Try.prog 90 #[.int .i64 lo, .int .i64 hi, .slice (some ⟨b, 0, none⟩) 4 4] w fun e w' => e = .returned (.bool c) ∧ w = w' :=
  (all_any lo hi b [x, y, z, u] w (by simp) (fun k hk => by
    match k, hk with
    | 0, _ => exact h0
    | 1, _ => exact h1
    | 2, _ => exact h2
    | 3, _ => exact h3)).mono fun e w' ⟨he, hw⟩ => ⟨by rw [he, ← hc]; simp, hw⟩

set_option maxHeartbeats 400000 in
theorem first_two (x y : Int) (b : Nat) (w : World) (h0 : w.cell? ⟨b, 0, none⟩ = some (.int .i64 x)) (h1 : w.cell? ⟨b, 1, none⟩ = some (.int .i64 y)) :
    Calls Try.prog 105 #[.slice (some ⟨b, 0, none⟩) 2 2] w fun e w' => e = .returned (.int .i64 (first2 x y)) ∧ w = w' := by
  cases hx : (x != 0)
  · have hx' : x = 0 := by simpa using hx
    have HX := Lib.hid hx'
    clear hx'
    cases hy : (y != 0)
    · have hy' : y = 0 := by simpa using hy
      have HY := Lib.hid hy'
      clear hy'
      go_enter Try.func105, Try.ntmps105
      go_wp2
      refine wp_loop_rounds 3 ?_
      rw [rounds_succ]
      go_wp2
      rw [rounds_succ]
      go_wp2
      rw [rounds_succ]
      go_wp2
      go_ret
      exact ⟨ret_int (by unfold first2; rw [if_pos HX.out, HY.out]), rfl⟩
    · go_enter Try.func105, Try.ntmps105
      go_wp2
      refine wp_loop_rounds 3 ?_
      rw [rounds_succ]
      go_wp2
      rw [rounds_succ]
      go_wp2
      go_ret
      exact ⟨ret_int (by unfold first2; rw [if_pos HX.out]), rfl⟩
  · have hx' : ¬ x = 0 := by simpa using hx
    have HX := Lib.hid hx'
    clear hx'
    go_enter Try.func105, Try.ntmps105
    go_wp2
    refine wp_loop_rounds 3 ?_
    rw [rounds_succ]
    go_wp2
    go_ret
    exact ⟨ret_int (by unfold first2; rw [if_neg HX.out]), rfl⟩

set_option maxHeartbeats 400000 in
theorem checkPlace_any (x y z : Int) (w : World) :
    Calls Try.prog 89 #[.agg #[.int .i64 x, .int .i64 y, .int .i64 z]] w fun e w' => e = .returned (.int .i64 (checkPlaceP x y z)) ∧ Below w.heap.size w w' := by
  cases hp : placeB x y z
  · have HP := Lib.hid hp
    clear hp
    go_enter Try.func89, Try.ntmps89
    go_wp2_with (go_at_call 90; refine (all3 _ _ x y z _ _ _ HP.out (by go_simp) (by go_simp) (by go_simp)).mono ?_; rintro e w' ⟨rfl, rfl⟩)
    go_ret
    exact ⟨ret_int (by unfold checkPlaceP; rw [HP.out]; rfl), (by (repeat' (first | with_reducible exact Below.refl _ _ | (with_reducible refine below_later_of ?_ ?_ _) | (with_reducible refine Below.alloc ?_ ?_ _) | (with_reducible refine Below.setCell ?_ ?_ _) | (with_reducible refine Below.drew ?_) | (simp; done) | (simp; omega) | omega)))⟩
  · have HP := Lib.hid hp
    clear hp
    go_enter Try.func89, Try.ntmps89
    go_wp2_with (go_at_call 90; refine (all3 _ _ x y z _ _ _ HP.out (by go_simp) (by go_simp) (by go_simp)).mono ?_; rintro e w' ⟨rfl, rfl⟩)
    go_ret
    exact ⟨ret_int (by unfold checkPlaceP; rw [HP.out]; rfl), (by (repeat' (first | with_reducible exact Below.refl _ _ | (with_reducible refine below_later_of ?_ ?_ _) | (with_reducible refine Below.alloc ?_ ?_ _) | (with_reducible refine Below.setCell ?_ ?_ _) | (with_reducible refine Below.drew ?_) | (simp; done) | (simp; omega) | omega)))⟩
end Go.Proofs.Ythnfepfbkmafaaa
