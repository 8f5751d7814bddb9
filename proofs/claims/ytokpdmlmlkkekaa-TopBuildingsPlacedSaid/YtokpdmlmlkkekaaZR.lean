import Derived.Test.YtokpdmlmlkkekaaRows
import Derived.WalkKit
import Derived.WalkSpells
import Derived.WalkLawsBesides
import Derived.Lib.Hide
import Derived.Deep.LoopGhost
import Derived.Test.YtokpdmlmlkkekaaZL
import Derived.Deep.RegionHeld3
namespace Go.Proofs.Ytokpdmlmlkkekaa
set_option linter.unusedVariables false
open Go.RowKit
set_option maxHeartbeats 400000 in
theorem bWithin (n lo hi : Int) (w : World) {c : Bool} (hc : inR lo hi n = c) :
    Calls Try.prog 36 #[.int .i64 n, .int .i64 lo, .int .i64 hi] w fun e w' => e = .returned (.bool c) ∧ w = w' := by
  subst hc
  unfold inR
  go_enter Try.func36, Try.ntmps36
  by_cases h1 : lo ≤ n
  · go_wp2
    go_ret
    exact ⟨by simp [h1], rfl⟩
  · have h2 : decide (lo ≤ n) = false := by simpa using h1
    go_wp2
    go_ret
    exact ⟨by simp, rfl⟩

set_option maxHeartbeats 400000 in
theorem bFloor (n b : Int) (w : World) (hb : 1 ≤ b) (hb2 : b ≤ 9223372036854775807) (h1 : -9223372036854775807 ≤ n) (h2 : n ≤ 9223372036854775807) :
    Calls Try.prog 57 #[.int .i64 n, .int .i64 b] w fun e w' => e = .returned (.int .i64 (n / b)) ∧ w = w' := by
  have hf := floor_of_tdiv n b hb
  have hq : n.tdiv b ≤ 9223372036854775807 ∧ -9223372036854775807 ≤ n.tdiv b := by
    have := Int.natAbs_tdiv_le_natAbs n b
    omega
  obtain ⟨q1, q2⟩ := hq
  by_cases hm : n.tmod b < 0
  · rw [if_pos hm] at hf
    have hq3 : -9223372036854775808 ≤ n.tdiv b - 1 := by omega
    have HF := Lib.hid hf
    clear hf
    have hn : n < 0 := by
      rcases Int.lt_or_le n 0 with h | h
      · exact h
      · exact absurd (Int.tmod_nonneg b h) (by omega)
    go_enter Try.func57, Try.ntmps57
    go_wp2
    go_ret
    exact ⟨ret_int HF.out, rfl⟩
  · rw [if_neg hm] at hf
    have HF := Lib.hid hf
    clear hf
    by_cases hn : 0 ≤ n
    · have h0 : 0 ≤ n % b := Int.emod_nonneg n (by omega)
      go_enter Try.func57, Try.ntmps57
      go_wp2
      go_ret
      exact ⟨ret_int HF.out, rfl⟩
    · go_enter Try.func57, Try.ntmps57
      go_wp2
      go_ret
      exact ⟨ret_int HF.out, rfl⟩

/-- Go's remainder, lifted. -/
theorem mod_of_tmod (n b : Int) (hb : 1 ≤ b) : (if n.tmod b < 0 then n.tmod b + b else n.tmod b) = n % b := by
  have h3 := Int.emod_nonneg n (show b ≠ 0 by omega)
  have h4 := Int.emod_lt_of_pos n (show 0 < b by omega)
  have hn : (b.natAbs : Int) = b := Int.natAbs_of_nonneg (by omega)
  rw [Int.tmod_eq_emod]
  by_cases h : 0 ≤ n ∨ b ∣ n
  · simp only [if_pos h]
    rw [if_neg (by omega)]; omega
  · simp only [if_neg h]
    have : n % b ≠ 0 := fun e => h (Or.inr (Int.dvd_of_emod_eq_zero e))
    rw [if_pos (by omega)]; omega
set_option maxHeartbeats 400000 in
theorem bMod (n b : Int) (w : World) (hb : 1 ≤ b) (hb2 : b ≤ 9223372036854775807) (h1 : -9223372036854775808 ≤ n) (h2 : n ≤ 9223372036854775807) :
    Calls Try.prog 56 #[.int .i64 n, .int .i64 b] w fun e w' => e = .returned (.int .i64 (n % b)) ∧ w = w' := by
  have hf := mod_of_tmod n b hb
  by_cases hm : n.tmod b < 0
  · rw [if_pos hm] at hf
    have hq3 : 0 ≤ n.tmod b + b := by rw [hf]; exact Int.emod_nonneg n (by omega)
    have HF := Lib.hid hf
    clear hf
    have hn : n < 0 := by
      rcases Int.lt_or_le n 0 with h | h
      · exact h
      · exact absurd (Int.tmod_nonneg b h) (by omega)
    go_enter Try.func56, Try.ntmps56
    go_wp2
    go_ret
    exact ⟨ret_int HF.out, rfl⟩
  · rw [if_neg hm] at hf
    have HF := Lib.hid hf
    clear hf
    by_cases hn : 0 ≤ n
    · have h0 : 0 ≤ n % b := Int.emod_nonneg n (by omega)
      go_enter Try.func56, Try.ntmps56
      go_wp2
      go_ret
      exact ⟨rfl, rfl⟩
    · go_enter Try.func56, Try.ntmps56
      go_wp2
      go_ret
      exact ⟨ret_int HF.out, rfl⟩

set_option maxHeartbeats 400000 in
theorem bSize (n : Int) (w : World) (h1 : -9223372036854775807 ≤ n) (h2 : n ≤ 9223372036854775807) :
    Calls Try.prog 128 #[.int .i64 n] w fun e w' => e = .returned (.int .i64 (max n (-n))) ∧ w = w' := by
  go_enter Try.func128, Try.ntmps128
  go_wp2
  go_ret
  exact ⟨rfl, rfl⟩

/-- What the root's loop holds: the bit of k rounds to come. -/
def bitOf : Nat → Int
  | 0 => 0
  | k + 1 => 2 ^ k
theorem bitOf_half (k : Nat) : (bitOf (k + 1)) / 2 = bitOf k := by
  cases k with
  | zero => rfl
  | succ k =>
    show ((2 : Int) ^ (k + 1)) / 2 = 2 ^ k
    rw [Int.pow_succ]; omega
theorem pow_le31 (k : Nat) (h : k ≤ 31) : (2 : Int) ^ k ≤ 2147483648 := by
  have : (2 : Nat) ^ k ≤ 2 ^ 31 := Nat.pow_le_pow_right (by omega) h
  have h2 : ((2 ^ k : Nat) : Int) ≤ ((2 ^ 31 : Nat) : Int) := Int.ofNat_le.2 this
  simpa using h2
set_option maxHeartbeats 1000000 in
theorem bRoot (n : Int) (w : World) (h0 : 0 ≤ n) (h1 : n ≤ 4000000000000000000) :
    Calls Try.prog 88 #[.int .i64 n] w fun e w' => e = .returned (.int .i64 (rootP n)) ∧ w = w' := by
  go_enter Try.func88, Try.ntmps88
  go_wp2
  go_loop [3, 4] (fun r b => ∃ (k : Nat) (x : Int), k ≤ 31 ∧ 0 ≤ x ∧ x + 2 ^ k ≤ 2147483648 ∧ rootGo n k x = rootP n ∧ r = .int .i64 x ∧ b = .int .i64 (bitOf k)) (fun r b => (intOf b).toNat)
  case atStart => exact ⟨31, 0, Nat.le_refl _, by omega, by decide, rfl, rfl, rfl⟩
  case round =>
    obtain ⟨k, x, hk, hx0, hx1, hg, rfl, rfl⟩ := hrel
    cases k with
    | zero =>
      have HG := Lib.hid hg
      clear hg
      simp only [bitOf]
      go_wp2
      go_ret
      exact ⟨ret_int HG.out, rfl⟩
    | succ k =>
      have hp : (0 : Int) < 2 ^ k := Int.pow_pos (by omega)
      have hl := pow_le31 k (by omega)
      have hpp : (2 : Int) ^ (k + 1) = 2 ^ k + 2 ^ k := by rw [Int.pow_succ]; omega
      rw [hpp] at hx1
      have hhalf := bitOf_half k
      have hmz : 0 ≤ bitOf k ∧ bitOf k < 2 ^ k := by
        cases k with
        | zero => exact ⟨by decide, by decide⟩
        | succ j =>
          have : (0 : Int) < 2 ^ j := Int.pow_pos (by omega)
          show 0 ≤ (2 : Int) ^ j ∧ (2 : Int) ^ j < 2 ^ (j + 1)
          rw [Int.pow_succ]; omega
      have hgo : rootGo n (k + 1) x = rootGo n k (if (x + 2 ^ k) * (x + 2 ^ k) ≤ n then x + 2 ^ k else x) := rfl
      rw [hgo] at hg
      show Code.wp _ _ _ _ _
      have hb : bitOf (k + 1) = 2 ^ k := rfl
      rw [hb] at hhalf ⊢
      clear hb hgo
      generalize hP : (2 : Int) ^ k = P2 at hp hl hx1 hg hmz hhalf ⊢
      obtain ⟨b1, b2⟩ := sq_bd (x + P2) 2147483648 (by omega) (by omega)
      simp only [Int.reduceMul] at b2
      by_cases hc : (x + P2) * (x + P2) ≤ n
      · rw [if_pos hc] at hg
        have HG := Lib.hid hg
        have HH := Lib.hid hhalf
        have HP := Lib.hid hP
        clear hg hhalf hP
        go_wp2
        go_round
        case rel => exact ⟨k, x + P2, by omega, by omega, by rw [HP.out]; omega, HG.out, rfl, by first | rw [HH.out] | (rw [← HH.out]; first | rfl | (congr 1; omega))⟩
        case measure => have := HH.out; simp [intOf]; omega
      · rw [if_neg hc] at hg
        have HG := Lib.hid hg
        have HH := Lib.hid hhalf
        have HP := Lib.hid hP
        clear hg hhalf hP
        go_wp2
        go_round
        case rel => exact ⟨k, x, by omega, by omega, by rw [HP.out]; omega, HG.out, rfl, by first | rw [HH.out] | (rw [← HH.out]; first | rfl | (congr 1; omega))⟩
        case measure => have := HH.out; simp [intOf]; omega
end Go.Proofs.Ytokpdmlmlkkekaa

namespace Go.Proofs.Ytokpdmlmlkkekaa
set_option linter.unusedVariables false
open Go.RowKit
theorem rIsPlace1 (n : Int) (w : World) {c : Bool} (hc : inR (-100000000) 100000000 n = c) :
    Calls Try.prog 112 #[.int .i64 n] w fun e w' => e = .returned (.bool c) ∧ w = w' := by
  have H1 := Lib.hid hc
  clear hc
  go_enter Try.func112, Try.ntmps112
  go_wp2_with (first | (go_at_call 36; (with_reducible refine (bWithin _ _ _ _ H1.out).mono ?_); rintro e w' ⟨rfl, rfl⟩))
  go_ret
  exact ⟨rfl, rfl⟩
theorem rIsHeight (n : Int) (w : World) {c : Bool} (hc : inR (-100000) 100000 n = c) :
    Calls Try.prog 85 #[.int .i64 n] w fun e w' => e = .returned (.bool c) ∧ w = w' := by
  have H1 := Lib.hid hc
  clear hc
  go_enter Try.func85, Try.ntmps85
  go_wp2_with (first | (go_at_call 36; (with_reducible refine (bWithin _ _ _ _ H1.out).mono ?_); rintro e w' ⟨rfl, rfl⟩))
  go_ret
  exact ⟨rfl, rfl⟩
set_option maxHeartbeats 1000000 in
theorem rIsPlace (x y z : Int) (w : World) {c : Bool} (hc : placeB x y z = c) :
    Calls Try.prog 45 #[.agg #[.int .i64 x, .int .i64 y, .int .i64 z]] w fun e w' => e = .returned (.bool c) ∧ Below w.heap.size w w' := by
  subst hc
  cases h1 : inR (-100000000) 100000000 x
  · have HF := Lib.hid (show placeB x y z = false by unfold placeB; rw [h1]; rfl)
    have H1 := Lib.hid h1
    clear h1
    go_enter Try.func45, Try.ntmps45
    go_wp2_with (first | (go_at_call 112; (with_reducible refine (rIsPlace1 _ _ H1.out).mono ?_); rintro e w' ⟨rfl, rfl⟩))
    go_ret
    exact ⟨ret_bool HF.out.symm, (by (repeat' (first | with_reducible exact Below.refl _ _ | (with_reducible refine below_later_of ?_ ?_ _) | (with_reducible refine Below.alloc ?_ ?_ _) | (with_reducible refine Below.setCell ?_ ?_ _) | (with_reducible refine Below.drew ?_) | (simp; done) | (simp; omega) | omega)))⟩
  · cases h2 : inR (-100000000) 100000000 y
    · have HF := Lib.hid (show placeB x y z = false by unfold placeB; rw [h1, h2]; rfl)
      have H1 := Lib.hid h1
      have H2 := Lib.hid h2
      clear h1 h2
      go_enter Try.func45, Try.ntmps45
      go_wp2_with (first | (go_at_call 112; (with_reducible refine (rIsPlace1 _ _ H1.out).mono ?_); rintro e w' ⟨rfl, rfl⟩) | (go_at_call 112; (with_reducible refine (rIsPlace1 _ _ H2.out).mono ?_); rintro e w' ⟨rfl, rfl⟩))
      go_ret
      exact ⟨ret_bool HF.out.symm, (by (repeat' (first | with_reducible exact Below.refl _ _ | (with_reducible refine below_later_of ?_ ?_ _) | (with_reducible refine Below.alloc ?_ ?_ _) | (with_reducible refine Below.setCell ?_ ?_ _) | (with_reducible refine Below.drew ?_) | (simp; done) | (simp; omega) | omega)))⟩
    · obtain ⟨c, h3⟩ : ∃ c, inR (-100000000) 100000000 z = c := ⟨_, rfl⟩
      have HF := Lib.hid (show placeB x y z = c by unfold placeB; rw [h1, h2, h3]; rfl)
      have H1 := Lib.hid h1
      have H2 := Lib.hid h2
      have H3 := Lib.hid h3
      clear h1 h2 h3
      go_enter Try.func45, Try.ntmps45
      go_wp2_with (first | (go_at_call 112; (with_reducible refine (rIsPlace1 _ _ H1.out).mono ?_); rintro e w' ⟨rfl, rfl⟩) | (go_at_call 112; (with_reducible refine (rIsPlace1 _ _ H2.out).mono ?_); rintro e w' ⟨rfl, rfl⟩) | (go_at_call 112; (with_reducible refine (rIsPlace1 _ _ H3.out).mono ?_); rintro e w' ⟨rfl, rfl⟩))
      go_ret
      exact ⟨ret_bool HF.out.symm, (by (repeat' (first | with_reducible exact Below.refl _ _ | (with_reducible refine below_later_of ?_ ?_ _) | (with_reducible refine Below.alloc ?_ ?_ _) | (with_reducible refine Below.setCell ?_ ?_ _) | (with_reducible refine Below.drew ?_) | (simp; done) | (simp; omega) | omega)))⟩
set_option maxHeartbeats 2000000 in
theorem rCheckTrack (t : Trk) (w : World) {e0 : Int} (he : checkTrackP t = e0) :
    Calls Try.prog 20 #[.agg #[.int .i64 t.sx, .int .i64 t.sy, .int .i64 t.sz, .int .i64 t.step, .int .i64 t.lines, .int .i64 t.near, .int .i64 t.bin, .int .i64 t.bins, .bool t.east]] w fun e w' => e = .returned (.int .i64 e0) ∧ Below w.heap.size w w' := by
  subst he
  cases hp : placeB t.sx t.sy t.sz
  · have HF := Lib.hid (show checkTrackP t = 2 by unfold checkTrackP; rw [hp]; rfl)
    have H0 := Lib.hid hp
    clear hp
    go_enter Try.func20, Try.ntmps20
    go_wp2_with (first | (go_at_call 45; (with_reducible refine (rIsPlace _ _ _ _ H0.out).mono ?_); rintro e w' ⟨rfl, hb⟩; obtain ⟨pp, rfl⟩ := later_of_below hb; clear hb))
    go_ret
    exact ⟨ret_int HF.out.symm, (by (repeat' (first | with_reducible exact Below.refl _ _ | (with_reducible refine below_later_of ?_ ?_ _) | (with_reducible refine Below.alloc ?_ ?_ _) | (with_reducible refine Below.setCell ?_ ?_ _) | (with_reducible refine Below.drew ?_) | (simp; done) | (simp; omega) | omega)))⟩
  · by_cases hz : t.step = 0
    · have HF := Lib.hid (show checkTrackP t = 11 by unfold checkTrackP; rw [hp, if_pos rfl, if_pos hz])
      have H0 := Lib.hid hp
      clear hp
      go_enter Try.func20, Try.ntmps20
      go_wp2_with (first | (go_at_call 45; (with_reducible refine (rIsPlace _ _ _ _ H0.out).mono ?_); rintro e w' ⟨rfl, hb⟩; obtain ⟨pp, rfl⟩ := later_of_below hb; clear hb))
      go_ret
      exact ⟨ret_int HF.out.symm, (by (repeat' (first | with_reducible exact Below.refl _ _ | (with_reducible refine below_later_of ?_ ?_ _) | (with_reducible refine Below.alloc ?_ ?_ _) | (with_reducible refine Below.setCell ?_ ?_ _) | (with_reducible refine Below.drew ?_) | (simp; done) | (simp; omega) | omega)))⟩
    · cases h1 : inR (-1000) 1000 t.step
      · have HF := Lib.hid (show checkTrackP t = 2 by unfold checkTrackP; rw [hp, if_pos rfl, if_neg hz, h1]; rfl)
        have H0 := Lib.hid hp
        have H1 := Lib.hid h1
        clear hp h1
        go_enter Try.func20, Try.ntmps20
        go_wp2_with (first | (go_at_call 45; (with_reducible refine (rIsPlace _ _ _ _ H0.out).mono ?_); rintro e w' ⟨rfl, hb⟩; obtain ⟨pp, rfl⟩ := later_of_below hb; clear hb) | (go_at_call 36; (with_reducible refine (bWithin _ _ _ _ H1.out).mono ?_); rintro e w' ⟨rfl, rfl⟩))
        go_ret
        exact ⟨ret_int HF.out.symm, (by (repeat' (first | with_reducible exact Below.refl _ _ | (with_reducible refine below_later_of ?_ ?_ _) | (with_reducible refine Below.alloc ?_ ?_ _) | (with_reducible refine Below.setCell ?_ ?_ _) | (with_reducible refine Below.drew ?_) | (simp; done) | (simp; omega) | omega)))⟩
      · cases h2 : inR 1 10000 t.lines
        · have HF := Lib.hid (show checkTrackP t = 2 by unfold checkTrackP; rw [hp, if_pos rfl, if_neg hz, h1, h2]; rfl)
          have H0 := Lib.hid hp
          have H1 := Lib.hid h1
          have H2 := Lib.hid h2
          clear hp h1 h2
          go_enter Try.func20, Try.ntmps20
          go_wp2_with (first | (go_at_call 45; (with_reducible refine (rIsPlace _ _ _ _ H0.out).mono ?_); rintro e w' ⟨rfl, hb⟩; obtain ⟨pp, rfl⟩ := later_of_below hb; clear hb) | (go_at_call 36; (with_reducible refine (bWithin _ _ _ _ H1.out).mono ?_); rintro e w' ⟨rfl, rfl⟩) | (go_at_call 36; (with_reducible refine (bWithin _ _ _ _ H2.out).mono ?_); rintro e w' ⟨rfl, rfl⟩))
          go_ret
          exact ⟨ret_int HF.out.symm, (by (repeat' (first | with_reducible exact Below.refl _ _ | (with_reducible refine below_later_of ?_ ?_ _) | (with_reducible refine Below.alloc ?_ ?_ _) | (with_reducible refine Below.setCell ?_ ?_ _) | (with_reducible refine Below.drew ?_) | (simp; done) | (simp; omega) | omega)))⟩
        · cases h3 : inR 0 100000000 t.near
          · have HF := Lib.hid (show checkTrackP t = 2 by unfold checkTrackP; rw [hp, if_pos rfl, if_neg hz, h1, h2, h3]; rfl)
            have H0 := Lib.hid hp
            have H1 := Lib.hid h1
            have H2 := Lib.hid h2
            have H3 := Lib.hid h3
            clear hp h1 h2 h3
            go_enter Try.func20, Try.ntmps20
            go_wp2_with (first | (go_at_call 45; (with_reducible refine (rIsPlace _ _ _ _ H0.out).mono ?_); rintro e w' ⟨rfl, hb⟩; obtain ⟨pp, rfl⟩ := later_of_below hb; clear hb) | (go_at_call 36; (with_reducible refine (bWithin _ _ _ _ H1.out).mono ?_); rintro e w' ⟨rfl, rfl⟩) | (go_at_call 36; (with_reducible refine (bWithin _ _ _ _ H2.out).mono ?_); rintro e w' ⟨rfl, rfl⟩) | (go_at_call 36; (with_reducible refine (bWithin _ _ _ _ H3.out).mono ?_); rintro e w' ⟨rfl, rfl⟩))
            go_ret
            exact ⟨ret_int HF.out.symm, (by (repeat' (first | with_reducible exact Below.refl _ _ | (with_reducible refine below_later_of ?_ ?_ _) | (with_reducible refine Below.alloc ?_ ?_ _) | (with_reducible refine Below.setCell ?_ ?_ _) | (with_reducible refine Below.drew ?_) | (simp; done) | (simp; omega) | omega)))⟩
          · cases h4 : inR 1 1000 t.bin
            · have HF := Lib.hid (show checkTrackP t = 2 by unfold checkTrackP; rw [hp, if_pos rfl, if_neg hz, h1, h2, h3, h4]; rfl)
              have H0 := Lib.hid hp
              have H1 := Lib.hid h1
              have H2 := Lib.hid h2
              have H3 := Lib.hid h3
              have H4 := Lib.hid h4
              clear hp h1 h2 h3 h4
              go_enter Try.func20, Try.ntmps20
              go_wp2_with (first | (go_at_call 45; (with_reducible refine (rIsPlace _ _ _ _ H0.out).mono ?_); rintro e w' ⟨rfl, hb⟩; obtain ⟨pp, rfl⟩ := later_of_below hb; clear hb) | (go_at_call 36; (with_reducible refine (bWithin _ _ _ _ H1.out).mono ?_); rintro e w' ⟨rfl, rfl⟩) | (go_at_call 36; (with_reducible refine (bWithin _ _ _ _ H2.out).mono ?_); rintro e w' ⟨rfl, rfl⟩) | (go_at_call 36; (with_reducible refine (bWithin _ _ _ _ H3.out).mono ?_); rintro e w' ⟨rfl, rfl⟩) | (go_at_call 36; (with_reducible refine (bWithin _ _ _ _ H4.out).mono ?_); rintro e w' ⟨rfl, rfl⟩))
              go_ret
              exact ⟨ret_int HF.out.symm, (by (repeat' (first | with_reducible exact Below.refl _ _ | (with_reducible refine below_later_of ?_ ?_ _) | (with_reducible refine Below.alloc ?_ ?_ _) | (with_reducible refine Below.setCell ?_ ?_ _) | (with_reducible refine Below.drew ?_) | (simp; done) | (simp; omega) | omega)))⟩
            · cases h5 : inR 1 100000 t.bins
              · have HF := Lib.hid (show checkTrackP t = 2 by unfold checkTrackP; rw [hp, if_pos rfl, if_neg hz, h1, h2, h3, h4, h5]; rfl)
                have H0 := Lib.hid hp
                have H1 := Lib.hid h1
                have H2 := Lib.hid h2
                have H3 := Lib.hid h3
                have H4 := Lib.hid h4
                have H5 := Lib.hid h5
                clear hp h1 h2 h3 h4 h5
                go_enter Try.func20, Try.ntmps20
                go_wp2_with (first | (go_at_call 45; (with_reducible refine (rIsPlace _ _ _ _ H0.out).mono ?_); rintro e w' ⟨rfl, hb⟩; obtain ⟨pp, rfl⟩ := later_of_below hb; clear hb) | (go_at_call 36; (with_reducible refine (bWithin _ _ _ _ H1.out).mono ?_); rintro e w' ⟨rfl, rfl⟩) | (go_at_call 36; (with_reducible refine (bWithin _ _ _ _ H2.out).mono ?_); rintro e w' ⟨rfl, rfl⟩) | (go_at_call 36; (with_reducible refine (bWithin _ _ _ _ H3.out).mono ?_); rintro e w' ⟨rfl, rfl⟩) | (go_at_call 36; (with_reducible refine (bWithin _ _ _ _ H4.out).mono ?_); rintro e w' ⟨rfl, rfl⟩) | (go_at_call 36; (with_reducible refine (bWithin _ _ _ _ H5.out).mono ?_); rintro e w' ⟨rfl, rfl⟩))
                go_ret
                exact ⟨ret_int HF.out.symm, (by (repeat' (first | with_reducible exact Below.refl _ _ | (with_reducible refine below_later_of ?_ ?_ _) | (with_reducible refine Below.alloc ?_ ?_ _) | (with_reducible refine Below.setCell ?_ ?_ _) | (with_reducible refine Below.drew ?_) | (simp; done) | (simp; omega) | omega)))⟩
              · have HF := Lib.hid (show checkTrackP t = 0 by unfold checkTrackP; rw [hp, if_pos rfl, if_neg hz, h1, h2, h3, h4, h5]; rfl)
                have H0 := Lib.hid hp
                have H1 := Lib.hid h1
                have H2 := Lib.hid h2
                have H3 := Lib.hid h3
                have H4 := Lib.hid h4
                have H5 := Lib.hid h5
                clear hp h1 h2 h3 h4 h5
                go_enter Try.func20, Try.ntmps20
                go_wp2_with (first | (go_at_call 45; (with_reducible refine (rIsPlace _ _ _ _ H0.out).mono ?_); rintro e w' ⟨rfl, hb⟩; obtain ⟨pp, rfl⟩ := later_of_below hb; clear hb) | (go_at_call 36; (with_reducible refine (bWithin _ _ _ _ H1.out).mono ?_); rintro e w' ⟨rfl, rfl⟩) | (go_at_call 36; (with_reducible refine (bWithin _ _ _ _ H2.out).mono ?_); rintro e w' ⟨rfl, rfl⟩) | (go_at_call 36; (with_reducible refine (bWithin _ _ _ _ H3.out).mono ?_); rintro e w' ⟨rfl, rfl⟩) | (go_at_call 36; (with_reducible refine (bWithin _ _ _ _ H4.out).mono ?_); rintro e w' ⟨rfl, rfl⟩) | (go_at_call 36; (with_reducible refine (bWithin _ _ _ _ H5.out).mono ?_); rintro e w' ⟨rfl, rfl⟩))
                go_ret
                exact ⟨ret_int HF.out.symm, (by (repeat' (first | with_reducible exact Below.refl _ _ | (with_reducible refine below_later_of ?_ ?_ _) | (with_reducible refine Below.alloc ?_ ?_ _) | (with_reducible refine Below.setCell ?_ ?_ _) | (with_reducible refine Below.drew ?_) | (simp; done) | (simp; omega) | omega)))⟩
set_option maxHeartbeats 2000000 in
theorem rPixelErr (t : Trk) (q : Pix) (w : World) {e0 : Int} (he : checkPixelP t q = e0) (l1 : 1 ≤ t.lines) (l2 : t.lines ≤ 10000) (n1 : 1 ≤ t.bins) (n2 : t.bins ≤ 100000) :
    Calls Try.prog 21 #[.agg #[.int .i64 t.sx, .int .i64 t.sy, .int .i64 t.sz, .int .i64 t.step, .int .i64 t.lines, .int .i64 t.near, .int .i64 t.bin, .int .i64 t.bins, .bool t.east], .agg #[.int .i64 q.line, .int .i64 q.bin, .int .i64 q.lo, .int .i64 q.hi]] w fun e w' => e = .returned (.int .i64 e0) ∧ Below w.heap.size w w' := by
  subst he
  cases h1 : inR 0 (t.lines - 1) q.line
  · have HF := Lib.hid (show checkPixelP t q = 2 by unfold checkPixelP; rw [h1]; rfl)
    have H1 := Lib.hid h1
    clear h1
    go_enter Try.func21, Try.ntmps21
    go_wp2_with (first | (go_at_call 36; (with_reducible refine (bWithin _ _ _ _ H1.out).mono ?_); rintro e w' ⟨rfl, rfl⟩))
    go_ret
    exact ⟨ret_int HF.out.symm, (by (repeat' (first | with_reducible exact Below.refl _ _ | (with_reducible refine below_later_of ?_ ?_ _) | (with_reducible refine Below.alloc ?_ ?_ _) | (with_reducible refine Below.setCell ?_ ?_ _) | (with_reducible refine Below.drew ?_) | (simp; done) | (simp; omega) | omega)))⟩
  · cases h2 : inR 0 (t.bins - 1) q.bin
    · have HF := Lib.hid (show checkPixelP t q = 2 by unfold checkPixelP; rw [h1, h2]; rfl)
      have H1 := Lib.hid h1
      have H2 := Lib.hid h2
      clear h1 h2
      go_enter Try.func21, Try.ntmps21
      go_wp2_with (first | (go_at_call 36; (with_reducible refine (bWithin _ _ _ _ H1.out).mono ?_); rintro e w' ⟨rfl, rfl⟩) | (go_at_call 36; (with_reducible refine (bWithin _ _ _ _ H2.out).mono ?_); rintro e w' ⟨rfl, rfl⟩))
      go_ret
      exact ⟨ret_int HF.out.symm, (by (repeat' (first | with_reducible exact Below.refl _ _ | (with_reducible refine below_later_of ?_ ?_ _) | (with_reducible refine Below.alloc ?_ ?_ _) | (with_reducible refine Below.setCell ?_ ?_ _) | (with_reducible refine Below.drew ?_) | (simp; done) | (simp; omega) | omega)))⟩
    · cases h3 : inR (-100000) 100000 q.lo
      · have HF := Lib.hid (show checkPixelP t q = 2 by unfold checkPixelP heightsB; rw [h1, h2, h3]; rfl)
        have H1 := Lib.hid h1
        have H2 := Lib.hid h2
        have H3 := Lib.hid h3
        clear h1 h2 h3
        go_enter Try.func21, Try.ntmps21
        go_wp2_with (first | (go_at_call 36; (with_reducible refine (bWithin _ _ _ _ H1.out).mono ?_); rintro e w' ⟨rfl, rfl⟩) | (go_at_call 36; (with_reducible refine (bWithin _ _ _ _ H2.out).mono ?_); rintro e w' ⟨rfl, rfl⟩) | (go_at_call 85; (with_reducible refine (rIsHeight _ _ H3.out).mono ?_); rintro e w' ⟨rfl, rfl⟩))
        go_ret
        exact ⟨ret_int HF.out.symm, (by (repeat' (first | with_reducible exact Below.refl _ _ | (with_reducible refine below_later_of ?_ ?_ _) | (with_reducible refine Below.alloc ?_ ?_ _) | (with_reducible refine Below.setCell ?_ ?_ _) | (with_reducible refine Below.drew ?_) | (simp; done) | (simp; omega) | omega)))⟩
      · cases h4 : inR (-100000) 100000 q.hi
        · have HF := Lib.hid (show checkPixelP t q = 2 by unfold checkPixelP heightsB; rw [h1, h2, h3, h4]; rfl)
          have H1 := Lib.hid h1
          have H2 := Lib.hid h2
          have H3 := Lib.hid h3
          have H4 := Lib.hid h4
          clear h1 h2 h3 h4
          go_enter Try.func21, Try.ntmps21
          go_wp2_with (first | (go_at_call 36; (with_reducible refine (bWithin _ _ _ _ H1.out).mono ?_); rintro e w' ⟨rfl, rfl⟩) | (go_at_call 36; (with_reducible refine (bWithin _ _ _ _ H2.out).mono ?_); rintro e w' ⟨rfl, rfl⟩) | (go_at_call 85; (with_reducible refine (rIsHeight _ _ H3.out).mono ?_); rintro e w' ⟨rfl, rfl⟩) | (go_at_call 85; (with_reducible refine (rIsHeight _ _ H4.out).mono ?_); rintro e w' ⟨rfl, rfl⟩))
          go_ret
          exact ⟨ret_int HF.out.symm, (by (repeat' (first | with_reducible exact Below.refl _ _ | (with_reducible refine below_later_of ?_ ?_ _) | (with_reducible refine Below.alloc ?_ ?_ _) | (with_reducible refine Below.setCell ?_ ?_ _) | (with_reducible refine Below.drew ?_) | (simp; done) | (simp; omega) | omega)))⟩
        · have HF := Lib.hid (show checkPixelP t q = if q.hi < q.lo then 9 else if t.sz ≤ q.hi then 26 else 0 by unfold checkPixelP heightsB; rw [h1, h2, h3, h4]; rfl)
          have H1 := Lib.hid h1
          have H2 := Lib.hid h2
          have H3 := Lib.hid h3
          have H4 := Lib.hid h4
          clear h1 h2 h3 h4
          by_cases h5 : q.hi < q.lo
          · have HG := Lib.hid (show checkPixelP t q = 9 by rw [HF.out, if_pos h5])
            clear HF
            go_enter Try.func21, Try.ntmps21
            go_wp2_with (first | (go_at_call 36; (with_reducible refine (bWithin _ _ _ _ H1.out).mono ?_); rintro e w' ⟨rfl, rfl⟩) | (go_at_call 36; (with_reducible refine (bWithin _ _ _ _ H2.out).mono ?_); rintro e w' ⟨rfl, rfl⟩) | (go_at_call 85; (with_reducible refine (rIsHeight _ _ H3.out).mono ?_); rintro e w' ⟨rfl, rfl⟩) | (go_at_call 85; (with_reducible refine (rIsHeight _ _ H4.out).mono ?_); rintro e w' ⟨rfl, rfl⟩))
            go_ret
            exact ⟨ret_int HG.out.symm, (by (repeat' (first | with_reducible exact Below.refl _ _ | (with_reducible refine below_later_of ?_ ?_ _) | (with_reducible refine Below.alloc ?_ ?_ _) | (with_reducible refine Below.setCell ?_ ?_ _) | (with_reducible refine Below.drew ?_) | (simp; done) | (simp; omega) | omega)))⟩
          · by_cases h6 : t.sz ≤ q.hi
            · have HG := Lib.hid (show checkPixelP t q = 26 by rw [HF.out, if_neg h5, if_pos h6])
              clear HF
              go_enter Try.func21, Try.ntmps21
              go_wp2_with (first | (go_at_call 36; (with_reducible refine (bWithin _ _ _ _ H1.out).mono ?_); rintro e w' ⟨rfl, rfl⟩) | (go_at_call 36; (with_reducible refine (bWithin _ _ _ _ H2.out).mono ?_); rintro e w' ⟨rfl, rfl⟩) | (go_at_call 85; (with_reducible refine (rIsHeight _ _ H3.out).mono ?_); rintro e w' ⟨rfl, rfl⟩) | (go_at_call 85; (with_reducible refine (rIsHeight _ _ H4.out).mono ?_); rintro e w' ⟨rfl, rfl⟩))
              go_ret
              exact ⟨ret_int HG.out.symm, (by (repeat' (first | with_reducible exact Below.refl _ _ | (with_reducible refine below_later_of ?_ ?_ _) | (with_reducible refine Below.alloc ?_ ?_ _) | (with_reducible refine Below.setCell ?_ ?_ _) | (with_reducible refine Below.drew ?_) | (simp; done) | (simp; omega) | omega)))⟩
            · have HG := Lib.hid (show checkPixelP t q = 0 by rw [HF.out, if_neg h5, if_neg h6])
              clear HF
              go_enter Try.func21, Try.ntmps21
              go_wp2_with (first | (go_at_call 36; (with_reducible refine (bWithin _ _ _ _ H1.out).mono ?_); rintro e w' ⟨rfl, rfl⟩) | (go_at_call 36; (with_reducible refine (bWithin _ _ _ _ H2.out).mono ?_); rintro e w' ⟨rfl, rfl⟩) | (go_at_call 85; (with_reducible refine (rIsHeight _ _ H3.out).mono ?_); rintro e w' ⟨rfl, rfl⟩) | (go_at_call 85; (with_reducible refine (rIsHeight _ _ H4.out).mono ?_); rintro e w' ⟨rfl, rfl⟩))
              go_ret
              exact ⟨ret_int HG.out.symm, (by (repeat' (first | with_reducible exact Below.refl _ _ | (with_reducible refine below_later_of ?_ ?_ _) | (with_reducible refine Below.alloc ?_ ?_ _) | (with_reducible refine Below.setCell ?_ ?_ _) | (with_reducible refine Below.drew ?_) | (simp; done) | (simp; omega) | omega)))⟩
end Go.Proofs.Ytokpdmlmlkkekaa

namespace Go.Proofs.Ytokpdmlmlkkekaa
set_option linter.unusedVariables false
open Go.RowKit
set_option maxHeartbeats 400000 in
theorem rOff (t : Trk) (x : Int) (w : World) (h1 : -100000000 ≤ t.sx) (h2 : t.sx ≤ 100000000) (h3 : -1000000000 ≤ x) (h4 : x ≤ 1000000000) :
    Calls Try.prog 98 #[.agg #[.int .i64 t.sx, .int .i64 t.sy, .int .i64 t.sz, .int .i64 t.step, .int .i64 t.lines, .int .i64 t.near, .int .i64 t.bin, .int .i64 t.bins, .bool t.east], .int .i64 x] w fun e w' => e = .returned (.int .i64 (offP t x)) ∧ Below w.heap.size w w' := by
  unfold offP
  cases he : t.east
  · go_enter Try.func98, Try.ntmps98
    go_wp2
    go_ret
    exact ⟨by simp, (by (repeat' (first | with_reducible exact Below.refl _ _ | (with_reducible refine below_later_of ?_ ?_ _) | (with_reducible refine Below.alloc ?_ ?_ _) | (with_reducible refine Below.setCell ?_ ?_ _) | (with_reducible refine Below.drew ?_) | (simp; done) | (simp; omega) | omega)))⟩
  · go_enter Try.func98, Try.ntmps98
    go_wp2
    go_ret
    exact ⟨by simp, (by (repeat' (first | with_reducible exact Below.refl _ _ | (with_reducible refine below_later_of ?_ ?_ _) | (with_reducible refine Below.alloc ?_ ?_ _) | (with_reducible refine Below.setCell ?_ ?_ _) | (with_reducible refine Below.drew ?_) | (simp; done) | (simp; omega) | omega)))⟩
set_option maxHeartbeats 400000 in
theorem rDepth (t : Trk) (x : Int) (w : World) (h1 : -100000000 ≤ t.sz) (h2 : t.sz ≤ 100000000) (h3 : -1000000000 ≤ x) (h4 : x ≤ 1000000000) :
    Calls Try.prog 86 #[.agg #[.int .i64 t.sx, .int .i64 t.sy, .int .i64 t.sz, .int .i64 t.step, .int .i64 t.lines, .int .i64 t.near, .int .i64 t.bin, .int .i64 t.bins, .bool t.east], .int .i64 x] w fun e w' => e = .returned (.int .i64 (depthP t x)) ∧ Below w.heap.size w w' := by
  unfold depthP
  go_enter Try.func86, Try.ntmps86
  go_wp2
  go_ret
  exact ⟨rfl, (by (repeat' (first | with_reducible exact Below.refl _ _ | (with_reducible refine below_later_of ?_ ?_ _) | (with_reducible refine Below.alloc ?_ ?_ _) | (with_reducible refine Below.setCell ?_ ?_ _) | (with_reducible refine Below.drew ?_) | (simp; done) | (simp; omega) | omega)))⟩
def signP (n : Int) : Int := if n < 0 then -1 else 1
theorem rSign (n : Int) (w : World) : Calls Try.prog 140 #[.int .i64 n] w fun e w' => e = .returned (.int .i64 (signP n)) ∧ w = w' := by
  by_cases h : n < 0
  · have HF := Lib.hid (show signP n = -1 by unfold signP; rw [if_pos h])
    go_enter Try.func140, Try.ntmps140
    go_wp2
    go_ret
    exact ⟨ret_int HF.out.symm, rfl⟩
  · have HF := Lib.hid (show signP n = 1 by unfold signP; rw [if_neg h])
    go_enter Try.func140, Try.ntmps140
    go_wp2
    go_ret
    exact ⟨ret_int HF.out.symm, rfl⟩
set_option maxHeartbeats 400000 in
theorem rRootUp (n : Int) (w : World) (h0 : 0 ≤ n) (h1 : n ≤ 500000000000000000) :
    Calls Try.prog 87 #[.int .i64 n] w fun e w' => e = .returned (.int .i64 (rootUpP n)) ∧ w = w' := by
  obtain ⟨r0, r1, r2⟩ := rootP_spec n h0 (by omega)
  have r3 := rootP_le n h0 (by omega)
  obtain ⟨b1, b2⟩ := sq_bd (rootP n) 2147483648 (by omega) (by omega)
  simp only [Int.reduceMul] at b2
  by_cases hlt : rootP n * rootP n < n
  · go_enter Try.func87, Try.ntmps87
    go_wp2_with (go_at_call 88; refine (bRoot _ _ (by omega) (by omega)).mono ?_; rintro e w' ⟨rfl, rfl⟩)
    go_ret
    exact ⟨ret_int (by unfold rootUpP; rw [if_pos hlt]), rfl⟩
  · go_enter Try.func87, Try.ntmps87
    go_wp2_with (go_at_call 88; refine (bRoot _ _ (by omega) (by omega)).mono ?_; rintro e w' ⟨rfl, rfl⟩)
    go_ret
    exact ⟨ret_int (by unfold rootUpP; rw [if_neg (by omega)]), rfl⟩
set_option maxHeartbeats 1000000 in
theorem rSquare (t : Trk) (x y z : Int) (w : World) (h1 : -100000000 ≤ t.sx) (h2 : t.sx ≤ 100000000) (h3 : -100000000 ≤ x) (h4 : x ≤ 100000000)
     (k1 : -100000000 ≤ t.sz) (k2 : t.sz ≤ 100000000) (k3 : -100000000 ≤ z) (k4 : z ≤ 100000000) :
    Calls Try.prog 100 #[.agg #[.int .i64 t.sx, .int .i64 t.sy, .int .i64 t.sz, .int .i64 t.step, .int .i64 t.lines, .int .i64 t.near, .int .i64 t.bin, .int .i64 t.bins, .bool t.east], .agg #[.int .i64 x, .int .i64 y, .int .i64 z]] w fun e w' => e = .returned (.int .i64 (squareP t x z)) ∧ Below w.heap.size w w' := by
  have b1 := sq_bd (offP t x) 200000000 (by unfold offP; split <;> omega) (by unfold offP; split <;> omega)
  have b2 := sq_bd (depthP t z) 200000000 (by unfold depthP; omega) (by unfold depthP; omega)
  obtain ⟨b11, b12⟩ := b1
  obtain ⟨b21, b22⟩ := b2
  unfold squareP
  go_enter Try.func100, Try.ntmps100
  go_wp2
  refine wp_region_calm (by kernel_rfl) (by kernel_rfl) ?_
  repeat (go_big_quiet_step (first | (go_at_call 98; exact calm_of (rOff t _ _ (by omega) (by omega) (by omega) (by omega))) | (go_at_call 86; exact calm_of (rDepth t _ _ (by omega) (by omega) (by omega) (by omega)))))
  refine wpQuiet_nil ?_
  rintro _ ⟨p1, rfl⟩
  go_wp2
  go_ret
  exact ⟨rfl, (by (repeat' (first | with_reducible exact Below.refl _ _ | (with_reducible refine below_later_of ?_ ?_ _) | (with_reducible refine Below.alloc ?_ ?_ _) | (with_reducible refine Below.setCell ?_ ?_ _) | (with_reducible refine Below.drew ?_) | (simp; done) | (simp; omega) | omega)))⟩
theorem floorP_pos {n b : Int} (h : 1 ≤ b) : floorP n b = n / b := by unfold floorP; rw [if_neg (by omega)]
set_option maxHeartbeats 400000 in
theorem rBin (t : Trk) (n : Int) (w : World) (h1 : 0 ≤ t.near) (h2 : t.near ≤ 100000000) (h3 : 1 ≤ t.bin) (h4 : t.bin ≤ 1000) (h5 : -5000000000 ≤ n) (h6 : n ≤ 5000000000) :
    Calls Try.prog 99 #[.agg #[.int .i64 t.sx, .int .i64 t.sy, .int .i64 t.sz, .int .i64 t.step, .int .i64 t.lines, .int .i64 t.near, .int .i64 t.bin, .int .i64 t.bins, .bool t.east], .int .i64 n] w fun e w' => e = .returned (.int .i64 (binP t n)) ∧ Below w.heap.size w w' := by
  have HF := Lib.hid (show binP t n = (n - t.near) / t.bin by unfold binP; rw [floorP_pos h3])
  go_enter Try.func99, Try.ntmps99
  go_wp2_with (go_at_call 57; refine (bFloor _ _ _ (by omega) (by omega) (by omega) (by omega)).mono ?_; rintro e w' ⟨rfl, rfl⟩)
  go_ret
  exact ⟨ret_int HF.out.symm, (by (repeat' (first | with_reducible exact Below.refl _ _ | (with_reducible refine below_later_of ?_ ?_ _) | (with_reducible refine Below.alloc ?_ ?_ _) | (with_reducible refine Below.setCell ?_ ?_ _) | (with_reducible refine Below.drew ?_) | (simp; done) | (simp; omega) | omega)))⟩
theorem line_alt {t : Trk} {y : Int} (h : t.step ≠ 0) : lineP t y = ((y - t.sy) * signP t.step) / (max t.step (-t.step)) := by
  unfold lineP floorP signP
  by_cases hs : t.step < 0
  · rw [if_pos hs, if_pos hs, show max t.step (-t.step) = - t.step by omega, show (y - t.sy) * -1 = -(y - t.sy) by omega]
  · rw [if_neg hs, if_neg hs, show max t.step (-t.step) = t.step by omega, Int.mul_one]
set_option maxHeartbeats 1000000 in
theorem rLineOf1 (t : Trk) (y : Int) (w : World) (o : t.Ok) (h3 : -1000000000 ≤ y) (h4 : y ≤ 1000000000) :
    Calls Try.prog 97 #[.agg #[.int .i64 t.sx, .int .i64 t.sy, .int .i64 t.sz, .int .i64 t.step, .int .i64 t.lines, .int .i64 t.near, .int .i64 t.bin, .int .i64 t.bins, .bool t.east], .int .i64 y] w fun e w' => e = .returned (.int .i64 (lineP t y)) ∧ Below w.heap.size w w' := by
  have HF := Lib.hid (line_alt (y := y) o.st0)
  obtain ⟨h_sx1, h_sx2, h_sy1, h_sy2, h_sz1, h_sz2, h_st0, h_st1, h_st2, -, -, -, -, -, -, -, -⟩ := o
  have hb : -1100000000 ≤ (y - t.sy) * signP t.step ∧ (y - t.sy) * signP t.step ≤ 1100000000 := by
    unfold signP; split <;> omega
  obtain ⟨b1, b2⟩ := hb
  go_enter Try.func97, Try.ntmps97
  go_wp2
  refine wp_region_calm (by kernel_rfl) (by kernel_rfl) ?_
  repeat (go_big_quiet_step (first | (go_at_call 140; exact calm_same (rSign _ _)) | (go_at_call 128; exact calm_same (bSize _ _ (by omega) (by omega))) | (go_at_call 57; exact calm_same (bFloor _ _ _ (by omega) (by omega) (by omega) (by omega)))))
  refine wpQuiet_nil ?_
  rintro _ ⟨p1, rfl⟩
  go_wp2
  go_ret
  exact ⟨ret_int HF.out.symm, (by (repeat' (first | with_reducible exact Below.refl _ _ | (with_reducible refine below_later_of ?_ ?_ _) | (with_reducible refine Below.alloc ?_ ?_ _) | (with_reducible refine Below.setCell ?_ ?_ _) | (with_reducible refine Below.drew ?_) | (simp; done) | (simp; omega) | omega)))⟩
end Go.Proofs.Ytokpdmlmlkkekaa

namespace Go.Proofs.Ytokpdmlmlkkekaa
set_option linter.unusedVariables false
open Go.RowKit
set_option maxHeartbeats 1000000 in
theorem lPlaceErr (t : Trk) (x y z : Int) (w : World) {e0 : Int} (he : seenP t x y z = e0) :
    Calls Try.prog 27 #[.agg #[.int .i64 t.sx, .int .i64 t.sy, .int .i64 t.sz, .int .i64 t.step, .int .i64 t.lines, .int .i64 t.near, .int .i64 t.bin, .int .i64 t.bins, .bool t.east], .agg #[.int .i64 x, .int .i64 y, .int .i64 z]] w fun e w' => e = .returned (.int .i64 e0) ∧ Below w.heap.size w w' := by
  subst he
  by_cases h : checkTrackP t = 0
  · have HT := Lib.hid h
    cases hp : placeB x y z
    · have HF := Lib.hid (show seenP t x y z = 2 by unfold seenP first2 checkPlaceP; rw [if_pos h, hp]; rfl)
      have H0 := Lib.hid hp
      clear h hp
      go_enter Try.func27, Try.ntmps27
      go_wp2_with (first | (go_at_call 20; (with_reducible refine (rCheckTrack t _ HT.out).mono ?_); rintro e w' ⟨rfl, hb⟩; obtain ⟨pp, rfl⟩ := later_of_below hb; clear hb) | (go_at_call 45; (with_reducible refine (rIsPlace _ _ _ _ H0.out).mono ?_); rintro e w' ⟨rfl, hb⟩; obtain ⟨pp, rfl⟩ := later_of_below hb; clear hb))
      go_ret
      exact ⟨ret_int HF.out.symm, (by (repeat' (first | with_reducible exact Below.refl _ _ | (with_reducible refine below_later_of ?_ ?_ _) | (with_reducible refine Below.alloc ?_ ?_ _) | (with_reducible refine Below.setCell ?_ ?_ _) | (with_reducible refine Below.drew ?_) | (simp; done) | (simp; omega) | omega)))⟩
    · have HF := Lib.hid (show seenP t x y z = 0 by unfold seenP first2 checkPlaceP; rw [if_pos h, hp]; rfl)
      have H0 := Lib.hid hp
      clear h hp
      go_enter Try.func27, Try.ntmps27
      go_wp2_with (first | (go_at_call 20; (with_reducible refine (rCheckTrack t _ HT.out).mono ?_); rintro e w' ⟨rfl, hb⟩; obtain ⟨pp, rfl⟩ := later_of_below hb; clear hb) | (go_at_call 45; (with_reducible refine (rIsPlace _ _ _ _ H0.out).mono ?_); rintro e w' ⟨rfl, hb⟩; obtain ⟨pp, rfl⟩ := later_of_below hb; clear hb))
      go_ret
      exact ⟨ret_int HF.out.symm, (by (repeat' (first | with_reducible exact Below.refl _ _ | (with_reducible refine below_later_of ?_ ?_ _) | (with_reducible refine Below.alloc ?_ ?_ _) | (with_reducible refine Below.setCell ?_ ?_ _) | (with_reducible refine Below.drew ?_) | (simp; done) | (simp; omega) | omega)))⟩
  · obtain ⟨e0, he⟩ : ∃ e0, checkTrackP t = e0 := ⟨_, rfl⟩
    have HF := Lib.hid (show seenP t x y z = e0 by unfold seenP first2; rw [if_neg h, he])
    rw [he] at h
    have HT := Lib.hid he
    clear he
    go_enter Try.func27, Try.ntmps27
    go_wp2_with (first | (go_at_call 20; (with_reducible refine (rCheckTrack t _ HT.out).mono ?_); rintro e w' ⟨rfl, hb⟩; obtain ⟨pp, rfl⟩ := later_of_below hb; clear hb))
    go_ret
    exact ⟨ret_int HF.out.symm, (by (repeat' (first | with_reducible exact Below.refl _ _ | (with_reducible refine below_later_of ?_ ?_ _) | (with_reducible refine Below.alloc ?_ ?_ _) | (with_reducible refine Below.setCell ?_ ?_ _) | (with_reducible refine Below.drew ?_) | (simp; done) | (simp; omega) | omega)))⟩
set_option maxHeartbeats 1000000 in
theorem rLineOf (t : Trk) (x y z : Int) (w : World) (h : seenP t x y z = 0) :
    Calls Try.prog 28 #[.agg #[.int .i64 t.sx, .int .i64 t.sy, .int .i64 t.sz, .int .i64 t.step, .int .i64 t.lines, .int .i64 t.near, .int .i64 t.bin, .int .i64 t.bins, .bool t.east], .agg #[.int .i64 x, .int .i64 y, .int .i64 z]] w fun e w' => e = .returned (.tuple #[.int .i64 (lineOfP t x y z).1, .int .i64 (lineOfP t x y z).2]) ∧ Below w.heap.size w w' := by
  obtain ⟨o, hp⟩ := seenP_ok h
  have O := Lib.hid o
  obtain ⟨h_sx1, h_sx2, h_sy1, h_sy2, h_sz1, h_sz2, -, -, -, l1, l2, h_ne1, h_ne2, h_bi1, h_bi2, -, -⟩ := o
  rw [placeB_iff] at hp
  obtain ⟨⟨x1, x2⟩, ⟨y1, y2⟩, z1, z2⟩ := hp
  cases h1 : inR 0 (t.lines - 1) (lineP t y)
  · have HF : lineOfP t x y z = (0, 12) := by unfold lineOfP; rw [if_pos h, h1]; rfl
    rw [HF]
    have H1 := Lib.hid h1
    clear h h1 HF
    go_enter Try.func28, Try.ntmps28
    go_wp2_with (first | (go_at_call 97; refine (rLineOf1 t _ _ O.out (by omega) (by omega)).mono ?_; rintro e w' ⟨rfl, hb⟩; obtain ⟨pp, rfl⟩ := later_of_below hb; clear hb) | (go_at_call 36; (with_reducible refine (bWithin _ _ _ _ H1.out).mono ?_); rintro e w' ⟨rfl, rfl⟩))
    refine bodyPost_ret ?_ rfl ⟨rfl, (by (repeat' (first | with_reducible exact Below.refl _ _ | (with_reducible refine below_later_of ?_ ?_ _) | (with_reducible refine Below.alloc ?_ ?_ _) | (with_reducible refine Below.setCell ?_ ?_ _) | (with_reducible refine Below.drew ?_) | (simp; done) | (simp; omega) | omega)))⟩
    first | (simp [results, Try.results28, go_sem]; done) | simp [results, Try.results28, go_sem, ↓IntWalk.iteOmega]
  · have HF : lineOfP t x y z = (lineP t y, 0) := by unfold lineOfP; rw [if_pos h, h1]; rfl
    rw [HF]
    have H1 := Lib.hid h1
    clear h h1 HF
    go_enter Try.func28, Try.ntmps28
    go_wp2_with (first | (go_at_call 97; refine (rLineOf1 t _ _ O.out (by omega) (by omega)).mono ?_; rintro e w' ⟨rfl, hb⟩; obtain ⟨pp, rfl⟩ := later_of_below hb; clear hb) | (go_at_call 36; (with_reducible refine (bWithin _ _ _ _ H1.out).mono ?_); rintro e w' ⟨rfl, rfl⟩))
    refine bodyPost_ret ?_ rfl ⟨rfl, (by (repeat' (first | with_reducible exact Below.refl _ _ | (with_reducible refine below_later_of ?_ ?_ _) | (with_reducible refine Below.alloc ?_ ?_ _) | (with_reducible refine Below.setCell ?_ ?_ _) | (with_reducible refine Below.drew ?_) | (simp; done) | (simp; omega) | omega)))⟩
    first | (simp [results, Try.results28, go_sem]; done) | simp [results, Try.results28, go_sem, ↓IntWalk.iteOmega]
set_option maxHeartbeats 1000000 in
theorem rSlantOf (t : Trk) (x y z : Int) (w : World) (h : seenP t x y z = 0) :
    Calls Try.prog 30 #[.agg #[.int .i64 t.sx, .int .i64 t.sy, .int .i64 t.sz, .int .i64 t.step, .int .i64 t.lines, .int .i64 t.near, .int .i64 t.bin, .int .i64 t.bins, .bool t.east], .agg #[.int .i64 x, .int .i64 y, .int .i64 z]] w fun e w' => e = .returned (.agg #[.int .i64 (slantOfP t x y z).1, .int .i64 (slantOfP t x y z).2.1]) ∧ Below w.heap.size w w' := by
  obtain ⟨o, hp⟩ := seenP_ok h
  obtain ⟨h_sx1, h_sx2, h_sy1, h_sy2, h_sz1, h_sz2, -, -, -, -, -, -, -, -, -, -, -⟩ := o
  rw [placeB_iff] at hp
  obtain ⟨⟨x1, x2⟩, ⟨y1, y2⟩, z1, z2⟩ := hp
  have HF : slantOfP t x y z = (rootP (squareP t x z), rootUpP (squareP t x z), 0) := by unfold slantOfP; rw [if_pos h]
  rw [HF]
  obtain ⟨s1, s2⟩ := squareP_bd t x z h_sx1 h_sx2 h_sz1 h_sz2 x1 x2 z1 z2
  clear HF h
  go_enter Try.func30, Try.ntmps30
  go_wp2_with (first | (go_at_call 100; refine (rSquare t _ _ _ _ (by omega) (by omega) (by omega) (by omega) (by omega) (by omega) (by omega) (by omega)).mono ?_; rintro e w' ⟨rfl, hb⟩; obtain ⟨pp, rfl⟩ := later_of_below hb; clear hb) | (go_at_call 88; refine (bRoot _ _ (by omega) (by omega)).mono ?_; rintro e w' ⟨rfl, rfl⟩) | (go_at_call 87; refine (rRootUp _ _ (by omega) (by omega)).mono ?_; rintro e w' ⟨rfl, rfl⟩))
  refine bodyPost_ret ?_ rfl ⟨rfl, (by (repeat' (first | with_reducible exact Below.refl _ _ | (with_reducible refine below_later_of ?_ ?_ _) | (with_reducible refine Below.alloc ?_ ?_ _) | (with_reducible refine Below.setCell ?_ ?_ _) | (with_reducible refine Below.drew ?_) | (simp; done) | (simp; omega) | omega)))⟩
  first | (simp [results, Try.results30, go_sem]; done) | simp [results, Try.results30, go_sem, ↓IntWalk.iteOmega]
set_option maxHeartbeats 2000000 in
theorem rPixelOf (t : Trk) (x y z : Int) (w : World) (h : seenP t x y z = 0) :
    Calls Try.prog 29 #[.agg #[.int .i64 t.sx, .int .i64 t.sy, .int .i64 t.sz, .int .i64 t.step, .int .i64 t.lines, .int .i64 t.near, .int .i64 t.bin, .int .i64 t.bins, .bool t.east], .agg #[.int .i64 x, .int .i64 y, .int .i64 z]] w fun e w' => e = .returned (.tuple #[.agg #[.int .i64 (pixelOfP t x y z).1, .int .i64 (pixelOfP t x y z).2.1], .int .i64 (pixelOfP t x y z).2.2]) ∧ Below w.heap.size w w' := by
  obtain ⟨o, hp⟩ := seenP_ok h
  have O := Lib.hid o
  obtain ⟨h_sx1, h_sx2, h_sy1, h_sy2, h_sz1, h_sz2, -, -, -, l1, l2, h_ne1, h_ne2, h_bi1, h_bi2, n1, n2⟩ := o
  rw [placeB_iff] at hp
  obtain ⟨⟨x1, x2⟩, ⟨y1, y2⟩, z1, z2⟩ := hp
  obtain ⟨s1, s2⟩ := squareP_bd t x z h_sx1 h_sx2 h_sz1 h_sz2 x1 x2 z1 z2
  have r1 := rootP_spec _ s1 (by omega)
  have r2 := rootP_le _ s1 (by omega)
  obtain ⟨r0, -, -⟩ := r1
  by_cases ho : offP t x ≤ 0
  · have HF : pixelOfP t x y z = (0, 0, 15) := by unfold pixelOfP; rw [if_pos h, if_pos ho]
    rw [HF]
    clear HF h
    go_enter Try.func29, Try.ntmps29
    go_wp2_with (first | (go_at_call 98; refine (rOff t _ _ (by omega) (by omega) (by omega) (by omega)).mono ?_; rintro e w' ⟨rfl, hb⟩; obtain ⟨pp, rfl⟩ := later_of_below hb; clear hb) | (go_at_call 86; refine (rDepth t _ _ (by omega) (by omega) (by omega) (by omega)).mono ?_; rintro e w' ⟨rfl, hb⟩; obtain ⟨pp, rfl⟩ := later_of_below hb; clear hb))
    refine bodyPost_ret ?_ rfl ⟨rfl, (by (repeat' (first | with_reducible exact Below.refl _ _ | (with_reducible refine below_later_of ?_ ?_ _) | (with_reducible refine Below.alloc ?_ ?_ _) | (with_reducible refine Below.setCell ?_ ?_ _) | (with_reducible refine Below.drew ?_) | (simp; done) | (simp; omega) | omega)))⟩
    first | (simp [results, Try.results29, go_sem]; done) | simp [results, Try.results29, go_sem, ↓IntWalk.iteOmega]
  · by_cases hd : depthP t z < 1
    · have HF : pixelOfP t x y z = (0, 0, 26) := by unfold pixelOfP; rw [if_pos h, if_neg ho, if_pos hd]
      rw [HF]
      clear HF h
      go_enter Try.func29, Try.ntmps29
      go_wp2_with (first | (go_at_call 98; refine (rOff t _ _ (by omega) (by omega) (by omega) (by omega)).mono ?_; rintro e w' ⟨rfl, hb⟩; obtain ⟨pp, rfl⟩ := later_of_below hb; clear hb) | (go_at_call 86; refine (rDepth t _ _ (by omega) (by omega) (by omega) (by omega)).mono ?_; rintro e w' ⟨rfl, hb⟩; obtain ⟨pp, rfl⟩ := later_of_below hb; clear hb))
      refine bodyPost_ret ?_ rfl ⟨rfl, (by (repeat' (first | with_reducible exact Below.refl _ _ | (with_reducible refine below_later_of ?_ ?_ _) | (with_reducible refine Below.alloc ?_ ?_ _) | (with_reducible refine Below.setCell ?_ ?_ _) | (with_reducible refine Below.drew ?_) | (simp; done) | (simp; omega) | omega)))⟩
      first | (simp [results, Try.results29, go_sem]; done) | simp [results, Try.results29, go_sem, ↓IntWalk.iteOmega]
    · cases h1 : inR 0 (t.lines - 1) (lineP t y)
      · have HF : pixelOfP t x y z = (0, 0, 12) := by unfold pixelOfP; rw [if_pos h, if_neg ho, if_neg hd, h1]; rfl
        rw [HF]
        have H1 := Lib.hid h1
        clear HF h h1
        go_enter Try.func29, Try.ntmps29
        go_wp2_with (first | (go_at_call 98; refine (rOff t _ _ (by omega) (by omega) (by omega) (by omega)).mono ?_; rintro e w' ⟨rfl, hb⟩; obtain ⟨pp, rfl⟩ := later_of_below hb; clear hb) | (go_at_call 86; refine (rDepth t _ _ (by omega) (by omega) (by omega) (by omega)).mono ?_; rintro e w' ⟨rfl, hb⟩; obtain ⟨pp, rfl⟩ := later_of_below hb; clear hb))
        go_region_held3 (fun w' => w'.cell? ⟨w.heap.size, 0, none⟩ = some (.int .i64 t.sx) ∧ w'.cell? ⟨w.heap.size, 1, none⟩ = some (.int .i64 t.sy) ∧ w'.cell? ⟨w.heap.size, 2, none⟩ = some (.int .i64 t.sz) ∧ w'.cell? ⟨w.heap.size, 3, none⟩ = some (.int .i64 t.step) ∧ w'.cell? ⟨w.heap.size, 4, none⟩ = some (.int .i64 t.lines) ∧ w'.cell? ⟨w.heap.size, 5, none⟩ = some (.int .i64 t.near) ∧ w'.cell? ⟨w.heap.size, 6, none⟩ = some (.int .i64 t.bin) ∧ w'.cell? ⟨w.heap.size, 7, none⟩ = some (.int .i64 t.bins) ∧ w'.cell? ⟨w.heap.size, 8, none⟩ = some (.bool t.east) ∧ w'.cell? ⟨w.heap.size + 1, 0, none⟩ = some (.int .i64 x) ∧ w'.cell? ⟨w.heap.size + 1, 1, none⟩ = some (.int .i64 y) ∧ w'.cell? ⟨w.heap.size + 1, 2, none⟩ = some (.int .i64 z)) (first | ((first | (simp [go_sem]; done) | simp [go_sem, ↓IntWalk.iteOmega]); done)) (first | (go_at_call 97; refine (rLineOf1 t _ _ O.out (by omega) (by omega)).mono ?_; rintro e w' ⟨rfl, hb⟩; obtain ⟨pp, rfl⟩ := later_of_below hb; clear hb) | (go_at_call 100; refine (rSquare t _ _ _ _ (by omega) (by omega) (by omega) (by omega) (by omega) (by omega) (by omega) (by omega)).mono ?_; rintro e w' ⟨rfl, hb⟩; obtain ⟨pp, rfl⟩ := later_of_below hb; clear hb) | (go_at_call 88; refine (bRoot _ _ (by omega) (by omega)).mono ?_; rintro e w' ⟨rfl, rfl⟩) | (go_at_call 99; refine (rBin t _ _ (by omega) (by omega) (by omega) (by omega) (by omega) (by omega)).mono ?_; rintro e w' ⟨rfl, hb⟩; obtain ⟨pp, rfl⟩ := later_of_below hb; clear hb))
        all_goals (go_wp2_with (first | (go_at_call 36; (with_reducible refine (bWithin _ _ _ _ H1.out).mono ?_); rintro e w' ⟨rfl, rfl⟩)))
        all_goals (refine bodyPost_ret ?_ rfl ⟨rfl, (by (repeat' (first | with_reducible exact Below.refl _ _ | (with_reducible refine below_later_of ?_ ?_ _) | (with_reducible refine Below.alloc ?_ ?_ _) | (with_reducible refine Below.setCell ?_ ?_ _) | (with_reducible refine Below.drew ?_) | (simp; done) | (simp; omega) | omega)))⟩; (first | (simp [results, Try.results29, go_sem]; done) | simp [results, Try.results29, go_sem, ↓IntWalk.iteOmega]))
      · cases h2 : inR 0 (t.bins - 1) (binP t (rootP (squareP t x z)))
        · have HF : pixelOfP t x y z = (0, 0, 12) := by unfold pixelOfP; rw [if_pos h, if_neg ho, if_neg hd, h1, h2]; rfl
          rw [HF]
          have H1 := Lib.hid h1
          have H2 := Lib.hid h2
          clear HF h h1 h2
          go_enter Try.func29, Try.ntmps29
          go_wp2_with (first | (go_at_call 98; refine (rOff t _ _ (by omega) (by omega) (by omega) (by omega)).mono ?_; rintro e w' ⟨rfl, hb⟩; obtain ⟨pp, rfl⟩ := later_of_below hb; clear hb) | (go_at_call 86; refine (rDepth t _ _ (by omega) (by omega) (by omega) (by omega)).mono ?_; rintro e w' ⟨rfl, hb⟩; obtain ⟨pp, rfl⟩ := later_of_below hb; clear hb))
          go_region_held3 (fun w' => w'.cell? ⟨w.heap.size, 0, none⟩ = some (.int .i64 t.sx) ∧ w'.cell? ⟨w.heap.size, 1, none⟩ = some (.int .i64 t.sy) ∧ w'.cell? ⟨w.heap.size, 2, none⟩ = some (.int .i64 t.sz) ∧ w'.cell? ⟨w.heap.size, 3, none⟩ = some (.int .i64 t.step) ∧ w'.cell? ⟨w.heap.size, 4, none⟩ = some (.int .i64 t.lines) ∧ w'.cell? ⟨w.heap.size, 5, none⟩ = some (.int .i64 t.near) ∧ w'.cell? ⟨w.heap.size, 6, none⟩ = some (.int .i64 t.bin) ∧ w'.cell? ⟨w.heap.size, 7, none⟩ = some (.int .i64 t.bins) ∧ w'.cell? ⟨w.heap.size, 8, none⟩ = some (.bool t.east) ∧ w'.cell? ⟨w.heap.size + 1, 0, none⟩ = some (.int .i64 x) ∧ w'.cell? ⟨w.heap.size + 1, 1, none⟩ = some (.int .i64 y) ∧ w'.cell? ⟨w.heap.size + 1, 2, none⟩ = some (.int .i64 z)) (first | ((first | (simp [go_sem]; done) | simp [go_sem, ↓IntWalk.iteOmega]); done)) (first | (go_at_call 97; refine (rLineOf1 t _ _ O.out (by omega) (by omega)).mono ?_; rintro e w' ⟨rfl, hb⟩; obtain ⟨pp, rfl⟩ := later_of_below hb; clear hb) | (go_at_call 100; refine (rSquare t _ _ _ _ (by omega) (by omega) (by omega) (by omega) (by omega) (by omega) (by omega) (by omega)).mono ?_; rintro e w' ⟨rfl, hb⟩; obtain ⟨pp, rfl⟩ := later_of_below hb; clear hb) | (go_at_call 88; refine (bRoot _ _ (by omega) (by omega)).mono ?_; rintro e w' ⟨rfl, rfl⟩) | (go_at_call 99; refine (rBin t _ _ (by omega) (by omega) (by omega) (by omega) (by omega) (by omega)).mono ?_; rintro e w' ⟨rfl, hb⟩; obtain ⟨pp, rfl⟩ := later_of_below hb; clear hb))
          all_goals (go_wp2_with (first | (go_at_call 36; (with_reducible refine (bWithin _ _ _ _ H1.out).mono ?_); rintro e w' ⟨rfl, rfl⟩) | (go_at_call 36; (with_reducible refine (bWithin _ _ _ _ H2.out).mono ?_); rintro e w' ⟨rfl, rfl⟩)))
          all_goals (refine bodyPost_ret ?_ rfl ⟨rfl, (by (repeat' (first | with_reducible exact Below.refl _ _ | (with_reducible refine below_later_of ?_ ?_ _) | (with_reducible refine Below.alloc ?_ ?_ _) | (with_reducible refine Below.setCell ?_ ?_ _) | (with_reducible refine Below.drew ?_) | (simp; done) | (simp; omega) | omega)))⟩; (first | (simp [results, Try.results29, go_sem]; done) | simp [results, Try.results29, go_sem, ↓IntWalk.iteOmega]))
        · have HF : pixelOfP t x y z = (lineP t y, binP t (rootP (squareP t x z)), 0) := by unfold pixelOfP; rw [if_pos h, if_neg ho, if_neg hd, h1, h2]; rfl
          rw [HF]
          have H1 := Lib.hid h1
          have H2 := Lib.hid h2
          clear HF h h1 h2
          go_enter Try.func29, Try.ntmps29
          go_wp2_with (first | (go_at_call 98; refine (rOff t _ _ (by omega) (by omega) (by omega) (by omega)).mono ?_; rintro e w' ⟨rfl, hb⟩; obtain ⟨pp, rfl⟩ := later_of_below hb; clear hb) | (go_at_call 86; refine (rDepth t _ _ (by omega) (by omega) (by omega) (by omega)).mono ?_; rintro e w' ⟨rfl, hb⟩; obtain ⟨pp, rfl⟩ := later_of_below hb; clear hb))
          go_region_held3 (fun w' => w'.cell? ⟨w.heap.size, 0, none⟩ = some (.int .i64 t.sx) ∧ w'.cell? ⟨w.heap.size, 1, none⟩ = some (.int .i64 t.sy) ∧ w'.cell? ⟨w.heap.size, 2, none⟩ = some (.int .i64 t.sz) ∧ w'.cell? ⟨w.heap.size, 3, none⟩ = some (.int .i64 t.step) ∧ w'.cell? ⟨w.heap.size, 4, none⟩ = some (.int .i64 t.lines) ∧ w'.cell? ⟨w.heap.size, 5, none⟩ = some (.int .i64 t.near) ∧ w'.cell? ⟨w.heap.size, 6, none⟩ = some (.int .i64 t.bin) ∧ w'.cell? ⟨w.heap.size, 7, none⟩ = some (.int .i64 t.bins) ∧ w'.cell? ⟨w.heap.size, 8, none⟩ = some (.bool t.east) ∧ w'.cell? ⟨w.heap.size + 1, 0, none⟩ = some (.int .i64 x) ∧ w'.cell? ⟨w.heap.size + 1, 1, none⟩ = some (.int .i64 y) ∧ w'.cell? ⟨w.heap.size + 1, 2, none⟩ = some (.int .i64 z)) (first | ((first | (simp [go_sem]; done) | simp [go_sem, ↓IntWalk.iteOmega]); done)) (first | (go_at_call 97; refine (rLineOf1 t _ _ O.out (by omega) (by omega)).mono ?_; rintro e w' ⟨rfl, hb⟩; obtain ⟨pp, rfl⟩ := later_of_below hb; clear hb) | (go_at_call 100; refine (rSquare t _ _ _ _ (by omega) (by omega) (by omega) (by omega) (by omega) (by omega) (by omega) (by omega)).mono ?_; rintro e w' ⟨rfl, hb⟩; obtain ⟨pp, rfl⟩ := later_of_below hb; clear hb) | (go_at_call 88; refine (bRoot _ _ (by omega) (by omega)).mono ?_; rintro e w' ⟨rfl, rfl⟩) | (go_at_call 99; refine (rBin t _ _ (by omega) (by omega) (by omega) (by omega) (by omega) (by omega)).mono ?_; rintro e w' ⟨rfl, hb⟩; obtain ⟨pp, rfl⟩ := later_of_below hb; clear hb))
          all_goals (go_wp2_with (first | (go_at_call 36; (with_reducible refine (bWithin _ _ _ _ H1.out).mono ?_); rintro e w' ⟨rfl, rfl⟩) | (go_at_call 36; (with_reducible refine (bWithin _ _ _ _ H2.out).mono ?_); rintro e w' ⟨rfl, rfl⟩)))
          all_goals (refine bodyPost_ret ?_ rfl ⟨rfl, (by (repeat' (first | with_reducible exact Below.refl _ _ | (with_reducible refine below_later_of ?_ ?_ _) | (with_reducible refine Below.alloc ?_ ?_ _) | (with_reducible refine Below.setCell ?_ ?_ _) | (with_reducible refine Below.drew ?_) | (simp; done) | (simp; omega) | omega)))⟩; (first | (simp [results, Try.results29, go_sem]; done) | simp [results, Try.results29, go_sem, ↓IntWalk.iteOmega]))
end Go.Proofs.Ytokpdmlmlkkekaa

namespace Go.Proofs.Ytokpdmlmlkkekaa
set_option linter.unusedVariables false
open Go.RowKit
theorem rootUpP_pos {n : Int} (h : 1 ≤ n) (h1 : n < 4611686018427387904) : 1 ≤ rootUpP n := by
  have a := rootP_spec n (by omega) h1
  unfold rootUpP
  split
  · omega
  · rcases Int.lt_or_le 0 (rootP n) with h2 | h2
    · omega
    · have : rootP n = 0 := by omega
      rw [this] at a; omega
theorem rootUpP_one : rootUpP 1 = 1 := by
  have h : rootP 1 = 1 := rootP_unique 1 1 (by omega) (by omega) (by omega) (by omega)
  unfold rootUpP; rw [h]; rfl
theorem rootP_zero : rootP 0 = 0 := rootP_unique 0 0 (by omega) (by omega) (by omega) (by omega)
set_option maxHeartbeats 8000000 in
theorem rBoxOf (t : Trk) (q : Pix) (w : World) (h : checkTrackP t = 0) (hq : checkPixelP t q = 0) :
    Calls Try.prog 22 #[.agg #[.int .i64 t.sx, .int .i64 t.sy, .int .i64 t.sz, .int .i64 t.step, .int .i64 t.lines, .int .i64 t.near, .int .i64 t.bin, .int .i64 t.bins, .bool t.east], .agg #[.int .i64 q.line, .int .i64 q.bin, .int .i64 q.lo, .int .i64 q.hi]] w fun e w' => e = .returned (.tuple #[.agg #[.int .i64 (boxOfP t q).x1, .int .i64 (boxOfP t q).x2, .int .i64 (boxOfP t q).y1, .int .i64 (boxOfP t q).y2], .int .i64 (boxOfP t q).err]) ∧ Below w.heap.size w w' := by
  have o := checkTrackP_ok h
  have p := checkPixelP_ok hq
  obtain ⟨b1, b2, b3, b4, b5, b6, b7, b8, b9, b10⟩ := box_bd o p
  obtain ⟨m1, m2⟩ := rows_bd o p.l1 (show q.line ≤ 10000 by have := p.l2; have := o.li2; omega)
  obtain ⟨k1, k2⟩ := rows_bd (n := q.line + 1) o (by have := p.l1; omega) (by have := p.l2; have := o.li2; omega)
  rw [Int.mul_comm] at m1 m2 k1 k2
  obtain ⟨h_sx1, h_sx2, h_sy1, h_sy2, h_sz1, h_sz2, -, -, -, l1, l2, h_ne1, h_ne2, h_bi1, h_bi2, n1, n2⟩ := o
  obtain ⟨q1, q2, q3, q4, q5, q6, q7, q8, q9, q10⟩ := p
  have e1 : leastP t q = (t.near + t.bin * q.bin) * (t.near + t.bin * q.bin) - depthP t q.lo * depthP t q.lo := rfl
  have e2 : mostP t q = (t.near + t.bin * q.bin + t.bin) * (t.near + t.bin * q.bin + t.bin) - 1 - depthP t q.hi * depthP t q.hi := rfl
  by_cases hl : 0 < leastP t q
  · skip
    obtain ⟨u, hu⟩ : ∃ u, rootUpP (leastP t q) = u := ⟨_, rfl⟩
    have r4 := rootUpP_bd (leastP t q) (by omega) (by omega)
    have r5 := rootUpP_pos (show 1 ≤ leastP t q by omega) (by omega)
    have hU : rootUpP (max 1 (leastP t q)) = u := by rw [show max 1 (leastP t q) = leastP t q by omega, hu]
    have HU : ∀ w, Calls Try.prog 87 #[.int .i64 ((t.near + t.bin * q.bin) * (t.near + t.bin * q.bin) - depthP t q.lo * depthP t q.lo)] w fun e w' => e = .returned (.int .i64 u) ∧ w = w' := by
      intro w; rw [← hu]; exact rRootUp _ _ (by omega) (by omega)
    rw [hu] at r4 r5
    obtain ⟨r40, r41⟩ := r4
    have hmx : max 1 u = u := by omega
    by_cases hm : 0 < mostP t q
    · have r2 := rootP_spec (mostP t q) (by omega) (by omega)
      have r3 := rootP_le (mostP t q) (by omega) (by omega)
      obtain ⟨v, hv⟩ : ∃ v, rootP (mostP t q) = v := ⟨_, rfl⟩
      have HV : ∀ w, Calls Try.prog 88 #[.int .i64 ((t.near + t.bin * q.bin + t.bin) * (t.near + t.bin * q.bin + t.bin) - 1 - depthP t q.hi * depthP t q.hi)] w fun e w' => e = .returned (.int .i64 v) ∧ w = w' := by
        intro w; rw [← hv]; exact bRoot _ _ (by omega) (by omega)
      rw [hv] at r2 r3
      obtain ⟨r20, -, -⟩ := r2
      have hm' : ¬ mostP t q < 0 := by omega
      by_cases hx : v < u
      · have HF : boxOfP t q = ⟨0, 0, 0, 0, 12⟩ := by unfold boxOfP; rw [if_pos h, if_pos hq, if_neg hm', hU, hv, if_pos hx]
        rw [HF]
        rw [e2] at hm
        rw [e1] at hl
        clear h hq e1 e2 hU hv hu hm' HF
        go_enter Try.func22, Try.ntmps22
        go_wp2
        refine wp_region_calm (by kernel_rfl) (by kernel_rfl) ?_
        repeat (go_big_quiet_step (first | (go_at_call 86; exact calm_of (rDepth t _ _ (by omega) (by omega) (by omega) (by omega)))))
        refine wpQuiet_nil ?_
        rintro _ ⟨p1, rfl⟩
        go_wp2_with (first | (go_at_call 87; (with_reducible refine (HU _).mono ?_); rintro e w' ⟨rfl, rfl⟩) | (go_at_call 88; (with_reducible refine (HV _).mono ?_); rintro e w' ⟨rfl, rfl⟩))
        refine bodyPost_ret ?_ rfl ⟨rfl, (by (repeat' (first | with_reducible exact Below.refl _ _ | (with_reducible refine below_later_of ?_ ?_ _) | (with_reducible refine Below.alloc ?_ ?_ _) | (with_reducible refine Below.setCell ?_ ?_ _) | (with_reducible refine Below.drew ?_) | (simp; done) | (simp; omega) | omega)))⟩
        first | (simp [results, Try.results22, go_sem]; done) | simp [results, Try.results22, go_sem, ↓IntWalk.iteOmega]
      · have HF : boxOfP t q = ⟨(columnsP t u v).1, (columnsP t u v).2, (rowsP t q.line).1, (rowsP t q.line).2, 0⟩ := by
          unfold boxOfP; rw [if_pos h, if_pos hq, if_neg hm', hU, hv, if_neg hx]
        rw [HF]
        rw [e2] at hm
        rw [e1] at hl
        clear h hq e1 e2 hU hv hu hm' HF
        rcases (show t.east = false ∨ t.east = true by cases t.east <;> simp) with he | he
        · have HC : columnsP t u v = (t.sx - v, t.sx - u) := by unfold columnsP; rw [he]; rfl
          rw [HC]
          clear HC
          by_cases hs : t.step < 0
          · have HR : rowsP t q.line = (t.sy + t.step * (q.line + 1) + 1, t.sy + t.step * q.line) := by unfold rowsP; rw [if_pos hs, Int.mul_comm q.line, Int.mul_comm (q.line + 1)]
            rw [HR]
            clear HR
            have HE := Lib.hid he
            clear he
            go_enter Try.func22, Try.ntmps22
            go_wp2
            refine wp_region_calm (by kernel_rfl) (by kernel_rfl) ?_
            repeat (go_big_quiet_step (first | (go_at_call 86; exact calm_of (rDepth t _ _ (by omega) (by omega) (by omega) (by omega)))))
            refine wpQuiet_nil ?_
            rintro _ ⟨p1, rfl⟩
            have he := HE.out
            go_wp2_with (first | (go_at_call 87; (with_reducible refine (HU _).mono ?_); rintro e w' ⟨rfl, rfl⟩) | (go_at_call 88; (with_reducible refine (HV _).mono ?_); rintro e w' ⟨rfl, rfl⟩))
            refine bodyPost_ret ?_ rfl ⟨rfl, (by (repeat' (first | with_reducible exact Below.refl _ _ | (with_reducible refine below_later_of ?_ ?_ _) | (with_reducible refine Below.alloc ?_ ?_ _) | (with_reducible refine Below.setCell ?_ ?_ _) | (with_reducible refine Below.drew ?_) | (simp; done) | (simp; omega) | omega)))⟩
            first | (simp [results, Try.results22, go_sem]; done) | simp [results, Try.results22, go_sem, ↓IntWalk.iteOmega]
          · have HR : rowsP t q.line = (t.sy + t.step * q.line, t.sy + t.step * (q.line + 1) - 1) := by unfold rowsP; rw [if_neg hs, Int.mul_comm q.line, Int.mul_comm (q.line + 1)]
            rw [HR]
            clear HR
            have HE := Lib.hid he
            clear he
            go_enter Try.func22, Try.ntmps22
            go_wp2
            refine wp_region_calm (by kernel_rfl) (by kernel_rfl) ?_
            repeat (go_big_quiet_step (first | (go_at_call 86; exact calm_of (rDepth t _ _ (by omega) (by omega) (by omega) (by omega)))))
            refine wpQuiet_nil ?_
            rintro _ ⟨p1, rfl⟩
            have he := HE.out
            go_wp2_with (first | (go_at_call 87; (with_reducible refine (HU _).mono ?_); rintro e w' ⟨rfl, rfl⟩) | (go_at_call 88; (with_reducible refine (HV _).mono ?_); rintro e w' ⟨rfl, rfl⟩))
            refine bodyPost_ret ?_ rfl ⟨rfl, (by (repeat' (first | with_reducible exact Below.refl _ _ | (with_reducible refine below_later_of ?_ ?_ _) | (with_reducible refine Below.alloc ?_ ?_ _) | (with_reducible refine Below.setCell ?_ ?_ _) | (with_reducible refine Below.drew ?_) | (simp; done) | (simp; omega) | omega)))⟩
            first | (simp [results, Try.results22, go_sem]; done) | simp [results, Try.results22, go_sem, ↓IntWalk.iteOmega]
        · have HC : columnsP t u v = (t.sx + u, t.sx + v) := by unfold columnsP; rw [he]; rfl
          rw [HC]
          clear HC
          by_cases hs : t.step < 0
          · have HR : rowsP t q.line = (t.sy + t.step * (q.line + 1) + 1, t.sy + t.step * q.line) := by unfold rowsP; rw [if_pos hs, Int.mul_comm q.line, Int.mul_comm (q.line + 1)]
            rw [HR]
            clear HR
            have HE := Lib.hid he
            clear he
            go_enter Try.func22, Try.ntmps22
            go_wp2
            refine wp_region_calm (by kernel_rfl) (by kernel_rfl) ?_
            repeat (go_big_quiet_step (first | (go_at_call 86; exact calm_of (rDepth t _ _ (by omega) (by omega) (by omega) (by omega)))))
            refine wpQuiet_nil ?_
            rintro _ ⟨p1, rfl⟩
            have he := HE.out
            go_wp2_with (first | (go_at_call 87; (with_reducible refine (HU _).mono ?_); rintro e w' ⟨rfl, rfl⟩) | (go_at_call 88; (with_reducible refine (HV _).mono ?_); rintro e w' ⟨rfl, rfl⟩))
            refine bodyPost_ret ?_ rfl ⟨rfl, (by (repeat' (first | with_reducible exact Below.refl _ _ | (with_reducible refine below_later_of ?_ ?_ _) | (with_reducible refine Below.alloc ?_ ?_ _) | (with_reducible refine Below.setCell ?_ ?_ _) | (with_reducible refine Below.drew ?_) | (simp; done) | (simp; omega) | omega)))⟩
            first | (simp [results, Try.results22, go_sem]; done) | simp [results, Try.results22, go_sem, ↓IntWalk.iteOmega]
          · have HR : rowsP t q.line = (t.sy + t.step * q.line, t.sy + t.step * (q.line + 1) - 1) := by unfold rowsP; rw [if_neg hs, Int.mul_comm q.line, Int.mul_comm (q.line + 1)]
            rw [HR]
            clear HR
            have HE := Lib.hid he
            clear he
            go_enter Try.func22, Try.ntmps22
            go_wp2
            refine wp_region_calm (by kernel_rfl) (by kernel_rfl) ?_
            repeat (go_big_quiet_step (first | (go_at_call 86; exact calm_of (rDepth t _ _ (by omega) (by omega) (by omega) (by omega)))))
            refine wpQuiet_nil ?_
            rintro _ ⟨p1, rfl⟩
            have he := HE.out
            go_wp2_with (first | (go_at_call 87; (with_reducible refine (HU _).mono ?_); rintro e w' ⟨rfl, rfl⟩) | (go_at_call 88; (with_reducible refine (HV _).mono ?_); rintro e w' ⟨rfl, rfl⟩))
            refine bodyPost_ret ?_ rfl ⟨rfl, (by (repeat' (first | with_reducible exact Below.refl _ _ | (with_reducible refine below_later_of ?_ ?_ _) | (with_reducible refine Below.alloc ?_ ?_ _) | (with_reducible refine Below.setCell ?_ ?_ _) | (with_reducible refine Below.drew ?_) | (simp; done) | (simp; omega) | omega)))⟩
            first | (simp [results, Try.results22, go_sem]; done) | simp [results, Try.results22, go_sem, ↓IntWalk.iteOmega]
    · have hx : rootP (mostP t q) < rootUpP (max 1 (leastP t q)) ∨ mostP t q < 0 := by
        rcases Int.lt_or_le (mostP t q) 0 with h0 | h0
        · exact .inr h0
        · rw [show mostP t q = 0 by omega, rootP_zero, hU]; exact .inl (by omega)
      have HF : boxOfP t q = ⟨0, 0, 0, 0, 12⟩ := by
        unfold boxOfP; rw [if_pos h, if_pos hq]
        rcases hx with h0 | h0
        · by_cases h1 : mostP t q < 0
          · rw [if_pos h1]
          · rw [if_neg h1, if_pos h0]
        · rw [if_pos h0]
      rw [HF]
      rw [e2] at hm
      rw [e1] at hl
      clear h hq e1 e2 hU hx HF hu
      go_enter Try.func22, Try.ntmps22
      go_wp2
      refine wp_region_calm (by kernel_rfl) (by kernel_rfl) ?_
      repeat (go_big_quiet_step (first | (go_at_call 86; exact calm_of (rDepth t _ _ (by omega) (by omega) (by omega) (by omega)))))
      refine wpQuiet_nil ?_
      rintro _ ⟨p1, rfl⟩
      go_wp2_with (first | (go_at_call 87; (with_reducible refine (HU _).mono ?_); rintro e w' ⟨rfl, rfl⟩) | (go_at_call 88; (with_reducible refine (HV _).mono ?_); rintro e w' ⟨rfl, rfl⟩))
      refine bodyPost_ret ?_ rfl ⟨rfl, (by (repeat' (first | with_reducible exact Below.refl _ _ | (with_reducible refine below_later_of ?_ ?_ _) | (with_reducible refine Below.alloc ?_ ?_ _) | (with_reducible refine Below.setCell ?_ ?_ _) | (with_reducible refine Below.drew ?_) | (simp; done) | (simp; omega) | omega)))⟩
      first | (simp [results, Try.results22, go_sem]; done) | simp [results, Try.results22, go_sem, ↓IntWalk.iteOmega]
  · skip
    have hU : rootUpP (max 1 (leastP t q)) = 1 := by rw [show max 1 (leastP t q) = 1 by omega]; exact rootUpP_one
    by_cases hm : 0 < mostP t q
    · have r2 := rootP_spec (mostP t q) (by omega) (by omega)
      have r3 := rootP_le (mostP t q) (by omega) (by omega)
      obtain ⟨v, hv⟩ : ∃ v, rootP (mostP t q) = v := ⟨_, rfl⟩
      have HV : ∀ w, Calls Try.prog 88 #[.int .i64 ((t.near + t.bin * q.bin + t.bin) * (t.near + t.bin * q.bin + t.bin) - 1 - depthP t q.hi * depthP t q.hi)] w fun e w' => e = .returned (.int .i64 v) ∧ w = w' := by
        intro w; rw [← hv]; exact bRoot _ _ (by omega) (by omega)
      rw [hv] at r2 r3
      obtain ⟨r20, -, -⟩ := r2
      have hm' : ¬ mostP t q < 0 := by omega
      by_cases hx : v < 1
      · have HF : boxOfP t q = ⟨0, 0, 0, 0, 12⟩ := by unfold boxOfP; rw [if_pos h, if_pos hq, if_neg hm', hU, hv, if_pos hx]
        rw [HF]
        rw [e2] at hm
        rw [e1] at hl
        clear h hq e1 e2 hU hv hm' HF
        go_enter Try.func22, Try.ntmps22
        go_wp2
        refine wp_region_calm (by kernel_rfl) (by kernel_rfl) ?_
        repeat (go_big_quiet_step (first | (go_at_call 86; exact calm_of (rDepth t _ _ (by omega) (by omega) (by omega) (by omega)))))
        refine wpQuiet_nil ?_
        rintro _ ⟨p1, rfl⟩
        go_wp2_with (first | (go_at_call 87; (with_reducible refine (HU _).mono ?_); rintro e w' ⟨rfl, rfl⟩) | (go_at_call 88; (with_reducible refine (HV _).mono ?_); rintro e w' ⟨rfl, rfl⟩))
        refine bodyPost_ret ?_ rfl ⟨rfl, (by (repeat' (first | with_reducible exact Below.refl _ _ | (with_reducible refine below_later_of ?_ ?_ _) | (with_reducible refine Below.alloc ?_ ?_ _) | (with_reducible refine Below.setCell ?_ ?_ _) | (with_reducible refine Below.drew ?_) | (simp; done) | (simp; omega) | omega)))⟩
        first | (simp [results, Try.results22, go_sem]; done) | simp [results, Try.results22, go_sem, ↓IntWalk.iteOmega]
      · have HF : boxOfP t q = ⟨(columnsP t 1 v).1, (columnsP t 1 v).2, (rowsP t q.line).1, (rowsP t q.line).2, 0⟩ := by
          unfold boxOfP; rw [if_pos h, if_pos hq, if_neg hm', hU, hv, if_neg hx]
        rw [HF]
        rw [e2] at hm
        rw [e1] at hl
        clear h hq e1 e2 hU hv hm' HF
        rcases (show t.east = false ∨ t.east = true by cases t.east <;> simp) with he | he
        · have HC : columnsP t 1 v = (t.sx - v, t.sx - 1) := by unfold columnsP; rw [he]; rfl
          rw [HC]
          clear HC
          by_cases hs : t.step < 0
          · have HR : rowsP t q.line = (t.sy + t.step * (q.line + 1) + 1, t.sy + t.step * q.line) := by unfold rowsP; rw [if_pos hs, Int.mul_comm q.line, Int.mul_comm (q.line + 1)]
            rw [HR]
            clear HR
            have HE := Lib.hid he
            clear he
            go_enter Try.func22, Try.ntmps22
            go_wp2
            refine wp_region_calm (by kernel_rfl) (by kernel_rfl) ?_
            repeat (go_big_quiet_step (first | (go_at_call 86; exact calm_of (rDepth t _ _ (by omega) (by omega) (by omega) (by omega)))))
            refine wpQuiet_nil ?_
            rintro _ ⟨p1, rfl⟩
            have he := HE.out
            go_wp2_with (first | (go_at_call 87; (with_reducible refine (HU _).mono ?_); rintro e w' ⟨rfl, rfl⟩) | (go_at_call 88; (with_reducible refine (HV _).mono ?_); rintro e w' ⟨rfl, rfl⟩))
            refine bodyPost_ret ?_ rfl ⟨rfl, (by (repeat' (first | with_reducible exact Below.refl _ _ | (with_reducible refine below_later_of ?_ ?_ _) | (with_reducible refine Below.alloc ?_ ?_ _) | (with_reducible refine Below.setCell ?_ ?_ _) | (with_reducible refine Below.drew ?_) | (simp; done) | (simp; omega) | omega)))⟩
            first | (simp [results, Try.results22, go_sem]; done) | simp [results, Try.results22, go_sem, ↓IntWalk.iteOmega]
          · have HR : rowsP t q.line = (t.sy + t.step * q.line, t.sy + t.step * (q.line + 1) - 1) := by unfold rowsP; rw [if_neg hs, Int.mul_comm q.line, Int.mul_comm (q.line + 1)]
            rw [HR]
            clear HR
            have HE := Lib.hid he
            clear he
            go_enter Try.func22, Try.ntmps22
            go_wp2
            refine wp_region_calm (by kernel_rfl) (by kernel_rfl) ?_
            repeat (go_big_quiet_step (first | (go_at_call 86; exact calm_of (rDepth t _ _ (by omega) (by omega) (by omega) (by omega)))))
            refine wpQuiet_nil ?_
            rintro _ ⟨p1, rfl⟩
            have he := HE.out
            go_wp2_with (first | (go_at_call 87; (with_reducible refine (HU _).mono ?_); rintro e w' ⟨rfl, rfl⟩) | (go_at_call 88; (with_reducible refine (HV _).mono ?_); rintro e w' ⟨rfl, rfl⟩))
            refine bodyPost_ret ?_ rfl ⟨rfl, (by (repeat' (first | with_reducible exact Below.refl _ _ | (with_reducible refine below_later_of ?_ ?_ _) | (with_reducible refine Below.alloc ?_ ?_ _) | (with_reducible refine Below.setCell ?_ ?_ _) | (with_reducible refine Below.drew ?_) | (simp; done) | (simp; omega) | omega)))⟩
            first | (simp [results, Try.results22, go_sem]; done) | simp [results, Try.results22, go_sem, ↓IntWalk.iteOmega]
        · have HC : columnsP t 1 v = (t.sx + 1, t.sx + v) := by unfold columnsP; rw [he]; rfl
          rw [HC]
          clear HC
          by_cases hs : t.step < 0
          · have HR : rowsP t q.line = (t.sy + t.step * (q.line + 1) + 1, t.sy + t.step * q.line) := by unfold rowsP; rw [if_pos hs, Int.mul_comm q.line, Int.mul_comm (q.line + 1)]
            rw [HR]
            clear HR
            have HE := Lib.hid he
            clear he
            go_enter Try.func22, Try.ntmps22
            go_wp2
            refine wp_region_calm (by kernel_rfl) (by kernel_rfl) ?_
            repeat (go_big_quiet_step (first | (go_at_call 86; exact calm_of (rDepth t _ _ (by omega) (by omega) (by omega) (by omega)))))
            refine wpQuiet_nil ?_
            rintro _ ⟨p1, rfl⟩
            have he := HE.out
            go_wp2_with (first | (go_at_call 87; (with_reducible refine (HU _).mono ?_); rintro e w' ⟨rfl, rfl⟩) | (go_at_call 88; (with_reducible refine (HV _).mono ?_); rintro e w' ⟨rfl, rfl⟩))
            refine bodyPost_ret ?_ rfl ⟨rfl, (by (repeat' (first | with_reducible exact Below.refl _ _ | (with_reducible refine below_later_of ?_ ?_ _) | (with_reducible refine Below.alloc ?_ ?_ _) | (with_reducible refine Below.setCell ?_ ?_ _) | (with_reducible refine Below.drew ?_) | (simp; done) | (simp; omega) | omega)))⟩
            first | (simp [results, Try.results22, go_sem]; done) | simp [results, Try.results22, go_sem, ↓IntWalk.iteOmega]
          · have HR : rowsP t q.line = (t.sy + t.step * q.line, t.sy + t.step * (q.line + 1) - 1) := by unfold rowsP; rw [if_neg hs, Int.mul_comm q.line, Int.mul_comm (q.line + 1)]
            rw [HR]
            clear HR
            have HE := Lib.hid he
            clear he
            go_enter Try.func22, Try.ntmps22
            go_wp2
            refine wp_region_calm (by kernel_rfl) (by kernel_rfl) ?_
            repeat (go_big_quiet_step (first | (go_at_call 86; exact calm_of (rDepth t _ _ (by omega) (by omega) (by omega) (by omega)))))
            refine wpQuiet_nil ?_
            rintro _ ⟨p1, rfl⟩
            have he := HE.out
            go_wp2_with (first | (go_at_call 87; (with_reducible refine (HU _).mono ?_); rintro e w' ⟨rfl, rfl⟩) | (go_at_call 88; (with_reducible refine (HV _).mono ?_); rintro e w' ⟨rfl, rfl⟩))
            refine bodyPost_ret ?_ rfl ⟨rfl, (by (repeat' (first | with_reducible exact Below.refl _ _ | (with_reducible refine below_later_of ?_ ?_ _) | (with_reducible refine Below.alloc ?_ ?_ _) | (with_reducible refine Below.setCell ?_ ?_ _) | (with_reducible refine Below.drew ?_) | (simp; done) | (simp; omega) | omega)))⟩
            first | (simp [results, Try.results22, go_sem]; done) | simp [results, Try.results22, go_sem, ↓IntWalk.iteOmega]
    · have hx : rootP (mostP t q) < rootUpP (max 1 (leastP t q)) ∨ mostP t q < 0 := by
        rcases Int.lt_or_le (mostP t q) 0 with h0 | h0
        · exact .inr h0
        · rw [show mostP t q = 0 by omega, rootP_zero, hU]; exact .inl (by omega)
      have HF : boxOfP t q = ⟨0, 0, 0, 0, 12⟩ := by
        unfold boxOfP; rw [if_pos h, if_pos hq]
        rcases hx with h0 | h0
        · by_cases h1 : mostP t q < 0
          · rw [if_pos h1]
          · rw [if_neg h1, if_pos h0]
        · rw [if_pos h0]
      rw [HF]
      rw [e2] at hm
      rw [e1] at hl
      clear h hq e1 e2 hU hx HF
      go_enter Try.func22, Try.ntmps22
      go_wp2
      refine wp_region_calm (by kernel_rfl) (by kernel_rfl) ?_
      repeat (go_big_quiet_step (first | (go_at_call 86; exact calm_of (rDepth t _ _ (by omega) (by omega) (by omega) (by omega)))))
      refine wpQuiet_nil ?_
      rintro _ ⟨p1, rfl⟩
      go_wp2_with (first | (go_at_call 87; (with_reducible refine (HU _).mono ?_); rintro e w' ⟨rfl, rfl⟩) | (go_at_call 88; (with_reducible refine (HV _).mono ?_); rintro e w' ⟨rfl, rfl⟩))
      refine bodyPost_ret ?_ rfl ⟨rfl, (by (repeat' (first | with_reducible exact Below.refl _ _ | (with_reducible refine below_later_of ?_ ?_ _) | (with_reducible refine Below.alloc ?_ ?_ _) | (with_reducible refine Below.setCell ?_ ?_ _) | (with_reducible refine Below.drew ?_) | (simp; done) | (simp; omega) | omega)))⟩
      first | (simp [results, Try.results22, go_sem]; done) | simp [results, Try.results22, go_sem, ↓IntWalk.iteOmega]
end Go.Proofs.Ytokpdmlmlkkekaa
