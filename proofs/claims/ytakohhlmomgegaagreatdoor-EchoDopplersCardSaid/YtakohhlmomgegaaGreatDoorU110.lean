/- Chapter 1: Unfolded, of the program and of the reference; base.Floor; the reference's PairSum. -/
import Derived.Test.YtakohhlmomgegaaGreatDoorU88
import Derived.Test.YtakohhlmomgegaaGreatDoorU63
import Derived.Test.YtakohhlmomgegaaGreatDoorU79
namespace Go.Proofs.YtakohhlmomgegaaGreatDoor
set_option linter.unusedVariables false
set_option linter.unusedSimpArgs false
open Go.RowKit Ieee Ntt
theorem tm_pos (x : Int) : (x.tmod 4096 + 4096).tmod 4096 = x % 4096 := by
  rcases Int.le_total 0 x with h | h
  · rw [Int.tmod_eq_emod_of_nonneg h, Int.tmod_eq_emod_of_nonneg (by omega)]
    omega
  · obtain ⟨y, rfl⟩ : ∃ y, x = -y := ⟨-x, by omega⟩
    rw [Int.neg_tmod, Int.tmod_eq_emod_of_nonneg (a := y) (by omega), Int.tmod_eq_emod_of_nonneg (by omega)]
    omega
theorem tm_bd (x : Int) : -4096 < x.tmod 4096 ∧ x.tmod 4096 < 4096 := by
  rcases Int.le_total 0 x with h | h
  · rw [Int.tmod_eq_emod_of_nonneg h]; omega
  · obtain ⟨y, rfl⟩ : ∃ y, x = -y := ⟨-x, by omega⟩
    rw [Int.neg_tmod, Int.tmod_eq_emod_of_nonneg (a := y) (by omega)]; omega
theorem fl_pos (x : Int) : (if x.tmod 4096 < 0 then x.tdiv 4096 - 1 else x.tdiv 4096) = x / 4096 := by
  rcases Int.le_total 0 x with h | h
  · rw [Int.tmod_eq_emod_of_nonneg h, Int.tdiv_eq_ediv_of_nonneg h, if_neg (by omega)]
  · obtain ⟨y, rfl⟩ : ∃ y, x = -y := ⟨-x, by omega⟩
    rw [Int.neg_tmod, Int.tmod_eq_emod_of_nonneg (a := y) (by omega), Int.neg_tdiv, Int.tdiv_eq_ediv_of_nonneg (a := y) (by omega)]
    split <;> omega
/-- The number nearest to another one that differs by whole turns. -/
def unfP (p q : Int) : Int := q + ((p - q + 2048) % 4096 - 2048)
theorem unfP_ref (p q : Int) : unfP p q = if q - (p + (q - p) / 4096 * 4096) ≤ p + (q - p) / 4096 * 4096 + 4096 - q then p + (q - p) / 4096 * 4096 else p + (q - p) / 4096 * 4096 + 4096 := by
  unfold unfP
  split <;> omega
theorem unfP_mod (p q : Int) : (unfP p q - p) % 4096 = 0 := by unfold unfP; omega
theorem unfP_near (p q : Int) : -2048 ≤ q - unfP p q ∧ q - unfP p q ≤ 2048 := by unfold unfP; omega
set_option maxHeartbeats 1000000 in
theorem unfolded_bad (p q : Int) (w : World) (h : (inE (-100000000) 100000000 p && inE (-100000000) 100000000 q) = false) :
    Calls Tryz.prog 7 #[.int .i64 p, .int .i64 q] w fun e w' => e = .returned (.tuple #[.int .i64 0, .int .i64 2]) ∧ Below w.heap.size w w' := by
  rcases (show inE (-100000000) 100000000 p = false ∨ inE (-100000000) 100000000 p = true by cases inE (-100000000) 100000000 p <;> simp) with i1 | i1
  · have H1 := Lib.hid i1
    clear i1 h
    go_enter Tryz.func7, Tryz.ntmps7
    go_wp2_with (first | (go_at_call 30; (with_reducible refine (within_e _ _ _ _ H1.out).mono ?_); rintro e w' ⟨rfl, rfl⟩))
    go_ret2
    exact ⟨rfl, (by (repeat' (first | with_reducible exact Below.refl _ _ | (with_reducible refine below_later_of ?_ ?_ _) | (with_reducible refine Below.alloc ?_ ?_ _) | (with_reducible refine Below.setCell ?_ ?_ _) | (with_reducible refine Below.drew ?_) | (simp; done) | (simp; omega) | omega)))⟩
  · have H1 := Lib.hid i1
    have H2 := Lib.hid (show inE (-100000000) 100000000 q = false by rw [i1] at h; exact h)
    clear i1 h
    go_enter Tryz.func7, Tryz.ntmps7
    go_wp2_with (first | (go_at_call 30; (with_reducible refine (within_e _ _ _ _ H1.out).mono ?_); rintro e w' ⟨rfl, rfl⟩) | (go_at_call 30; (with_reducible refine (within_e _ _ _ _ H2.out).mono ?_); rintro e w' ⟨rfl, rfl⟩))
    go_ret2
    exact ⟨rfl, (by (repeat' (first | with_reducible exact Below.refl _ _ | (with_reducible refine below_later_of ?_ ?_ _) | (with_reducible refine Below.alloc ?_ ?_ _) | (with_reducible refine Below.setCell ?_ ?_ _) | (with_reducible refine Below.drew ?_) | (simp; done) | (simp; omega) | omega)))⟩
set_option maxHeartbeats 1000000 in
theorem unfolded_ok (p q : Int) (w : World) (hp : inE (-100000000) 100000000 p = true) (hq : inE (-100000000) 100000000 q = true) {u : Int} (hu : unfP p q = u) :
    Calls Tryz.prog 7 #[.int .i64 p, .int .i64 q] w fun e w' => e = .returned (.tuple #[.int .i64 u, .int .i64 0]) ∧ Below w.heap.size w w' := by
  obtain ⟨p1, p2⟩ := inE_iff.1 hp
  obtain ⟨q1, q2⟩ := inE_iff.1 hq
  have H1 := Lib.hid hp
  have H2 := Lib.hid hq
  have h0 := tm_pos (p - q + 2048)
  obtain ⟨b1, b2⟩ := tm_bd (p - q + 2048)
  obtain ⟨t, ht⟩ : ∃ t, (p - q + 2048).tmod 4096 = t := ⟨_, rfl⟩
  rw [ht] at h0 b1 b2
  obtain ⟨m, hm⟩ : ∃ m, (t + 4096).tmod 4096 = m := ⟨_, rfl⟩
  rw [hm] at h0
  have hmb : 0 ≤ m ∧ m < 4096 := by omega
  obtain ⟨m1, m2⟩ := hmb
  have HU := Lib.hid (show q + (m - 2048) = u by rw [← hu]; unfold unfP; rw [h0])
  clear hp hq h0 hu
  go_enter Tryz.func7, Tryz.ntmps7
  go_wp2_with (first | (go_at_call 30; (with_reducible refine (within_e _ _ _ _ H1.out).mono ?_); rintro e w' ⟨rfl, rfl⟩) | (go_at_call 30; (with_reducible refine (within_e _ _ _ _ H2.out).mono ?_); rintro e w' ⟨rfl, rfl⟩))
  go_ret2
  exact ⟨by rw [HU.out]; rfl, (by (repeat' (first | with_reducible exact Below.refl _ _ | (with_reducible refine below_later_of ?_ ?_ _) | (with_reducible refine Below.alloc ?_ ?_ _) | (with_reducible refine Below.setCell ?_ ?_ _) | (with_reducible refine Below.drew ?_) | (simp; done) | (simp; omega) | omega)))⟩
set_option maxHeartbeats 1000000 in
theorem bFloor (n : Int) (w : World) (h1 : -1000000000 ≤ n) (h2 : n ≤ 1000000000) {v : Int} (hv : n / 4096 = v) : Calls Tryz.prog 31 #[.int .i64 n, .int .i64 4096] w fun e w' => e = .returned (.int .i64 v) ∧ w = w' := by
  have hf := fl_pos n
  rw [hv] at hf
  obtain ⟨b1, b2⟩ := tm_bd n
  obtain ⟨r, hr⟩ : ∃ r, n.tmod 4096 = r := ⟨_, rfl⟩
  obtain ⟨a, ha⟩ : ∃ a, n.tdiv 4096 = a := ⟨_, rfl⟩
  rw [hr] at hf b1 b2
  rw [ha] at hf
  by_cases h0 : r < 0
  · rw [if_pos h0] at hf
    have HF := Lib.hid hf
    have d : decide (r < 0) = true := by simpa using h0
    have ab : -1000000000 ≤ a ∧ a ≤ 1000000000 := by omega
    obtain ⟨a1, a2⟩ := ab
    clear hf hv h0
    go_enter Tryz.func31, Tryz.ntmps31
    go_wp2
    go_ret
    exact ⟨by rw [HF.out]; rfl, rfl⟩
  · rw [if_neg h0] at hf
    have HF := Lib.hid hf
    have d : decide (r < 0) = false := by simpa using h0
    have ab : -1000000000 ≤ a ∧ a ≤ 1000000000 := by omega
    obtain ⟨a1, a2⟩ := ab
    clear hf hv h0
    go_enter Tryz.func31, Tryz.ntmps31
    go_wp2
    go_ret
    exact ⟨by rw [HF.out]; rfl, rfl⟩
set_option maxHeartbeats 1000000 in
theorem rUnfolded (p q : Int) (w : World) (hp : inE (-100000000) 100000000 p = true) (hq : inE (-100000000) 100000000 q = true) {u : Int} (hu : unfP p q = u) :
    Calls Tryz.prog 9 #[.int .i64 p, .int .i64 q] w fun e w' => e = .returned (.int .i64 u) ∧ Below w.heap.size w w' := by
  obtain ⟨p1, p2⟩ := inE_iff.1 hp
  obtain ⟨q1, q2⟩ := inE_iff.1 hq
  rw [unfP_ref] at hu
  have HFL := Lib.hid (fun w => bFloor (q - p) w (by omega) (by omega) (v := (q - p) / 4096) rfl)
  have hk : -1000000 ≤ (q - p) / 4096 ∧ (q - p) / 4096 ≤ 1000000 := by omega
  generalize (q - p) / 4096 = k at HFL hu hk
  obtain ⟨k1, k2⟩ := hk
  obtain ⟨l, hl⟩ : ∃ l, p + k * 4096 = l := ⟨_, rfl⟩
  rw [hl] at hu
  have hlb : -10000000000 ≤ l ∧ l ≤ 10000000000 := by omega
  obtain ⟨l1, l2⟩ := hlb
  clear hp hq
  by_cases hc : q - l ≤ l + 4096 - q
  · rw [if_pos hc] at hu
    subst hu
    have d : decide (q - l ≤ l + 4096 - q) = true := by simpa using hc
    clear hc
    go_enter Tryz.func9, Tryz.ntmps9
    go_wp2_with (first | (go_at_call 31; (with_reducible refine (HFL.out _).mono ?_); rintro e w' ⟨rfl, rfl⟩))
    go_ret
    exact ⟨rfl, (by (repeat' (first | with_reducible exact Below.refl _ _ | (with_reducible refine below_later_of ?_ ?_ _) | (with_reducible refine Below.alloc ?_ ?_ _) | (with_reducible refine Below.setCell ?_ ?_ _) | (with_reducible refine Below.drew ?_) | (simp; done) | (simp; omega) | omega)))⟩
  · rw [if_neg hc] at hu
    subst hu
    have d : decide (q - l ≤ l + 4096 - q) = false := by simpa using hc
    clear hc
    go_enter Tryz.func9, Tryz.ntmps9
    go_wp2_with (first | (go_at_call 31; (with_reducible refine (HFL.out _).mono ?_); rintro e w' ⟨rfl, rfl⟩))
    go_ret
    exact ⟨rfl, (by (repeat' (first | with_reducible exact Below.refl _ _ | (with_reducible refine below_later_of ?_ ?_ _) | (with_reducible refine Below.alloc ?_ ?_ _) | (with_reducible refine Below.setCell ?_ ?_ _) | (with_reducible refine Below.drew ?_) | (simp; done) | (simp; omega) | omega)))⟩
theorem psR_succ (X Y : Nat → Int) (S k : Nat) : psR X Y S (k + 1) = psR X Y S k + (X (S + k) * X k + Y (S + k) * Y k) := rfl
theorem psI_succ (X Y : Nat → Int) (S k : Nat) : psI X Y S (k + 1) = psI X Y S k + (Y (S + k) * X k - X (S + k) * Y k) := rfl
set_option maxRecDepth 20000 in
set_option maxHeartbeats 2000000 in
theorem rPairSum (L S K n b off cap : Nat) (f : Nat → Nat × Nat) (w : World) (hn : n ≤ 4096) (hK : S + K = n) (hbw : b < w.heap.size) (hs : SamplesAt w b off n f) (hp : SmallS n f (xB f) (yB f) 2047) :
    Calls Tryz.prog 15 #[.agg #[.int .i64 L, .int .i64 S, .slice (some ⟨b, off, none⟩) n cap]] w fun e w' => e = .returned (.tuple #[.int .i64 (psR (xB f) (yB f) S K), .int .i64 (psI (xB f) (yB f) S K)]) ∧ Below w.heap.size w w' := by
  have HPP := Lib.hid hp
  have HS := Lib.hid hs
  clear hs hp
  generalize xB f = X at HPP ⊢
  generalize yB f = Y at HPP ⊢
  go_enter Tryz.func15, Tryz.ntmps15
  go_wp2
  go_loop [4, 5, 6] (fun x y i => ∃ k : Nat, k ≤ K ∧ i = .int .i64 ((S + k : Nat) : Int) ∧ x = .int .i64 (psR X Y S k) ∧ y = .int .i64 (psI X Y S k)) (fun _ _ i => n - (intOf i).toNat)
  case atStart => exact ⟨0, Nat.zero_le _, rfl, rfl, rfl⟩
  case round =>
    obtain ⟨k, hk, rfl, rfl, rfl⟩ := hrel
    by_cases hlt : k < K
    · obtain ⟨j, hj⟩ : ∃ j, S + k = j := ⟨_, rfl⟩
      have hjn : j < n := by omega
      have hdk : decide ((j : Int) < (n : Int)) = true := by simp; omega
      have hjk : (j : Int) - (S : Int) = (k : Int) := by omega
      have ci := HS.out j hjn
      have ck := HS.out k (by omega)
      obtain ⟨⟨p1, p2, p3, p4⟩, ⟨p5, p6⟩, p7, p8⟩ := HPP.out j hjn
      obtain ⟨⟨r1, r2, r3, r4⟩, ⟨r5, r6⟩, r7, r8⟩ := HPP.out k (by omega)
      have HP1 := Lib.hid (fun w => rParts (f j).1 (f j).2 (X j) (Y j) w (flI_single p1 (by omega) (by omega)) (flI_single p2 (by omega) (by omega)))
      have HP2 := Lib.hid (fun w => rParts (f k).1 (f k).2 (X k) (Y k) w (flI_single r1 (by omega) (by omega)) (flI_single r2 (by omega) (by omega)))
      have HTI := Lib.hid (fun w => rTimes (X j) (Y j) (X k) (Y k) w (by omega) (by omega) (by omega) (by omega))
      obtain ⟨⟨e1, e2⟩, e3, e4⟩ := ps_bd (k := k) HPP.out (show S + k ≤ n by omega) hn
      have m1 := mul_bd2 (x := X j) (y := X k) ⟨p5, p6⟩ ⟨r5, r6⟩
      have m2 := mul_bd2 (x := Y j) (y := Y k) ⟨p7, p8⟩ ⟨r7, r8⟩
      have m3 := mul_bd2 (x := Y j) (y := X k) ⟨p7, p8⟩ ⟨r5, r6⟩
      have m4 := mul_bd2 (x := X j) (y := Y k) ⟨p5, p6⟩ ⟨r7, r8⟩
      simp only [Int.reduceMul] at m1 m2 m3 m4
      have HR := Lib.hid (psR_succ X Y S k)
      have HI := Lib.hid (psI_succ X Y S k)
      rw [hj] at HR HI
      have hb1 : -100000000 ≤ X j * X k + Y j * Y k ∧ X j * X k + Y j * Y k ≤ 100000000 := by omega
      have hb2 : -100000000 ≤ Y j * X k - X j * Y k ∧ Y j * X k - X j * Y k ≤ 100000000 := by omega
      generalize X j * X k + Y j * Y k = p at HTI HR hb1
      generalize Y j * X k - X j * Y k = q at HTI HI hb2
      generalize psR X Y S k = re at HR e1 e2 ⊢
      generalize psI X Y S k = im at HI e3 e4 ⊢
      generalize X j = xj at HP1 HTI
      generalize Y j = yj at HP1 HTI
      generalize X k = xk at HP2 HTI
      generalize Y k = yk at HP2 HTI
      obtain ⟨b1, b2⟩ := hb1
      obtain ⟨b3, b4⟩ := hb2
      have HJ := Lib.hid hj
      rw [hj]
      clear p1 p2 p3 p4 p5 p6 p7 p8 r1 r2 r3 r4 r5 r6 r7 r8 m1 m2 m3 m4 hj
      go_wp2_with (first | (go_at_call 37; (with_reducible refine (HP1.out _).mono ?_); rintro e w' ⟨rfl, rfl⟩) | (go_at_call 37; (with_reducible refine (HP2.out _).mono ?_); rintro e w' ⟨rfl, rfl⟩) | (go_at_call 38; (with_reducible refine (HTI.out _).mono ?_); rintro e w' ⟨rfl, rfl⟩))
      go_round
      case rel => exact ⟨k + 1, by omega, by go_num, by rw [HR.out], by rw [HI.out]⟩
      case measure => simp [intOf]; omega
    · obtain rfl : k = K := by omega
      have hdk : decide (((S + k : Nat) : Int) < (n : Int)) = false := by simp; omega
      go_wp2
      go_ret2
      exact ⟨rfl, (by (repeat' (first | with_reducible exact Below.refl _ _ | (with_reducible refine below_later_of ?_ ?_ _) | (with_reducible refine Below.alloc ?_ ?_ _) | (with_reducible refine Below.setCell ?_ ?_ _) | (with_reducible refine Below.drew ?_) | (simp; done) | (simp; omega) | omega)))⟩
end Go.Proofs.YtakohhlmomgegaaGreatDoor
