/- Chapter 1: whether a line has an echo; how many samples are clipped. -/
import Derived.Test.YtakohhlmomgegaaDoorU102
import Derived.Test.YtakohhlmomgegaaDoorU77
namespace Go.Proofs.YtakohhlmomgegaaDoor
set_option linter.unusedVariables false
set_option linter.unusedSimpArgs false
open Go.RowKit Ieee Ntt
set_option maxHeartbeats 400000 in
theorem gaps1 (a b : Nat) (w : World) : Calls Tryd.prog 113 #[.complex .f32 a b] w fun e w' => e = .returned (.bool (nzC a b)) ∧ w = w' := by
  have HF := Lib.hid (show (!FloatKind.f32.format.order a 0 == some Ordering.eq || !FloatKind.f32.format.order b 0 == some Ordering.eq) = nzC a b from rfl)
  go_enter Tryd.func113, Tryd.ntmps113
  go_wp2
  go_ret
  exact ⟨ret_boolE HF.out, rfl⟩
set_option maxHeartbeats 1000000 in
theorem indexFunc_g (n b off cap : Nat) (f : Nat → Nat × Nat) (w : World) (hl : n ≤ 100000) (hf : SamplesAt w b off n f) :
    Calls Tryd.prog 128 #[.slice (some ⟨b, off, none⟩) n cap, .func (.func 113) #[] #[]] w (IdxPost (anyC n f) w) := by
  have HF := Lib.hid hf
  clear hf
  go_enter Tryd.func128, Tryd.ntmps128
  go_wp2
  go_loop [8] (fun i => ∃ k : Nat, k ≤ n ∧ i = .int .i64 k ∧ ∀ j, j < k → nzC (f j).1 (f j).2 = false) (fun i => n - (intOf i).toNat)
  case atStart => exact ⟨0, Nat.zero_le _, rfl, fun j hj => absurd hj (Nat.not_lt_zero _)⟩
  case round =>
    obtain ⟨k, hk, rfl, hz⟩ := hrel
    have HZ := Lib.hid hz
    clear hz
    by_cases hlt : k < n
    · have hdk : decide ((k : Int) < (n : Int)) = true := by simp; omega
      have ck := HF.out k hlt
      rcases (show nzC (f k).1 (f k).2 = false ∨ nzC (f k).1 (f k).2 = true by cases nzC (f k).1 (f k).2 <;> simp) with h0 | h0
      · have HP := Lib.hid (show ∀ W, Calls Tryd.prog 113 #[.complex .f32 (f k).1 (f k).2] W fun e w' => e = .returned (.bool false) ∧ W = w' from fun W => by rw [← h0]; exact gaps1 _ _ W)
        have H0 := Lib.hid h0
        clear h0
        go_wp2_with (first | (go_at_call 113; (with_reducible refine (HP.out _).mono ?_); rintro e w' ⟨rfl, rfl⟩))
        go_round
        case rel => exact ⟨k + 1, by omega, by go_num, fun j hj => by rcases Nat.lt_succ_iff_lt_or_eq.1 hj with h | rfl; exact HZ.out j h; exact H0.out⟩
        case measure => simp [intOf]; omega
      · have HP := Lib.hid (show ∀ W, Calls Tryd.prog 113 #[.complex .f32 (f k).1 (f k).2] W fun e w' => e = .returned (.bool true) ∧ W = w' from fun W => by rw [← h0]; exact gaps1 _ _ W)
        have H0 := Lib.hid (anyC_hit hlt h0)
        clear h0
        go_wp2_with (first | (go_at_call 113; (with_reducible refine (HP.out _).mono ?_); rintro e w' ⟨rfl, rfl⟩))
        go_ret
        exact ⟨k, rfl, by rw [H0.out]; simp, by omega, rfl⟩
    · obtain rfl : k = n := by omega
      have hdk : decide ((k : Int) < (k : Int)) = false := by simp
      have H0 := Lib.hid (anyC_no HZ.out)
      go_wp2
      go_ret
      exact ⟨-1, rfl, by rw [H0.out]; decide, by omega, rfl⟩
set_option maxHeartbeats 1000000 in
theorem containsFunc_g (n b off cap : Nat) (f : Nat → Nat × Nat) (w : World) (hl : n ≤ 100000) (hf : SamplesAt w b off n f) :
    Calls Tryd.prog 75 #[.slice (some ⟨b, off, none⟩) n cap, .func (.func 113) #[] #[]] w fun e w' => e = .returned (.bool (anyC n f)) ∧ w = w' := by
  have HI := Lib.hid (indexFunc_g n b off cap f w hl hf)
  clear hf
  generalize anyC n f = c at HI
  go_enter Tryd.func75, Tryd.ntmps75
  go_wp2_with (first | (go_at_call 128; (with_reducible refine (HI.out).mono ?_); rintro e w' ⟨i, rfl, hc, ⟨hi1, hi2⟩, rfl⟩; have HC := Lib.hid hc; clear hc))
  go_ret
  exact ⟨ret_boolE HC.out, rfl⟩
/-- A sample is clipped. -/
def clipB (x y : Int) : Bool := decide (x = 2047) || decide (x = -2047) || decide (y = 2047) || decide (y = -2047)
/-- How many of the first samples are clipped. -/
def clipN (X Y : Nat → Int) : Nat → Nat
  | 0 => 0
  | k + 1 => if clipB (X k) (Y k) then clipN X Y k + 1 else clipN X Y k
theorem clipN_le (X Y : Nat → Int) : ∀ k, clipN X Y k ≤ k
  | 0 => Nat.le_refl _
  | k + 1 => by
    have := clipN_le X Y k
    rw [clipN]
    split <;> omega
/-- Go's max of two. -/
def mx2 (a b : Int) : Int := if b > a then b else a
theorem clip_iff {x y : Int} (hx : -2047 ≤ x ∧ x ≤ 2047) (hy : -2047 ≤ y ∧ y ≤ 2047) : clipB x y = true ↔ mx2 (mx2 (mx2 x (-x)) y) (-y) = 2047 := by
  unfold clipB mx2
  simp only [Bool.or_eq_true, decide_eq_true_eq]
  repeat' split
  all_goals omega
theorem clip_size {x y : Int} (hx : -2047 ≤ x ∧ x ≤ 2047) (hy : -2047 ≤ y ∧ y ≤ 2047) : clipB x y = (max x (-x) == 2047 || max y (-y) == 2047) := by
  rw [Bool.eq_iff_iff]
  unfold clipB
  simp only [Bool.or_eq_true, decide_eq_true_eq, beq_iff_eq]
  omega
theorem wp_world104 {P : Program} {c : Code} {Q : Exit → Act → World → Prop} {a : Act} {w : World} (F : World → Prop) (hf : F w) (h : ∀ W, F W → Code.wp P c Q a W) : Code.wp P c Q a w := h w hf
set_option maxHeartbeats 1000000 in
theorem clipped_bad (L S : Int) (n cap : Nat) (f : Nat → Nat × Nat) (a : Option Addr) (w : World) (hn : n ≤ 100000) (hd : DataAt w L S n f a) {e0 : Int} (he : (imgE L S n f).2 = e0) (h0 : e0 ≠ 0) :
    Calls Tryd.prog 56 #[.agg #[.int .i64 L, .int .i64 S, .slice a n cap]] w fun e w' => e = .returned (.tuple #[.int .i64 0, .int .i64 e0]) ∧ Below w.heap.size w w' := by
  have HIM := Lib.hid (show ∀ W, Below w.heap.size w W → _ from fun W hW => imageErr_any L S n cap f a W hn (hd.below hW) he)
  have hne : (e0 != 0) = true := by simpa using h0
  clear hd he h0
  go_enter Tryd.func56, Tryd.ntmps56
  go_wp2_with (first | (go_at_call 78; (with_reducible refine (HIM.out _ (by (repeat' (first | with_reducible exact Below.refl _ _ | (with_reducible refine below_later_of ?_ ?_ _) | (with_reducible refine Below.alloc ?_ ?_ _) | (with_reducible refine Below.setCell ?_ ?_ _) | (with_reducible refine Below.drew ?_) | (simp; done) | (simp; omega) | omega)))).mono ?_); rintro e w' ⟨rfl, hb⟩; obtain ⟨pq, rfl⟩ := later_of_below hb; clear hb))
  go_ret2
  exact ⟨rfl, (by (repeat' (first | with_reducible exact Below.refl _ _ | (with_reducible refine below_later_of ?_ ?_ _) | (with_reducible refine Below.alloc ?_ ?_ _) | (with_reducible refine Below.setCell ?_ ?_ _) | (with_reducible refine Below.drew ?_) | (simp; done) | (simp; omega) | omega)))⟩
set_option maxRecDepth 20000 in
set_option maxHeartbeats 2000000 in
theorem clipped_ok (L S : Int) (n cap b off : Nat) (f : Nat → Nat × Nat) (w : World) (hbw : b < w.heap.size) (hs : SamplesAt w b off n f) (he : (imgE L S n f).2 = 0) :
    Calls Tryd.prog 56 #[.agg #[.int .i64 L, .int .i64 S, .slice (some ⟨b, off, none⟩) n cap]] w fun e w' => e = .returned (.tuple #[.int .i64 (clipN (xB f) (yB f) n), .int .i64 0]) ∧ Below w.heap.size w w' := by
  have hn := imgE_small he
  have HIM := Lib.hid (show ∀ W, Below w.heap.size w W → _ from fun W hW => imageErr_any L S n cap f (some ⟨b, off, none⟩) W (by omega) (fun _ => ⟨b, off, rfl, Nat.lt_of_lt_of_le hbw hW.size, hs.below hbw hW⟩) he)
  have HPP := Lib.hid (show SmallS n f (xB f) (yB f) 2047 from smallS_of (by decide) (imgE_zero he).2)
  have HS := Lib.hid hs
  clear hs he
  generalize xB f = X at HPP ⊢
  generalize yB f = Y at HPP ⊢
  go_enter Tryd.func56, Tryd.ntmps56
  go_wp2_with (first | (go_at_call 78; (with_reducible refine (HIM.out _ (by (repeat' (first | with_reducible exact Below.refl _ _ | (with_reducible refine below_later_of ?_ ?_ _) | (with_reducible refine Below.alloc ?_ ?_ _) | (with_reducible refine Below.setCell ?_ ?_ _) | (with_reducible refine Below.drew ?_) | (simp; done) | (simp; omega) | omega)))).mono ?_); rintro e w' ⟨rfl, hb⟩; obtain ⟨pq, rfl⟩ := later_of_below hb; clear hb))
  refine wp_world104 (fun W => Below w.heap.size w W) (by (repeat' (first | with_reducible exact Below.refl _ _ | (with_reducible refine below_later_of ?_ ?_ _) | (with_reducible refine Below.alloc ?_ ?_ _) | (with_reducible refine Below.setCell ?_ ?_ _) | (with_reducible refine Below.drew ?_) | (simp; done) | (simp; omega) | omega))) ?_
  rintro W2 hb2
  have HB2 := Lib.hid hb2
  clear hb2
  go_loop [5, 18] (fun z i => ∃ k : Nat, k ≤ n ∧ i = .int .i64 k ∧ z = .int .i64 (clipN X Y k)) (fun _ i => n - (intOf i).toNat)
  case atStart => exact ⟨0, Nat.zero_le _, rfl, rfl⟩
  case round =>
    obtain ⟨k, hk, rfl, rfl⟩ := hrel
    by_cases hlt : k < n
    · have hdk : decide ((k : Int) < (n : Int)) = true := by simp; omega
      have ck := (HB2.out.cell (p := ⟨b, off + k, none⟩) hbw).trans (HS.out k hlt)
      obtain ⟨⟨p1, p2, p3, p4⟩, ⟨p5, p6⟩, p7, p8⟩ := HPP.out k hlt
      have HP := Lib.hid (fun w => parts_any (f k).1 (f k).2 (X k) (Y k) w (flI_single p1 (by omega) (by omega)) (flI_single p2 (by omega) (by omega)))
      have hcl := clipN_le X Y k
      have hci := clip_iff ⟨p5, p6⟩ ⟨p7, p8⟩
      have HN := Lib.hid (show clipN X Y (k + 1) = if clipB (X k) (Y k) then clipN X Y k + 1 else clipN X Y k from rfl)
      generalize clipN X Y k = c at hcl HN ⊢
      generalize X k = x at p5 p6 HP HN hci
      generalize Y k = y at p7 p8 HP HN hci
      obtain ⟨m3, hm3⟩ : ∃ m, mx2 (mx2 (mx2 x (-x)) y) (-y) = m := ⟨_, rfl⟩
      rw [hm3] at hci
      have HM := Lib.hid hm3
      clear hm3
      clear p1 p2 p3 p4
      rcases (show clipB x y = false ∨ clipB x y = true by cases clipB x y <;> simp) with h0 | h0
      · have hd : (m3 == 2047) = false := by
          rw [beq_eq_false_iff_ne]
          intro h
          rw [hci.2 h] at h0
          cases h0
        have HC := Lib.hid (show clipN X Y (k + 1) = c by rw [HN.out, h0]; rfl)
        clear h0 hci
        go_wp2_with (first | (go_at_call 110; (with_reducible refine (HP.out _).mono ?_); rintro e w' ⟨rfl, rfl⟩) | ((with_reducible refine wpList_run1 (o := ⟨some 33, _, _, _, _, _⟩) (.int .i64 m3) ?_ ?_ ?_); (focus rfl); (focus (rw [← HM.out]; kernel_rfl))))
        go_round
        case rel => exact ⟨k + 1, by omega, by go_num, by rw [HC.out]⟩
        case measure => simp [intOf]; omega
      · have hd : (m3 == 2047) = true := by simpa using hci.1 h0
        have HC := Lib.hid (show clipN X Y (k + 1) = c + 1 by rw [HN.out, h0]; rfl)
        clear h0 hci
        go_wp2_with (first | (go_at_call 110; (with_reducible refine (HP.out _).mono ?_); rintro e w' ⟨rfl, rfl⟩) | ((with_reducible refine wpList_run1 (o := ⟨some 33, _, _, _, _, _⟩) (.int .i64 m3) ?_ ?_ ?_); (focus rfl); (focus (rw [← HM.out]; kernel_rfl))))
        go_round
        case rel => exact ⟨k + 1, by omega, by go_num, by rw [HC.out]; rfl⟩
        case measure => simp [intOf]; omega
    · obtain rfl : k = n := by omega
      have hdk : decide ((k : Int) < (k : Int)) = false := by simp
      go_wp2
      go_ret2
      exact ⟨rfl, HB2.out.trans (by (repeat' (first | with_reducible exact Below.refl _ _ | (with_reducible refine below_later_of ?_ ?_ _) | (with_reducible refine Below.alloc ?_ ?_ _) | (with_reducible refine Below.setCell ?_ ?_ _) | (with_reducible refine Below.drew ?_) | (simp; done) | (simp; omega) | omega)))⟩
set_option maxHeartbeats 400000 in
theorem bSize (x : Int) (w : World) (hx : -1000000 ≤ x ∧ x ≤ 1000000) : Calls Tryd.prog 114 #[.int .i64 x] w fun e w' => e = .returned (.int .i64 (max x (-x))) ∧ w = w' := by
  obtain ⟨h1, h2⟩ := hx
  go_enter Tryd.func114, Tryd.ntmps114
  go_wp2
  go_ret
  exact ⟨rfl, rfl⟩
set_option maxRecDepth 20000 in
set_option maxHeartbeats 2000000 in
theorem rClipped (L S : Int) (n cap b off : Nat) (f : Nat → Nat × Nat) (w : World) (hn : n ≤ 4096) (hbw : b < w.heap.size) (hs : SamplesAt w b off n f) (hp : SmallS n f (xB f) (yB f) 2047) :
    Calls Tryd.prog 59 #[.agg #[.int .i64 L, .int .i64 S, .slice (some ⟨b, off, none⟩) n cap]] w fun e w' => e = .returned (.int .i64 (clipN (xB f) (yB f) n)) ∧ Below w.heap.size w w' := by
  have HPP := Lib.hid hp
  have HS := Lib.hid hs
  clear hs hp
  generalize xB f = X at HPP ⊢
  generalize yB f = Y at HPP ⊢
  go_enter Tryd.func59, Tryd.ntmps59
  go_wp2
  go_loop [3, 4] (fun z i => ∃ k : Nat, k ≤ n ∧ i = .int .i64 k ∧ z = .int .i64 (clipN X Y k)) (fun _ i => n - (intOf i).toNat)
  case atStart => exact ⟨0, Nat.zero_le _, rfl, rfl⟩
  case round =>
    obtain ⟨k, hk, rfl, rfl⟩ := hrel
    by_cases hlt : k < n
    · have hdk : decide ((k : Int) < (n : Int)) = true := by simp; omega
      have ck := HS.out k hlt
      obtain ⟨⟨p1, p2, p3, p4⟩, ⟨p5, p6⟩, p7, p8⟩ := HPP.out k hlt
      have HP := Lib.hid (fun w => rParts (f k).1 (f k).2 (X k) (Y k) w (flI_single p1 (by omega) (by omega)) (flI_single p2 (by omega) (by omega)))
      have hcl := clipN_le X Y k
      have hci := clip_size ⟨p5, p6⟩ ⟨p7, p8⟩
      have HN := Lib.hid (show clipN X Y (k + 1) = if clipB (X k) (Y k) then clipN X Y k + 1 else clipN X Y k from rfl)
      generalize clipN X Y k = c at hcl HN ⊢
      generalize X k = x at p5 p6 HP HN hci
      generalize Y k = y at p7 p8 HP HN hci
      have HS1 := Lib.hid (fun w => bSize x w (by omega))
      have HS2 := Lib.hid (fun w => bSize y w (by omega))
      generalize max x (-x) = m1 at HS1 hci
      generalize max y (-y) = m2 at HS2 hci
      clear p1 p2 p3 p4
      rcases (show (m1 == 2047) = false ∨ (m1 == 2047) = true by cases (m1 == 2047) <;> simp) with h1 | h1
      · rcases (show (m2 == 2047) = false ∨ (m2 == 2047) = true by cases (m2 == 2047) <;> simp) with h2 | h2
        · have HC := Lib.hid (show clipN X Y (k + 1) = c by rw [HN.out, hci, h1, h2]; rfl)
          clear hci
          go_wp2_with (first | (go_at_call 84; (with_reducible refine (HP.out _).mono ?_); rintro e w' ⟨rfl, rfl⟩) | (go_at_call 114; (with_reducible refine (HS1.out _).mono ?_); rintro e w' ⟨rfl, rfl⟩) | (go_at_call 114; (with_reducible refine (HS2.out _).mono ?_); rintro e w' ⟨rfl, rfl⟩))
          go_round
          case rel => exact ⟨k + 1, by omega, by go_num, by rw [HC.out]⟩
          case measure => simp [intOf]; omega
        · have HC := Lib.hid (show clipN X Y (k + 1) = c + 1 by rw [HN.out, hci, h1, h2]; rfl)
          clear hci
          go_wp2_with (first | (go_at_call 84; (with_reducible refine (HP.out _).mono ?_); rintro e w' ⟨rfl, rfl⟩) | (go_at_call 114; (with_reducible refine (HS1.out _).mono ?_); rintro e w' ⟨rfl, rfl⟩) | (go_at_call 114; (with_reducible refine (HS2.out _).mono ?_); rintro e w' ⟨rfl, rfl⟩))
          go_round
          case rel => exact ⟨k + 1, by omega, by go_num, by rw [HC.out]; rfl⟩
          case measure => simp [intOf]; omega
      · have HC := Lib.hid (show clipN X Y (k + 1) = c + 1 by rw [HN.out, hci, h1]; rfl)
        clear hci
        go_wp2_with (first | (go_at_call 84; (with_reducible refine (HP.out _).mono ?_); rintro e w' ⟨rfl, rfl⟩) | (go_at_call 114; (with_reducible refine (HS1.out _).mono ?_); rintro e w' ⟨rfl, rfl⟩) | (go_at_call 114; (with_reducible refine (HS2.out _).mono ?_); rintro e w' ⟨rfl, rfl⟩))
        go_round
        case rel => exact ⟨k + 1, by omega, by go_num, by rw [HC.out]; rfl⟩
        case measure => simp [intOf]; omega
    · obtain rfl : k = n := by omega
      have hdk : decide ((k : Int) < (k : Int)) = false := by simp
      go_wp2
      go_ret
      exact ⟨rfl, (by (repeat' (first | with_reducible exact Below.refl _ _ | (with_reducible refine below_later_of ?_ ?_ _) | (with_reducible refine Below.alloc ?_ ?_ _) | (with_reducible refine Below.setCell ?_ ?_ _) | (with_reducible refine Below.drew ?_) | (simp; done) | (simp; omega) | omega)))⟩
end Go.Proofs.YtakohhlmomgegaaDoor
