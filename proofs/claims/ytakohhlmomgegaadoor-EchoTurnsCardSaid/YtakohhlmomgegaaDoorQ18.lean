/- Chapter 1's door seat: the law EchoTurns returns true. -/
import Derived.Test.YtakohhlmomgegaaDoorQ10
import Derived.Test.YtakohhlmomgegaaDoorU69
namespace Go.Proofs.YtakohhlmomgegaaDoor
set_option linter.unusedVariables false
open Go.RowKit
theorem phaseOf_int (x y : Int) (w : World) (hx : -100000000000 ≤ x ∧ x ≤ 100000000000) (hy : -100000000000 ≤ y ∧ y ≤ 100000000000) (h : ¬ (x = 0 ∧ y = 0)) :
    Calls Tryd.prog 28 #[.complex .f64 (f64I x) (f64I y)] w fun e w' => e = .returned (.tuple #[.int .i64 (phaseP x y), .int .i64 0]) ∧ Below w.heap.size w w' := by
  obtain ⟨a1, a2⟩ := intD_of (f64I_num (n := x) (by omega))
  obtain ⟨b1, b2⟩ := intD_of (f64I_num (n := y) (by omega))
  have hp : partD (f64I x) (f64I y) 100000000000 = 0 := by
    unfold partD inE
    rw [a1, b1, a2, b2, if_pos (show (true && true) = true from rfl), if_pos]
    simp only [Bool.and_eq_true, decide_eq_true_eq]
    omega
  have he : phE (f64I x) (f64I y) = 0 := by
    unfold phE
    rw [if_pos hp, a2, b2, if_neg h]
  refine PhaseOf_any _ _ w (f64I_lt x) (f64I_lt y) ?_ he
  unfold phV
  rw [if_pos he, a2, b2]
theorem phase_low_eq {x y : Int} (h0 : 0 ≤ y) (h1 : y ≤ x) : phaseP x y = lowP x y := by
  have := (lowP_bd x y).2
  have e : phP x y = lowP x y := by
    unfold phP upP quadP
    rw [if_neg (by omega), if_neg (by omega), if_neg (by omega)]
  unfold phaseP
  rw [e, if_pos (by omega)]
set_option maxRecDepth 20000 in
set_option maxHeartbeats 8000000 in
theorem turns_any (x y : Int) (w : World) (ht : Tab w) : Calls Tryd.prog 9 #[.int .i64 x, .int .i64 y] w fun e w' => e = .returned (.bool true) ∧ Below w.heap.size w w' := by
  have HT := Lib.hid ht
  clear ht
  by_cases hx : -10000000000 ≤ x ∧ x ≤ 10000000000
  · have HW1 := Lib.hid (fun w => bWithin x (-10000000000) 10000000000 w (c := true) (by unfold inE; simp; omega))
    by_cases hy : -10000000000 ≤ y ∧ y ≤ 10000000000
    · have HW2 := Lib.hid (fun w => bWithin y (-10000000000) 10000000000 w (c := true) (by unfold inE; simp; omega))
      obtain ⟨x1, x2⟩ := hx
      obtain ⟨y1, y2⟩ := hy
      by_cases h0 : x = 0 ∧ y = 0
      · obtain ⟨rfl, rfl⟩ := h0
        go_enter Tryd.func9, Tryd.ntmps9
        go_wp2_with (first | (go_at_call 17; (with_reducible refine (awake_any _ (HT.out.below (by (repeat' (first | with_reducible exact Below.refl _ _ | (with_reducible refine below_later_of ?_ ?_ _) | (with_reducible refine Below.alloc ?_ ?_ _) | (with_reducible refine Below.setCell ?_ ?_ _) | (with_reducible refine Below.drew ?_) | (simp; done) | (simp; omega) | omega))))).mono ?_); rintro e w' ⟨rfl, hb⟩; obtain ⟨pp, rfl⟩ := later_of_below hb; clear hb) | (go_at_call 30; (with_reducible refine (HW1.out _).mono ?_); rintro e w' ⟨rfl, rfl⟩) | (go_at_call 30; (with_reducible refine (HW2.out _).mono ?_); rintro e w' ⟨rfl, rfl⟩))
        all_goals
          go_ret
          exact ⟨rfl, (by (repeat' (first | with_reducible exact Below.refl _ _ | (with_reducible refine below_later_of ?_ ?_ _) | (with_reducible refine Below.alloc ?_ ?_ _) | (with_reducible refine Below.setCell ?_ ?_ _) | (with_reducible refine Below.drew ?_) | (simp; done) | (simp; omega) | omega)))⟩
      · have hz : ((x == 0) && (y == 0)) = false := by simpa using h0
        have HS1 := Lib.hid (fun w => bSum x y w)
        have HS2 := Lib.hid (fun w => bSum x (-y) w)
        have HS3 := Lib.hid (fun w => bSum (-y) x w)
        have HS4 := Lib.hid (fun w => bSum (2 * x) (2 * y) w)
        have HP1 := Lib.hid (fun w => phaseOf_int x y w (by omega) (by omega) h0)
        have HP2 := Lib.hid (fun w => phaseOf_int x (-y) w (by omega) (by omega) (by omega))
        have HP3 := Lib.hid (fun w => phaseOf_int (-y) x w (by omega) (by omega) (by omega))
        have HP4 := Lib.hid (fun w => phaseOf_int (2 * x) (2 * y) w (by omega) (by omega) (by omega))
        rw [phase_conj x y h0] at HP2
        rw [phase_turn x y h0] at HP3
        rw [phase_twice] at HP4
        obtain ⟨n1, n2⟩ := phaseP_bd x y
        have HBE := Lib.hid (fun (c : 0 ≤ y ∧ y ≤ x) => And.intro (phase_low_eq c.1 c.2) (And.intro (lowP_bd x y) (between c.1 c.2 (show 1 ≤ x by omega))))
        obtain ⟨n, hn⟩ : ∃ n, phaseP x y = n := ⟨_, rfl⟩
        rw [hn] at HP1 HP2 HP3 HP4 n1 n2 HBE
        have HW3 := Lib.hid (fun w => bWithin n (-2048) 2047 w (c := true) (by unfold inE; simp; omega))
        have HR1 := Lib.hid (fun w => bWrap (-n) w (by omega) (by omega) (v := wrapP (-n)) rfl)
        have HR2 := Lib.hid (fun w => bWrap (n + 1024) w (by omega) (by omega) (v := wrapP (n + 1024)) rfl)
        have zc : ((x == 0) = true ∧ (y == 0) = false) ∨ (x == 0) = false := by
          by_cases k : x = 0
          · exact Or.inl ⟨by simpa using k, by simpa using fun k2 => h0 ⟨k, k2⟩⟩
          · exact Or.inr (by simpa using k)
        clear hz
        generalize wrapP (-n) = a at HP2 HR1
        generalize wrapP (n + 1024) = b at HP3 HR2
        have da : (a != a) = false := by simp
        have db : (b != b) = false := by simp
        have dn : (n != n) = false := by simp
        generalize f64I x = fx at HS1 HS2 HS3 HP1 HP2 HP3
        generalize f64I y = fy at HS1 HP1
        generalize f64I (-y) = fz at HS2 HS3 HP2 HP3
        generalize f64I (2 * x) = fu at HS4 HP4
        generalize f64I (2 * y) = fv at HS4 HP4
        clear hn h0
        by_cases c : 0 ≤ y ∧ y ≤ x
        · obtain ⟨rfl, ⟨l1, l2⟩, e1, e2⟩ := HBE.out c
          obtain ⟨c1, c2⟩ := c
          have dy : decide (y < 0) = false := by simp; omega
          have dxy : decide (x < y) = false := by simp; omega
          have HDD := Lib.hid (fun m (h : 0 ≤ m ∧ m ≤ 1024) => And.intro (dir_facts m h.1 h.2) (fun w => direction_ok m w h.1 h.2))
          generalize lowP x y = n at *
          clear HBE
          by_cases k0 : n = 0
          · have dn0 : decide ((0 : Int) < n) = false := by simp; omega
            have dn1 : decide (n < 512) = true := by simp; omega
            obtain ⟨⟨⟨f1, f2⟩, ⟨f3, f4⟩, -, -⟩, hd2⟩ := HDD.out (2 * n + 1) (by omega)
            have HD2 := Lib.hid hd2
            have e3 := e2 (by omega)
            generalize (dirP (2 * n + 1)).1 = p at HD2 e3 f1 f2
            generalize (dirP (2 * n + 1)).2 = q at HD2 e3 f3 f4
            obtain ⟨g1, g2⟩ := way_mul (a := p) (x := y) (by omega) f2 c1 (by omega)
            obtain ⟨g3, g4⟩ := way_mul (a := q) (x := x) f3 f4 (by omega) (by omega)
            have de : decide (q * x ≤ p * y) = false := by simp; omega
            clear HDD e1 e2 hd2 k0
            rcases zc with ⟨zx, zy⟩ | zx
            all_goals
              go_enter Tryd.func9, Tryd.ntmps9
              go_wp2_with (first | (go_at_call 17; (with_reducible refine (awake_any _ (HT.out.below (by (repeat' (first | with_reducible exact Below.refl _ _ | (with_reducible refine below_later_of ?_ ?_ _) | (with_reducible refine Below.alloc ?_ ?_ _) | (with_reducible refine Below.setCell ?_ ?_ _) | (with_reducible refine Below.drew ?_) | (simp; done) | (simp; omega) | omega))))).mono ?_); rintro e w' ⟨rfl, hb⟩; obtain ⟨pp, rfl⟩ := later_of_below hb; clear hb) | (go_at_call 30; (with_reducible refine (HW1.out _).mono ?_); rintro e w' ⟨rfl, rfl⟩) | (go_at_call 30; (with_reducible refine (HW2.out _).mono ?_); rintro e w' ⟨rfl, rfl⟩) | (go_at_call 30; (with_reducible refine (HW3.out _).mono ?_); rintro e w' ⟨rfl, rfl⟩) | (go_at_call 42; (with_reducible refine (HS1.out _).mono ?_); rintro e w' ⟨rfl, rfl⟩) | (go_at_call 42; (with_reducible refine (HS2.out _).mono ?_); rintro e w' ⟨rfl, rfl⟩) | (go_at_call 42; (with_reducible refine (HS3.out _).mono ?_); rintro e w' ⟨rfl, rfl⟩) | (go_at_call 42; (with_reducible refine (HS4.out _).mono ?_); rintro e w' ⟨rfl, rfl⟩) | (go_at_call 28; (with_reducible refine (HP1.out _).mono ?_); rintro e w' ⟨rfl, hb⟩; obtain ⟨pq, rfl⟩ := later_of_below hb; clear hb) | (go_at_call 28; (with_reducible refine (HP2.out _).mono ?_); rintro e w' ⟨rfl, hb⟩; obtain ⟨pq, rfl⟩ := later_of_below hb; clear hb) | (go_at_call 28; (with_reducible refine (HP3.out _).mono ?_); rintro e w' ⟨rfl, hb⟩; obtain ⟨pq, rfl⟩ := later_of_below hb; clear hb) | (go_at_call 28; (with_reducible refine (HP4.out _).mono ?_); rintro e w' ⟨rfl, hb⟩; obtain ⟨pq, rfl⟩ := later_of_below hb; clear hb) | (go_at_call 45; (with_reducible refine (HR1.out _).mono ?_); rintro e w' ⟨rfl, rfl⟩) | (go_at_call 45; (with_reducible refine (HR2.out _).mono ?_); rintro e w' ⟨rfl, rfl⟩) | (go_at_call 43; (with_reducible refine (HD2.out _).mono ?_); rintro e w' ⟨rfl, hb⟩; obtain ⟨pq, rfl⟩ := later_of_below hb; clear hb))
              all_goals
                go_ret
                exact ⟨rfl, (by (repeat' (first | with_reducible exact Below.refl _ _ | (with_reducible refine below_later_of ?_ ?_ _) | (with_reducible refine Below.alloc ?_ ?_ _) | (with_reducible refine Below.setCell ?_ ?_ _) | (with_reducible refine Below.drew ?_) | (simp; done) | (simp; omega) | omega)))⟩
          · obtain ⟨⟨⟨f1, f2⟩, ⟨f3, f4⟩, -, -⟩, hd1⟩ := HDD.out (2 * n - 1) (by omega)
            have HD1 := Lib.hid hd1
            have e3 := e1 (by omega)
            have dn0 : decide ((0 : Int) < n) = true := by simp; omega
            generalize (dirP (2 * n - 1)).1 = p at HD1 e3 f1 f2
            generalize (dirP (2 * n - 1)).2 = q at HD1 e3 f3 f4
            obtain ⟨g1, g2⟩ := way_mul (a := p) (x := y) (by omega) f2 c1 (by omega)
            obtain ⟨g3, g4⟩ := way_mul (a := q) (x := x) f3 f4 (by omega) (by omega)
            have de : decide (p * y < q * x) = false := by simp; omega
            by_cases k1 : n < 512
            · obtain ⟨⟨⟨f5, f6⟩, ⟨f7, f8⟩, -, -⟩, hd2⟩ := HDD.out (2 * n + 1) (by omega)
              have HD2 := Lib.hid hd2
              have e4 := e2 k1
              have dn1 : decide (n < 512) = true := by simpa using k1
              generalize (dirP (2 * n + 1)).1 = r at HD2 e4 f5 f6
              generalize (dirP (2 * n + 1)).2 = s at HD2 e4 f7 f8
              obtain ⟨g5, g6⟩ := way_mul (a := r) (x := y) (by omega) f6 c1 (by omega)
              obtain ⟨g7, g8⟩ := way_mul (a := s) (x := x) f7 f8 (by omega) (by omega)
              have de2 : decide (s * x ≤ r * y) = false := by simp; omega
              clear HDD e1 e2 hd1 hd2 e3 e4
              rcases zc with ⟨zx, zy⟩ | zx
              all_goals
                go_enter Tryd.func9, Tryd.ntmps9
                go_wp2_with (first | (go_at_call 17; (with_reducible refine (awake_any _ (HT.out.below (by (repeat' (first | with_reducible exact Below.refl _ _ | (with_reducible refine below_later_of ?_ ?_ _) | (with_reducible refine Below.alloc ?_ ?_ _) | (with_reducible refine Below.setCell ?_ ?_ _) | (with_reducible refine Below.drew ?_) | (simp; done) | (simp; omega) | omega))))).mono ?_); rintro e w' ⟨rfl, hb⟩; obtain ⟨pp, rfl⟩ := later_of_below hb; clear hb) | (go_at_call 30; (with_reducible refine (HW1.out _).mono ?_); rintro e w' ⟨rfl, rfl⟩) | (go_at_call 30; (with_reducible refine (HW2.out _).mono ?_); rintro e w' ⟨rfl, rfl⟩) | (go_at_call 30; (with_reducible refine (HW3.out _).mono ?_); rintro e w' ⟨rfl, rfl⟩) | (go_at_call 42; (with_reducible refine (HS1.out _).mono ?_); rintro e w' ⟨rfl, rfl⟩) | (go_at_call 42; (with_reducible refine (HS2.out _).mono ?_); rintro e w' ⟨rfl, rfl⟩) | (go_at_call 42; (with_reducible refine (HS3.out _).mono ?_); rintro e w' ⟨rfl, rfl⟩) | (go_at_call 42; (with_reducible refine (HS4.out _).mono ?_); rintro e w' ⟨rfl, rfl⟩) | (go_at_call 28; (with_reducible refine (HP1.out _).mono ?_); rintro e w' ⟨rfl, hb⟩; obtain ⟨pq, rfl⟩ := later_of_below hb; clear hb) | (go_at_call 28; (with_reducible refine (HP2.out _).mono ?_); rintro e w' ⟨rfl, hb⟩; obtain ⟨pq, rfl⟩ := later_of_below hb; clear hb) | (go_at_call 28; (with_reducible refine (HP3.out _).mono ?_); rintro e w' ⟨rfl, hb⟩; obtain ⟨pq, rfl⟩ := later_of_below hb; clear hb) | (go_at_call 28; (with_reducible refine (HP4.out _).mono ?_); rintro e w' ⟨rfl, hb⟩; obtain ⟨pq, rfl⟩ := later_of_below hb; clear hb) | (go_at_call 45; (with_reducible refine (HR1.out _).mono ?_); rintro e w' ⟨rfl, rfl⟩) | (go_at_call 45; (with_reducible refine (HR2.out _).mono ?_); rintro e w' ⟨rfl, rfl⟩) | (go_at_call 43; (with_reducible refine (HD1.out _).mono ?_); rintro e w' ⟨rfl, hb⟩; obtain ⟨pq, rfl⟩ := later_of_below hb; clear hb) | (go_at_call 43; (with_reducible refine (HD2.out _).mono ?_); rintro e w' ⟨rfl, hb⟩; obtain ⟨pq, rfl⟩ := later_of_below hb; clear hb))
                all_goals
                  go_ret
                  exact ⟨rfl, (by (repeat' (first | with_reducible exact Below.refl _ _ | (with_reducible refine below_later_of ?_ ?_ _) | (with_reducible refine Below.alloc ?_ ?_ _) | (with_reducible refine Below.setCell ?_ ?_ _) | (with_reducible refine Below.drew ?_) | (simp; done) | (simp; omega) | omega)))⟩
            · have dn1 : decide (n < 512) = false := by simpa using k1
              clear HDD e1 e2 hd1 e3
              rcases zc with ⟨zx, zy⟩ | zx
              all_goals
                go_enter Tryd.func9, Tryd.ntmps9
                go_wp2_with (first | (go_at_call 17; (with_reducible refine (awake_any _ (HT.out.below (by (repeat' (first | with_reducible exact Below.refl _ _ | (with_reducible refine below_later_of ?_ ?_ _) | (with_reducible refine Below.alloc ?_ ?_ _) | (with_reducible refine Below.setCell ?_ ?_ _) | (with_reducible refine Below.drew ?_) | (simp; done) | (simp; omega) | omega))))).mono ?_); rintro e w' ⟨rfl, hb⟩; obtain ⟨pp, rfl⟩ := later_of_below hb; clear hb) | (go_at_call 30; (with_reducible refine (HW1.out _).mono ?_); rintro e w' ⟨rfl, rfl⟩) | (go_at_call 30; (with_reducible refine (HW2.out _).mono ?_); rintro e w' ⟨rfl, rfl⟩) | (go_at_call 30; (with_reducible refine (HW3.out _).mono ?_); rintro e w' ⟨rfl, rfl⟩) | (go_at_call 42; (with_reducible refine (HS1.out _).mono ?_); rintro e w' ⟨rfl, rfl⟩) | (go_at_call 42; (with_reducible refine (HS2.out _).mono ?_); rintro e w' ⟨rfl, rfl⟩) | (go_at_call 42; (with_reducible refine (HS3.out _).mono ?_); rintro e w' ⟨rfl, rfl⟩) | (go_at_call 42; (with_reducible refine (HS4.out _).mono ?_); rintro e w' ⟨rfl, rfl⟩) | (go_at_call 28; (with_reducible refine (HP1.out _).mono ?_); rintro e w' ⟨rfl, hb⟩; obtain ⟨pq, rfl⟩ := later_of_below hb; clear hb) | (go_at_call 28; (with_reducible refine (HP2.out _).mono ?_); rintro e w' ⟨rfl, hb⟩; obtain ⟨pq, rfl⟩ := later_of_below hb; clear hb) | (go_at_call 28; (with_reducible refine (HP3.out _).mono ?_); rintro e w' ⟨rfl, hb⟩; obtain ⟨pq, rfl⟩ := later_of_below hb; clear hb) | (go_at_call 28; (with_reducible refine (HP4.out _).mono ?_); rintro e w' ⟨rfl, hb⟩; obtain ⟨pq, rfl⟩ := later_of_below hb; clear hb) | (go_at_call 45; (with_reducible refine (HR1.out _).mono ?_); rintro e w' ⟨rfl, rfl⟩) | (go_at_call 45; (with_reducible refine (HR2.out _).mono ?_); rintro e w' ⟨rfl, rfl⟩) | (go_at_call 43; (with_reducible refine (HD1.out _).mono ?_); rintro e w' ⟨rfl, hb⟩; obtain ⟨pq, rfl⟩ := later_of_below hb; clear hb))
                all_goals
                  go_ret
                  exact ⟨rfl, (by (repeat' (first | with_reducible exact Below.refl _ _ | (with_reducible refine below_later_of ?_ ?_ _) | (with_reducible refine Below.alloc ?_ ?_ _) | (with_reducible refine Below.setCell ?_ ?_ _) | (with_reducible refine Below.drew ?_) | (simp; done) | (simp; omega) | omega)))⟩
        · clear HBE
          by_cases c1 : y < 0
          · have dy : decide (y < 0) = true := by simpa using c1
            clear c
            rcases zc with ⟨zx, zy⟩ | zx
            all_goals
              go_enter Tryd.func9, Tryd.ntmps9
              go_wp2_with (first | (go_at_call 17; (with_reducible refine (awake_any _ (HT.out.below (by (repeat' (first | with_reducible exact Below.refl _ _ | (with_reducible refine below_later_of ?_ ?_ _) | (with_reducible refine Below.alloc ?_ ?_ _) | (with_reducible refine Below.setCell ?_ ?_ _) | (with_reducible refine Below.drew ?_) | (simp; done) | (simp; omega) | omega))))).mono ?_); rintro e w' ⟨rfl, hb⟩; obtain ⟨pp, rfl⟩ := later_of_below hb; clear hb) | (go_at_call 30; (with_reducible refine (HW1.out _).mono ?_); rintro e w' ⟨rfl, rfl⟩) | (go_at_call 30; (with_reducible refine (HW2.out _).mono ?_); rintro e w' ⟨rfl, rfl⟩) | (go_at_call 30; (with_reducible refine (HW3.out _).mono ?_); rintro e w' ⟨rfl, rfl⟩) | (go_at_call 42; (with_reducible refine (HS1.out _).mono ?_); rintro e w' ⟨rfl, rfl⟩) | (go_at_call 42; (with_reducible refine (HS2.out _).mono ?_); rintro e w' ⟨rfl, rfl⟩) | (go_at_call 42; (with_reducible refine (HS3.out _).mono ?_); rintro e w' ⟨rfl, rfl⟩) | (go_at_call 42; (with_reducible refine (HS4.out _).mono ?_); rintro e w' ⟨rfl, rfl⟩) | (go_at_call 28; (with_reducible refine (HP1.out _).mono ?_); rintro e w' ⟨rfl, hb⟩; obtain ⟨pq, rfl⟩ := later_of_below hb; clear hb) | (go_at_call 28; (with_reducible refine (HP2.out _).mono ?_); rintro e w' ⟨rfl, hb⟩; obtain ⟨pq, rfl⟩ := later_of_below hb; clear hb) | (go_at_call 28; (with_reducible refine (HP3.out _).mono ?_); rintro e w' ⟨rfl, hb⟩; obtain ⟨pq, rfl⟩ := later_of_below hb; clear hb) | (go_at_call 28; (with_reducible refine (HP4.out _).mono ?_); rintro e w' ⟨rfl, hb⟩; obtain ⟨pq, rfl⟩ := later_of_below hb; clear hb) | (go_at_call 45; (with_reducible refine (HR1.out _).mono ?_); rintro e w' ⟨rfl, rfl⟩) | (go_at_call 45; (with_reducible refine (HR2.out _).mono ?_); rintro e w' ⟨rfl, rfl⟩))
              all_goals
                go_ret
                exact ⟨rfl, (by (repeat' (first | with_reducible exact Below.refl _ _ | (with_reducible refine below_later_of ?_ ?_ _) | (with_reducible refine Below.alloc ?_ ?_ _) | (with_reducible refine Below.setCell ?_ ?_ _) | (with_reducible refine Below.drew ?_) | (simp; done) | (simp; omega) | omega)))⟩
          · have dy : decide (y < 0) = false := by simpa using c1
            have dxy : decide (x < y) = true := by simp; omega
            clear c c1
            rcases zc with ⟨zx, zy⟩ | zx
            all_goals
              go_enter Tryd.func9, Tryd.ntmps9
              go_wp2_with (first | (go_at_call 17; (with_reducible refine (awake_any _ (HT.out.below (by (repeat' (first | with_reducible exact Below.refl _ _ | (with_reducible refine below_later_of ?_ ?_ _) | (with_reducible refine Below.alloc ?_ ?_ _) | (with_reducible refine Below.setCell ?_ ?_ _) | (with_reducible refine Below.drew ?_) | (simp; done) | (simp; omega) | omega))))).mono ?_); rintro e w' ⟨rfl, hb⟩; obtain ⟨pp, rfl⟩ := later_of_below hb; clear hb) | (go_at_call 30; (with_reducible refine (HW1.out _).mono ?_); rintro e w' ⟨rfl, rfl⟩) | (go_at_call 30; (with_reducible refine (HW2.out _).mono ?_); rintro e w' ⟨rfl, rfl⟩) | (go_at_call 30; (with_reducible refine (HW3.out _).mono ?_); rintro e w' ⟨rfl, rfl⟩) | (go_at_call 42; (with_reducible refine (HS1.out _).mono ?_); rintro e w' ⟨rfl, rfl⟩) | (go_at_call 42; (with_reducible refine (HS2.out _).mono ?_); rintro e w' ⟨rfl, rfl⟩) | (go_at_call 42; (with_reducible refine (HS3.out _).mono ?_); rintro e w' ⟨rfl, rfl⟩) | (go_at_call 42; (with_reducible refine (HS4.out _).mono ?_); rintro e w' ⟨rfl, rfl⟩) | (go_at_call 28; (with_reducible refine (HP1.out _).mono ?_); rintro e w' ⟨rfl, hb⟩; obtain ⟨pq, rfl⟩ := later_of_below hb; clear hb) | (go_at_call 28; (with_reducible refine (HP2.out _).mono ?_); rintro e w' ⟨rfl, hb⟩; obtain ⟨pq, rfl⟩ := later_of_below hb; clear hb) | (go_at_call 28; (with_reducible refine (HP3.out _).mono ?_); rintro e w' ⟨rfl, hb⟩; obtain ⟨pq, rfl⟩ := later_of_below hb; clear hb) | (go_at_call 28; (with_reducible refine (HP4.out _).mono ?_); rintro e w' ⟨rfl, hb⟩; obtain ⟨pq, rfl⟩ := later_of_below hb; clear hb) | (go_at_call 45; (with_reducible refine (HR1.out _).mono ?_); rintro e w' ⟨rfl, rfl⟩) | (go_at_call 45; (with_reducible refine (HR2.out _).mono ?_); rintro e w' ⟨rfl, rfl⟩))
              all_goals
                go_ret
                exact ⟨rfl, (by (repeat' (first | with_reducible exact Below.refl _ _ | (with_reducible refine below_later_of ?_ ?_ _) | (with_reducible refine Below.alloc ?_ ?_ _) | (with_reducible refine Below.setCell ?_ ?_ _) | (with_reducible refine Below.drew ?_) | (simp; done) | (simp; omega) | omega)))⟩
    · have HW2 := Lib.hid (fun w => bWithin y (-10000000000) 10000000000 w (c := false) (by unfold inE; simp; omega))
      clear hx hy
      go_enter Tryd.func9, Tryd.ntmps9
      go_wp2_with (first | (go_at_call 17; (with_reducible refine (awake_any _ (HT.out.below (by (repeat' (first | with_reducible exact Below.refl _ _ | (with_reducible refine below_later_of ?_ ?_ _) | (with_reducible refine Below.alloc ?_ ?_ _) | (with_reducible refine Below.setCell ?_ ?_ _) | (with_reducible refine Below.drew ?_) | (simp; done) | (simp; omega) | omega))))).mono ?_); rintro e w' ⟨rfl, hb⟩; obtain ⟨pp, rfl⟩ := later_of_below hb; clear hb) | (go_at_call 30; (with_reducible refine (HW1.out _).mono ?_); rintro e w' ⟨rfl, rfl⟩) | (go_at_call 30; (with_reducible refine (HW2.out _).mono ?_); rintro e w' ⟨rfl, rfl⟩))
      all_goals
        go_ret
        exact ⟨rfl, (by (repeat' (first | with_reducible exact Below.refl _ _ | (with_reducible refine below_later_of ?_ ?_ _) | (with_reducible refine Below.alloc ?_ ?_ _) | (with_reducible refine Below.setCell ?_ ?_ _) | (with_reducible refine Below.drew ?_) | (simp; done) | (simp; omega) | omega)))⟩
  · have HW1 := Lib.hid (fun w => bWithin x (-10000000000) 10000000000 w (c := false) (by unfold inE; simp; omega))
    clear hx
    go_enter Tryd.func9, Tryd.ntmps9
    go_wp2_with (first | (go_at_call 17; (with_reducible refine (awake_any _ (HT.out.below (by (repeat' (first | with_reducible exact Below.refl _ _ | (with_reducible refine below_later_of ?_ ?_ _) | (with_reducible refine Below.alloc ?_ ?_ _) | (with_reducible refine Below.setCell ?_ ?_ _) | (with_reducible refine Below.drew ?_) | (simp; done) | (simp; omega) | omega))))).mono ?_); rintro e w' ⟨rfl, hb⟩; obtain ⟨pp, rfl⟩ := later_of_below hb; clear hb) | (go_at_call 30; (with_reducible refine (HW1.out _).mono ?_); rintro e w' ⟨rfl, rfl⟩))
    all_goals
      go_ret
      exact ⟨rfl, (by (repeat' (first | with_reducible exact Below.refl _ _ | (with_reducible refine below_later_of ?_ ?_ _) | (with_reducible refine Below.alloc ?_ ?_ _) | (with_reducible refine Below.setCell ?_ ?_ _) | (with_reducible refine Below.drew ?_) | (simp; done) | (simp; omega) | omega)))⟩
end Go.Proofs.YtakohhlmomgegaaDoor
