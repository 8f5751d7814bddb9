/- Polygons: the program's inside, and Inside. -/
import Derived.Test.YtokpdmlmlkkekaaY6
namespace Go.Proofs.Ytokpdmlmlkkekaa
set_option linter.unusedVariables false
open Go.RowKit
theorem nonpos_of_neg_mul {u v w : Int} (h : u * v = w * w) (hv : v < 0) : u ≤ 0 := by
  refine Int.not_lt.1 fun hu => ?_
  have := Int.mul_neg_of_pos_of_neg hu hv
  have := sq_nonneg' w
  omega
/-- A place on the line of a side between its heights lies on it. -/
theorem cross_ne {s : Sd} {x y : Int} (hn : hasP s x y = false) (hq : (y < s.y1 ∧ s.y2 ≤ y) ∨ (s.y1 ≤ y ∧ y < s.y2)) : crossP s x y ≠ 0 := by
  intro h0
  have hd : dotP s x y ≤ 0 := by
    have hl : (s.x1 - x) * (s.y2 - y) = (s.y1 - y) * (s.x2 - x) := by unfold crossP at h0; grind
    have hm : ((s.x1 - x) * (s.x2 - x)) * ((s.y1 - y) * (s.y2 - y)) = ((s.x1 - x) * (s.y2 - y)) * ((s.x1 - x) * (s.y2 - y)) := by grind
    unfold dotP
    rcases hq with ⟨q1, q2⟩ | ⟨q1, q2⟩
    · by_cases e : s.y2 = y
      · have z : s.x2 - x = 0 := by
          have : (s.y1 - y) * (s.x2 - x) = 0 := by rw [← hl, e]; simp
          rcases Int.mul_eq_zero.1 this with h | h
          · omega
          · exact h
        rw [z, e]; simp
      · have hv : (s.y1 - y) * (s.y2 - y) < 0 := Int.mul_neg_of_pos_of_neg (by omega) (by omega)
        have := nonpos_of_neg_mul hm hv
        omega
    · by_cases e : s.y1 = y
      · have z : s.x1 - x = 0 := by
          have : (s.x1 - x) * (s.y2 - y) = 0 := by rw [hl, e]; simp
          rcases Int.mul_eq_zero.1 this with h | h
          · exact h
          · omega
        rw [z, e]; simp
      · have hv : (s.y1 - y) * (s.y2 - y) < 0 := by rw [Int.mul_comm]; exact Int.mul_neg_of_pos_of_neg (by omega) (by omega)
        have := nonpos_of_neg_mul hm hv
        omega
  unfold hasP turnP at hn
  rw [sgnP_zero.2 h0, decide_eq_true hd] at hn
  cases hn
set_option maxRecDepth 20000 in
set_option maxHeartbeats 4000000 in
theorem inside_any (ps : List Plc) (m : Int) (g c : Nat) (x y : Int) (w : World) (hn2 : ps.length ≤ 1000) (hfit : ∀ k, k < ps.length → (sideAt ps m k).Fit) (hx : Mid x) (hy : Mid y) (hg : g < w.heap.size) (hsd : Sides w g ps m ps.length) {r : Bool} (hr : insB (sideAt ps m) ps.length x y = r) :
    Calls Try.prog 118 #[.slice (some ⟨g, 0, none⟩) ps.length c, .agg #[.int .i64 x, .int .i64 y]] w fun e w' => e = .returned (.bool r) ∧ Below w.heap.size w w' := by
  subst hr
  have HFT := Lib.hid hfit
  have HSS := Lib.hid hsd
  have HX2 := Lib.hid hx
  have HY2 := Lib.hid hy
  clear hfit hsd hx hy
  go_enter Try.func118, Try.ntmps118
  go_wp2
  refine wp_world3 (fun W => (W.cell? ⟨w.heap.size, 0, none⟩ = some (.int .i64 x) ∧ W.cell? ⟨w.heap.size, 1, none⟩ = some (.int .i64 y)) ∧ Below w.heap.size w W ∧ w.heap.size < W.heap.size) ⟨⟨(by (first | (simp [go_sem]; done) | simp [go_sem, ↓IntWalk.iteOmega])), (by (first | (simp [go_sem]; done) | simp [go_sem, ↓IntWalk.iteOmega]))⟩, (by (repeat' (first | with_reducible exact Below.refl _ _ | (with_reducible refine below_later_of ?_ ?_ _) | (with_reducible refine Below.alloc ?_ ?_ _) | (with_reducible refine Below.setCell ?_ ?_ _) | (with_reducible refine Below.drew ?_) | (simp; done) | (simp; omega) | omega))), by (simp <;> omega)⟩ ?_
  rintro W2 ⟨cc, hb, hs2⟩
  have CC := Lib.hid cc
  have HB2 := Lib.hid hb
  clear cc hb
  go_loopw [5, 11] (fun s i wr => ∃ k : Nat, k ≤ ps.length ∧ i = .int .i64 k ∧ s = .bool (parB (sideAt ps m) x y k) ∧ Below W2.heap.size W2 wr ∧ ∀ j, j < k → hasP (sideAt ps m j) x y = false) (fun _ i _ => ps.length - (intOf i).toNat)
  case atStart => exact ⟨0, Nat.zero_le _, rfl, rfl, Below.refl _ _, fun j hj => by omega⟩
  case round =>
    obtain ⟨k, hk, rfl, rfl, hnx, hz⟩ := hrel
    have HZ := Lib.hid hz
    have HX := Lib.hid hnx
    have hsz := hnx.size
    have hgr : g < wr.heap.size := by have := HB2.out.size; omega
    clear hz
    by_cases hlt : k < ps.length
    · obtain ⟨d1, d2, d3, d4⟩ := (HSS.out.below hg (HB2.out.trans (hnx.mono (by omega)))) k hlt
      obtain ⟨c1, c2⟩ := CC.out
      have c1 := (hnx.cell (p := ⟨w.heap.size, 0, none⟩) hs2).trans c1
      have c2 := (hnx.cell (p := ⟨w.heap.size, 1, none⟩) hs2).trans c2
      have HF := Lib.hid (HFT.out k hlt)
      have HB0 := Lib.hid (show flipP (sideAt ps m k) x y = true → parB (sideAt ps m) x y (k + 1) = !parB (sideAt ps m) x y k from fun h => flip_yes h)
      have HB1 := Lib.hid (show flipP (sideAt ps m k) x y = false → parB (sideAt ps m) x y (k + 1) = parB (sideAt ps m) x y k from fun h => flip_no h)
      have HIN := Lib.hid (show hasP (sideAt ps m k) x y = true → insB (sideAt ps m) ps.length x y = true from fun h => insB_has hlt h)
      generalize hsd : sideAt ps m k = s at *
      have HSD := Lib.hid hsd
      generalize parB (sideAt ps m) x y k = pr at *
      clear hnx hsd
      rcases bool_two (hasP s x y) with hh | hh
      · have HN := Lib.hid hh
        obtain ⟨cr, hcr⟩ : ∃ cr, crossP s x y = cr := ⟨_, rfl⟩
        have HFL := Lib.hid (show flipP s x y = ((decide (y < s.y1) != decide (y < s.y2)) && (decide (0 < cr) == decide (s.y1 < s.y2))) by unfold flipP; rw [hcr])
        by_cases q1 : y < s.y1
        · by_cases q2 : y < s.y2
          · have HB := Lib.hid (HB1.out (by rw [HFL.out, decide_eq_true q1, decide_eq_true q2]; rfl))
            clear hh hcr
            go_wp2_with (first | (go_at_call 125; (with_reducible refine (has_any s x y _ HF.out HX2.out HY2.out HN.out).mono ?_); rintro e w' ⟨rfl, hb⟩; obtain ⟨pp, rfl⟩ := later_of_below hb; clear hb))
            (go_roundw; (case rel => exact ⟨k + 1, by omega, by go_num, by rw [HB.out], HX.out.trans (below_mono_of hsz (by (repeat' (first | with_reducible exact Below.refl _ _ | (with_reducible refine below_later_of ?_ ?_ _) | (with_reducible refine Below.alloc ?_ ?_ _) | (with_reducible refine Below.setCell ?_ ?_ _) | (with_reducible refine Below.drew ?_) | (simp; done) | (simp; omega) | omega)))), fun j hj => if e : j = k then (by rw [e, HSD.out]; exact HN.out) else HZ.out j (by omega)⟩); (case measure => simp [intOf]; omega))
          · have q2' : decide (y < s.y2) = false := by simpa using q2
            have q3' : decide (s.y1 < s.y2) = false := by simp; omega
            have q5 : s.y2 < s.y1 := by omega
            have hne := cross_ne hh (Or.inl ⟨q1, by omega⟩)
            rw [hcr] at hne
            by_cases q4 : 0 < cr
            · have HB := Lib.hid (HB1.out (by rw [HFL.out, decide_eq_true q1, q2', q3', decide_eq_true q4]; rfl))
              have HT := Lib.hid (show turnP s x y = 1 by unfold turnP sgnP; rw [hcr, if_pos q4])
              clear hh hcr hne
              go_wp2_with (first | (go_at_call 125; (with_reducible refine (has_any s x y _ HF.out HX2.out HY2.out HN.out).mono ?_); rintro e w' ⟨rfl, hb⟩; obtain ⟨pp, rfl⟩ := later_of_below hb; clear hb) | (go_at_call 145; (with_reducible refine (turn_any s x y _ HF.out HX2.out HY2.out HT.out).mono ?_); rintro e w' ⟨rfl, hb⟩; obtain ⟨pp, rfl⟩ := later_of_below hb; clear hb))
              (go_roundw; (case rel => exact ⟨k + 1, by omega, by go_num, by rw [HB.out], HX.out.trans (below_mono_of hsz (by (repeat' (first | with_reducible exact Below.refl _ _ | (with_reducible refine below_later_of ?_ ?_ _) | (with_reducible refine Below.alloc ?_ ?_ _) | (with_reducible refine Below.setCell ?_ ?_ _) | (with_reducible refine Below.drew ?_) | (simp; done) | (simp; omega) | omega)))), fun j hj => if e : j = k then (by rw [e, HSD.out]; exact HN.out) else HZ.out j (by omega)⟩); (case measure => simp [intOf]; omega))
            · have q4' : decide (0 < cr) = false := by simpa using q4
              have HB := Lib.hid (HB0.out (by rw [HFL.out, decide_eq_true q1, q2', q3', q4']; rfl))
              have HT := Lib.hid (show turnP s x y = -1 by unfold turnP sgnP; rw [hcr, if_neg q4, if_pos (by omega)])
              clear hh hcr hne
              go_wp2_with (first | (go_at_call 125; (with_reducible refine (has_any s x y _ HF.out HX2.out HY2.out HN.out).mono ?_); rintro e w' ⟨rfl, hb⟩; obtain ⟨pp, rfl⟩ := later_of_below hb; clear hb) | (go_at_call 145; (with_reducible refine (turn_any s x y _ HF.out HX2.out HY2.out HT.out).mono ?_); rintro e w' ⟨rfl, hb⟩; obtain ⟨pp, rfl⟩ := later_of_below hb; clear hb))
              (go_roundw; (case rel => exact ⟨k + 1, by omega, by go_num, by rw [HB.out], HX.out.trans (below_mono_of hsz (by (repeat' (first | with_reducible exact Below.refl _ _ | (with_reducible refine below_later_of ?_ ?_ _) | (with_reducible refine Below.alloc ?_ ?_ _) | (with_reducible refine Below.setCell ?_ ?_ _) | (with_reducible refine Below.drew ?_) | (simp; done) | (simp; omega) | omega)))), fun j hj => if e : j = k then (by rw [e, HSD.out]; exact HN.out) else HZ.out j (by omega)⟩); (case measure => simp [intOf]; omega))
        · have q1' : decide (y < s.y1) = false := by simpa using q1
          by_cases q2 : y < s.y2
          · have q3 : s.y1 < s.y2 := by omega
            have q5 : decide (s.y2 < s.y1) = false := by simp; omega
            have hne := cross_ne hh (Or.inr ⟨by omega, q2⟩)
            rw [hcr] at hne
            by_cases q4 : 0 < cr
            · have HB := Lib.hid (HB0.out (by rw [HFL.out, q1', decide_eq_true q2, decide_eq_true q3, decide_eq_true q4]; rfl))
              have HT := Lib.hid (show turnP s x y = 1 by unfold turnP sgnP; rw [hcr, if_pos q4])
              clear hh hcr hne
              go_wp2_with (first | (go_at_call 125; (with_reducible refine (has_any s x y _ HF.out HX2.out HY2.out HN.out).mono ?_); rintro e w' ⟨rfl, hb⟩; obtain ⟨pp, rfl⟩ := later_of_below hb; clear hb) | (go_at_call 145; (with_reducible refine (turn_any s x y _ HF.out HX2.out HY2.out HT.out).mono ?_); rintro e w' ⟨rfl, hb⟩; obtain ⟨pp, rfl⟩ := later_of_below hb; clear hb))
              (go_roundw; (case rel => exact ⟨k + 1, by omega, by go_num, by rw [HB.out], HX.out.trans (below_mono_of hsz (by (repeat' (first | with_reducible exact Below.refl _ _ | (with_reducible refine below_later_of ?_ ?_ _) | (with_reducible refine Below.alloc ?_ ?_ _) | (with_reducible refine Below.setCell ?_ ?_ _) | (with_reducible refine Below.drew ?_) | (simp; done) | (simp; omega) | omega)))), fun j hj => if e : j = k then (by rw [e, HSD.out]; exact HN.out) else HZ.out j (by omega)⟩); (case measure => simp [intOf]; omega))
            · have q4' : decide (0 < cr) = false := by simpa using q4
              have HB := Lib.hid (HB1.out (by rw [HFL.out, q1', decide_eq_true q2, decide_eq_true q3, q4']; rfl))
              have HT := Lib.hid (show turnP s x y = -1 by unfold turnP sgnP; rw [hcr, if_neg q4, if_pos (by omega)])
              clear hh hcr hne
              go_wp2_with (first | (go_at_call 125; (with_reducible refine (has_any s x y _ HF.out HX2.out HY2.out HN.out).mono ?_); rintro e w' ⟨rfl, hb⟩; obtain ⟨pp, rfl⟩ := later_of_below hb; clear hb) | (go_at_call 145; (with_reducible refine (turn_any s x y _ HF.out HX2.out HY2.out HT.out).mono ?_); rintro e w' ⟨rfl, hb⟩; obtain ⟨pp, rfl⟩ := later_of_below hb; clear hb))
              (go_roundw; (case rel => exact ⟨k + 1, by omega, by go_num, by rw [HB.out], HX.out.trans (below_mono_of hsz (by (repeat' (first | with_reducible exact Below.refl _ _ | (with_reducible refine below_later_of ?_ ?_ _) | (with_reducible refine Below.alloc ?_ ?_ _) | (with_reducible refine Below.setCell ?_ ?_ _) | (with_reducible refine Below.drew ?_) | (simp; done) | (simp; omega) | omega)))), fun j hj => if e : j = k then (by rw [e, HSD.out]; exact HN.out) else HZ.out j (by omega)⟩); (case measure => simp [intOf]; omega))
          · have q2' : decide (y < s.y2) = false := by simpa using q2
            have HB := Lib.hid (HB1.out (by rw [HFL.out, q1', q2']; rfl))
            clear hh hcr
            go_wp2_with (first | (go_at_call 125; (with_reducible refine (has_any s x y _ HF.out HX2.out HY2.out HN.out).mono ?_); rintro e w' ⟨rfl, hb⟩; obtain ⟨pp, rfl⟩ := later_of_below hb; clear hb))
            (go_roundw; (case rel => exact ⟨k + 1, by omega, by go_num, by rw [HB.out], HX.out.trans (below_mono_of hsz (by (repeat' (first | with_reducible exact Below.refl _ _ | (with_reducible refine below_later_of ?_ ?_ _) | (with_reducible refine Below.alloc ?_ ?_ _) | (with_reducible refine Below.setCell ?_ ?_ _) | (with_reducible refine Below.drew ?_) | (simp; done) | (simp; omega) | omega)))), fun j hj => if e : j = k then (by rw [e, HSD.out]; exact HN.out) else HZ.out j (by omega)⟩); (case measure => simp [intOf]; omega))
      · have HN := Lib.hid hh
        have HR := Lib.hid (HIN.out hh)
        clear hh
        go_wp2_with (first | (go_at_call 125; (with_reducible refine (has_any s x y _ HF.out HX2.out HY2.out HN.out).mono ?_); rintro e w' ⟨rfl, hb⟩; obtain ⟨pp, rfl⟩ := later_of_below hb; clear hb))
        go_ret
        exact ⟨ret_bool HR.out.symm, HB2.out.trans ((HX.out.trans (below_mono_of hsz (by (repeat' (first | with_reducible exact Below.refl _ _ | (with_reducible refine below_later_of ?_ ?_ _) | (with_reducible refine Below.alloc ?_ ?_ _) | (with_reducible refine Below.setCell ?_ ?_ _) | (with_reducible refine Below.drew ?_) | (simp; done) | (simp; omega) | omega))))).mono (by omega))⟩
    · obtain rfl : k = ps.length := by omega
      have HR := Lib.hid (show insB (sideAt ps m) ps.length x y = parB (sideAt ps m) x y ps.length from insB_par (fun j hj => HZ.out j hj))
      clear hnx
      go_wp2
      go_ret
      exact ⟨ret_bool HR.out.symm, HB2.out.trans (HX.out.mono (by omega))⟩
/-- What Inside returns. -/
noncomputable def insideErrP (ps : List Plc) (x y z : Int) : Int := first2 (checkPolygonP ps) (checkPlaceP x y z)
noncomputable def insideValP (ps : List Plc) (x y z : Int) : Bool := if insideErrP ps x y z = 0 then insB (sideAt ps 1) ps.length x y else false
theorem first_f (x y : Int) (b : Nat) (w : World) {e0 : Int} (he : first2 x y = e0) (h0 : w.cell? ⟨b, 0, none⟩ = some (.int .i64 x)) (h1 : w.cell? ⟨b, 1, none⟩ = some (.int .i64 y)) :
    Calls Try.prog 109 #[.slice (some ⟨b, 0, none⟩) 2 2] w fun e w' => e = .returned (.int .i64 e0) ∧ w = w' := by subst he; exact first_two x y b w h0 h1
set_option maxRecDepth 20000 in
set_option maxHeartbeats 4000000 in
theorem Inside_any (ps : List Plc) (v : Value) (x y z : Int) (w : World) (hv : PlacesV w v ps) {r : Bool} {e0 : Int} (hr : insideValP ps x y z = r) (he : insideErrP ps x y z = e0) :
    Calls Try.prog 49 #[v, .agg #[.int .i64 x, .int .i64 y, .int .i64 z]] w fun e w' => e = .returned (.tuple #[.bool r, .int .i64 e0]) ∧ Below w.heap.size w w' := by
  have HV := Lib.hid hv
  obtain ⟨c1, hc1⟩ : ∃ c, checkPolygonP ps = c := ⟨_, rfl⟩
  obtain ⟨c2, hc2⟩ : ∃ c, checkPlaceP x y z = c := ⟨_, rfl⟩
  have HE1 := Lib.hid hc1
  have HE2 := Lib.hid hc2
  have HE := Lib.hid (show first2 c1 c2 = e0 by rw [← hc1, ← hc2]; exact he)
  by_cases h0 : e0 = 0
  · subst h0
    have h1 : checkPolygonP ps = 0 ∧ checkPlaceP x y z = 0 := by
      unfold insideErrP first2 at he
      split at he
      · rename_i h1; exact ⟨h1, he⟩
      · contradiction
    have hpl : placeB x y z = true := by
      have := h1.2
      unfold checkPlaceP at this
      split at this
      · assumption
      · exact absurd this (by decide)
    obtain ⟨⟨x1, x2⟩, ⟨y1, y2⟩, -⟩ := placeB_iff.1 hpl
    have HX2 := Lib.hid (show Mid x by unfold Mid; omega)
    have HY2 := Lib.hid (show Mid y by unfold Mid; omega)
    obtain ⟨l1, l2, l3, -⟩ := checkPolygonP_ok h1.1
    have hm : ∀ k, k < ps.length → Mid1 (plcAt ps k) := fun k hk => cornerErr_mid (l3 k hk)
    have HM := Lib.hid hm
    have HFT := Lib.hid (show ∀ k, k < ps.length → (sideAt ps 1 k).Fit from fun k hk => sideAt_fit hm hk)
    unfold insideValP at hr
    rw [if_pos he] at hr
    have HR := Lib.hid hr
    obtain ⟨hw1, hw2, a, cap, rfl, hw4⟩ := hv
    obtain ⟨b, rfl, hbw, hp⟩ := hw4 (by omega)
    have HP := Lib.hid hp
    clear hc1 hc2 he hr h1 hpl hm hw1 hw2 hw4 hp l3
    go_enter Try.func49, Try.ntmps49
    go_wp2
    go_region_held3 (fun w' => w'.cell? ⟨w.heap.size, 0, none⟩ = some (.int .i64 x) ∧ w'.cell? ⟨w.heap.size, 1, none⟩ = some (.int .i64 y) ∧ w'.cell? ⟨w.heap.size, 2, none⟩ = some (.int .i64 z)) (first | ((first | (simp [go_sem]; done) | simp [go_sem, ↓IntWalk.iteOmega]); done)) (first | (go_at_call 53; refine (checkPolygon_v ps _ _ (HV.out.below (by (repeat' (first | with_reducible exact Below.refl _ _ | (with_reducible refine below_later_of ?_ ?_ _) | (with_reducible refine Below.alloc ?_ ?_ _) | (with_reducible refine Below.setCell ?_ ?_ _) | (with_reducible refine Below.drew ?_) | (simp; done) | (simp; omega) | omega)))) HE1.out).mono ?_; rintro e w' ⟨rfl, hb⟩; obtain ⟨pp, rfl⟩ := later_of_below hb; clear hb) | (go_at_call 95; refine (checkPlace_e x y z _ HE2.out).mono ?_; rintro e w' ⟨rfl, hb⟩; obtain ⟨pp, rfl⟩ := later_of_below hb; clear hb) | (go_at_call 109; refine (first_f _ _ _ _ HE.out (by (first | (simp [go_sem]; done) | simp [go_sem, ↓IntWalk.iteOmega])) (by (first | (simp [go_sem]; done) | simp [go_sem, ↓IntWalk.iteOmega]))).mono ?_; rintro e w' ⟨rfl, rfl⟩))
    all_goals
      go_wp2
      go_region_held3 (fun w' => w'.cell? ⟨w.heap.size, 0, none⟩ = some (.int .i64 x) ∧ w'.cell? ⟨w.heap.size, 1, none⟩ = some (.int .i64 y) ∧ w'.cell? ⟨w.heap.size, 2, none⟩ = some (.int .i64 z)) (first | ((first | (simp [go_sem]; done) | simp [go_sem, ↓IntWalk.iteOmega]); done)) (first | (go_at_call 119; refine (sides_row ps 1 b cap _ (Or.inl rfl) (by omega) (by omega) (by first | omega | (simp; omega)) (HP.out.below hbw (by (repeat' (first | with_reducible exact Below.refl _ _ | (with_reducible refine below_later_of ?_ ?_ _) | (with_reducible refine Below.alloc ?_ ?_ _) | (with_reducible refine Below.setCell ?_ ?_ _) | (with_reducible refine Below.drew ?_) | (simp; done) | (simp; omega) | omega)))) HM.out).mono ?_; rintro e w2 ⟨g, c, rfl, hg1, hg2, hc1, hc2, hsd, hb2⟩; have HSD := Lib.hid (And.intro hg2 hsd); clear hg1 hg2 hc1 hc2 hsd; obtain ⟨pp, rfl⟩ := later_of_below hb2; clear hb2) | (go_at_call 120; refine (cornerOf_any _ _ _ _).mono ?_; rintro e w' ⟨rfl, hb⟩; obtain ⟨pp, rfl⟩ := later_of_below hb; clear hb) | (go_at_call 118; refine (inside_any ps 1 g c x y _ (by omega) HFT.out HX2.out HY2.out (by have := HSD.out.1; simp at this ⊢; omega) (HSD.out.2.below HSD.out.1 (by (repeat' (first | with_reducible exact Below.refl _ _ | (with_reducible refine below_later_of ?_ ?_ _) | (with_reducible refine Below.alloc ?_ ?_ _) | (with_reducible refine Below.setCell ?_ ?_ _) | (with_reducible refine Below.drew ?_) | (simp; done) | (simp; omega) | omega)))) HR.out).mono ?_; rintro e w' ⟨rfl, hb⟩; obtain ⟨pp, rfl⟩ := later_of_below hb; clear hb))
      all_goals
        go_wp2
        go_ret2
        exact ⟨rfl, (by (repeat' (first | with_reducible exact Below.refl _ _ | (with_reducible refine below_later_of ?_ ?_ _) | (with_reducible refine Below.alloc ?_ ?_ _) | (with_reducible refine Below.setCell ?_ ?_ _) | (with_reducible refine Below.drew ?_) | (simp; done) | (simp; omega) | omega)))⟩
  · have hr' : r = false := by unfold insideValP at hr; rw [if_neg (by rw [he]; exact h0)] at hr; exact hr.symm
    subst hr'
    clear hc1 hc2 he hr hv
    go_enter Try.func49, Try.ntmps49
    go_wp2
    go_region_held3 (fun w' => w'.cell? ⟨w.heap.size, 0, none⟩ = some (.int .i64 x) ∧ w'.cell? ⟨w.heap.size, 1, none⟩ = some (.int .i64 y) ∧ w'.cell? ⟨w.heap.size, 2, none⟩ = some (.int .i64 z)) (first | ((first | (simp [go_sem]; done) | simp [go_sem, ↓IntWalk.iteOmega]); done)) (first | (go_at_call 53; refine (checkPolygon_v ps _ _ (HV.out.below (by (repeat' (first | with_reducible exact Below.refl _ _ | (with_reducible refine below_later_of ?_ ?_ _) | (with_reducible refine Below.alloc ?_ ?_ _) | (with_reducible refine Below.setCell ?_ ?_ _) | (with_reducible refine Below.drew ?_) | (simp; done) | (simp; omega) | omega)))) HE1.out).mono ?_; rintro e w' ⟨rfl, hb⟩; obtain ⟨pp, rfl⟩ := later_of_below hb; clear hb) | (go_at_call 95; refine (checkPlace_e x y z _ HE2.out).mono ?_; rintro e w' ⟨rfl, hb⟩; obtain ⟨pp, rfl⟩ := later_of_below hb; clear hb) | (go_at_call 109; refine (first_f _ _ _ _ HE.out (by (first | (simp [go_sem]; done) | simp [go_sem, ↓IntWalk.iteOmega])) (by (first | (simp [go_sem]; done) | simp [go_sem, ↓IntWalk.iteOmega]))).mono ?_; rintro e w' ⟨rfl, rfl⟩))
    all_goals
      go_wp2
      go_ret2
      exact ⟨rfl, (by (repeat' (first | with_reducible exact Below.refl _ _ | (with_reducible refine below_later_of ?_ ?_ _) | (with_reducible refine Below.alloc ?_ ?_ _) | (with_reducible refine Below.setCell ?_ ?_ _) | (with_reducible refine Below.drew ?_) | (simp; done) | (simp; omega) | omega)))⟩
end Go.Proofs.Ytokpdmlmlkkekaa
