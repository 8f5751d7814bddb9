/- Polygons: the reference's cross, turn, on, meet, fold. -/
import Derived.Test.YthnfepfbkmafaaaY2
import Derived.Test.YthnfepfbkmafaaaZR
namespace Go.Proofs.Ythnfepfbkmafaaa
set_option linter.unusedVariables false
open Go.RowKit
theorem mid_prod {a b c d : Int} (ha : Mid a) (hb : Mid b) (hc : Mid c) (hd : Mid d) : -640000000000000000 ≤ (a - b) * (c - d) ∧ (a - b) * (c - d) ≤ 640000000000000000 := by
  obtain ⟨a1, a2⟩ := ha
  obtain ⟨b1, b2⟩ := hb
  obtain ⟨c1, c2⟩ := hc
  obtain ⟨d1, d2⟩ := hd
  have := prod_bd (a := a - b) (b := c - d) 800000000 800000000 (by omega) (by omega) (by omega) (by omega) (by omega) (by omega)
  omega
set_option maxHeartbeats 1000000 in
theorem rCross (s : Sd) (z1 z2 x y z : Int) (w : World) (hs : s.Fit) (hx : Mid x) (hy : Mid y) {c : Int} (hc : crossP s x y = c) :
    Calls Try.prog 123 #[.agg #[.int .i64 s.x1, .int .i64 s.y1, .int .i64 z1], .agg #[.int .i64 s.x2, .int .i64 s.y2, .int .i64 z2], .agg #[.int .i64 x, .int .i64 y, .int .i64 z]] w fun e w' => e = .returned (.int .i64 c) ∧ Below w.heap.size w w' := by
  subst hc
  obtain ⟨f1, f2, f3, f4⟩ := hs
  obtain ⟨p1, p2⟩ := mid_prod f3 f1 hy f2
  obtain ⟨q1, q2⟩ := mid_prod f4 f2 hx f1
  obtain ⟨a1, a2⟩ := f1
  obtain ⟨b1, b2⟩ := f2
  obtain ⟨c1, c2⟩ := f3
  obtain ⟨d1, d2⟩ := f4
  obtain ⟨x1, x2⟩ := hx
  obtain ⟨y1, y2⟩ := hy
  unfold crossP
  go_enter Try.func123, Try.ntmps123
  go_wp2
  go_ret
  exact ⟨rfl, (by (repeat' (first | with_reducible exact Below.refl _ _ | (with_reducible refine below_later_of ?_ ?_ _) | (with_reducible refine Below.alloc ?_ ?_ _) | (with_reducible refine Below.setCell ?_ ?_ _) | (with_reducible refine Below.drew ?_) | (simp; done) | (simp; omega) | omega)))⟩
set_option maxHeartbeats 1000000 in
theorem rTurn (s : Sd) (z1 z2 x y z : Int) (w : World) (hs : s.Fit) (hx : Mid x) (hy : Mid y) {c : Int} (hc : turnP s x y = c) :
    Calls Try.prog 142 #[.agg #[.int .i64 s.x1, .int .i64 s.y1, .int .i64 z1], .agg #[.int .i64 s.x2, .int .i64 s.y2, .int .i64 z2], .agg #[.int .i64 x, .int .i64 y, .int .i64 z]] w fun e w' => e = .returned (.int .i64 c) ∧ Below w.heap.size w w' := by
  subst hc
  have HF := Lib.hid hs
  have HX := Lib.hid hx
  have HY := Lib.hid hy
  obtain ⟨n, hn⟩ : ∃ n, crossP s x y = n := ⟨_, rfl⟩
  have HC := Lib.hid hn
  have HT := Lib.hid (show turnP s x y = sgnP n by unfold turnP; rw [hn])
  clear hs hx hy hn
  by_cases h0 : n = 0
  · subst h0
    go_enter Try.func142, Try.ntmps142
    go_wp2_with (first | (go_at_call 123; refine (rCross s _ _ _ _ _ _ HF.out HX.out HY.out HC.out).mono ?_; rintro e w' ⟨rfl, hb⟩; obtain ⟨pp, rfl⟩ := later_of_below hb; clear hb))
    go_ret
    exact ⟨ret_int HT.out.symm, (by (repeat' (first | with_reducible exact Below.refl _ _ | (with_reducible refine below_later_of ?_ ?_ _) | (with_reducible refine Below.alloc ?_ ?_ _) | (with_reducible refine Below.setCell ?_ ?_ _) | (with_reducible refine Below.drew ?_) | (simp; done) | (simp; omega) | omega)))⟩
  · have h1 : (n == 0) = false := by simpa using h0
    have HS := Lib.hid (show signP n = turnP s x y by rw [HT.out]; unfold signP sgnP; split <;> split <;> (try split) <;> omega)
    go_enter Try.func142, Try.ntmps142
    go_wp2_with (first | (go_at_call 123; refine (rCross s _ _ _ _ _ _ HF.out HX.out HY.out HC.out).mono ?_; rintro e w' ⟨rfl, hb⟩; obtain ⟨pp, rfl⟩ := later_of_below hb; clear hb) | (go_at_call 136; refine (rSign _ _).mono ?_; rintro e w' ⟨rfl, rfl⟩))
    go_ret
    exact ⟨ret_int HS.out, (by (repeat' (first | with_reducible exact Below.refl _ _ | (with_reducible refine below_later_of ?_ ?_ _) | (with_reducible refine Below.alloc ?_ ?_ _) | (with_reducible refine Below.setCell ?_ ?_ _) | (with_reducible refine Below.drew ?_) | (simp; done) | (simp; omega) | omega)))⟩
set_option maxHeartbeats 1000000 in
theorem rOn (s : Sd) (z1 z2 x y z : Int) (w : World) (hs : s.Fit) (hx : Mid x) (hy : Mid y) {c : Bool} (hc : onP s x y = c) :
    Calls Try.prog 125 #[.agg #[.int .i64 s.x1, .int .i64 s.y1, .int .i64 z1], .agg #[.int .i64 s.x2, .int .i64 s.y2, .int .i64 z2], .agg #[.int .i64 x, .int .i64 y, .int .i64 z]] w fun e w' => e = .returned (.bool c) ∧ Below w.heap.size w w' := by
  subst hc
  have HF := Lib.hid hs
  have HX := Lib.hid hx
  have HY := Lib.hid hy
  obtain ⟨n, hn⟩ : ∃ n, crossP s x y = n := ⟨_, rfl⟩
  have HC := Lib.hid hn
  clear hs hx hy
  by_cases h0 : n = 0
  · subst h0
    rcases (show inR (min s.x1 s.x2) (max s.x1 s.x2) x = false ∨ inR (min s.x1 s.x2) (max s.x1 s.x2) x = true by cases inR (min s.x1 s.x2) (max s.x1 s.x2) x <;> simp) with h1 | h1
    · have HT := Lib.hid (show onP s x y = false by unfold onP; rw [hn, h1]; rfl)
      have H1 := Lib.hid h1
      clear hn h1
      go_enter Try.func125, Try.ntmps125
      go_wp2_with (first | (go_at_call 123; refine (rCross s _ _ _ _ _ _ HF.out HX.out HY.out HC.out).mono ?_; rintro e w' ⟨rfl, hb⟩; obtain ⟨pp, rfl⟩ := later_of_below hb; clear hb) | (go_at_call 34; (with_reducible refine (bWithin x (min s.x1 s.x2) (max s.x1 s.x2) _ H1.out).mono ?_); rintro e w' ⟨rfl, rfl⟩))
      go_ret
      exact ⟨ret_bool HT.out.symm, (by (repeat' (first | with_reducible exact Below.refl _ _ | (with_reducible refine below_later_of ?_ ?_ _) | (with_reducible refine Below.alloc ?_ ?_ _) | (with_reducible refine Below.setCell ?_ ?_ _) | (with_reducible refine Below.drew ?_) | (simp; done) | (simp; omega) | omega)))⟩
    · obtain ⟨d, h2⟩ : ∃ d, inR (min s.y1 s.y2) (max s.y1 s.y2) y = d := ⟨_, rfl⟩
      have HT := Lib.hid (show onP s x y = d by unfold onP; rw [hn, h1, h2]; rfl)
      have H1 := Lib.hid h1
      have H2 := Lib.hid h2
      clear hn h1 h2
      go_enter Try.func125, Try.ntmps125
      go_wp2_with (first | (go_at_call 123; refine (rCross s _ _ _ _ _ _ HF.out HX.out HY.out HC.out).mono ?_; rintro e w' ⟨rfl, hb⟩; obtain ⟨pp, rfl⟩ := later_of_below hb; clear hb) | (go_at_call 34; (with_reducible refine (bWithin x (min s.x1 s.x2) (max s.x1 s.x2) _ H1.out).mono ?_); rintro e w' ⟨rfl, rfl⟩) | (go_at_call 34; (with_reducible refine (bWithin y (min s.y1 s.y2) (max s.y1 s.y2) _ H2.out).mono ?_); rintro e w' ⟨rfl, rfl⟩))
      go_ret
      exact ⟨ret_bool HT.out.symm, (by (repeat' (first | with_reducible exact Below.refl _ _ | (with_reducible refine below_later_of ?_ ?_ _) | (with_reducible refine Below.alloc ?_ ?_ _) | (with_reducible refine Below.setCell ?_ ?_ _) | (with_reducible refine Below.drew ?_) | (simp; done) | (simp; omega) | omega)))⟩
  · have h1 : (n == 0) = false := by simpa using h0
    have HT := Lib.hid (show onP s x y = false by unfold onP; rw [hn, decide_eq_false h0]; rfl)
    clear hn
    go_enter Try.func125, Try.ntmps125
    go_wp2_with (first | (go_at_call 123; refine (rCross s _ _ _ _ _ _ HF.out HX.out HY.out HC.out).mono ?_; rintro e w' ⟨rfl, hb⟩; obtain ⟨pp, rfl⟩ := later_of_below hb; clear hb))
    go_ret
    exact ⟨ret_bool HT.out.symm, (by (repeat' (first | with_reducible exact Below.refl _ _ | (with_reducible refine below_later_of ?_ ?_ _) | (with_reducible refine Below.alloc ?_ ?_ _) | (with_reducible refine Below.setCell ?_ ?_ _) | (with_reducible refine Below.drew ?_) | (simp; done) | (simp; omega) | omega)))⟩
end Go.Proofs.Ythnfepfbkmafaaa
