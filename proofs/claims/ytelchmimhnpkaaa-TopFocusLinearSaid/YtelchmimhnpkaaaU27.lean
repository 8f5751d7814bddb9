/- Chapter 1: partErr of complex128, for every number. -/
import Derived.Test.YtelchmimhnpkaaaU26
import Derived.LoopN
namespace Go.Proofs.Ytelchmimhnpkaaa
set_option linter.unusedVariables false
open Go.RowKit
set_option maxRecDepth 20000 in
set_option maxHeartbeats 2000000 in
theorem partErrD_core (M re im ra ia : Nat) (w : World)
    (a1 : ∀ w, Calls Try.prog 222 #[.float .f64 re] w fun e w' => e = .returned (.float .f64 ra) ∧ w = w') (a2 : ∀ w, Calls Try.prog 222 #[.float .f64 im] w fun e w' => e = .returned (.float .f64 ia) ∧ w = w')
    {c1 c2 o1 o2 : Bool} (p1 : PartR re c1) (p2 : PartR im c2) (ho1 : (FloatKind.f64.format.order ra M == some Ordering.gt) = o1) (ho2 : (FloatKind.f64.format.order ia M == some Ordering.gt) = o2) :
    Calls Try.prog 175 #[.complex .f64 re im, .float .f64 M] w fun e w' => e = .returned (.int .i64 (partC c1 c2 o1 o2)) ∧ Below w.heap.size w w' := by
  obtain ⟨g1, i1, k1, t1⟩ := p1
  obtain ⟨g2, i2, k2, t2⟩ := p2
  have HI1 := Lib.hid i1
  have HI2 := Lib.hid i2
  have HA1 := Lib.hid a1
  have HA2 := Lib.hid a2
  have HB := Lib.hid (Below.refl w.heap.size w)
  have hsz := HB.out.size
  have HO1 := Lib.hid ho1
  have HO2 := Lib.hid ho2
  clear i1 i2 a1 a2 ho1 ho2
  have HSZ := Lib.hid hsz
  clear hsz
  cases c1
  · have HF := Lib.hid (show (29 : Int) = partC false c2 o1 o2 from rfl)
    cases g1
    · have HT1 := Lib.hid (t1 rfl)
      clear t1 t2 k1 k2
      go_enter Try.func175, Try.ntmps175
      go_wp2
      refine wp_loop_rounds 3 ?_; rw [rounds_succ]
      go_wp2_with (first | (go_at_call 220; (with_reducible refine (HI1.out _).mono ?_); rintro e w' ⟨rfl, rfl⟩) | (go_at_call 221; (with_reducible refine (HT1.out _).mono ?_); rintro e w' ⟨v1, rfl, hv1, hb⟩; obtain ⟨pp, rfl⟩ := later_of_below hb; clear hb))
      (go_ret; (have hsz := HSZ.out); exact ⟨ret_intE HF.out, HB.out.trans (by (repeat' (first | with_reducible exact Below.refl _ _ | (with_reducible refine below_later_of ?_ ?_ _) | (with_reducible refine Below.alloc ?_ ?_ _) | (with_reducible refine Below.setCell ?_ ?_ _) | (with_reducible refine Below.drew ?_) | (simp; done) | (simp; omega) | omega)))⟩)
    · clear t1 t2 k1 k2
      go_enter Try.func175, Try.ntmps175
      go_wp2
      refine wp_loop_rounds 3 ?_; rw [rounds_succ]
      go_wp2_with (first | (go_at_call 220; (with_reducible refine (HI1.out _).mono ?_); rintro e w' ⟨rfl, rfl⟩) | (go_at_call 221; (with_reducible refine (HT1.out _).mono ?_); rintro e w' ⟨v1, rfl, hv1, hb⟩; obtain ⟨pp, rfl⟩ := later_of_below hb; clear hb))
      (go_ret; (have hsz := HSZ.out); exact ⟨ret_intE HF.out, HB.out.trans (by (repeat' (first | with_reducible exact Below.refl _ _ | (with_reducible refine below_later_of ?_ ?_ _) | (with_reducible refine Below.alloc ?_ ?_ _) | (with_reducible refine Below.setCell ?_ ?_ _) | (with_reducible refine Below.drew ?_) | (simp; done) | (simp; omega) | omega)))⟩)
  · cases g1
    · have HT1 := Lib.hid (t1 rfl)
      cases c2
      · have HF := Lib.hid (show (29 : Int) = partC true false o1 o2 from rfl)
        cases g2
        · have HT2 := Lib.hid (t2 rfl)
          clear t1 t2 k1 k2
          go_enter Try.func175, Try.ntmps175
          go_wp2
          refine wp_loop_rounds 3 ?_; rw [rounds_succ]
          go_wp2_with (first | (go_at_call 220; (with_reducible refine (HI1.out _).mono ?_); rintro e w' ⟨rfl, rfl⟩) | (go_at_call 221; (with_reducible refine (HT1.out _).mono ?_); rintro e w' ⟨v1, rfl, hv1, hb⟩; obtain ⟨pp, rfl⟩ := later_of_below hb; clear hb))
          rw [rounds_succ]
          go_wp2_with (first | (go_at_call 220; (with_reducible refine (HI2.out _).mono ?_); rintro e w' ⟨rfl, rfl⟩) | (go_at_call 221; (with_reducible refine (HT2.out _).mono ?_); rintro e w' ⟨v2, rfl, hv2, hb⟩; obtain ⟨pp2, rfl⟩ := later_of_below hb; clear hb))
          (go_ret; (have hsz := HSZ.out); exact ⟨ret_intE HF.out, HB.out.trans (by (repeat' (first | with_reducible exact Below.refl _ _ | (with_reducible refine below_later_of ?_ ?_ _) | (with_reducible refine Below.alloc ?_ ?_ _) | (with_reducible refine Below.setCell ?_ ?_ _) | (with_reducible refine Below.drew ?_) | (simp; done) | (simp; omega) | omega)))⟩)
        · clear t1 t2 k1 k2
          go_enter Try.func175, Try.ntmps175
          go_wp2
          refine wp_loop_rounds 3 ?_; rw [rounds_succ]
          go_wp2_with (first | (go_at_call 220; (with_reducible refine (HI1.out _).mono ?_); rintro e w' ⟨rfl, rfl⟩) | (go_at_call 221; (with_reducible refine (HT1.out _).mono ?_); rintro e w' ⟨v1, rfl, hv1, hb⟩; obtain ⟨pp, rfl⟩ := later_of_below hb; clear hb))
          rw [rounds_succ]
          go_wp2_with (first | (go_at_call 220; (with_reducible refine (HI2.out _).mono ?_); rintro e w' ⟨rfl, rfl⟩) | (go_at_call 221; (with_reducible refine (HT2.out _).mono ?_); rintro e w' ⟨v2, rfl, hv2, hb⟩; obtain ⟨pp2, rfl⟩ := later_of_below hb; clear hb))
          (go_ret; (have hsz := HSZ.out); exact ⟨ret_intE HF.out, HB.out.trans (by (repeat' (first | with_reducible exact Below.refl _ _ | (with_reducible refine below_later_of ?_ ?_ _) | (with_reducible refine Below.alloc ?_ ?_ _) | (with_reducible refine Below.setCell ?_ ?_ _) | (with_reducible refine Below.drew ?_) | (simp; done) | (simp; omega) | omega)))⟩)
      · cases g2
        · have HT2 := Lib.hid (t2 rfl)
          clear t1 t2 k1 k2
          cases o1
          · cases o2
            · have HF := Lib.hid (show (0 : Int) = partC true true false false from rfl)
              go_enter Try.func175, Try.ntmps175
              go_wp2
              refine wp_loop_rounds 3 ?_; rw [rounds_succ]
              go_wp2_with (first | (go_at_call 220; (with_reducible refine (HI1.out _).mono ?_); rintro e w' ⟨rfl, rfl⟩) | (go_at_call 221; (with_reducible refine (HT1.out _).mono ?_); rintro e w' ⟨v1, rfl, hv1, hb⟩; obtain ⟨pp, rfl⟩ := later_of_below hb; clear hb))
              rw [rounds_succ]
              go_wp2_with (first | (go_at_call 220; (with_reducible refine (HI2.out _).mono ?_); rintro e w' ⟨rfl, rfl⟩) | (go_at_call 221; (with_reducible refine (HT2.out _).mono ?_); rintro e w' ⟨v2, rfl, hv2, hb⟩; obtain ⟨pp2, rfl⟩ := later_of_below hb; clear hb))
              rw [rounds_succ]
              go_wp2
              refine wp_loop_rounds 3 ?_; rw [rounds_succ]
              have ho1 := HO1.out
              go_wp2_with (first | (go_at_call 222; (with_reducible refine (HA1.out _).mono ?_); rintro e w' ⟨rfl, rfl⟩))
              rw [rounds_succ]
              have ho2 := HO2.out
              go_wp2_with (first | (go_at_call 222; (with_reducible refine (HA2.out _).mono ?_); rintro e w' ⟨rfl, rfl⟩))
              rw [rounds_succ]
              go_wp2
              (go_ret; (have hsz := HSZ.out); exact ⟨ret_intE HF.out, HB.out.trans (by (repeat' (first | with_reducible exact Below.refl _ _ | (with_reducible refine below_later_of ?_ ?_ _) | (with_reducible refine Below.alloc ?_ ?_ _) | (with_reducible refine Below.setCell ?_ ?_ _) | (with_reducible refine Below.drew ?_) | (simp; done) | (simp; omega) | omega)))⟩)
            · have HF := Lib.hid (show (2 : Int) = partC true true false true from rfl)
              go_enter Try.func175, Try.ntmps175
              go_wp2
              refine wp_loop_rounds 3 ?_; rw [rounds_succ]
              go_wp2_with (first | (go_at_call 220; (with_reducible refine (HI1.out _).mono ?_); rintro e w' ⟨rfl, rfl⟩) | (go_at_call 221; (with_reducible refine (HT1.out _).mono ?_); rintro e w' ⟨v1, rfl, hv1, hb⟩; obtain ⟨pp, rfl⟩ := later_of_below hb; clear hb))
              rw [rounds_succ]
              go_wp2_with (first | (go_at_call 220; (with_reducible refine (HI2.out _).mono ?_); rintro e w' ⟨rfl, rfl⟩) | (go_at_call 221; (with_reducible refine (HT2.out _).mono ?_); rintro e w' ⟨v2, rfl, hv2, hb⟩; obtain ⟨pp2, rfl⟩ := later_of_below hb; clear hb))
              rw [rounds_succ]
              go_wp2
              refine wp_loop_rounds 3 ?_; rw [rounds_succ]
              have ho1 := HO1.out
              go_wp2_with (first | (go_at_call 222; (with_reducible refine (HA1.out _).mono ?_); rintro e w' ⟨rfl, rfl⟩))
              rw [rounds_succ]
              have ho2 := HO2.out
              go_wp2_with (first | (go_at_call 222; (with_reducible refine (HA2.out _).mono ?_); rintro e w' ⟨rfl, rfl⟩))
              (go_ret; (have hsz := HSZ.out); exact ⟨ret_intE HF.out, HB.out.trans (by (repeat' (first | with_reducible exact Below.refl _ _ | (with_reducible refine below_later_of ?_ ?_ _) | (with_reducible refine Below.alloc ?_ ?_ _) | (with_reducible refine Below.setCell ?_ ?_ _) | (with_reducible refine Below.drew ?_) | (simp; done) | (simp; omega) | omega)))⟩)
          · have HF := Lib.hid (show (2 : Int) = partC true true true o2 from rfl)
            go_enter Try.func175, Try.ntmps175
            go_wp2
            refine wp_loop_rounds 3 ?_; rw [rounds_succ]
            go_wp2_with (first | (go_at_call 220; (with_reducible refine (HI1.out _).mono ?_); rintro e w' ⟨rfl, rfl⟩) | (go_at_call 221; (with_reducible refine (HT1.out _).mono ?_); rintro e w' ⟨v1, rfl, hv1, hb⟩; obtain ⟨pp, rfl⟩ := later_of_below hb; clear hb))
            rw [rounds_succ]
            go_wp2_with (first | (go_at_call 220; (with_reducible refine (HI2.out _).mono ?_); rintro e w' ⟨rfl, rfl⟩) | (go_at_call 221; (with_reducible refine (HT2.out _).mono ?_); rintro e w' ⟨v2, rfl, hv2, hb⟩; obtain ⟨pp2, rfl⟩ := later_of_below hb; clear hb))
            rw [rounds_succ]
            go_wp2
            refine wp_loop_rounds 3 ?_; rw [rounds_succ]
            have ho1 := HO1.out
            go_wp2_with (first | (go_at_call 222; (with_reducible refine (HA1.out _).mono ?_); rintro e w' ⟨rfl, rfl⟩))
            (go_ret; (have hsz := HSZ.out); exact ⟨ret_intE HF.out, HB.out.trans (by (repeat' (first | with_reducible exact Below.refl _ _ | (with_reducible refine below_later_of ?_ ?_ _) | (with_reducible refine Below.alloc ?_ ?_ _) | (with_reducible refine Below.setCell ?_ ?_ _) | (with_reducible refine Below.drew ?_) | (simp; done) | (simp; omega) | omega)))⟩)
        · exact absurd (k2 rfl) (by decide)
    · exact absurd (k1 rfl) (by decide)
/-- What partErr says of a number of a field. -/
def wholeD (r : Nat) : Bool := datWhole (Ieee.double.read r)
def intD (r : Nat) : Int := datInt (Ieee.double.read r)
theorem whole_fnumD {r : Nat} (h : wholeD r = true) : FNum Ieee.double r (intD r) := whole_num Ieee.double h
theorem intD_of {r : Nat} {n : Int} (h : FNum Ieee.double r n) : wholeD r = true ∧ intD r = n := num_whole _ h
def partD (a b : Nat) (m : Int) : Int := if wholeD a && wholeD b then (if inE (-m) m (intD a) && inE (-m) m (intD b) then 0 else 2) else 29
theorem partErrD_any (re im M : Nat) {m : Int} (hM : FNum Ieee.double M m) (l1 : re < 2 ^ 64) (l2 : im < 2 ^ 64) (w : World) :
    Calls Try.prog 175 #[.complex .f64 re im, .float .f64 M] w fun e w' => e = .returned (.int .i64 (partD re im m)) ∧ Below w.heap.size w w' := by
  have := partErrD_core M re im _ _ w (fun w => abs_any re l1 w) (fun w => abs_any im l2 w) (partR_any l1) (partR_any l2) rfl rfl
  have e : partC (datWhole (Ieee.double.read re)) (datWhole (Ieee.double.read im)) (FloatKind.f64.format.order (re % 2 ^ 63) M == some Ordering.gt) (FloatKind.f64.format.order (im % 2 ^ 63) M == some Ordering.gt) = partD re im m := by
    unfold partC partD
    by_cases h : (wholeD re && wholeD im) = true
    · rw [if_pos h, if_pos (show (datWhole (Ieee.double.read re) && datWhole (Ieee.double.read im)) = true from h)]
      simp only [Bool.and_eq_true] at h
      rw [abs_gt (whole_fnumD h.1) hM, abs_gt (whole_fnumD h.2) hM]
      cases inE (-m) m (intD re) <;> cases inE (-m) m (intD im) <;> rfl
    · rw [if_neg h, if_neg (show ¬(datWhole (Ieee.double.read re) && datWhole (Ieee.double.read im)) = true from h)]
  rw [e] at this
  exact this
theorem partD_ok {a b : Nat} {m : Int} (h : partD a b m = 0) : (FNum Ieee.double a (intD a) ∧ -m ≤ intD a ∧ intD a ≤ m) ∧ FNum Ieee.double b (intD b) ∧ -m ≤ intD b ∧ intD b ≤ m := by
  unfold partD inE at h
  by_cases h1 : (wholeD a && wholeD b) = true
  · rw [if_pos h1] at h
    simp only [Bool.and_eq_true] at h1
    split at h
    · rename_i h2
      simp only [Bool.and_eq_true, decide_eq_true_eq] at h2
      exact ⟨⟨whole_fnumD h1.1, h2.1⟩, whole_fnumD h1.2, h2.2⟩
    · exact absurd h (by decide)
  · rw [if_neg h1] at h
    exact absurd h (by decide)
end Go.Proofs.Ytelchmimhnpkaaa
