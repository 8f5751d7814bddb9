/- Chapter 1: partErr of complex64, for every sample. -/
import Derived.Test.YtelchmimhnpkaaaU25
import Derived.LoopN
namespace Go.Proofs.Ytelchmimhnpkaaa
set_option linter.unusedVariables false
open Go.RowKit
@[go_sem] theorem run_store_float {P : Program} {w : World} {a : Addr} {m : Mode} (k : FloatKind) (b : Nat) : (store a (.float k b) m).run P w = stored P w a (.float k b) m := run_store P w a _ m rfl
@[go_sem] theorem run_store_complex {P : Program} {w : World} {a : Addr} {m : Mode} (k : FloatKind) (b c : Nat) : (store a (.complex k b c) m).run P w = stored P w a (.complex k b c) m := run_store P w a _ m rfl
@[go_sem] theorem idx_parts0 (x y : Value) (w : World) : (Instr.index 298 (.agg #[x, y]) (.int .i64 0)).run Try.prog w = .ok x w := by kernel_rfl
@[go_sem] theorem idx_parts1 (x y : Value) (w : World) : (Instr.index 298 (.agg #[x, y]) (.int .i64 1)).run Try.prog w = .ok y w := by kernel_rfl
/-- What the two loops of partErr find. -/
def partC (c1 c2 o1 o2 : Bool) : Int := if c1 && c2 then (if o1 || o2 then 2 else 0) else 29
set_option maxRecDepth 20000 in
set_option maxHeartbeats 2000000 in
theorem partErr_core (a b M re im ra ia : Nat) (w w1 : World) (hcv : (convert 103 43 (.complex .f32 a b)).run Try.prog w = .ok (.complex .f64 re im) w1) (hb : Below w.heap.size w w1)
    (a1 : ∀ w, Calls Try.prog 222 #[.float .f64 re] w fun e w' => e = .returned (.float .f64 ra) ∧ w = w') (a2 : ∀ w, Calls Try.prog 222 #[.float .f64 im] w fun e w' => e = .returned (.float .f64 ia) ∧ w = w')
    {c1 c2 o1 o2 : Bool} (p1 : PartR re c1) (p2 : PartR im c2) (ho1 : (FloatKind.f64.format.order ra M == some Ordering.gt) = o1) (ho2 : (FloatKind.f64.format.order ia M == some Ordering.gt) = o2) :
    Calls Try.prog 224 #[.complex .f32 a b, .float .f64 M] w fun e w' => e = .returned (.int .i64 (partC c1 c2 o1 o2)) ∧ Below w.heap.size w w' := by
  obtain ⟨g1, i1, k1, t1⟩ := p1
  obtain ⟨g2, i2, k2, t2⟩ := p2
  have HI1 := Lib.hid i1
  have HI2 := Lib.hid i2
  have HA1 := Lib.hid a1
  have HA2 := Lib.hid a2
  have HCV := Lib.hid (show ((convert 103 43 (.complex .f32 a b)) >>= fun v => (Pure.pure (.value v) : Sem Next)).run Try.prog w = .ok (.value (.complex .f64 re im)) w1 by rw [Sem.run_bind, hcv]; rfl)
  have HB := Lib.hid hb
  have hsz := hb.size
  have HO1 := Lib.hid ho1
  have HO2 := Lib.hid ho2
  clear i1 i2 a1 a2 hcv hb ho1 ho2
  have HSZ := Lib.hid hsz
  clear hsz
  cases c1
  · have HF := Lib.hid (show (29 : Int) = partC false c2 o1 o2 from rfl)
    cases g1
    · have HT1 := Lib.hid (t1 rfl)
      clear t1 t2 k1 k2
      go_enter Try.func224, Try.ntmps224
      go_wp2_with (first | ((with_reducible refine wpList_runw (o := ⟨some 12, _, _, _, _, _⟩) (.complex .f64 re im) w1 ?_ ?_ ?_); (focus rfl); (focus (refine Eq.trans ?_ HCV.out; kernel_rfl))))
      refine wp_loop_rounds 3 ?_; rw [rounds_succ]
      go_wp2_with (first | (go_at_call 220; (with_reducible refine (HI1.out _).mono ?_); rintro e w' ⟨rfl, rfl⟩) | (go_at_call 221; (with_reducible refine (HT1.out _).mono ?_); rintro e w' ⟨v1, rfl, hv1, hb⟩; obtain ⟨pp, rfl⟩ := later_of_below hb; clear hb))
      (go_ret; (have hsz := HSZ.out); exact ⟨ret_intE HF.out, HB.out.trans (by (repeat' (first | with_reducible exact Below.refl _ _ | (with_reducible refine below_later_of ?_ ?_ _) | (with_reducible refine Below.alloc ?_ ?_ _) | (with_reducible refine Below.setCell ?_ ?_ _) | (with_reducible refine Below.drew ?_) | (simp; done) | (simp; omega) | omega)))⟩)
    · clear t1 t2 k1 k2
      go_enter Try.func224, Try.ntmps224
      go_wp2_with (first | ((with_reducible refine wpList_runw (o := ⟨some 12, _, _, _, _, _⟩) (.complex .f64 re im) w1 ?_ ?_ ?_); (focus rfl); (focus (refine Eq.trans ?_ HCV.out; kernel_rfl))))
      refine wp_loop_rounds 3 ?_; rw [rounds_succ]
      go_wp2_with (first | (go_at_call 220; (with_reducible refine (HI1.out _).mono ?_); rintro e w' ⟨rfl, rfl⟩) | (go_at_call 221; (with_reducible refine (HT1.out _).mono ?_); rintro e w' ⟨v1, rfl, hv1, hb⟩; obtain ⟨pp, rfl⟩ := later_of_below hb; clear hb))
      (go_ret; (have hsz := HSZ.out); exact ⟨ret_intE HF.out, HB.out.trans (by (repeat' (first | with_reducible exact Below.refl _ _ | (with_reducible refine below_later_of ?_ ?_ _) | (with_reducible refine Below.alloc ?_ ?_ _) | (with_reducible refine Below.setCell ?_ ?_ _) | (with_reducible refine Below.drew ?_) | (simp; done) | (simp; omega) | omega)))⟩)
  · cases g1
    · have HT1 := Lib.hid (t1 rfl)
      cases c2
      · have HF := Lib.hid (show (29 : Int) = partC true false o1 o2 from rfl)
        cases g2
        · have HT2 := Lib.hid (t2 rfl)
          clear t1 t2 k1 k2
          go_enter Try.func224, Try.ntmps224
          go_wp2_with (first | ((with_reducible refine wpList_runw (o := ⟨some 12, _, _, _, _, _⟩) (.complex .f64 re im) w1 ?_ ?_ ?_); (focus rfl); (focus (refine Eq.trans ?_ HCV.out; kernel_rfl))))
          refine wp_loop_rounds 3 ?_; rw [rounds_succ]
          go_wp2_with (first | (go_at_call 220; (with_reducible refine (HI1.out _).mono ?_); rintro e w' ⟨rfl, rfl⟩) | (go_at_call 221; (with_reducible refine (HT1.out _).mono ?_); rintro e w' ⟨v1, rfl, hv1, hb⟩; obtain ⟨pp, rfl⟩ := later_of_below hb; clear hb))
          rw [rounds_succ]
          go_wp2_with (first | (go_at_call 220; (with_reducible refine (HI2.out _).mono ?_); rintro e w' ⟨rfl, rfl⟩) | (go_at_call 221; (with_reducible refine (HT2.out _).mono ?_); rintro e w' ⟨v2, rfl, hv2, hb⟩; obtain ⟨pp2, rfl⟩ := later_of_below hb; clear hb))
          (go_ret; (have hsz := HSZ.out); exact ⟨ret_intE HF.out, HB.out.trans (by (repeat' (first | with_reducible exact Below.refl _ _ | (with_reducible refine below_later_of ?_ ?_ _) | (with_reducible refine Below.alloc ?_ ?_ _) | (with_reducible refine Below.setCell ?_ ?_ _) | (with_reducible refine Below.drew ?_) | (simp; done) | (simp; omega) | omega)))⟩)
        · clear t1 t2 k1 k2
          go_enter Try.func224, Try.ntmps224
          go_wp2_with (first | ((with_reducible refine wpList_runw (o := ⟨some 12, _, _, _, _, _⟩) (.complex .f64 re im) w1 ?_ ?_ ?_); (focus rfl); (focus (refine Eq.trans ?_ HCV.out; kernel_rfl))))
          refine wp_loop_rounds 3 ?_; rw [rounds_succ]
          go_wp2_with (first | (go_at_call 220; (with_reducible refine (HI1.out _).mono ?_); rintro e w' ⟨rfl, rfl⟩) | (go_at_call 221; (with_reducible refine (HT1.out _).mono ?_); rintro e w' ⟨v1, rfl, hv1, hb⟩; obtain ⟨pp, rfl⟩ := later_of_below hb; clear hb))
          rw [rounds_succ]
          go_wp2_with (first | (go_at_call 220; (with_reducible refine (HI2.out _).mono ?_); rintro e w' ⟨rfl, rfl⟩) | (go_at_call 221; (with_reducible refine (HT2.out _).mono ?_); rintro e w' ⟨v2, rfl, hv2, hb⟩; obtain ⟨pp2, rfl⟩ := later_of_below hb; clear hb))
          (go_ret; (have hsz := HSZ.out); exact ⟨ret_intE HF.out, HB.out.trans (by (repeat' (first | with_reducible exact Below.refl _ _ | (with_reducible refine below_later_of ?_ ?_ _) | (with_reducible refine Below.alloc ?_ ?_ _) | (with_reducible refine Below.setCell ?_ ?_ _) | (with_reducible refine Below.drew ?_) | (simp; done) | (simp; omega) | omega)))⟩)
      · cases g2
        · have HT2 := Lib.hid (t2 rfl)
          clear t1 t2 k1 k2
          cases o1
          · cases o2
            · have HF := Lib.hid (show (0 : Int) = partC true true false false from rfl)
              go_enter Try.func224, Try.ntmps224
              go_wp2_with (first | ((with_reducible refine wpList_runw (o := ⟨some 12, _, _, _, _, _⟩) (.complex .f64 re im) w1 ?_ ?_ ?_); (focus rfl); (focus (refine Eq.trans ?_ HCV.out; kernel_rfl))))
              refine wp_loop_rounds 3 ?_; rw [rounds_succ]
              go_wp2_with (first | (go_at_call 220; (with_reducible refine (HI1.out _).mono ?_); rintro e w' ⟨rfl, rfl⟩) | (go_at_call 221; (with_reducible refine (HT1.out _).mono ?_); rintro e w' ⟨v1, rfl, hv1, hb⟩; obtain ⟨pp, rfl⟩ := later_of_below hb; clear hb))
              rw [rounds_succ]
              go_wp2_with (first | (go_at_call 220; (with_reducible refine (HI2.out _).mono ?_); rintro e w' ⟨rfl, rfl⟩) | (go_at_call 221; (with_reducible refine (HT2.out _).mono ?_); rintro e w' ⟨v2, rfl, hv2, hb⟩; obtain ⟨pp2, rfl⟩ := later_of_below hb; clear hb))
              rw [rounds_succ]
              go_wp2
              refine wp_loop_rounds 3 ?_; rw [rounds_succ]
              have ho1 := HO1.out
              go_wp2_with (first | (go_at_call 222; (with_reducible refine (HA1.out _).mono ?_); rintro e w' ⟨rfl, rfl⟩))
              rw [rounds_succ]
              have ho2 := HO2.out
              go_wp2_with (first | (go_at_call 222; (with_reducible refine (HA2.out _).mono ?_); rintro e w' ⟨rfl, rfl⟩))
              rw [rounds_succ]
              go_wp2
              (go_ret; (have hsz := HSZ.out); exact ⟨ret_intE HF.out, HB.out.trans (by (repeat' (first | with_reducible exact Below.refl _ _ | (with_reducible refine below_later_of ?_ ?_ _) | (with_reducible refine Below.alloc ?_ ?_ _) | (with_reducible refine Below.setCell ?_ ?_ _) | (with_reducible refine Below.drew ?_) | (simp; done) | (simp; omega) | omega)))⟩)
            · have HF := Lib.hid (show (2 : Int) = partC true true false true from rfl)
              go_enter Try.func224, Try.ntmps224
              go_wp2_with (first | ((with_reducible refine wpList_runw (o := ⟨some 12, _, _, _, _, _⟩) (.complex .f64 re im) w1 ?_ ?_ ?_); (focus rfl); (focus (refine Eq.trans ?_ HCV.out; kernel_rfl))))
              refine wp_loop_rounds 3 ?_; rw [rounds_succ]
              go_wp2_with (first | (go_at_call 220; (with_reducible refine (HI1.out _).mono ?_); rintro e w' ⟨rfl, rfl⟩) | (go_at_call 221; (with_reducible refine (HT1.out _).mono ?_); rintro e w' ⟨v1, rfl, hv1, hb⟩; obtain ⟨pp, rfl⟩ := later_of_below hb; clear hb))
              rw [rounds_succ]
              go_wp2_with (first | (go_at_call 220; (with_reducible refine (HI2.out _).mono ?_); rintro e w' ⟨rfl, rfl⟩) | (go_at_call 221; (with_reducible refine (HT2.out _).mono ?_); rintro e w' ⟨v2, rfl, hv2, hb⟩; obtain ⟨pp2, rfl⟩ := later_of_below hb; clear hb))
              rw [rounds_succ]
              go_wp2
              refine wp_loop_rounds 3 ?_; rw [rounds_succ]
              have ho1 := HO1.out
              go_wp2_with (first | (go_at_call 222; (with_reducible refine (HA1.out _).mono ?_); rintro e w' ⟨rfl, rfl⟩))
              rw [rounds_succ]
              have ho2 := HO2.out
              go_wp2_with (first | (go_at_call 222; (with_reducible refine (HA2.out _).mono ?_); rintro e w' ⟨rfl, rfl⟩))
              (go_ret; (have hsz := HSZ.out); exact ⟨ret_intE HF.out, HB.out.trans (by (repeat' (first | with_reducible exact Below.refl _ _ | (with_reducible refine below_later_of ?_ ?_ _) | (with_reducible refine Below.alloc ?_ ?_ _) | (with_reducible refine Below.setCell ?_ ?_ _) | (with_reducible refine Below.drew ?_) | (simp; done) | (simp; omega) | omega)))⟩)
          · have HF := Lib.hid (show (2 : Int) = partC true true true o2 from rfl)
            go_enter Try.func224, Try.ntmps224
            go_wp2_with (first | ((with_reducible refine wpList_runw (o := ⟨some 12, _, _, _, _, _⟩) (.complex .f64 re im) w1 ?_ ?_ ?_); (focus rfl); (focus (refine Eq.trans ?_ HCV.out; kernel_rfl))))
            refine wp_loop_rounds 3 ?_; rw [rounds_succ]
            go_wp2_with (first | (go_at_call 220; (with_reducible refine (HI1.out _).mono ?_); rintro e w' ⟨rfl, rfl⟩) | (go_at_call 221; (with_reducible refine (HT1.out _).mono ?_); rintro e w' ⟨v1, rfl, hv1, hb⟩; obtain ⟨pp, rfl⟩ := later_of_below hb; clear hb))
            rw [rounds_succ]
            go_wp2_with (first | (go_at_call 220; (with_reducible refine (HI2.out _).mono ?_); rintro e w' ⟨rfl, rfl⟩) | (go_at_call 221; (with_reducible refine (HT2.out _).mono ?_); rintro e w' ⟨v2, rfl, hv2, hb⟩; obtain ⟨pp2, rfl⟩ := later_of_below hb; clear hb))
            rw [rounds_succ]
            go_wp2
            refine wp_loop_rounds 3 ?_; rw [rounds_succ]
            have ho1 := HO1.out
            go_wp2_with (first | (go_at_call 222; (with_reducible refine (HA1.out _).mono ?_); rintro e w' ⟨rfl, rfl⟩))
            (go_ret; (have hsz := HSZ.out); exact ⟨ret_intE HF.out, HB.out.trans (by (repeat' (first | with_reducible exact Below.refl _ _ | (with_reducible refine below_later_of ?_ ?_ _) | (with_reducible refine Below.alloc ?_ ?_ _) | (with_reducible refine Below.setCell ?_ ?_ _) | (with_reducible refine Below.drew ?_) | (simp; done) | (simp; omega) | omega)))⟩)
        · exact absurd (k2 rfl) (by decide)
    · exact absurd (k1 rfl) (by decide)
theorem wide_lt {b r : Nat} (h : WideOf b r) : r < 2 ^ 64 := by
  unfold WideOf at h
  cases hd : Ieee.single.read b with
  | number s m e => rw [hd] at h; dsimp only at h; subst h; exact dbl_lt _
  | infinity s => rw [hd] at h; dsimp only at h; subst h; cases s <;> decide
  | nan s t => rw [hd] at h; dsimp only at h; exact h.1
theorem partC_partE {a b re im M : Nat} {m : Int} (ha : WideOf a re) (hb : WideOf b im) (hM : FNum Ieee.double M m) :
    partC (wholeB a) (wholeB b) (FloatKind.f64.format.order (re % 2 ^ 63) M == some Ordering.gt) (FloatKind.f64.format.order (im % 2 ^ 63) M == some Ordering.gt) = partE a b m := by
  unfold partC partE
  by_cases h : (wholeB a && wholeB b) = true
  · rw [if_pos h, if_pos h]
    simp only [Bool.and_eq_true] at h
    rw [abs_gt (wide_fnum ha h.1) hM, abs_gt (wide_fnum hb h.2) hM]
    cases inE (-m) m (intB a) <;> cases inE (-m) m (intB b) <;> rfl
  · rw [if_neg h, if_neg h]
theorem partErr_any (a b M : Nat) {m : Int} (hM : FNum Ieee.double M m) (w : World) :
    Calls Try.prog 224 #[.complex .f32 a b, .float .f64 M] w fun e w' => e = .returned (.int .i64 (partE a b m)) ∧ Below w.heap.size w w' := by
  obtain ⟨re, im, w1, h1, h2, h3, h4⟩ := wide2 a b w
  have l1 := wide_lt h2
  have l2 := wide_lt h3
  have := partErr_core a b M re im _ _ w w1 h1 h4 (fun w => abs_any re l1 w) (fun w => abs_any im l2 w) (partR_wide h2) (partR_wide h3) rfl rfl
  rw [partC_partE h2 h3 hM] at this
  exact this
end Go.Proofs.Ytelchmimhnpkaaa
