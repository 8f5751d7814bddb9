/- Chapter 1: the first error; Transform, Correlate. -/
import Derived.Test.YtelchmimhnpkaaaU10
import Derived.Test.YtelchmimhnpkaaaZU
namespace Go.Proofs.Ytelchmimhnpkaaa
set_option linter.unusedVariables false
open Go.RowKit Ntt
def first2 (a b : Int) : Int := if a = 0 then b else a
set_option maxHeartbeats 400000 in
theorem first_two (x y : Int) (b : Nat) (w : World) (h0 : w.cell? ⟨b, 0, none⟩ = some (.int .i64 x)) (h1 : w.cell? ⟨b, 1, none⟩ = some (.int .i64 y)) :
    Calls Try.prog 57 #[.slice (some ⟨b, 0, none⟩) 2 2] w fun e w' => e = .returned (.int .i64 (first2 x y)) ∧ w = w' := by
  cases hx : (x != 0)
  · have hx' : x = 0 := by simpa using hx
    have HX := Lib.hid hx'
    clear hx'
    cases hy : (y != 0)
    · have hy' : y = 0 := by simpa using hy
      have HY := Lib.hid hy'
      clear hy'
      go_enter Try.func57, Try.ntmps57
      go_wp2
      refine wp_loop_rounds 3 ?_
      rw [rounds_succ]
      go_wp2
      rw [rounds_succ]
      go_wp2
      rw [rounds_succ]
      go_wp2
      go_ret
      exact ⟨ret_intE (by unfold first2; rw [if_pos HX.out, HY.out]), rfl⟩
    · go_enter Try.func57, Try.ntmps57
      go_wp2
      refine wp_loop_rounds 3 ?_
      rw [rounds_succ]
      go_wp2
      rw [rounds_succ]
      go_wp2
      go_ret
      exact ⟨ret_intE (by unfold first2; rw [if_pos HX.out]), rfl⟩
  · have hx' : ¬ x = 0 := by simpa using hx
    have HX := Lib.hid hx'
    clear hx'
    go_enter Try.func57, Try.ntmps57
    go_wp2
    refine wp_loop_rounds 3 ?_
    rw [rounds_succ]
    go_wp2
    go_ret
    exact ⟨ret_intE (by unfold first2; rw [if_neg HX.out]), rfl⟩
theorem first_e (x y : Int) (b : Nat) (w : World) {e0 : Int} (he : first2 x y = e0) (h0 : w.cell? ⟨b, 0, none⟩ = some (.int .i64 x)) (h1 : w.cell? ⟨b, 1, none⟩ = some (.int .i64 y)) :
    Calls Try.prog 57 #[.slice (some ⟨b, 0, none⟩) 2 2] w fun e w' => e = .returned (.int .i64 e0) ∧ w = w' := by
  subst he; exact first_two x y b w h0 h1
def OwnPost2 (n : Nat) (f : Nat → Int) (w : World) (e : Ending) (w' : World) : Prop :=
  ∃ g c, e = .returned (.tuple #[.slice (some ⟨g, 0, none⟩) n c, .int .i64 0]) ∧ w.heap.size ≤ g ∧ OwnF w' g n f ∧ Below w.heap.size w w'
set_option maxHeartbeats 1000000 in
theorem transform_ok (m : Nat) (hm : m ≤ 7) (zs : List Int) (v : Value) (w : World) (hz : zs.length = 2 ^ m) (hv : IntsV w v zs) (he : listE zs = 0) :
    Calls Try.prog 54 #[v] w (OwnPost2 zs.length (fft PP m (intAt zs) (rootM zs.length)) w) := by
  have hr := (listE_ok he).2
  have hp : 2 ^ m ≤ 2 ^ 7 := Nat.pow_le_pow_right (by decide) hm
  have hp0 : 0 < zs.length := by rw [hz]; exact Nat.two_pow_pos m
  have hl : zs.length ≤ 128 := by omega
  obtain ⟨rb1, rb2⟩ := powM_bd 3 (998244352 / zs.length)
  have HTR := Lib.hid (show ∀ w2, Below w.heap.size w w2 → Calls Try.prog 63 #[v, .int .i64 (rootM zs.length)] w2 (TransPost m (intAt zs) (rootM zs.length) w2) from fun w2 hb => transform_spec m hm zs v _ w2 hz (hv.below hb) hr rb1 rb2)
  have HV := Lib.hid hv
  have HE := Lib.hid he
  obtain ⟨hle, a, cap, rfl, -⟩ := hv
  have HZ := Lib.hid hz
  clear hr hz rb1 rb2 hp he
  go_enter Try.func54, Try.ntmps54
  go_wp2_with (first | (go_at_call 62; refine (listErr_any zs _ _ (HV.out.below (by (repeat' (first | with_reducible exact Below.refl _ _ | (with_reducible refine below_later_of ?_ ?_ _) | (with_reducible refine Below.alloc ?_ ?_ _) | (with_reducible refine Below.setCell ?_ ?_ _) | (with_reducible refine Below.drew ?_) | (simp; done) | (simp; omega) | omega)))) HE.out).mono ?_; rintro e w' ⟨rfl, rfl⟩) | (go_at_call 64; refine (rootOf_any zs.length _ (by omega) (by omega)).mono ?_; rintro e w' ⟨rfl, rfl⟩) | (go_at_call 63; (with_reducible refine (HTR.out _ (by (repeat' (first | with_reducible exact Below.refl _ _ | (with_reducible refine below_later_of ?_ ?_ _) | (with_reducible refine Below.alloc ?_ ?_ _) | (with_reducible refine Below.setCell ?_ ?_ _) | (with_reducible refine Below.drew ?_) | (simp; done) | (simp; omega) | omega)))).mono ?_); rintro e w' ⟨g, c, rfl, hgb, hg, hf, hb⟩; rw [← HZ.out] at hg hf ⊢; have HG := Lib.hid (show OwnF w' g _ _ from ⟨hg, hf⟩); clear hg hf; have HB := Lib.hid hb; clear hb))
  go_ret2
  exact ⟨g, c, rfl, hgb, HG.out, HB.out⟩
set_option maxHeartbeats 400000 in
theorem transform_bad (zs : List Int) (v : Value) (w : World) (hv : IntsV w v zs) {e0 : Int} (he : listE zs = e0) (h0 : e0 ≠ 0) :
    Calls Try.prog 54 #[v] w fun e w' => e = .returned (.tuple #[.slice none 0 0, .int .i64 e0]) ∧ w = w' := by
  have HV := Lib.hid hv
  have HE := Lib.hid he
  obtain ⟨hle, a, cap, rfl, -⟩ := hv
  have hne : (e0 != 0) = true := by simpa using h0
  clear he h0
  go_enter Try.func54, Try.ntmps54
  go_wp2_with (first | (go_at_call 62; refine (listErr_any zs _ _ (HV.out.below (by (repeat' (first | with_reducible exact Below.refl _ _ | (with_reducible refine below_later_of ?_ ?_ _) | (with_reducible refine Below.alloc ?_ ?_ _) | (with_reducible refine Below.setCell ?_ ?_ _) | (with_reducible refine Below.drew ?_) | (simp; done) | (simp; omega) | omega)))) HE.out).mono ?_; rintro e w' ⟨rfl, rfl⟩))
  go_ret2
  exact ⟨rfl, rfl⟩
end Go.Proofs.Ytelchmimhnpkaaa
