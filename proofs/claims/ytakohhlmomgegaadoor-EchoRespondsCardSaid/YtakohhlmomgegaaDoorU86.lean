/- Chapter 1: energies: the program's energy, greatest, EnergyAt, Peak. -/
import Derived.Test.YtakohhlmomgegaaDoorU83
namespace Go.Proofs.YtakohhlmomgegaaDoor
set_option linter.unusedVariables false
set_option linter.unusedSimpArgs false
open Go.RowKit Ieee Ntt
theorem sq_bd9 {x : Int} (h : -1000000000 ≤ x ∧ x ≤ 1000000000) : 0 ≤ x * x ∧ x * x ≤ 1000000000000000000 := by
  refine ⟨?_, ?_⟩
  · rcases Int.le_total 0 x with c | c
    · exact Int.mul_nonneg c c
    · exact Int.mul_nonneg_of_nonpos_of_nonpos c c
  · have m := mul_bd2 (x := x) (y := x) (A := 1000000000) (B := 1000000000) h h
    simp only [Int.reduceMul] at m
    exact m.2
/-- The energy of a number. -/
def eng (f : Nat → Nat × Nat) (k : Nat) : Int := xD f k * xD f k + yD f k * yD f k
theorem eng_bd {n k : Nat} {f : Nat → Nat × Nat} (h : SmallD n f (xD f) (yD f) 1000000000) (hk : k < n) : 0 ≤ eng f k ∧ eng f k ≤ 2000000000000000000 := by
  obtain ⟨-, h1, h2⟩ := h k hk
  have := sq_bd9 h1
  have := sq_bd9 h2
  unfold eng
  omega
set_option maxHeartbeats 400000 in
theorem energy_one (a b : Nat) (x y : Int) (w : World) (hx : FlI .f64 47 a x) (hy : FlI .f64 47 b y) (bx : -1000000000 ≤ x ∧ x ≤ 1000000000) (bY : -1000000000 ≤ y ∧ y ≤ 1000000000) {z : Int} (hz : x * x + y * y = z) :
    Calls Tryd.prog 117 #[.complex .f64 a b] w fun e w' => e = .returned (.int .i64 z) ∧ w = w' := by
  subst hz
  unfold FlI at hx hy
  obtain ⟨m1, m2⟩ := sq_bd9 bx
  obtain ⟨m3, m4⟩ := sq_bd9 bY
  go_enter Tryd.func117, Tryd.ntmps117
  go_wp2
  go_ret
  exact ⟨rfl, rfl⟩
theorem energy_any {n : Nat} {f : Nat → Nat × Nat} (h : SmallD n f (xD f) (yD f) 1000000000) {k : Nat} (hk : k < n) (w : World) {z : Int} (hz : eng f k = z) :
    Calls Tryd.prog 117 #[.complex .f64 (f k).1 (f k).2] w fun e w' => e = .returned (.int .i64 z) ∧ w = w' := by
  obtain ⟨hc, h1, h2⟩ := h k hk
  exact energy_one _ _ _ _ w (flI_double hc.re (by omega) (by omega)) (flI_double hc.im (by omega) (by omega)) h1 h2 hz
/-- The first number with the greatest energy of the first k, and this. -/
def grP (E : Nat → Int) : Nat → Nat × Int
  | 0 => (0, E 0)
  | k + 1 => if (grP E k).2 < E k then (k, E k) else grP E k
theorem grP_lt (E : Nat → Int) {n : Nat} (hn : 0 < n) : ∀ k, k ≤ n → (grP E k).1 < n ∧ (grP E k).2 = E (grP E k).1
  | 0, _ => ⟨hn, rfl⟩
  | k + 1, hk => by
    unfold grP
    split
    · exact ⟨by simp; omega, rfl⟩
    · exact grP_lt E hn k (by omega)
theorem grP_le (E : Nat → Int) : ∀ k j, j < k → E j ≤ (grP E k).2
  | 0, j, h => by omega
  | k + 1, j, h => by
    unfold grP
    split
    · rename_i c
      by_cases e : j = k
      · subst e; exact Int.le_refl _
      · have := grP_le E k j (by omega)
        simp; omega
    · rename_i c
      by_cases e : j = k
      · subst e; omega
      · exact grP_le E k j (by omega)
set_option maxHeartbeats 1000000 in
theorem greatest_any (n b off cap : Nat) (f : Nat → Nat × Nat) (w : World) (h0 : 0 < n) (hl : n ≤ 100000) (hf : SumsAt w b off n f) (hX : SmallD n f (xD f) (yD f) 1000000000) {i0 : Nat} {m0 : Int} (hg : grP (eng f) n = (i0, m0)) :
    Calls Tryd.prog 116 #[.slice (some ⟨b, off, none⟩) n cap] w fun e w' => e = .returned (.tuple #[.int .i64 i0, .int .i64 m0]) ∧ w = w' := by
  have HF := Lib.hid hf
  have HX := Lib.hid hX
  have HG := Lib.hid hg
  have c0 := hf 0 h0
  rw [Nat.add_zero] at c0
  obtain ⟨z0, hz0⟩ : ∃ z, eng f 0 = z := ⟨_, rfl⟩
  have HE0 := Lib.hid (fun w => energy_any hX h0 w hz0)
  have HZ0 := Lib.hid hz0
  clear hf hX hg hz0
  go_enter Tryd.func116, Tryd.ntmps116
  go_wp2_with (first | (go_at_call 117; (with_reducible refine (HE0.out _).mono ?_); rintro e w' ⟨rfl, rfl⟩))
  go_loop [4, 5, 15] (fun x y i => ∃ k : Nat, k ≤ n ∧ i = .int .i64 k ∧ x = .int .i64 (grP (eng f) k).1 ∧ y = .int .i64 (grP (eng f) k).2) (fun _ _ i => n - (intOf i).toNat)
  case atStart => exact ⟨0, Nat.zero_le _, rfl, rfl, by rw [← HZ0.out]; rfl⟩
  case round =>
    obtain ⟨k, hk, rfl, rfl, rfl⟩ := hrel
    by_cases hlt : k < n
    · have hdk : decide ((k : Int) < (n : Int)) = true := by simp; omega
      have ck := HF.out k hlt
      obtain ⟨z, hz⟩ : ∃ z, eng f k = z := ⟨_, rfl⟩
      have HEN := Lib.hid (fun w => energy_any HX.out hlt w hz)
      have HGK := Lib.hid (show grP (eng f) (k + 1) = if (grP (eng f) k).2 < z then (k, z) else grP (eng f) k by rw [← hz]; rfl)
      obtain ⟨g, hgk⟩ : ∃ g, grP (eng f) k = g := ⟨_, rfl⟩
      rw [hgk] at HGK ⊢
      clear hz hgk
      obtain ⟨g1, g2⟩ := g
      by_cases hc : g2 < z
      · have hd : decide (g2 < z) = true := by simpa using hc
        have HR := Lib.hid (show grP (eng f) (k + 1) = (k, z) by rw [HGK.out]; exact if_pos hc)
        clear HGK hc
        go_wp2_with (first | (go_at_call 117; (with_reducible refine (HEN.out _).mono ?_); rintro e w' ⟨rfl, rfl⟩))
        go_round
        case rel => exact ⟨k + 1, by omega, by go_num, by rw [HR.out], by rw [HR.out]⟩
        case measure => simp [intOf]; omega
      · have hd : decide (g2 < z) = false := by simpa using hc
        have HR := Lib.hid (show grP (eng f) (k + 1) = (g1, g2) by rw [HGK.out]; exact if_neg hc)
        clear HGK hc
        go_wp2_with (first | (go_at_call 117; (with_reducible refine (HEN.out _).mono ?_); rintro e w' ⟨rfl, rfl⟩))
        go_round
        case rel => exact ⟨k + 1, by omega, by go_num, by rw [HR.out], by rw [HR.out]⟩
        case measure => simp [intOf]; omega
    · obtain rfl : k = n := by omega
      have hdk : decide ((k : Int) < (k : Int)) = false := by simp
      rw [HG.out]
      go_wp2
      go_ret2
      exact ⟨rfl, rfl⟩
/-- What EnergyAt answers. -/
def eatE (L S : Int) (n : Nat) (f : Nat → Nat × Nat) (l s : Int) : Int := if (fldE L S n f).2 = 0 then (if inE 0 (L - 1) l && inE 0 (S - 1) s then 0 else 2) else (fldE L S n f).2
def eatV (L S : Int) (n : Nat) (f : Nat → Nat × Nat) (l s : Int) : Int := if eatE L S n f l s = 0 then eng f (l * S + s).toNat else 0
set_option maxHeartbeats 1000000 in
theorem energyAt_any (L S : Int) (n cap : Nat) (f : Nat → Nat × Nat) (a : Option Addr) (l s : Int) (w : World) (hn : n ≤ 100000) (hd : FldAt w L S n f a) (hw : Wide64 n f) {v0 e0 : Int} (hE : eatE L S n f l s = e0) (hV : eatV L S n f l s = v0) :
    Calls Tryd.prog 62 #[.agg #[.int .i64 L, .int .i64 S, .slice a n cap], .int .i64 l, .int .i64 s] w fun e w' => e = .returned (.tuple #[.int .i64 v0, .int .i64 e0]) ∧ Below w.heap.size w w' := by
  obtain ⟨z, hz⟩ : ∃ z, (fldE L S n f).2 = z := ⟨_, rfl⟩
  have HIM := Lib.hid (show ∀ W, Below w.heap.size w W → _ from fun W hW => fieldErr_any L S n cap f a W hn (hd.below hW) hw hz)
  by_cases h0 : z = 0
  · subst h0
    obtain ⟨hs, hg⟩ := fldE_zero hz
    have hX := smallD_of hw hg
    obtain ⟨⟨l1, l2⟩, ⟨s1, s2⟩, hnn⟩ := sizeE_zero hs
    obtain ⟨b, off, rfl, hbw, hf⟩ := hd hs
    have hE0 : eatE L S n f l s = if inE 0 (L - 1) l && inE 0 (S - 1) s then 0 else 2 := by unfold eatE; rw [if_pos hz]
    rcases (show inE 0 (L - 1) l = false ∨ inE 0 (L - 1) l = true by cases inE 0 (L - 1) l <;> simp) with h1 | h1
    · have hr : e0 = 2 := by rw [← hE, hE0, h1]; rfl
      have hr2 : v0 = 0 := by rw [← hV]; unfold eatV; rw [hE, hr]; rfl
      subst hr hr2
      have HW1 := Lib.hid h1
      clear hz hd hE hV hE0 h1 hf hX hg hs hnn
      go_enter Tryd.func62, Tryd.ntmps62
      go_wp2_with (first | (go_at_call 105; (with_reducible refine (HIM.out _ (by (repeat' (first | with_reducible exact Below.refl _ _ | (with_reducible refine below_later_of ?_ ?_ _) | (with_reducible refine Below.alloc ?_ ?_ _) | (with_reducible refine Below.setCell ?_ ?_ _) | (with_reducible refine Below.drew ?_) | (simp; done) | (simp; omega) | omega)))).mono ?_); rintro e w' ⟨rfl, hb⟩; obtain ⟨pp, rfl⟩ := later_of_below hb; clear hb) | (go_at_call 99; (with_reducible refine (within_e _ _ _ _ HW1.out).mono ?_); rintro e w' ⟨rfl, rfl⟩))
      go_ret2
      exact ⟨rfl, (by (repeat' (first | with_reducible exact Below.refl _ _ | (with_reducible refine below_later_of ?_ ?_ _) | (with_reducible refine Below.alloc ?_ ?_ _) | (with_reducible refine Below.setCell ?_ ?_ _) | (with_reducible refine Below.drew ?_) | (simp; done) | (simp; omega) | omega)))⟩
    · rcases (show inE 0 (S - 1) s = false ∨ inE 0 (S - 1) s = true by cases inE 0 (S - 1) s <;> simp) with h2 | h2
      · have hr : e0 = 2 := by rw [← hE, hE0, h1, h2]; rfl
        have hr2 : v0 = 0 := by rw [← hV]; unfold eatV; rw [hE, hr]; rfl
        subst hr hr2
        have HW1 := Lib.hid h1
        have HW2 := Lib.hid h2
        clear hz hd hE hV hE0 h1 h2 hf hX hg hs hnn
        go_enter Tryd.func62, Tryd.ntmps62
        go_wp2_with (first | (go_at_call 105; (with_reducible refine (HIM.out _ (by (repeat' (first | with_reducible exact Below.refl _ _ | (with_reducible refine below_later_of ?_ ?_ _) | (with_reducible refine Below.alloc ?_ ?_ _) | (with_reducible refine Below.setCell ?_ ?_ _) | (with_reducible refine Below.drew ?_) | (simp; done) | (simp; omega) | omega)))).mono ?_); rintro e w' ⟨rfl, hb⟩; obtain ⟨pp, rfl⟩ := later_of_below hb; clear hb) | (go_at_call 99; (with_reducible refine (within_e _ _ _ _ HW1.out).mono ?_); rintro e w' ⟨rfl, rfl⟩) | (go_at_call 99; (with_reducible refine (within_e _ _ _ _ HW2.out).mono ?_); rintro e w' ⟨rfl, rfl⟩))
        go_ret2
        exact ⟨rfl, (by (repeat' (first | with_reducible exact Below.refl _ _ | (with_reducible refine below_later_of ?_ ?_ _) | (with_reducible refine Below.alloc ?_ ?_ _) | (with_reducible refine Below.setCell ?_ ?_ _) | (with_reducible refine Below.drew ?_) | (simp; done) | (simp; omega) | omega)))⟩
      · have hr : e0 = 0 := by rw [← hE, hE0, h1, h2]; rfl
        have hr2 : eng f (l * S + s).toNat = v0 := by rw [← hV]; unfold eatV; rw [hE, hr]; rfl
        subst hr
        obtain ⟨i1, i2⟩ := inE_iff.1 h1
        obtain ⟨i3, i4⟩ := inE_iff.1 h2
        have m0 : 0 ≤ l * S := Int.mul_nonneg i1 (by omega)
        have m1 : l * S + S ≤ L * S := by
          have := Int.mul_le_mul_of_nonneg_right (show l + 1 ≤ L by omega) (show 0 ≤ S by omega)
          rw [Int.add_mul, Int.one_mul] at this
          exact this
        obtain ⟨j, hj⟩ : ∃ j : Nat, l * S + s = (j : Int) := Int.eq_ofNat_of_zero_le (by omega)
        have hjn : j < n := by omega
        have m2 : l * S ≤ 100000 := by omega
        rw [hj, Int.toNat_natCast] at hr2
        have HEN := Lib.hid (fun w => energy_any hX hjn w hr2)
        have HC := Lib.hid (show ∀ W, Below w.heap.size w W → W.cell? ⟨b, off + j, none⟩ = some (.complex .f64 (f j).1 (f j).2) from fun W hW => (hW.cell (p := ⟨b, off + j, none⟩) hbw).trans (hf j hjn))
        have cj := (hf j hjn)
        have HW1 := Lib.hid h1
        have HW2 := Lib.hid h2
        clear hz hd hE hV hE0 h1 h2 hf hX hg hs hnn hr2 m1 i2 i4
        go_enter Tryd.func62, Tryd.ntmps62
        go_wp2_with (first | (go_at_call 105; (with_reducible refine (HIM.out _ (by (repeat' (first | with_reducible exact Below.refl _ _ | (with_reducible refine below_later_of ?_ ?_ _) | (with_reducible refine Below.alloc ?_ ?_ _) | (with_reducible refine Below.setCell ?_ ?_ _) | (with_reducible refine Below.drew ?_) | (simp; done) | (simp; omega) | omega)))).mono ?_); rintro e w' ⟨rfl, hb⟩; obtain ⟨pp, rfl⟩ := later_of_below hb; clear hb) | (go_at_call 99; (with_reducible refine (within_e _ _ _ _ HW1.out).mono ?_); rintro e w' ⟨rfl, rfl⟩) | (go_at_call 99; (with_reducible refine (within_e _ _ _ _ HW2.out).mono ?_); rintro e w' ⟨rfl, rfl⟩) | (go_at_call 117; (with_reducible refine (HEN.out _).mono ?_); rintro e w' ⟨rfl, rfl⟩))
        go_ret2
        exact ⟨rfl, (by (repeat' (first | with_reducible exact Below.refl _ _ | (with_reducible refine below_later_of ?_ ?_ _) | (with_reducible refine Below.alloc ?_ ?_ _) | (with_reducible refine Below.setCell ?_ ?_ _) | (with_reducible refine Below.drew ?_) | (simp; done) | (simp; omega) | omega)))⟩
  · have hr : e0 = z := by rw [← hE]; unfold eatE; rw [hz, if_neg h0]
    have hr2 : v0 = 0 := by rw [← hV]; unfold eatV; rw [hE, hr, if_neg h0]
    subst hr hr2
    have hne : (e0 != 0) = true := by simpa using h0
    clear hz hd hE hV h0
    go_enter Tryd.func62, Tryd.ntmps62
    go_wp2_with (first | (go_at_call 105; (with_reducible refine (HIM.out _ (by (repeat' (first | with_reducible exact Below.refl _ _ | (with_reducible refine below_later_of ?_ ?_ _) | (with_reducible refine Below.alloc ?_ ?_ _) | (with_reducible refine Below.setCell ?_ ?_ _) | (with_reducible refine Below.drew ?_) | (simp; done) | (simp; omega) | omega)))).mono ?_); rintro e w' ⟨rfl, hb⟩; obtain ⟨pp, rfl⟩ := later_of_below hb; clear hb))
    go_ret2
    exact ⟨rfl, (by (repeat' (first | with_reducible exact Below.refl _ _ | (with_reducible refine below_later_of ?_ ?_ _) | (with_reducible refine Below.alloc ?_ ?_ _) | (with_reducible refine Below.setCell ?_ ?_ _) | (with_reducible refine Below.drew ?_) | (simp; done) | (simp; omega) | omega)))⟩
end Go.Proofs.YtakohhlmomgegaaDoor
