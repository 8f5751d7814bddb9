/- Chapter 1's door seat: the law EchoFields returns true. -/
import Derived.Test.YtakohhlmomgegaaDoorQ10
import Derived.Test.YtakohhlmomgegaaDoorU87
import Derived.Test.YtakohhlmomgegaaDoorU78
namespace Go.Proofs.YtakohhlmomgegaaDoor
set_option linter.unusedVariables false
set_option linter.unusedSimpArgs false
open Go.RowKit Ntt
theorem fld_right {L S n : Nat} {f : Nat → Nat × Nat} (he : (fldE L S n f).2 = 0) (hw : Wide64 n f) : n = L * S ∧ (1 ≤ L ∧ L ≤ 64) ∧ (1 ≤ S ∧ S ≤ 64) ∧ SmallD n f (xD f) (yD f) 1000000000 ∧ sizeE L S n = 0 := by
  obtain ⟨hs, hg⟩ := fldE_zero he
  obtain ⟨⟨l1, l2⟩, ⟨s1, s2⟩, hnn⟩ := sizeE_zero hs
  exact ⟨by exact_mod_cast hnn, by omega, by omega, smallD_of hw hg, hs⟩
theorem rPeak_at (L S n cap : Nat) (f : Nat → Nat × Nat) (a : Option Addr) (w : World) (he : (fldE L S n f).2 = 0) (hw : Wide64 n f) (hd : FldAt w L S n f a) {p q : Nat} {m0 : Int} (hp : (grP (eng f) n).1 / S = p) (hq : (grP (eng f) n).1 % S = q) (hm : (grP (eng f) n).2 = m0) :
    Calls Tryd.prog 63 #[.agg #[.int .i64 L, .int .i64 S, .slice a n cap]] w fun e w' => e = .returned (.tuple #[.agg #[.int .i64 p, .int .i64 q], .int .i64 m0]) ∧ Below w.heap.size w w' := by
  obtain ⟨hn, hL, hS, hX, hs⟩ := fld_right he hw
  obtain ⟨b, off, rfl, hbw, hf⟩ := hd hs
  exact rPeak L S n b off cap f w hn hS.1 hS.2 hL.1 hL.2 hbw hf hX hp hq hm
theorem rEnergy_at (L S n cap : Nat) (f : Nat → Nat × Nat) (a : Option Addr) (l s : Nat) (w : World) (he : (fldE L S n f).2 = 0) (hw : Wide64 n f) (hd : FldAt w L S n f a) (hl : l < L) (hs : s < S) {z : Int} (hz : eng f (l * S + s) = z) :
    Calls Tryd.prog 64 #[.agg #[.int .i64 L, .int .i64 S, .slice a n cap], .int .i64 l, .int .i64 s] w fun e w' => e = .returned (.int .i64 z) ∧ Below w.heap.size w w' := by
  obtain ⟨hn, hL, hS, hX, hsz⟩ := fld_right he hw
  obtain ⟨b, off, rfl, hbw, hf⟩ := hd hsz
  exact rEnergy L S n b off cap f l s w hn hS.2 hL.2 hbw hf hX hl hs rfl hz
set_option maxRecDepth 20000 in
set_option maxHeartbeats 8000000 in
theorem fields_any (x : Scn) (l s : Int) (w : World) (hl : -9223372036854775808 ≤ l ∧ l ≤ 9223372036854775807) (hs : -9223372036854775808 ≤ s ∧ s ≤ 9223372036854775807) (hx : x.FAt w) (hxw : x.Wide) (ht : Tab w) :
    Calls Tryd.prog 14 #[.agg #[.int .i64 x.L, .int .i64 x.S, .slice x.pa x.m x.pc, .slice x.ca x.mc x.cc], .int .i64 l, .int .i64 s] w fun e w' => e = .returned (.bool true) ∧ Below w.heap.size w w' := by
  have HT := Lib.hid ht
  clear ht
  rcases (show slightB x = false ∨ slightB x = true by cases slightB x <;> simp) with hq | hq
  · have HSX := Lib.hid (fun w => lSlight x w hq)
    clear hx hq
    go_enter Tryd.func14, Tryd.ntmps14
    go_wp2_with (first | (go_at_call 17; (with_reducible refine (awake_any _ (HT.out.below (by (repeat' (first | with_reducible exact Below.refl _ _ | (with_reducible refine below_later_of ?_ ?_ _) | (with_reducible refine Below.alloc ?_ ?_ _) | (with_reducible refine Below.setCell ?_ ?_ _) | (with_reducible refine Below.drew ?_) | (simp; done) | (simp; omega) | omega))))).mono ?_); rintro e w' ⟨rfl, hb⟩; obtain ⟨pq, rfl⟩ := later_of_below hb; clear hb) | (go_at_call 46; (with_reducible refine (HSX.out _).mono ?_); rintro e w' ⟨rfl, hb⟩; obtain ⟨pq, rfl⟩ := later_of_below hb; clear hb))
    go_ret
    exact ⟨rfl, (by (repeat' (first | with_reducible exact Below.refl _ _ | (with_reducible refine below_later_of ?_ ?_ _) | (with_reducible refine Below.alloc ?_ ?_ _) | (with_reducible refine Below.setCell ?_ ?_ _) | (with_reducible refine Below.drew ?_) | (simp; done) | (simp; omega) | omega)))⟩
  · have HSX := Lib.hid (fun w => lSlight x w hq)
    obtain ⟨q1, q2⟩ := slightB_ok hq
    have HIX := Lib.hid (show ∀ W, Below w.heap.size w W → Calls Tryd.prog 48 #[.agg #[.int .i64 x.L, .int .i64 x.S, .slice x.pa x.m x.pc, .slice x.ca x.mc x.cc]] W (FdPost x.L x.S (x.m / 2) (smp x.p) W) from fun W hW => lSums x W (by omega) (hx.below hW))
    have hwd := hxw.smp
    obtain ⟨N, hN⟩ : ∃ N, x.m / 2 = N := ⟨_, rfl⟩
    obtain ⟨F, hF⟩ : ∃ F, smp x.p = F := ⟨_, rfl⟩
    have hN200 : N ≤ 200 := by omega
    rw [hN, hF] at HIX
    rw [hN, hF] at hwd
    have HWD := Lib.hid hwd
    obtain ⟨ii, ie, hEI⟩ : ∃ i e, fldE x.L x.S N F = (i, e) := ⟨_, _, rfl⟩
    have HEI := Lib.hid hEI
    have hze : (fldE x.L x.S N F).2 = ie := by rw [hEI]
    have HZE := Lib.hid hze
    by_cases h0 : ie = 0
    · subst h0
      have hse := (fldE_zero hze).1
      obtain ⟨⟨l1, l2⟩, ⟨s1, s2⟩, -⟩ := sizeE_zero hse
      obtain ⟨L0, hL0⟩ := Int.eq_ofNat_of_zero_le (show 0 ≤ x.L by omega)
      obtain ⟨S0, hS0⟩ := Int.eq_ofNat_of_zero_le (show 0 ≤ x.S by omega)
      rw [hL0, hS0] at hze hEI
      rw [hL0, hS0] at HIX HEI HZE HSX ⊢
      obtain ⟨hn, hLL, hSS, hX, -⟩ := fld_right hze hwd
      have hnp : 0 < N := by rw [hn]; exact Nat.mul_pos (by omega) (by omega)
      obtain ⟨p, hp⟩ : ∃ p, (grP (eng F) N).1 / S0 = p := ⟨_, rfl⟩
      obtain ⟨q, hq⟩ : ∃ q, (grP (eng F) N).1 % S0 = q := ⟨_, rfl⟩
      obtain ⟨m0, hm⟩ : ∃ m, (grP (eng F) N).2 = m := ⟨_, rfl⟩
      have HP := Lib.hid hp
      have HQ := Lib.hid hq
      have HM := Lib.hid hm
      have HN := Lib.hid hn
      have dii : ((ii : Int) != (ii : Int)) = false := by simp
      have dp : ((p : Int) == (p : Int)) = true := by simp
      have dq : ((q : Int) == (q : Int)) = true := by simp
      have dm : (m0 != m0) = false := by simp
      have hE0 : eatE L0 S0 N F l s = if inE 0 ((L0 : Int) - 1) l && inE 0 ((S0 : Int) - 1) s then 0 else 2 := by unfold eatE; rw [if_pos hze]
      have w1' : IntKind.i64.wrap ((L0 : Int) - 1) = (L0 : Int) - 1 := IntWalk.i64_in _ (by omega)
      have w2' : IntKind.i64.wrap ((S0 : Int) - 1) = (S0 : Int) - 1 := IntWalk.i64_in _ (by omega)
      rcases (show inE 0 ((L0 : Int) - 1) l = false ∨ inE 0 ((L0 : Int) - 1) l = true by cases inE 0 ((L0 : Int) - 1) l <;> simp) with h1 | h1
      · have HEE := Lib.hid (show eatE L0 S0 N F l s = 2 by rw [hE0, h1]; rfl)
        have HEV := Lib.hid (show eatV L0 S0 N F l s = 0 by unfold eatV; rw [HEE.out]; rfl)
        have HW1 := Lib.hid h1
        clear hx hxw hze hEI hse hX hn hp hq hm hE0 h1 hwd hN hF hL0 hS0
        go_enter Tryd.func14, Tryd.ntmps14
        go_wp2_with (first | (go_at_call 17; (with_reducible refine (awake_any _ (HT.out.below (by (repeat' (first | with_reducible exact Below.refl _ _ | (with_reducible refine below_later_of ?_ ?_ _) | (with_reducible refine Below.alloc ?_ ?_ _) | (with_reducible refine Below.setCell ?_ ?_ _) | (with_reducible refine Below.drew ?_) | (simp; done) | (simp; omega) | omega))))).mono ?_); rintro e w' ⟨rfl, hb⟩; obtain ⟨pq, rfl⟩ := later_of_below hb; clear hb) | (go_at_call 46; (with_reducible refine (HSX.out _).mono ?_); rintro e w' ⟨rfl, hb⟩; obtain ⟨pq, rfl⟩ := later_of_below hb; clear hb) | (go_at_call 48; (with_reducible refine (HIX.out _ (by (repeat' (first | with_reducible exact Below.refl _ _ | (with_reducible refine below_later_of ?_ ?_ _) | (with_reducible refine Below.alloc ?_ ?_ _) | (with_reducible refine Below.setCell ?_ ?_ _) | (with_reducible refine Below.drew ?_) | (simp; done) | (simp; omega) | omega)))).mono ?_); rintro e w' ⟨a1, c1, rfl, ha, hb⟩; have HA1 := Lib.hid ha; clear ha; obtain ⟨pq, rfl⟩ := later_of_below hb; clear hb) | (go_at_call 60; (with_reducible refine (checkField_any _ _ N c1 F a1 _ (by omega) (HA1.out.fld (by (repeat' (first | with_reducible exact Below.refl _ _ | (with_reducible refine below_later_of ?_ ?_ _) | (with_reducible refine Below.alloc ?_ ?_ _) | (with_reducible refine Below.setCell ?_ ?_ _) | (with_reducible refine Below.drew ?_) | (simp; done) | (simp; omega) | omega)))) HWD.out HEI.out).mono ?_); rintro e w' ⟨rfl, hb⟩; obtain ⟨pq, rfl⟩ := later_of_below hb; clear hb) | (go_at_call 61; (with_reducible refine (peak_ok L0 S0 N c1 F a1 _ HN.out (by omega) (HA1.out.fld (by (repeat' (first | with_reducible exact Below.refl _ _ | (with_reducible refine below_later_of ?_ ?_ _) | (with_reducible refine Below.alloc ?_ ?_ _) | (with_reducible refine Below.setCell ?_ ?_ _) | (with_reducible refine Below.drew ?_) | (simp; done) | (simp; omega) | omega)))) HWD.out HZE.out HP.out HQ.out HM.out).mono ?_); rintro e w' ⟨rfl, hb⟩; obtain ⟨pq, rfl⟩ := later_of_below hb; clear hb) | (go_at_call 62; (with_reducible refine (energyAt_any _ _ N c1 F a1 _ _ _ (by omega) (HA1.out.fld (by (repeat' (first | with_reducible exact Below.refl _ _ | (with_reducible refine below_later_of ?_ ?_ _) | (with_reducible refine Below.alloc ?_ ?_ _) | (with_reducible refine Below.setCell ?_ ?_ _) | (with_reducible refine Below.drew ?_) | (simp; done) | (simp; omega) | omega)))) HWD.out HEE.out HEV.out).mono ?_); rintro e w' ⟨rfl, hb⟩; obtain ⟨pq, rfl⟩ := later_of_below hb; clear hb) | (go_at_call 50; (with_reducible refine (rCheckField _ _ N c1 F a1 _ (by omega) (HA1.out.fld (by (repeat' (first | with_reducible exact Below.refl _ _ | (with_reducible refine below_later_of ?_ ?_ _) | (with_reducible refine Below.alloc ?_ ?_ _) | (with_reducible refine Below.setCell ?_ ?_ _) | (with_reducible refine Below.drew ?_) | (simp; done) | (simp; omega) | omega)))) HEI.out).mono ?_); rintro e w' ⟨rfl, hb⟩; obtain ⟨pq, rfl⟩ := later_of_below hb; clear hb) | (go_at_call 63; (with_reducible refine (rPeak_at L0 S0 N c1 F a1 _ HZE.out HWD.out (HA1.out.fld (by (repeat' (first | with_reducible exact Below.refl _ _ | (with_reducible refine below_later_of ?_ ?_ _) | (with_reducible refine Below.alloc ?_ ?_ _) | (with_reducible refine Below.setCell ?_ ?_ _) | (with_reducible refine Below.drew ?_) | (simp; done) | (simp; omega) | omega)))) HP.out HQ.out HM.out).mono ?_); rintro e w' ⟨rfl, hb⟩; obtain ⟨pq, rfl⟩ := later_of_below hb; clear hb) | (go_at_call 30; (with_reducible refine (bWithin _ _ _ _ HW1.out).mono ?_); rintro e w' ⟨rfl, rfl⟩))
        go_ret
        exact ⟨rfl, (by (repeat' (first | with_reducible exact Below.refl _ _ | (with_reducible refine below_later_of ?_ ?_ _) | (with_reducible refine Below.alloc ?_ ?_ _) | (with_reducible refine Below.setCell ?_ ?_ _) | (with_reducible refine Below.drew ?_) | (simp; done) | (simp; omega) | omega)))⟩
      · rcases (show inE 0 ((S0 : Int) - 1) s = false ∨ inE 0 ((S0 : Int) - 1) s = true by cases inE 0 ((S0 : Int) - 1) s <;> simp) with h2 | h2
        · have HEE := Lib.hid (show eatE L0 S0 N F l s = 2 by rw [hE0, h1, h2]; rfl)
          have HEV := Lib.hid (show eatV L0 S0 N F l s = 0 by unfold eatV; rw [HEE.out]; rfl)
          have HW1 := Lib.hid h1
          have HW2 := Lib.hid h2
          clear hx hxw hze hEI hse hX hn hp hq hm hE0 h1 h2 hwd hN hF hL0 hS0
          go_enter Tryd.func14, Tryd.ntmps14
          go_wp2_with (first | (go_at_call 17; (with_reducible refine (awake_any _ (HT.out.below (by (repeat' (first | with_reducible exact Below.refl _ _ | (with_reducible refine below_later_of ?_ ?_ _) | (with_reducible refine Below.alloc ?_ ?_ _) | (with_reducible refine Below.setCell ?_ ?_ _) | (with_reducible refine Below.drew ?_) | (simp; done) | (simp; omega) | omega))))).mono ?_); rintro e w' ⟨rfl, hb⟩; obtain ⟨pq, rfl⟩ := later_of_below hb; clear hb) | (go_at_call 46; (with_reducible refine (HSX.out _).mono ?_); rintro e w' ⟨rfl, hb⟩; obtain ⟨pq, rfl⟩ := later_of_below hb; clear hb) | (go_at_call 48; (with_reducible refine (HIX.out _ (by (repeat' (first | with_reducible exact Below.refl _ _ | (with_reducible refine below_later_of ?_ ?_ _) | (with_reducible refine Below.alloc ?_ ?_ _) | (with_reducible refine Below.setCell ?_ ?_ _) | (with_reducible refine Below.drew ?_) | (simp; done) | (simp; omega) | omega)))).mono ?_); rintro e w' ⟨a1, c1, rfl, ha, hb⟩; have HA1 := Lib.hid ha; clear ha; obtain ⟨pq, rfl⟩ := later_of_below hb; clear hb) | (go_at_call 60; (with_reducible refine (checkField_any _ _ N c1 F a1 _ (by omega) (HA1.out.fld (by (repeat' (first | with_reducible exact Below.refl _ _ | (with_reducible refine below_later_of ?_ ?_ _) | (with_reducible refine Below.alloc ?_ ?_ _) | (with_reducible refine Below.setCell ?_ ?_ _) | (with_reducible refine Below.drew ?_) | (simp; done) | (simp; omega) | omega)))) HWD.out HEI.out).mono ?_); rintro e w' ⟨rfl, hb⟩; obtain ⟨pq, rfl⟩ := later_of_below hb; clear hb) | (go_at_call 61; (with_reducible refine (peak_ok L0 S0 N c1 F a1 _ HN.out (by omega) (HA1.out.fld (by (repeat' (first | with_reducible exact Below.refl _ _ | (with_reducible refine below_later_of ?_ ?_ _) | (with_reducible refine Below.alloc ?_ ?_ _) | (with_reducible refine Below.setCell ?_ ?_ _) | (with_reducible refine Below.drew ?_) | (simp; done) | (simp; omega) | omega)))) HWD.out HZE.out HP.out HQ.out HM.out).mono ?_); rintro e w' ⟨rfl, hb⟩; obtain ⟨pq, rfl⟩ := later_of_below hb; clear hb) | (go_at_call 62; (with_reducible refine (energyAt_any _ _ N c1 F a1 _ _ _ (by omega) (HA1.out.fld (by (repeat' (first | with_reducible exact Below.refl _ _ | (with_reducible refine below_later_of ?_ ?_ _) | (with_reducible refine Below.alloc ?_ ?_ _) | (with_reducible refine Below.setCell ?_ ?_ _) | (with_reducible refine Below.drew ?_) | (simp; done) | (simp; omega) | omega)))) HWD.out HEE.out HEV.out).mono ?_); rintro e w' ⟨rfl, hb⟩; obtain ⟨pq, rfl⟩ := later_of_below hb; clear hb) | (go_at_call 50; (with_reducible refine (rCheckField _ _ N c1 F a1 _ (by omega) (HA1.out.fld (by (repeat' (first | with_reducible exact Below.refl _ _ | (with_reducible refine below_later_of ?_ ?_ _) | (with_reducible refine Below.alloc ?_ ?_ _) | (with_reducible refine Below.setCell ?_ ?_ _) | (with_reducible refine Below.drew ?_) | (simp; done) | (simp; omega) | omega)))) HEI.out).mono ?_); rintro e w' ⟨rfl, hb⟩; obtain ⟨pq, rfl⟩ := later_of_below hb; clear hb) | (go_at_call 63; (with_reducible refine (rPeak_at L0 S0 N c1 F a1 _ HZE.out HWD.out (HA1.out.fld (by (repeat' (first | with_reducible exact Below.refl _ _ | (with_reducible refine below_later_of ?_ ?_ _) | (with_reducible refine Below.alloc ?_ ?_ _) | (with_reducible refine Below.setCell ?_ ?_ _) | (with_reducible refine Below.drew ?_) | (simp; done) | (simp; omega) | omega)))) HP.out HQ.out HM.out).mono ?_); rintro e w' ⟨rfl, hb⟩; obtain ⟨pq, rfl⟩ := later_of_below hb; clear hb) | (go_at_call 30; (with_reducible refine (bWithin _ _ _ _ HW1.out).mono ?_); rintro e w' ⟨rfl, rfl⟩) | (go_at_call 30; (with_reducible refine (bWithin _ _ _ _ HW2.out).mono ?_); rintro e w' ⟨rfl, rfl⟩))
          go_ret
          exact ⟨rfl, (by (repeat' (first | with_reducible exact Below.refl _ _ | (with_reducible refine below_later_of ?_ ?_ _) | (with_reducible refine Below.alloc ?_ ?_ _) | (with_reducible refine Below.setCell ?_ ?_ _) | (with_reducible refine Below.drew ?_) | (simp; done) | (simp; omega) | omega)))⟩
        · have HEE := Lib.hid (show eatE L0 S0 N F l s = 0 by rw [hE0, h1, h2]; rfl)
          obtain ⟨i1, i2⟩ := inE_iff.1 h1
          obtain ⟨i3, i4⟩ := inE_iff.1 h2
          obtain ⟨l0, rfl⟩ := Int.eq_ofNat_of_zero_le i1
          obtain ⟨s0, rfl⟩ := Int.eq_ofNat_of_zero_le i3
          have hll : l0 < L0 := by omega
          have hss : s0 < S0 := by omega
          obtain ⟨z, hz⟩ : ∃ z, eng F (l0 * S0 + s0) = z := ⟨_, rfl⟩
          have HEJ := Lib.hid hz
          have HEV := Lib.hid (show eatV L0 S0 N F l0 s0 = z by
            unfold eatV
            rw [HEE.out, if_pos rfl]
            exact hz)
          have hjn : l0 * S0 + s0 < N := by
            have h1 : (l0 + 1) * S0 ≤ L0 * S0 := Nat.mul_le_mul_right _ hll
            rw [Nat.add_mul, Nat.one_mul] at h1
            omega
          have hzm : z ≤ m0 := by rw [← hz, ← hm]; exact grP_le (eng F) N _ hjn
          have dzm : decide (z ≤ m0) = true := by simpa using hzm
          have dz : (z == z) = true := by simp
          have HW1 := Lib.hid h1
          have HW2 := Lib.hid h2
          clear hx hxw hze hEI hse hX hn hp hq hm hE0 h1 h2 hwd hN hF hL0 hS0 hz hzm
          go_enter Tryd.func14, Tryd.ntmps14
          go_wp2_with (first | (go_at_call 17; (with_reducible refine (awake_any _ (HT.out.below (by (repeat' (first | with_reducible exact Below.refl _ _ | (with_reducible refine below_later_of ?_ ?_ _) | (with_reducible refine Below.alloc ?_ ?_ _) | (with_reducible refine Below.setCell ?_ ?_ _) | (with_reducible refine Below.drew ?_) | (simp; done) | (simp; omega) | omega))))).mono ?_); rintro e w' ⟨rfl, hb⟩; obtain ⟨pq, rfl⟩ := later_of_below hb; clear hb) | (go_at_call 46; (with_reducible refine (HSX.out _).mono ?_); rintro e w' ⟨rfl, hb⟩; obtain ⟨pq, rfl⟩ := later_of_below hb; clear hb) | (go_at_call 48; (with_reducible refine (HIX.out _ (by (repeat' (first | with_reducible exact Below.refl _ _ | (with_reducible refine below_later_of ?_ ?_ _) | (with_reducible refine Below.alloc ?_ ?_ _) | (with_reducible refine Below.setCell ?_ ?_ _) | (with_reducible refine Below.drew ?_) | (simp; done) | (simp; omega) | omega)))).mono ?_); rintro e w' ⟨a1, c1, rfl, ha, hb⟩; have HA1 := Lib.hid ha; clear ha; obtain ⟨pq, rfl⟩ := later_of_below hb; clear hb) | (go_at_call 60; (with_reducible refine (checkField_any _ _ N c1 F a1 _ (by omega) (HA1.out.fld (by (repeat' (first | with_reducible exact Below.refl _ _ | (with_reducible refine below_later_of ?_ ?_ _) | (with_reducible refine Below.alloc ?_ ?_ _) | (with_reducible refine Below.setCell ?_ ?_ _) | (with_reducible refine Below.drew ?_) | (simp; done) | (simp; omega) | omega)))) HWD.out HEI.out).mono ?_); rintro e w' ⟨rfl, hb⟩; obtain ⟨pq, rfl⟩ := later_of_below hb; clear hb) | (go_at_call 61; (with_reducible refine (peak_ok L0 S0 N c1 F a1 _ HN.out (by omega) (HA1.out.fld (by (repeat' (first | with_reducible exact Below.refl _ _ | (with_reducible refine below_later_of ?_ ?_ _) | (with_reducible refine Below.alloc ?_ ?_ _) | (with_reducible refine Below.setCell ?_ ?_ _) | (with_reducible refine Below.drew ?_) | (simp; done) | (simp; omega) | omega)))) HWD.out HZE.out HP.out HQ.out HM.out).mono ?_); rintro e w' ⟨rfl, hb⟩; obtain ⟨pq, rfl⟩ := later_of_below hb; clear hb) | (go_at_call 62; (with_reducible refine (energyAt_any _ _ N c1 F a1 _ _ _ (by omega) (HA1.out.fld (by (repeat' (first | with_reducible exact Below.refl _ _ | (with_reducible refine below_later_of ?_ ?_ _) | (with_reducible refine Below.alloc ?_ ?_ _) | (with_reducible refine Below.setCell ?_ ?_ _) | (with_reducible refine Below.drew ?_) | (simp; done) | (simp; omega) | omega)))) HWD.out HEE.out HEV.out).mono ?_); rintro e w' ⟨rfl, hb⟩; obtain ⟨pq, rfl⟩ := later_of_below hb; clear hb) | (go_at_call 50; (with_reducible refine (rCheckField _ _ N c1 F a1 _ (by omega) (HA1.out.fld (by (repeat' (first | with_reducible exact Below.refl _ _ | (with_reducible refine below_later_of ?_ ?_ _) | (with_reducible refine Below.alloc ?_ ?_ _) | (with_reducible refine Below.setCell ?_ ?_ _) | (with_reducible refine Below.drew ?_) | (simp; done) | (simp; omega) | omega)))) HEI.out).mono ?_); rintro e w' ⟨rfl, hb⟩; obtain ⟨pq, rfl⟩ := later_of_below hb; clear hb) | (go_at_call 63; (with_reducible refine (rPeak_at L0 S0 N c1 F a1 _ HZE.out HWD.out (HA1.out.fld (by (repeat' (first | with_reducible exact Below.refl _ _ | (with_reducible refine below_later_of ?_ ?_ _) | (with_reducible refine Below.alloc ?_ ?_ _) | (with_reducible refine Below.setCell ?_ ?_ _) | (with_reducible refine Below.drew ?_) | (simp; done) | (simp; omega) | omega)))) HP.out HQ.out HM.out).mono ?_); rintro e w' ⟨rfl, hb⟩; obtain ⟨pq, rfl⟩ := later_of_below hb; clear hb) | (go_at_call 30; (with_reducible refine (bWithin _ _ _ _ HW1.out).mono ?_); rintro e w' ⟨rfl, rfl⟩) | (go_at_call 30; (with_reducible refine (bWithin _ _ _ _ HW2.out).mono ?_); rintro e w' ⟨rfl, rfl⟩) | (go_at_call 64; (with_reducible refine (rEnergy_at L0 S0 N c1 F a1 l0 s0 _ HZE.out HWD.out (HA1.out.fld (by (repeat' (first | with_reducible exact Below.refl _ _ | (with_reducible refine below_later_of ?_ ?_ _) | (with_reducible refine Below.alloc ?_ ?_ _) | (with_reducible refine Below.setCell ?_ ?_ _) | (with_reducible refine Below.drew ?_) | (simp; done) | (simp; omega) | omega)))) (by omega) (by omega) HEJ.out).mono ?_); rintro e w' ⟨rfl, hb⟩; obtain ⟨pq, rfl⟩ := later_of_below hb; clear hb))
          go_ret
          exact ⟨rfl, (by (repeat' (first | with_reducible exact Below.refl _ _ | (with_reducible refine below_later_of ?_ ?_ _) | (with_reducible refine Below.alloc ?_ ?_ _) | (with_reducible refine Below.setCell ?_ ?_ _) | (with_reducible refine Below.drew ?_) | (simp; done) | (simp; omega) | omega)))⟩
    · have HNE := Lib.hid h0
      have hne : (ie != 0) = true := by simpa using h0
      have deq : (ie != ie) = false := by simp
      have deq2 : (ie == ie) = true := by simp
      have dii : ((ii : Int) != (ii : Int)) = false := by simp
      have HEE := Lib.hid (show eatE x.L x.S N F l s = ie by unfold eatE; rw [hze, if_neg h0])
      have HEV := Lib.hid (show eatV x.L x.S N F l s = 0 by unfold eatV; rw [HEE.out, if_neg h0])
      clear hx hxw hze hEI h0 hwd hN hF
      go_enter Tryd.func14, Tryd.ntmps14
      go_wp2_with (first | (go_at_call 17; (with_reducible refine (awake_any _ (HT.out.below (by (repeat' (first | with_reducible exact Below.refl _ _ | (with_reducible refine below_later_of ?_ ?_ _) | (with_reducible refine Below.alloc ?_ ?_ _) | (with_reducible refine Below.setCell ?_ ?_ _) | (with_reducible refine Below.drew ?_) | (simp; done) | (simp; omega) | omega))))).mono ?_); rintro e w' ⟨rfl, hb⟩; obtain ⟨pq, rfl⟩ := later_of_below hb; clear hb) | (go_at_call 46; (with_reducible refine (HSX.out _).mono ?_); rintro e w' ⟨rfl, hb⟩; obtain ⟨pq, rfl⟩ := later_of_below hb; clear hb) | (go_at_call 48; (with_reducible refine (HIX.out _ (by (repeat' (first | with_reducible exact Below.refl _ _ | (with_reducible refine below_later_of ?_ ?_ _) | (with_reducible refine Below.alloc ?_ ?_ _) | (with_reducible refine Below.setCell ?_ ?_ _) | (with_reducible refine Below.drew ?_) | (simp; done) | (simp; omega) | omega)))).mono ?_); rintro e w' ⟨a1, c1, rfl, ha, hb⟩; have HA1 := Lib.hid ha; clear ha; obtain ⟨pq, rfl⟩ := later_of_below hb; clear hb) | (go_at_call 60; (with_reducible refine (checkField_any _ _ N c1 F a1 _ (by omega) (HA1.out.fld (by (repeat' (first | with_reducible exact Below.refl _ _ | (with_reducible refine below_later_of ?_ ?_ _) | (with_reducible refine Below.alloc ?_ ?_ _) | (with_reducible refine Below.setCell ?_ ?_ _) | (with_reducible refine Below.drew ?_) | (simp; done) | (simp; omega) | omega)))) HWD.out HEI.out).mono ?_); rintro e w' ⟨rfl, hb⟩; obtain ⟨pq, rfl⟩ := later_of_below hb; clear hb) | (go_at_call 61; (with_reducible refine (peak_bad _ _ N c1 F a1 _ (by omega) (HA1.out.fld (by (repeat' (first | with_reducible exact Below.refl _ _ | (with_reducible refine below_later_of ?_ ?_ _) | (with_reducible refine Below.alloc ?_ ?_ _) | (with_reducible refine Below.setCell ?_ ?_ _) | (with_reducible refine Below.drew ?_) | (simp; done) | (simp; omega) | omega)))) HWD.out HZE.out HNE.out).mono ?_); rintro e w' ⟨rfl, hb⟩; obtain ⟨pq, rfl⟩ := later_of_below hb; clear hb) | (go_at_call 62; (with_reducible refine (energyAt_any _ _ N c1 F a1 _ _ _ (by omega) (HA1.out.fld (by (repeat' (first | with_reducible exact Below.refl _ _ | (with_reducible refine below_later_of ?_ ?_ _) | (with_reducible refine Below.alloc ?_ ?_ _) | (with_reducible refine Below.setCell ?_ ?_ _) | (with_reducible refine Below.drew ?_) | (simp; done) | (simp; omega) | omega)))) HWD.out HEE.out HEV.out).mono ?_); rintro e w' ⟨rfl, hb⟩; obtain ⟨pq, rfl⟩ := later_of_below hb; clear hb) | (go_at_call 50; (with_reducible refine (rCheckField _ _ N c1 F a1 _ (by omega) (HA1.out.fld (by (repeat' (first | with_reducible exact Below.refl _ _ | (with_reducible refine below_later_of ?_ ?_ _) | (with_reducible refine Below.alloc ?_ ?_ _) | (with_reducible refine Below.setCell ?_ ?_ _) | (with_reducible refine Below.drew ?_) | (simp; done) | (simp; omega) | omega)))) HEI.out).mono ?_); rintro e w' ⟨rfl, hb⟩; obtain ⟨pq, rfl⟩ := later_of_below hb; clear hb))
      go_ret
      exact ⟨rfl, (by (repeat' (first | with_reducible exact Below.refl _ _ | (with_reducible refine below_later_of ?_ ?_ _) | (with_reducible refine Below.alloc ?_ ?_ _) | (with_reducible refine Below.setCell ?_ ?_ _) | (with_reducible refine Below.drew ?_) | (simp; done) | (simp; omega) | omega)))⟩
end Go.Proofs.YtakohhlmomgegaaDoor
