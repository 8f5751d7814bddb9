/- Chapter 1's door seat: the law EchoResponds returns true. -/
import Derived.Test.YtakohhlmomgegaaDoorQ10
import Derived.Test.YtakohhlmomgegaaDoorU114
import Derived.Test.YtakohhlmomgegaaDoorU115
import Derived.Test.YtakohhlmomgegaaDoorU116
import Derived.Test.YtakohhlmomgegaaDoorU87
import Derived.Test.YtakohhlmomgegaaDoorU78
namespace Go.Proofs.YtakohhlmomgegaaDoor
set_option linter.unusedVariables false
set_option linter.unusedSimpArgs false
open Go.RowKit Ntt
theorem resp_at (L S l n cap : Nat) (f : Nat → Nat × Nat) (a : Option Addr) (w : World) (hcn : n ≤ cap) (he : (fldE L S n f).2 = 0) (hw : Wide64 n f) (hd : FldAt w L S n f a) (hl : l < L) :
    Calls Tryd.prog 70 #[.agg #[.int .i64 L, .int .i64 S, .slice a n cap], .int .i64 l] w (RespPost (eng (lineF f S l)) S w) := by
  obtain ⟨hs, -⟩ := fldE_zero he
  obtain ⟨b, off, rfl, hbw, hf⟩ := hd hs
  exact response_ok L S n cap b off l f w hcn hbw hf hw he hl
theorem rresp_at (L S l n cap : Nat) (f : Nat → Nat × Nat) (a : Option Addr) (w : World) (he : (fldE L S n f).2 = 0) (hw : Wide64 n f) (hd : FldAt w L S n f a) (hl : l < L) :
    Calls Tryd.prog 71 #[.agg #[.int .i64 L, .int .i64 S, .slice a n cap], .int .i64 l] w (RRPost (eng (lineF f S l)) S w) := by
  obtain ⟨hs, hg⟩ := fldE_zero he
  obtain ⟨⟨l1, l2⟩, ⟨s1, s2⟩, hnn⟩ := sizeE_zero hs
  obtain ⟨b, off, rfl, hbw, hf⟩ := hd hs
  exact rResponse L S n b off cap l f w (by exact_mod_cast hnn) (by omega) (by omega) (by omega) hbw hf (smallD_of hw hg) hl
theorem line_bd {L S l n : Nat} {f : Nat → Nat × Nat} (he : (fldE L S n f).2 = 0) (hw : Wide64 n f) (hl : l < L) : ∀ j, j < S → 0 ≤ eng (lineF f S l) j := fun j hj => by
  obtain ⟨hs, hg⟩ := fldE_zero he
  obtain ⟨-, -, hnn⟩ := sizeE_zero hs
  have hn : n = L * S := by exact_mod_cast hnn
  have h1 : (l + 1) * S ≤ L * S := Nat.mul_le_mul_right _ hl
  rw [Nat.add_mul, Nat.one_mul] at h1
  exact (eng_bd (smallD_of hw hg) (k := l * S + j) (by omega)).1
set_option maxRecDepth 20000 in
set_option maxHeartbeats 8000000 in
theorem responds_any (x : Scn) (l : Int) (w : World) (hl : -9223372036854775808 ≤ l ∧ l ≤ 9223372036854775807) (hx : x.FAt w) (hxw : x.Wide) (ht : Tab w) :
    Calls Tryd.prog 16 #[.agg #[.int .i64 x.L, .int .i64 x.S, .slice x.pa x.m x.pc, .slice x.ca x.mc x.cc], .int .i64 l] w fun e w' => e = .returned (.bool true) ∧ Below w.heap.size w w' := by
  have HT := Lib.hid ht
  clear ht
  rcases (show slightB x = false ∨ slightB x = true by cases slightB x <;> simp) with hq | hq
  · have HSX := Lib.hid (fun w => lSlight x w hq)
    clear hx hq
    go_enter Tryd.func16, Tryd.ntmps16
    go_wp2_with (first | (go_at_call 17; (with_reducible refine (awake_any _ (HT.out.below (by (repeat' (first | with_reducible exact Below.refl _ _ | (with_reducible refine below_later_of ?_ ?_ _) | (with_reducible refine Below.alloc ?_ ?_ _) | (with_reducible refine Below.setCell ?_ ?_ _) | (with_reducible refine Below.drew ?_) | (simp; done) | (simp; omega) | omega))))).mono ?_); rintro e w' ⟨rfl, hb⟩; obtain ⟨pq, rfl⟩ := later_of_below hb; clear hb) | (go_at_call 46; (with_reducible refine (HSX.out _).mono ?_); rintro e w' ⟨rfl, hb⟩; obtain ⟨pq, rfl⟩ := later_of_below hb; clear hb))
    go_ret
    exact ⟨rfl, (by (repeat' (first | with_reducible exact Below.refl _ _ | (with_reducible refine below_later_of ?_ ?_ _) | (with_reducible refine Below.alloc ?_ ?_ _) | (with_reducible refine Below.setCell ?_ ?_ _) | (with_reducible refine Below.drew ?_) | (simp; done) | (simp; omega) | omega)))⟩
  · have HSX := Lib.hid (fun w => lSlight x w hq)
    obtain ⟨q1, q2⟩ := slightB_ok hq
    have HIX := Lib.hid (show ∀ W, Below w.heap.size w W → Calls Tryd.prog 48 #[.agg #[.int .i64 x.L, .int .i64 x.S, .slice x.pa x.m x.pc, .slice x.ca x.mc x.cc]] W (FdPost2 x.L x.S (x.m / 2) (smp x.p) W) from fun W hW => lSums2 x W (by omega) (hx.below hW))
    have hwd := hxw.smp
    obtain ⟨N, hN⟩ : ∃ N, x.m / 2 = N := ⟨_, rfl⟩
    obtain ⟨F, hF⟩ : ∃ F, smp x.p = F := ⟨_, rfl⟩
    have hN200 : N ≤ 200 := by omega
    rw [hN, hF] at HIX
    rw [hN, hF] at hwd
    have HWD := Lib.hid hwd
    obtain ⟨ii, ie, hEI⟩ : ∃ i e, fldE x.L x.S N F = (i, e) := ⟨_, _, rfl⟩
    have HEI := Lib.hid hEI
    have hze : (fldE x.L x.S N F).2 = ie := by rw [hEI]
    have HRE0 := Lib.hid (show respE x.L x.S N F l = if ie = 0 then (if inE 0 (x.L - 1) l then 0 else 2) else ie by unfold respE; rw [hze])
    by_cases h0 : ie = 0
    · subst h0
      have hse := (fldE_zero hze).1
      obtain ⟨⟨l1, l2⟩, ⟨s1, s2⟩, -⟩ := sizeE_zero hse
      obtain ⟨L0, hL0⟩ := Int.eq_ofNat_of_zero_le (show 0 ≤ x.L by omega)
      obtain ⟨S0, hS0⟩ := Int.eq_ofNat_of_zero_le (show 0 ≤ x.S by omega)
      rw [hL0, hS0] at hze hEI
      rw [hL0, hS0] at HIX HEI HSX HRE0 ⊢
      have w1' : IntKind.i64.wrap ((L0 : Int) - 1) = (L0 : Int) - 1 := IntWalk.i64_in _ (by omega)
      rcases (show inE 0 ((L0 : Int) - 1) l = false ∨ inE 0 ((L0 : Int) - 1) l = true by cases inE 0 ((L0 : Int) - 1) l <;> simp) with h1 | h1
      · have HRE := Lib.hid (show respE L0 S0 N F l = 2 by rw [HRE0.out, h1]; rfl)
        have HNE := Lib.hid (show (2 : Int) ≠ 0 by decide)
        have HW1 := Lib.hid (fun w => bWithin _ _ _ w h1)
        clear hx hxw hze hEI hse h1 hwd hN hF hL0 hS0
        go_enter Tryd.func16, Tryd.ntmps16
        go_wp2_with (first | (go_at_call 17; (with_reducible refine (awake_any _ (HT.out.below (by (repeat' (first | with_reducible exact Below.refl _ _ | (with_reducible refine below_later_of ?_ ?_ _) | (with_reducible refine Below.alloc ?_ ?_ _) | (with_reducible refine Below.setCell ?_ ?_ _) | (with_reducible refine Below.drew ?_) | (simp; done) | (simp; omega) | omega))))).mono ?_); rintro e w' ⟨rfl, hb⟩; obtain ⟨pq, rfl⟩ := later_of_below hb; clear hb) | (go_at_call 46; (with_reducible refine (HSX.out _).mono ?_); rintro e w' ⟨rfl, hb⟩; obtain ⟨pq, rfl⟩ := later_of_below hb; clear hb) | (go_at_call 48; (with_reducible refine (HIX.out _ (by (repeat' (first | with_reducible exact Below.refl _ _ | (with_reducible refine below_later_of ?_ ?_ _) | (with_reducible refine Below.alloc ?_ ?_ _) | (with_reducible refine Below.setCell ?_ ?_ _) | (with_reducible refine Below.drew ?_) | (simp; done) | (simp; omega) | omega)))).mono ?_); rintro e w' ⟨a1, c1, rfl, ha, hc, hb⟩; have HA1 := Lib.hid ha; have HC1 := Lib.hid hc; clear ha hc; obtain ⟨pq, rfl⟩ := later_of_below hb; clear hb) | (go_at_call 70; (with_reducible refine (response_bad _ _ N c1 F a1 l _ (by omega) (HA1.out.fld (by (repeat' (first | with_reducible exact Below.refl _ _ | (with_reducible refine below_later_of ?_ ?_ _) | (with_reducible refine Below.alloc ?_ ?_ _) | (with_reducible refine Below.setCell ?_ ?_ _) | (with_reducible refine Below.drew ?_) | (simp; done) | (simp; omega) | omega)))) HWD.out HRE.out HNE.out).mono ?_); rintro e w' ⟨rfl, hb⟩; obtain ⟨pq, rfl⟩ := later_of_below hb; clear hb) | (go_at_call 50; (with_reducible refine (rCheckField _ _ N c1 F a1 _ (by omega) (HA1.out.fld (by (repeat' (first | with_reducible exact Below.refl _ _ | (with_reducible refine below_later_of ?_ ?_ _) | (with_reducible refine Below.alloc ?_ ?_ _) | (with_reducible refine Below.setCell ?_ ?_ _) | (with_reducible refine Below.drew ?_) | (simp; done) | (simp; omega) | omega)))) HEI.out).mono ?_); rintro e w' ⟨rfl, hb⟩; obtain ⟨pq, rfl⟩ := later_of_below hb; clear hb) | (go_at_call 30; (with_reducible refine (HW1.out _).mono ?_); rintro e w' ⟨rfl, rfl⟩))
        go_ret
        exact ⟨by first | rfl | simp, (by (repeat' (first | with_reducible exact Below.refl _ _ | (with_reducible refine below_later_of ?_ ?_ _) | (with_reducible refine Below.alloc ?_ ?_ _) | (with_reducible refine Below.setCell ?_ ?_ _) | (with_reducible refine Below.drew ?_) | (simp; done) | (simp; omega) | omega)))⟩
      · have HW1 := Lib.hid (fun w => bWithin _ _ _ w h1)
        obtain ⟨t1, t2⟩ := inE_iff.1 h1
        obtain ⟨l0, rfl⟩ := Int.eq_ofNat_of_zero_le t1
        have hl0 : l0 < L0 := by omega
        have hS1 : 1 ≤ S0 := by omega
        have hEN := line_bd hze hwd hl0
        have hgl := grP_lt (eng (lineF F S0 l0)) (n := S0) hS1 S0 (Nat.le_refl _)
        have hgle := grP_le (eng (lineF F S0 l0)) S0
        have HR1 := Lib.hid (show ∀ c1 a1 w, N ≤ c1 → FldAt w L0 S0 N F a1 → Calls Tryd.prog 70 #[.agg #[.int .i64 L0, .int .i64 S0, .slice a1 N c1], .int .i64 l0] w (RespPost (eng (lineF F S0 l0)) S0 w) from fun c1 a1 w hc hd => resp_at L0 S0 l0 N c1 F a1 w hc hze hwd hd hl0)
        have HR2 := Lib.hid (show ∀ c1 a1 w, FldAt w L0 S0 N F a1 → Calls Tryd.prog 71 #[.agg #[.int .i64 L0, .int .i64 S0, .slice a1 N c1], .int .i64 l0] w (RRPost (eng (lineF F S0 l0)) S0 w) from fun c1 a1 w hd => rresp_at L0 S0 l0 N c1 F a1 w hze hwd hd hl0)
        unfold RespPost at HR1
        unfold RRPost at HR2
        generalize eng (lineF F S0 l0) = E at *
        obtain ⟨pk, e0, hpe⟩ : ∃ pk e0, grP E S0 = (pk, e0) := ⟨_, _, rfl⟩
        rw [hpe] at hgl hgle HR1 HR2
        dsimp only at hgl hgle HR1 HR2
        obtain ⟨hpk, hem⟩ := hgl
        clear hx hxw hEI hse h1 hN hF hL0 hS0 t1 t2 hl hpe
        by_cases h2 : e0 = 0
        · have HRO := Lib.hid (show ∀ c1 a1 w, N ≤ c1 → FldAt w L0 S0 N F a1 → Calls Tryd.prog 70 #[.agg #[.int .i64 L0, .int .i64 S0, .slice a1 N c1], .int .i64 l0] w fun e w' => e = .returned (.tuple #[.agg #[.int .i64 0, .int .i64 0, .int .i64 0, .int .i64 0, .int .i64 0, .int .i64 0, .int .i64 0], .int .i64 12]) ∧ Below w.heap.size w w' from fun c1 a1 w hc hd => (HR1.out c1 a1 w hc hd).mono fun e w' h => h.elim (fun h => h.2) (fun h => absurd h2 h.1))
          have HRR := Lib.hid (show ∀ c1 a1 w, FldAt w L0 S0 N F a1 → Calls Tryd.prog 71 #[.agg #[.int .i64 L0, .int .i64 S0, .slice a1 N c1], .int .i64 l0] w fun e w' => e = .returned (.tuple #[.agg #[.int .i64 0, .int .i64 0, .int .i64 0, .int .i64 0, .int .i64 0, .int .i64 0, .int .i64 0], .bool false]) ∧ Below w.heap.size w w' from fun c1 a1 w hd => (HR2.out c1 a1 w hd).mono fun e w' h => h.elim (fun h => h.2) (fun h => absurd h2 h.1))
          clear hwd hze h2 hem hgle HR1 HR2 hEN
          go_enter Tryd.func16, Tryd.ntmps16
          go_wp2_with (first | (go_at_call 17; (with_reducible refine (awake_any _ (HT.out.below (by (repeat' (first | with_reducible exact Below.refl _ _ | (with_reducible refine below_later_of ?_ ?_ _) | (with_reducible refine Below.alloc ?_ ?_ _) | (with_reducible refine Below.setCell ?_ ?_ _) | (with_reducible refine Below.drew ?_) | (simp; done) | (simp; omega) | omega))))).mono ?_); rintro e w' ⟨rfl, hb⟩; obtain ⟨pq, rfl⟩ := later_of_below hb; clear hb) | (go_at_call 46; (with_reducible refine (HSX.out _).mono ?_); rintro e w' ⟨rfl, hb⟩; obtain ⟨pq, rfl⟩ := later_of_below hb; clear hb) | (go_at_call 48; (with_reducible refine (HIX.out _ (by (repeat' (first | with_reducible exact Below.refl _ _ | (with_reducible refine below_later_of ?_ ?_ _) | (with_reducible refine Below.alloc ?_ ?_ _) | (with_reducible refine Below.setCell ?_ ?_ _) | (with_reducible refine Below.drew ?_) | (simp; done) | (simp; omega) | omega)))).mono ?_); rintro e w' ⟨a1, c1, rfl, ha, hc, hb⟩; have HA1 := Lib.hid ha; have HC1 := Lib.hid hc; clear ha hc; obtain ⟨pq, rfl⟩ := later_of_below hb; clear hb) | (go_at_call 70; (with_reducible refine (HRO.out c1 a1 _ HC1.out (HA1.out.fld (by (repeat' (first | with_reducible exact Below.refl _ _ | (with_reducible refine below_later_of ?_ ?_ _) | (with_reducible refine Below.alloc ?_ ?_ _) | (with_reducible refine Below.setCell ?_ ?_ _) | (with_reducible refine Below.drew ?_) | (simp; done) | (simp; omega) | omega))))).mono ?_); rintro e w' ⟨rfl, hb⟩; obtain ⟨pq, rfl⟩ := later_of_below hb; clear hb) | (go_at_call 50; (with_reducible refine (rCheckField _ _ N c1 F a1 _ (by omega) (HA1.out.fld (by (repeat' (first | with_reducible exact Below.refl _ _ | (with_reducible refine below_later_of ?_ ?_ _) | (with_reducible refine Below.alloc ?_ ?_ _) | (with_reducible refine Below.setCell ?_ ?_ _) | (with_reducible refine Below.drew ?_) | (simp; done) | (simp; omega) | omega)))) HEI.out).mono ?_); rintro e w' ⟨rfl, hb⟩; obtain ⟨pq, rfl⟩ := later_of_below hb; clear hb) | (go_at_call 30; (with_reducible refine (HW1.out _).mono ?_); rintro e w' ⟨rfl, rfl⟩) | (go_at_call 71; (with_reducible refine (HRR.out c1 a1 _ (HA1.out.fld (by (repeat' (first | with_reducible exact Below.refl _ _ | (with_reducible refine below_later_of ?_ ?_ _) | (with_reducible refine Below.alloc ?_ ?_ _) | (with_reducible refine Below.setCell ?_ ?_ _) | (with_reducible refine Below.drew ?_) | (simp; done) | (simp; omega) | omega))))).mono ?_); rintro e w' ⟨rfl, hb⟩; obtain ⟨pq, rfl⟩ := later_of_below hb; clear hb))
          go_ret
          exact ⟨by first | rfl | simp, (by (repeat' (first | with_reducible exact Below.refl _ _ | (with_reducible refine below_later_of ?_ ?_ _) | (with_reducible refine Below.alloc ?_ ?_ _) | (with_reducible refine Below.setCell ?_ ?_ _) | (with_reducible refine Below.drew ?_) | (simp; done) | (simp; omega) | omega)))⟩
        · obtain ⟨h1, hh1⟩ : ∃ v, downP (gH E e0) pk = v := ⟨_, rfl⟩
          obtain ⟨h3, hh3⟩ : ∃ v, raiseP (gH E e0) (S0 - 1 - pk) pk = v := ⟨_, rfl⟩
          obtain ⟨g1, hg1⟩ : ∃ v, downP (gL E) pk = v := ⟨_, rfl⟩
          obtain ⟨g3, hg3⟩ : ∃ v, raiseP (gL E) (S0 - 1 - pk) pk = v := ⟨_, rfl⟩
          have b1 := downP_le (gH E e0) pk
          have b2 := raiseP_le (gH E e0) (S0 - 1 - pk) pk
          have b3 := downP_le (gL E) pk
          have b4 := raiseP_le (gL E) (S0 - 1 - pk) pk
          rw [hh1] at b1
          rw [hh3] at b2
          rw [hg1] at b3
          rw [hg3] at b4
          obtain ⟨sd, hsd⟩ : ∃ v, sideP E g1 g3 S0 = v := ⟨_, rfl⟩
          have b5 := (sideP_le (E := E) (lo := g1) (hi := g3) (e0 := e0) (by rw [hem]; exact hEN pk hpk) S0 (fun j hj => hgle j hj)).2
          rw [hsd] at b5
          rw [hh1, hh3, hg1, hg3, hsd] at HR1 HR2
          have HRO := Lib.hid (show ∀ c1 a1 w, N ≤ c1 → FldAt w L0 S0 N F a1 → Calls Tryd.prog 70 #[.agg #[.int .i64 L0, .int .i64 S0, .slice a1 N c1], .int .i64 l0] w fun e w' => e = .returned (.tuple #[.agg #[.int .i64 pk, .int .i64 e0, .int .i64 h1, .int .i64 h3, .int .i64 g1, .int .i64 g3, .int .i64 sd], .int .i64 0]) ∧ Below w.heap.size w w' from fun c1 a1 w hc hd => (HR1.out c1 a1 w hc hd).mono fun e w' h => h.elim (fun h => absurd h.1 h2) (fun h => h.2))
          have HRR := Lib.hid (show ∀ c1 a1 w, FldAt w L0 S0 N F a1 → Calls Tryd.prog 71 #[.agg #[.int .i64 L0, .int .i64 S0, .slice a1 N c1], .int .i64 l0] w fun e w' => e = .returned (.tuple #[.agg #[.int .i64 pk, .int .i64 e0, .int .i64 h1, .int .i64 h3, .int .i64 g1, .int .i64 g3, .int .i64 sd], .bool true]) ∧ Below w.heap.size w w' from fun c1 a1 w hd => (HR2.out c1 a1 w hd).mono fun e w' h => h.elim (fun h => absurd h.1 h2) (fun h => h.2))
          obtain ⟨b2, b2'⟩ := b2
          obtain ⟨b4, b4'⟩ := b4
          have b2'' : h3 < S0 := by omega
          have b4'' : g3 < S0 := by omega
          have e1 : ((pk : Int) == (pk : Int)) = true := by simp
          have e2 : (e0 == e0) = true := by simp
          have e3 : ((h1 : Int) == (h1 : Int)) = true := by simp
          have e4 : ((h3 : Int) == (h3 : Int)) = true := by simp
          have e5 : ((g1 : Int) == (g1 : Int)) = true := by simp
          have e6 : ((g3 : Int) == (g3 : Int)) = true := by simp
          have e7 : (sd == sd) = true := by simp
          have d1 : decide ((0 : Int) ≤ (h1 : Int)) = true := by simp
          have d2 : decide ((h1 : Int) ≤ (pk : Int)) = true := by simp; omega
          have d3 : decide ((pk : Int) ≤ (h3 : Int)) = true := by simp; omega
          have d4 : decide ((h3 : Int) < (S0 : Int)) = true := by simp; omega
          have d5 : decide ((0 : Int) ≤ (g1 : Int)) = true := by simp
          have d6 : decide ((g1 : Int) ≤ (pk : Int)) = true := by simp; omega
          have d7 : decide ((pk : Int) ≤ (g3 : Int)) = true := by simp; omega
          have d8 : decide ((g3 : Int) < (S0 : Int)) = true := by simp; omega
          have d9 : decide (sd ≤ e0) = true := by simpa using b5
          have n2 : decide (h1 ≤ pk) = true := by simp; omega
          have n3 : decide (pk ≤ h3) = true := by simp; omega
          have n4 : decide (h3 < S0) = true := by simp; omega
          have n6 : decide (g1 ≤ pk) = true := by simp; omega
          have n7 : decide (pk ≤ g3) = true := by simp; omega
          have n8 : decide (g3 < S0) = true := by simp; omega
          clear hwd hze h2 hem hgle HR1 HR2 hEN hh1 hh3 hg1 hg3 hsd b1 b2 b2' b3 b4 b4' b5 b2'' b4''
          go_enter Tryd.func16, Tryd.ntmps16
          go_wp2_with (first | (go_at_call 17; (with_reducible refine (awake_any _ (HT.out.below (by (repeat' (first | with_reducible exact Below.refl _ _ | (with_reducible refine below_later_of ?_ ?_ _) | (with_reducible refine Below.alloc ?_ ?_ _) | (with_reducible refine Below.setCell ?_ ?_ _) | (with_reducible refine Below.drew ?_) | (simp; done) | (simp; omega) | omega))))).mono ?_); rintro e w' ⟨rfl, hb⟩; obtain ⟨pq, rfl⟩ := later_of_below hb; clear hb) | (go_at_call 46; (with_reducible refine (HSX.out _).mono ?_); rintro e w' ⟨rfl, hb⟩; obtain ⟨pq, rfl⟩ := later_of_below hb; clear hb) | (go_at_call 48; (with_reducible refine (HIX.out _ (by (repeat' (first | with_reducible exact Below.refl _ _ | (with_reducible refine below_later_of ?_ ?_ _) | (with_reducible refine Below.alloc ?_ ?_ _) | (with_reducible refine Below.setCell ?_ ?_ _) | (with_reducible refine Below.drew ?_) | (simp; done) | (simp; omega) | omega)))).mono ?_); rintro e w' ⟨a1, c1, rfl, ha, hc, hb⟩; have HA1 := Lib.hid ha; have HC1 := Lib.hid hc; clear ha hc; obtain ⟨pq, rfl⟩ := later_of_below hb; clear hb) | (go_at_call 70; (with_reducible refine (HRO.out c1 a1 _ HC1.out (HA1.out.fld (by (repeat' (first | with_reducible exact Below.refl _ _ | (with_reducible refine below_later_of ?_ ?_ _) | (with_reducible refine Below.alloc ?_ ?_ _) | (with_reducible refine Below.setCell ?_ ?_ _) | (with_reducible refine Below.drew ?_) | (simp; done) | (simp; omega) | omega))))).mono ?_); rintro e w' ⟨rfl, hb⟩; obtain ⟨pq, rfl⟩ := later_of_below hb; clear hb) | (go_at_call 50; (with_reducible refine (rCheckField _ _ N c1 F a1 _ (by omega) (HA1.out.fld (by (repeat' (first | with_reducible exact Below.refl _ _ | (with_reducible refine below_later_of ?_ ?_ _) | (with_reducible refine Below.alloc ?_ ?_ _) | (with_reducible refine Below.setCell ?_ ?_ _) | (with_reducible refine Below.drew ?_) | (simp; done) | (simp; omega) | omega)))) HEI.out).mono ?_); rintro e w' ⟨rfl, hb⟩; obtain ⟨pq, rfl⟩ := later_of_below hb; clear hb) | (go_at_call 30; (with_reducible refine (HW1.out _).mono ?_); rintro e w' ⟨rfl, rfl⟩) | (go_at_call 71; (with_reducible refine (HRR.out c1 a1 _ (HA1.out.fld (by (repeat' (first | with_reducible exact Below.refl _ _ | (with_reducible refine below_later_of ?_ ?_ _) | (with_reducible refine Below.alloc ?_ ?_ _) | (with_reducible refine Below.setCell ?_ ?_ _) | (with_reducible refine Below.drew ?_) | (simp; done) | (simp; omega) | omega))))).mono ?_); rintro e w' ⟨rfl, hb⟩; obtain ⟨pq, rfl⟩ := later_of_below hb; clear hb))
          go_ret
          exact ⟨by first | rfl | simp, (by (repeat' (first | with_reducible exact Below.refl _ _ | (with_reducible refine below_later_of ?_ ?_ _) | (with_reducible refine Below.alloc ?_ ?_ _) | (with_reducible refine Below.setCell ?_ ?_ _) | (with_reducible refine Below.drew ?_) | (simp; done) | (simp; omega) | omega)))⟩
    · have HRE := Lib.hid (show respE x.L x.S N F l = ie by rw [HRE0.out, if_neg h0])
      have HNE := Lib.hid h0
      have hne : (ie != 0) = true := by simpa using h0
      have hne1 : (ie == 0) = false := by simpa using h0
      have heq : (ie == ie) = true := by simp
      clear hx hxw hze hEI h0 hwd hN hF
      go_enter Tryd.func16, Tryd.ntmps16
      go_wp2_with (first | (go_at_call 17; (with_reducible refine (awake_any _ (HT.out.below (by (repeat' (first | with_reducible exact Below.refl _ _ | (with_reducible refine below_later_of ?_ ?_ _) | (with_reducible refine Below.alloc ?_ ?_ _) | (with_reducible refine Below.setCell ?_ ?_ _) | (with_reducible refine Below.drew ?_) | (simp; done) | (simp; omega) | omega))))).mono ?_); rintro e w' ⟨rfl, hb⟩; obtain ⟨pq, rfl⟩ := later_of_below hb; clear hb) | (go_at_call 46; (with_reducible refine (HSX.out _).mono ?_); rintro e w' ⟨rfl, hb⟩; obtain ⟨pq, rfl⟩ := later_of_below hb; clear hb) | (go_at_call 48; (with_reducible refine (HIX.out _ (by (repeat' (first | with_reducible exact Below.refl _ _ | (with_reducible refine below_later_of ?_ ?_ _) | (with_reducible refine Below.alloc ?_ ?_ _) | (with_reducible refine Below.setCell ?_ ?_ _) | (with_reducible refine Below.drew ?_) | (simp; done) | (simp; omega) | omega)))).mono ?_); rintro e w' ⟨a1, c1, rfl, ha, hc, hb⟩; have HA1 := Lib.hid ha; have HC1 := Lib.hid hc; clear ha hc; obtain ⟨pq, rfl⟩ := later_of_below hb; clear hb) | (go_at_call 70; (with_reducible refine (response_bad _ _ N c1 F a1 l _ (by omega) (HA1.out.fld (by (repeat' (first | with_reducible exact Below.refl _ _ | (with_reducible refine below_later_of ?_ ?_ _) | (with_reducible refine Below.alloc ?_ ?_ _) | (with_reducible refine Below.setCell ?_ ?_ _) | (with_reducible refine Below.drew ?_) | (simp; done) | (simp; omega) | omega)))) HWD.out HRE.out HNE.out).mono ?_); rintro e w' ⟨rfl, hb⟩; obtain ⟨pq, rfl⟩ := later_of_below hb; clear hb) | (go_at_call 50; (with_reducible refine (rCheckField _ _ N c1 F a1 _ (by omega) (HA1.out.fld (by (repeat' (first | with_reducible exact Below.refl _ _ | (with_reducible refine below_later_of ?_ ?_ _) | (with_reducible refine Below.alloc ?_ ?_ _) | (with_reducible refine Below.setCell ?_ ?_ _) | (with_reducible refine Below.drew ?_) | (simp; done) | (simp; omega) | omega)))) HEI.out).mono ?_); rintro e w' ⟨rfl, hb⟩; obtain ⟨pq, rfl⟩ := later_of_below hb; clear hb))
      go_ret
      exact ⟨by first | rfl | simp, (by (repeat' (first | with_reducible exact Below.refl _ _ | (with_reducible refine below_later_of ?_ ?_ _) | (with_reducible refine Below.alloc ?_ ?_ _) | (with_reducible refine Below.setCell ?_ ?_ _) | (with_reducible refine Below.drew ?_) | (simp; done) | (simp; omega) | omega)))⟩
end Go.Proofs.YtakohhlmomgegaaDoor
