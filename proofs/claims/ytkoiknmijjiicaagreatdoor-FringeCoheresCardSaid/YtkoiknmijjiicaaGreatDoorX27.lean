/- Chapter 4: two scenes: the error of both, their interferogram with its error. -/
import Derived.Test.YtkoiknmijjiicaaGreatDoorX19
import Derived.Test.YtkoiknmijjiicaaGreatDoorX20
import Derived.Test.YtkoiknmijjiicaaGreatDoorU77
namespace Go.Proofs.YtkoiknmijjiicaaGreatDoor
set_option linter.unusedVariables false
set_option linter.unusedSimpArgs false
open Go.RowKit Ieee Ntt
/-- What an interferogram says: with an error, or without. -/
def IfSay (W : World) (B : Nat) (L S : Int) (n : Nat) (f : Nat → Nat × Nat) (E : Int) (l s : Int) (n' : Nat) (a : Option Addr) : Prop := (E = 0 → l = L ∧ s = S ∧ n' = n ∧ OwnS W B n f a) ∧ (E ≠ 0 → l = 0 ∧ s = 0 ∧ n' = 0)
theorem IfSay.below {W W' : World} {B n n' : Nat} {L S E l s : Int} {f : Nat → Nat × Nat} {a : Option Addr} (h : IfSay W B L S n f E l s n' a) (hb : Below W.heap.size W W') : IfSay W' B L S n f E l s n' a :=
  ⟨fun h0 => by obtain ⟨h1, h2, h3, h4⟩ := h.1 h0; exact ⟨h1, h2, h3, h4.below hb⟩, h.2⟩
theorem IfSay.mono {W : World} {B B' n n' : Nat} {L S E l s : Int} {f : Nat → Nat × Nat} {a : Option Addr} (h : IfSay W B L S n f E l s n' a) (hb : B' ≤ B) : IfSay W B' L S n f E l s n' a :=
  ⟨fun h0 => by obtain ⟨h1, h2, h3, h4⟩ := h.1 h0; exact ⟨h1, h2, h3, h4.mono hb⟩, h.2⟩
theorem IfSay.set {W : World} {B n n' : Nat} {L S E l s : Int} {f : Nat → Nat × Nat} {a : Option Addr} (h : IfSay W B L S n f E l s n' a) {p : Addr} (hp : p.block < B) (v : Value) : IfSay (W.setCell p v) B L S n f E l s n' a :=
  ⟨fun h0 => by obtain ⟨h1, h2, h3, h4⟩ := h.1 h0; exact ⟨h1, h2, h3, h4.set hp v⟩, h.2⟩
/-- The bits of an interferogram of samples. -/
def ifB (f f' : Nat → Nat × Nat) : Nat → Nat × Nat := nmF (intfF (xB f) (yB f) (xB f') (yB f'))
def IfDet (L S : Int) (n : Nat) (f : Nat → Nat × Nat) (E : Int) (w : World) (e : Ending) (w' : World) : Prop :=
  ∃ l s n' a c, e = .returned (.tuple #[.agg #[.int .i64 l, .int .i64 s, .slice a n' c], .int .i64 E]) ∧ IfSay w' w.heap.size L S n f E l s n' a ∧ n' ≤ c ∧ Below w.heap.size w w'
theorem interfere_det (L S : Int) (n cap : Nat) (f : Nat → Nat × Nat) (a : Option Addr) (L' S' : Int) (n' cap' : Nat) (f' : Nat → Nat × Nat) (a' : Option Addr) (w : World) (hl : n ≤ 100000) (hl' : n' ≤ 100000) (hd : DataAt w L S n f a) (hd' : DataAt w L' S' n' f' a') {e0 : Int} (he : pairE L S n f L' S' n' f' = e0) :
    Calls Tryz.prog 29 #[.agg #[.int .i64 L, .int .i64 S, .slice a n cap], .agg #[.int .i64 L', .int .i64 S', .slice a' n' cap']] w (IfDet L S n (ifB f f') e0 w) := by
  by_cases h0 : e0 = 0
  · subst h0
    obtain ⟨e1, e2, rfl, rfl⟩ := pairE_zero he
    obtain ⟨s1, -⟩ := imgE_zero e1
    obtain ⟨⟨l1, l2⟩, ⟨s1', s2⟩, -⟩ := sizeE_okU s1
    obtain ⟨L0, rfl⟩ := Int.eq_ofNat_of_zero_le (show 0 ≤ L by omega)
    obtain ⟨S0, rfl⟩ := Int.eq_ofNat_of_zero_le (show 0 ≤ S by omega)
    refine (interfere_ok L0 S0 n cap f a n' cap' f' a' w hl hl' hd hd' he).mono ?_
    rintro e w' ⟨a4, c4, rfl, ho, hc, hb⟩
    exact ⟨_, _, _, a4, c4, rfl, ⟨fun _ => ⟨rfl, rfl, rfl, ho⟩, fun h => absurd rfl h⟩, hc, hb⟩
  · refine (interfere_bad L S n cap f a L' S' n' cap' f' a' w hl hl' hd hd' he h0).mono ?_
    rintro e w' ⟨rfl, hb⟩
    exact ⟨0, 0, 0, none, 0, rfl, ⟨fun h => absurd h h0, fun _ => ⟨rfl, rfl, rfl⟩⟩, Nat.le_refl _, hb⟩
/-- The error of two scenes. -/
def scnE (x y : Scn) : Int := pairE x.L x.S (x.m / 2) (smp x.p) y.L y.S (y.m / 2) (smp y.p)
set_option maxRecDepth 20000 in
set_option maxHeartbeats 4000000 in
theorem lPair (x y : Scn) (w : World) (hx : x.At w) (hy : y.At w) (hmx : x.m ≤ 100000) (hmy : y.m ≤ 100000) {e0 : Int} (he : scnE x y = e0) :
    Calls Tryz.prog 10 #[.agg #[.int .i64 x.L, .int .i64 x.S, .slice x.pa x.m x.pc, .slice x.ca x.mc x.cc], .agg #[.int .i64 y.L, .int .i64 y.S, .slice y.pa y.m y.pc, .slice y.ca y.mc y.cc]] w fun e w' => e = .returned (.int .i64 e0) ∧ Below w.heap.size w w' := by
  have HIX := Lib.hid (show ∀ W, Below w.heap.size w W → _ from fun W hW => lImage x W hmx (hx.below hW))
  have HIY := Lib.hid (show ∀ W, Below w.heap.size w W → _ from fun W hW => lImage y W hmy (hy.below hW))
  obtain ⟨i1, z1, hz1⟩ : ∃ i1 z1, imgE x.L x.S (x.m / 2) (smp x.p) = (i1, z1) := ⟨_, _, rfl⟩
  obtain ⟨i2, z2, hz2⟩ : ∃ i2 z2, imgE y.L y.S (y.m / 2) (smp y.p) = (i2, z2) := ⟨_, _, rfl⟩
  have HE1 := Lib.hid hz1
  have HE2 := Lib.hid hz2
  unfold scnE pairE at he
  rw [hz1, hz2] at he
  dsimp only at he
  clear hx hy hz1 hz2
  by_cases h1 : z1 = 0
  · subst h1
    by_cases h2 : z2 = 0
    · subst h2
      rw [if_pos (show first2 0 0 = 0 from rfl)] at he
      by_cases h3 : x.L = y.L
      · have d1 : (x.L != y.L) = false := by simpa using h3
        by_cases h4 : x.S = y.S
        · have d2 : (x.S != y.S) = false := by simpa using h4
          rw [if_pos ⟨h3, h4⟩] at he
          subst he
          clear h3 h4
          go_enter Tryz.func10, Tryz.ntmps10
          go_wp2_with (first | (go_at_call 9; (with_reducible refine (HIX.out _ (by (repeat' (first | with_reducible exact Below.refl _ _ | (with_reducible refine below_later_of ?_ ?_ _) | (with_reducible refine Below.alloc ?_ ?_ _) | (with_reducible refine Below.setCell ?_ ?_ _) | (with_reducible refine Below.drew ?_) | (simp; done) | (simp; omega) | omega)))).mono ?_); rintro e w' ⟨a1, c1, rfl, ha, -, hb⟩; have HA1 := Lib.hid ha; clear ha; obtain ⟨q1, rfl⟩ := later_of_below hb; clear hb) | (go_at_call 9; (with_reducible refine (HIY.out _ (by (repeat' (first | with_reducible exact Below.refl _ _ | (with_reducible refine below_later_of ?_ ?_ _) | (with_reducible refine Below.alloc ?_ ?_ _) | (with_reducible refine Below.setCell ?_ ?_ _) | (with_reducible refine Below.drew ?_) | (simp; done) | (simp; omega) | omega)))).mono ?_); rintro e w' ⟨a2, c2, rfl, ha, -, hb⟩; have HA2 := Lib.hid ha; clear ha; obtain ⟨q2, rfl⟩ := later_of_below hb; clear hb) | (go_at_call 45; (with_reducible refine (rCheckImage x.L x.S (x.m / 2) c1 (smp x.p) a1 _ (by omega) (dataAt_own HA1.out (by (repeat' (first | with_reducible exact Below.refl _ _ | (with_reducible refine below_later_of ?_ ?_ _) | (with_reducible refine Below.alloc ?_ ?_ _) | (with_reducible refine Below.setCell ?_ ?_ _) | (with_reducible refine Below.drew ?_) | (simp; done) | (simp; omega) | omega)))) HE1.out).mono ?_); rintro e w' ⟨rfl, hb⟩; obtain ⟨q3, rfl⟩ := later_of_below hb; clear hb) | (go_at_call 45; (with_reducible refine (rCheckImage y.L y.S (y.m / 2) c2 (smp y.p) a2 _ (by omega) (dataAt_own HA2.out (by (repeat' (first | with_reducible exact Below.refl _ _ | (with_reducible refine below_later_of ?_ ?_ _) | (with_reducible refine Below.alloc ?_ ?_ _) | (with_reducible refine Below.setCell ?_ ?_ _) | (with_reducible refine Below.drew ?_) | (simp; done) | (simp; omega) | omega)))) HE2.out).mono ?_); rintro e w' ⟨rfl, hb⟩; obtain ⟨q4, rfl⟩ := later_of_below hb; clear hb))
          go_ret
          exact ⟨rfl, (by (repeat' (first | with_reducible exact Below.refl _ _ | (with_reducible refine below_later_of ?_ ?_ _) | (with_reducible refine Below.alloc ?_ ?_ _) | (with_reducible refine Below.setCell ?_ ?_ _) | (with_reducible refine Below.drew ?_) | (simp; done) | (simp; omega) | omega)))⟩
        · have d2 : (x.S != y.S) = true := by simpa using h4
          rw [if_neg (fun h => h4 h.2)] at he
          subst he
          clear h3 h4
          go_enter Tryz.func10, Tryz.ntmps10
          go_wp2_with (first | (go_at_call 9; (with_reducible refine (HIX.out _ (by (repeat' (first | with_reducible exact Below.refl _ _ | (with_reducible refine below_later_of ?_ ?_ _) | (with_reducible refine Below.alloc ?_ ?_ _) | (with_reducible refine Below.setCell ?_ ?_ _) | (with_reducible refine Below.drew ?_) | (simp; done) | (simp; omega) | omega)))).mono ?_); rintro e w' ⟨a1, c1, rfl, ha, -, hb⟩; have HA1 := Lib.hid ha; clear ha; obtain ⟨q1, rfl⟩ := later_of_below hb; clear hb) | (go_at_call 9; (with_reducible refine (HIY.out _ (by (repeat' (first | with_reducible exact Below.refl _ _ | (with_reducible refine below_later_of ?_ ?_ _) | (with_reducible refine Below.alloc ?_ ?_ _) | (with_reducible refine Below.setCell ?_ ?_ _) | (with_reducible refine Below.drew ?_) | (simp; done) | (simp; omega) | omega)))).mono ?_); rintro e w' ⟨a2, c2, rfl, ha, -, hb⟩; have HA2 := Lib.hid ha; clear ha; obtain ⟨q2, rfl⟩ := later_of_below hb; clear hb) | (go_at_call 45; (with_reducible refine (rCheckImage x.L x.S (x.m / 2) c1 (smp x.p) a1 _ (by omega) (dataAt_own HA1.out (by (repeat' (first | with_reducible exact Below.refl _ _ | (with_reducible refine below_later_of ?_ ?_ _) | (with_reducible refine Below.alloc ?_ ?_ _) | (with_reducible refine Below.setCell ?_ ?_ _) | (with_reducible refine Below.drew ?_) | (simp; done) | (simp; omega) | omega)))) HE1.out).mono ?_); rintro e w' ⟨rfl, hb⟩; obtain ⟨q3, rfl⟩ := later_of_below hb; clear hb) | (go_at_call 45; (with_reducible refine (rCheckImage y.L y.S (y.m / 2) c2 (smp y.p) a2 _ (by omega) (dataAt_own HA2.out (by (repeat' (first | with_reducible exact Below.refl _ _ | (with_reducible refine below_later_of ?_ ?_ _) | (with_reducible refine Below.alloc ?_ ?_ _) | (with_reducible refine Below.setCell ?_ ?_ _) | (with_reducible refine Below.drew ?_) | (simp; done) | (simp; omega) | omega)))) HE2.out).mono ?_); rintro e w' ⟨rfl, hb⟩; obtain ⟨q4, rfl⟩ := later_of_below hb; clear hb))
          go_ret
          exact ⟨rfl, (by (repeat' (first | with_reducible exact Below.refl _ _ | (with_reducible refine below_later_of ?_ ?_ _) | (with_reducible refine Below.alloc ?_ ?_ _) | (with_reducible refine Below.setCell ?_ ?_ _) | (with_reducible refine Below.drew ?_) | (simp; done) | (simp; omega) | omega)))⟩
      · have d1 : (x.L != y.L) = true := by simpa using h3
        rw [if_neg (fun h => h3 h.1)] at he
        subst he
        clear h3
        go_enter Tryz.func10, Tryz.ntmps10
        go_wp2_with (first | (go_at_call 9; (with_reducible refine (HIX.out _ (by (repeat' (first | with_reducible exact Below.refl _ _ | (with_reducible refine below_later_of ?_ ?_ _) | (with_reducible refine Below.alloc ?_ ?_ _) | (with_reducible refine Below.setCell ?_ ?_ _) | (with_reducible refine Below.drew ?_) | (simp; done) | (simp; omega) | omega)))).mono ?_); rintro e w' ⟨a1, c1, rfl, ha, -, hb⟩; have HA1 := Lib.hid ha; clear ha; obtain ⟨q1, rfl⟩ := later_of_below hb; clear hb) | (go_at_call 9; (with_reducible refine (HIY.out _ (by (repeat' (first | with_reducible exact Below.refl _ _ | (with_reducible refine below_later_of ?_ ?_ _) | (with_reducible refine Below.alloc ?_ ?_ _) | (with_reducible refine Below.setCell ?_ ?_ _) | (with_reducible refine Below.drew ?_) | (simp; done) | (simp; omega) | omega)))).mono ?_); rintro e w' ⟨a2, c2, rfl, ha, -, hb⟩; have HA2 := Lib.hid ha; clear ha; obtain ⟨q2, rfl⟩ := later_of_below hb; clear hb) | (go_at_call 45; (with_reducible refine (rCheckImage x.L x.S (x.m / 2) c1 (smp x.p) a1 _ (by omega) (dataAt_own HA1.out (by (repeat' (first | with_reducible exact Below.refl _ _ | (with_reducible refine below_later_of ?_ ?_ _) | (with_reducible refine Below.alloc ?_ ?_ _) | (with_reducible refine Below.setCell ?_ ?_ _) | (with_reducible refine Below.drew ?_) | (simp; done) | (simp; omega) | omega)))) HE1.out).mono ?_); rintro e w' ⟨rfl, hb⟩; obtain ⟨q3, rfl⟩ := later_of_below hb; clear hb) | (go_at_call 45; (with_reducible refine (rCheckImage y.L y.S (y.m / 2) c2 (smp y.p) a2 _ (by omega) (dataAt_own HA2.out (by (repeat' (first | with_reducible exact Below.refl _ _ | (with_reducible refine below_later_of ?_ ?_ _) | (with_reducible refine Below.alloc ?_ ?_ _) | (with_reducible refine Below.setCell ?_ ?_ _) | (with_reducible refine Below.drew ?_) | (simp; done) | (simp; omega) | omega)))) HE2.out).mono ?_); rintro e w' ⟨rfl, hb⟩; obtain ⟨q4, rfl⟩ := later_of_below hb; clear hb))
        go_ret
        exact ⟨rfl, (by (repeat' (first | with_reducible exact Below.refl _ _ | (with_reducible refine below_later_of ?_ ?_ _) | (with_reducible refine Below.alloc ?_ ?_ _) | (with_reducible refine Below.setCell ?_ ?_ _) | (with_reducible refine Below.drew ?_) | (simp; done) | (simp; omega) | omega)))⟩
    · have hne : (z2 != 0) = true := by simpa using h2
      rw [show first2 0 z2 = z2 from rfl, if_neg h2] at he
      subst he
      clear h2
      go_enter Tryz.func10, Tryz.ntmps10
      go_wp2_with (first | (go_at_call 9; (with_reducible refine (HIX.out _ (by (repeat' (first | with_reducible exact Below.refl _ _ | (with_reducible refine below_later_of ?_ ?_ _) | (with_reducible refine Below.alloc ?_ ?_ _) | (with_reducible refine Below.setCell ?_ ?_ _) | (with_reducible refine Below.drew ?_) | (simp; done) | (simp; omega) | omega)))).mono ?_); rintro e w' ⟨a1, c1, rfl, ha, -, hb⟩; have HA1 := Lib.hid ha; clear ha; obtain ⟨q1, rfl⟩ := later_of_below hb; clear hb) | (go_at_call 9; (with_reducible refine (HIY.out _ (by (repeat' (first | with_reducible exact Below.refl _ _ | (with_reducible refine below_later_of ?_ ?_ _) | (with_reducible refine Below.alloc ?_ ?_ _) | (with_reducible refine Below.setCell ?_ ?_ _) | (with_reducible refine Below.drew ?_) | (simp; done) | (simp; omega) | omega)))).mono ?_); rintro e w' ⟨a2, c2, rfl, ha, -, hb⟩; have HA2 := Lib.hid ha; clear ha; obtain ⟨q2, rfl⟩ := later_of_below hb; clear hb) | (go_at_call 45; (with_reducible refine (rCheckImage x.L x.S (x.m / 2) c1 (smp x.p) a1 _ (by omega) (dataAt_own HA1.out (by (repeat' (first | with_reducible exact Below.refl _ _ | (with_reducible refine below_later_of ?_ ?_ _) | (with_reducible refine Below.alloc ?_ ?_ _) | (with_reducible refine Below.setCell ?_ ?_ _) | (with_reducible refine Below.drew ?_) | (simp; done) | (simp; omega) | omega)))) HE1.out).mono ?_); rintro e w' ⟨rfl, hb⟩; obtain ⟨q3, rfl⟩ := later_of_below hb; clear hb) | (go_at_call 45; (with_reducible refine (rCheckImage y.L y.S (y.m / 2) c2 (smp y.p) a2 _ (by omega) (dataAt_own HA2.out (by (repeat' (first | with_reducible exact Below.refl _ _ | (with_reducible refine below_later_of ?_ ?_ _) | (with_reducible refine Below.alloc ?_ ?_ _) | (with_reducible refine Below.setCell ?_ ?_ _) | (with_reducible refine Below.drew ?_) | (simp; done) | (simp; omega) | omega)))) HE2.out).mono ?_); rintro e w' ⟨rfl, hb⟩; obtain ⟨q4, rfl⟩ := later_of_below hb; clear hb))
      go_ret
      exact ⟨rfl, (by (repeat' (first | with_reducible exact Below.refl _ _ | (with_reducible refine below_later_of ?_ ?_ _) | (with_reducible refine Below.alloc ?_ ?_ _) | (with_reducible refine Below.setCell ?_ ?_ _) | (with_reducible refine Below.drew ?_) | (simp; done) | (simp; omega) | omega)))⟩
  · have hne : (z1 != 0) = true := by simpa using h1
    rw [show first2 z1 z2 = z1 from if_neg h1, if_neg h1] at he
    subst he
    clear h1
    go_enter Tryz.func10, Tryz.ntmps10
    go_wp2_with (first | (go_at_call 9; (with_reducible refine (HIX.out _ (by (repeat' (first | with_reducible exact Below.refl _ _ | (with_reducible refine below_later_of ?_ ?_ _) | (with_reducible refine Below.alloc ?_ ?_ _) | (with_reducible refine Below.setCell ?_ ?_ _) | (with_reducible refine Below.drew ?_) | (simp; done) | (simp; omega) | omega)))).mono ?_); rintro e w' ⟨a1, c1, rfl, ha, -, hb⟩; have HA1 := Lib.hid ha; clear ha; obtain ⟨q1, rfl⟩ := later_of_below hb; clear hb) | (go_at_call 45; (with_reducible refine (rCheckImage x.L x.S (x.m / 2) c1 (smp x.p) a1 _ (by omega) (dataAt_own HA1.out (by (repeat' (first | with_reducible exact Below.refl _ _ | (with_reducible refine below_later_of ?_ ?_ _) | (with_reducible refine Below.alloc ?_ ?_ _) | (with_reducible refine Below.setCell ?_ ?_ _) | (with_reducible refine Below.drew ?_) | (simp; done) | (simp; omega) | omega)))) HE1.out).mono ?_); rintro e w' ⟨rfl, hb⟩; obtain ⟨q3, rfl⟩ := later_of_below hb; clear hb))
    go_ret
    exact ⟨rfl, (by (repeat' (first | with_reducible exact Below.refl _ _ | (with_reducible refine below_later_of ?_ ?_ _) | (with_reducible refine Below.alloc ?_ ?_ _) | (with_reducible refine Below.setCell ?_ ?_ _) | (with_reducible refine Below.drew ?_) | (simp; done) | (simp; omega) | omega)))⟩
end Go.Proofs.YtkoiknmijjiicaaGreatDoor
