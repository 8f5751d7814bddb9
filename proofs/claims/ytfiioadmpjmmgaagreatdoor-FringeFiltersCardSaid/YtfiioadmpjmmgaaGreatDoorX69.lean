/- Chapter 4: the law FringeFilters. -/
import Derived.Test.YtfiioadmpjmmgaaGreatDoorX68
namespace Go.Proofs.YtfiioadmpjmmgaaGreatDoor
set_option linter.unusedVariables false
set_option linter.unusedSimpArgs false
open Go.RowKit Ieee Ntt
/-- What Filtered says of a field: a field, or nothing. -/
structure FdSay (W : World) (B : Nat) (L S : Int) (n : Nat) (F : Nat → Nat × Nat) (E : Int) (l s : Int) (k : Nat) (a : Option Addr) : Prop where
  ok : E = 0 → l = L ∧ s = S ∧ k = n ∧ OwnS W B n F a
  bad : E ≠ 0 → l = 0 ∧ s = 0 ∧ k = 0
theorem FdSay.sum {W : World} {B : Nat} {L S : Int} {n : Nat} {F : Nat → Nat × Nat} {E : Int} {l s : Int} {k c : Nat} {a : Option Addr} (h : FdSay W B L S n F E l s k a) (hn : n ≤ 100000) : SumV W (.slice a k c) k F := by
  by_cases h0 : E = 0
  · obtain ⟨-, -, rfl, ho⟩ := h.ok h0
    exact ⟨hn, a, c, rfl, fun hp => by obtain ⟨g, h1, -, h3, h4⟩ := ho hp; exact ⟨g, 0, h1, h3, h4⟩⟩
  · obtain ⟨-, -, rfl⟩ := h.bad h0
    exact ⟨by decide, a, c, rfl, fun hp => absurd hp (by decide)⟩
theorem FdSay.below {W W' : World} {B : Nat} {L S : Int} {n : Nat} {F : Nat → Nat × Nat} {E : Int} {l s : Int} {k : Nat} {a : Option Addr} (h : FdSay W B L S n F E l s k a) (hb : Below W.heap.size W W') : FdSay W' B L S n F E l s k a :=
  ⟨fun e => by
    obtain ⟨h1, h2, h3, h4⟩ := h.ok e
    exact ⟨h1, h2, h3, fun hp => by obtain ⟨g, q1, q2, q3, q4⟩ := h4 hp; exact ⟨g, q1, q2, by have := hb.size; omega, q4.below q3 hb⟩⟩, h.bad⟩
theorem FdSay.set {W : World} {B : Nat} {L S : Int} {n : Nat} {F : Nat → Nat × Nat} {E : Int} {l s : Int} {k : Nat} {a : Option Addr} (h : FdSay W B L S n F E l s k a) {p : Addr} (hp : p.block < B) (v : Value) : FdSay (W.setCell p v) B L S n F E l s k a :=
  ⟨fun e => by
    obtain ⟨h1, h2, h3, h4⟩ := h.ok e
    exact ⟨h1, h2, h3, OwnS.set h4 hp v⟩, h.bad⟩
/-- Both Filtered say one thing. -/
theorem filt_both (L S : Int) (n : Nat) (f : Nat → Nat × Nat) (half : Int) (hl : n ≤ 1000) (hw : Wide64 n f) : ∃ (F : Nat → Nat × Nat) (E : Int),
    ((fldE L S n f).2 ≠ 0 → E = (fldE L S n f).2) ∧
    (∀ W a cap, FldAt W L S n f a → Calls Tryz.prog 14 #[.agg #[.int .i64 L, .int .i64 S, .slice a n cap], .int .i64 half] W fun e w' => ∃ l s k q c, e = .returned (.tuple #[.agg #[.int .i64 l, .int .i64 s, .slice q k c], .int .i64 E]) ∧ FdSay w' W.heap.size L S n F E l s k q ∧ Below W.heap.size W w') ∧
    ((fldE L S n f).2 = 0 → ∀ W a cap, FldAt W L S n f a → Calls Tryz.prog 17 #[.agg #[.int .i64 L, .int .i64 S, .slice a n cap], .int .i64 half] W fun e w' => ∃ l s k q c, e = .returned (.tuple #[.agg #[.int .i64 l, .int .i64 s, .slice q k c], .int .i64 E]) ∧ FdSay w' W.heap.size L S n F E l s k q ∧ Below W.heap.size W w') := by
  by_cases h0 : (fldE L S n f).2 = 0
  · obtain ⟨s1, g1⟩ := fldE_zero h0
    obtain ⟨⟨hL1, hL⟩, ⟨hS1, hS⟩, hn⟩ := sizeE_okU s1
    obtain ⟨L, rfl⟩ : ∃ m : Nat, L = m := ⟨L.toNat, by omega⟩
    obtain ⟨S, rfl⟩ : ∃ m : Nat, S = m := ⟨S.toNat, by omega⟩
    have hX : SmallD n f (xD f) (yD f) 1000000000 := smallD_of hw g1
    by_cases hwin : winE half = 0
    · have hh : 0 ≤ half ∧ half ≤ 4 := by
        unfold winE at hwin
        split at hwin
        · rename_i h; exact inE_iff.1 h
        · exact absurd hwin (by decide)
      obtain ⟨half, rfl⟩ : ∃ m : Nat, half = m := ⟨half.toNat, by omega⟩
      have hE : filE L S n f half = 0 := by unfold filE first2; rw [h0, if_pos rfl]; exact hwin
      have hnn : n = L * S := by exact_mod_cast hn
      rcases (show anyL n (filF (xD f) (yD f) L S half) = false ∨ anyL n (filF (xD f) (yD f) L S half) = true by cases anyL n (filF (xD f) (yD f) L S half) <;> simp) with hc | hc
      · refine ⟨nmF (filF (xD f) (yD f) L S half), 0, fun h => absurd h0 h, fun W a cap hd => (filtered_ok L S n half cap f a W hd hw (by omega) hE hc).mono ?_, fun _ W a cap hd => ?_⟩
        · rintro e w' ⟨q, c, rfl, ho, -, hb⟩
          exact ⟨L, S, n, q, c, rfl, ⟨fun _ => ⟨rfl, rfl, rfl, ho⟩, fun h => absurd rfl h⟩, hb⟩
        · obtain ⟨b, off, rfl, hbw, hf⟩ := hd s1
          refine (rFiltered L S n half cap b off f (xD f) (yD f) W hnn (by omega) (by omega) (by omega) (by omega) (by omega) hbw hf hX).mono ?_
          rintro e w' (⟨h1, -, -⟩ | ⟨-, q, c, rfl, ho, -, hb⟩)
          · rw [hc] at h1; cases h1
          · exact ⟨L, S, n, q, c, rfl, ⟨fun _ => ⟨rfl, rfl, rfl, ho⟩, fun h => absurd rfl h⟩, hb⟩
      · refine ⟨fun _ => (0, 0), 8, fun h => absurd h0 h, fun W a cap hd => (filtered_large L S n half cap f a W hd hw (by omega) hE hc).mono ?_, fun _ W a cap hd => ?_⟩
        · rintro e w' ⟨rfl, hb⟩
          exact ⟨0, 0, 0, none, 0, rfl, ⟨fun h => absurd h (by decide), fun _ => ⟨rfl, rfl, rfl⟩⟩, hb⟩
        · obtain ⟨b, off, rfl, hbw, hf⟩ := hd s1
          refine (rFiltered L S n half cap b off f (xD f) (yD f) W hnn (by omega) (by omega) (by omega) (by omega) (by omega) hbw hf hX).mono ?_
          rintro e w' (⟨-, rfl, hb⟩ | ⟨h1, -⟩)
          · exact ⟨0, 0, 0, none, 0, rfl, ⟨fun h => absurd h (by decide), fun _ => ⟨rfl, rfl, rfl⟩⟩, hb⟩
          · rw [hc] at h1; cases h1
    · have hw2 : winE half = 2 ∧ inE 0 4 half = false := by
        unfold winE at hwin ⊢
        split at hwin
        · exact absurd rfl hwin
        · rename_i h
          exact ⟨by rw [if_neg h], by simpa using h⟩
      refine ⟨fun _ => (0, 0), 2, fun h => absurd h0 h, fun W a cap hd => (filtered_bad L S n cap f a half W (by omega) hd hw (e0 := 2) (by unfold filE first2; rw [h0, if_pos rfl]; exact hw2.1) (by decide)).mono ?_, fun _ W a cap hd => (rFiltered_win L S half n cap a W hw2.2).mono ?_⟩
      · rintro e w' ⟨rfl, hb⟩
        exact ⟨0, 0, 0, none, 0, rfl, ⟨fun h => absurd h (by decide), fun _ => ⟨rfl, rfl, rfl⟩⟩, hb⟩
      · rintro e w' ⟨rfl, hb⟩
        exact ⟨0, 0, 0, none, 0, rfl, ⟨fun h => absurd h (by decide), fun _ => ⟨rfl, rfl, rfl⟩⟩, hb⟩
  · refine ⟨fun _ => (0, 0), (fldE L S n f).2, fun _ => rfl, fun W a cap hd => (filtered_bad L S n cap f a half W (by omega) hd hw (e0 := (fldE L S n f).2) (by unfold filE first2; rw [if_neg h0]) h0).mono ?_, fun h => absurd h h0⟩
    rintro e w' ⟨rfl, hb⟩
    exact ⟨0, 0, 0, none, 0, rfl, ⟨fun h => absurd h h0, fun _ => ⟨rfl, rfl, rfl⟩⟩, hb⟩
theorem fd_same {W : World} {B B' : Nat} {L S : Int} {n : Nat} {F : Nat → Nat × Nat} {E : Int} {l s : Int} {k c : Nat} {a : Option Addr} {l' s' : Int} {k' c' : Nat} {a' : Option Addr} (h : FdSay W B L S n F E l s k a) (h' : FdSay W B' L S n F E l' s' k' a') (hn : n ≤ 100000) :
    Calls Tryz.prog 18 #[.agg #[.int .i64 l, .int .i64 s, .slice a k c], .agg #[.int .i64 l', .int .i64 s', .slice a' k' c']] W fun e w' => e = .returned (.bool true) ∧ Below W.heap.size W w' := by
  refine sameFd_any l s l' s' k k' F F _ _ W (h.sum hn) (h'.sum hn) ⟨fun _ => ?_, fun _ => rfl⟩
  by_cases h0 : E = 0
  · obtain ⟨rfl, rfl, rfl, -⟩ := h.ok h0
    obtain ⟨rfl, rfl, rfl, -⟩ := h'.ok h0
    exact ⟨rfl, rfl, rfl, fun _ _ => rfl⟩
  · obtain ⟨rfl, rfl, rfl⟩ := h.bad h0
    obtain ⟨rfl, rfl, rfl⟩ := h'.bad h0
    exact ⟨rfl, rfl, rfl, fun _ _ => rfl⟩
theorem fd_none {W : World} {L S : Int} {n : Nat} {F : Nat → Nat × Nat} {E : Int} (h : E ≠ 0) : FdSay W 0 L S n F E 0 0 0 none := ⟨fun e => absurd e h, fun _ => ⟨rfl, rfl, rfl⟩⟩
set_option maxRecDepth 20000 in
set_option maxHeartbeats 8000000 in
theorem filters_any (L S : Int) (zs : List Int) (v : Value) (half : Int) (w : World) (hx : IntsX w v zs) (ht : Tab w) :
    Calls Tryz.prog 3 #[.agg #[.int .i64 L, .int .i64 S, v], .int .i64 half] w fun e w' => e = .returned (.bool true) ∧ Below w.heap.size w w' := by
  have HT := Lib.hid ht
  clear ht
  by_cases hn : zs.length ≤ 300
  · have hv := hx.ints (by omega)
    obtain ⟨⟨a, cap, rfl, -⟩, -⟩ := hx
    have hd1 : decide (300 < (zs.length : Int)) = false := by simp; omega
    have HSU0 := Lib.hid (show ∀ W, Below w.heap.size w W → _ from fun W hW => lSums L S zs _ W hn (hv.below hW))
    obtain ⟨i0, z0, hz0⟩ : ∃ i0 z0, fldE L S (zs.length / 2) (prtF zs) = (i0, z0) := ⟨_, _, rfl⟩
    have HEI := Lib.hid hz0
    obtain ⟨F, E, hE, hfi, hri⟩ := filt_both L S (zs.length / 2) (prtF zs) half (by omega) (prt_wide zs _)
    rw [hz0] at hE hri
    dsimp only at hE hri
    have HFI := Lib.hid hfi
    have HRR := Lib.hid hri
    have HEE := Lib.hid hE
    have hm : zs.length / 2 ≤ 150 := by omega
    generalize zs.length / 2 = m at *
    clear hv hz0 hE hfi hri
    have HSU := HSU0
    by_cases h0 : z0 = 0
    · subst h0
      have HRI := Lib.hid (HRR.out rfl)
      have dE : (E == E) = true := by simp
      clear HEE HRR
      go_enter Tryz.func3, Tryz.ntmps3
      go_wp2_with (first | (go_at_call 13; (with_reducible refine (awake4 _ (HT.out.below (by (repeat' (first | with_reducible exact Below.refl _ _ | (with_reducible refine below_later_of ?_ ?_ _) | (with_reducible refine Below.alloc ?_ ?_ _) | (with_reducible refine Below.setCell ?_ ?_ _) | (with_reducible refine Below.drew ?_) | (simp; done) | (simp; omega) | omega))))).mono ?_); rintro e w' ⟨rfl, hb⟩; obtain ⟨pp, rfl⟩ := later_of_below hb; clear hb) | (go_at_call 15; (with_reducible refine (HSU.out _ (by (repeat' (first | with_reducible exact Below.refl _ _ | (with_reducible refine below_later_of ?_ ?_ _) | (with_reducible refine Below.alloc ?_ ?_ _) | (with_reducible refine Below.setCell ?_ ?_ _) | (with_reducible refine Below.drew ?_) | (simp; done) | (simp; omega) | omega)))).mono ?_); rintro e w' ⟨a1, c1, rfl, ho, hb⟩; have HO1 := Lib.hid (ownS_fld (L := L) (S := S) ho); clear ho; obtain ⟨p1, rfl⟩ := later_of_below hb; clear hb) | (go_at_call 14; (with_reducible refine (HFI.out _ _ _ (HO1.out.below (by (repeat' (first | with_reducible exact Below.refl _ _ | (with_reducible refine below_later_of ?_ ?_ _) | (with_reducible refine Below.alloc ?_ ?_ _) | (with_reducible refine Below.setCell ?_ ?_ _) | (with_reducible refine Below.drew ?_) | (simp; done) | (simp; omega) | omega))))).mono ?_); rintro e w' ⟨l, s, k, q, c, rfl, hs, hb⟩; have HS := Lib.hid hs; clear hs; obtain ⟨p2, rfl⟩ := later_of_below hb; clear hb) | (go_at_call 16; (with_reducible refine (rCheckField _ _ _ _ (prtF zs) _ _ (by omega) (HO1.out.below (by (repeat' (first | with_reducible exact Below.refl _ _ | (with_reducible refine below_later_of ?_ ?_ _) | (with_reducible refine Below.alloc ?_ ?_ _) | (with_reducible refine Below.setCell ?_ ?_ _) | (with_reducible refine Below.drew ?_) | (simp; done) | (simp; omega) | omega)))) HEI.out).mono ?_); rintro e w' ⟨rfl, hb⟩; obtain ⟨p4, rfl⟩ := later_of_below hb; clear hb) | (go_at_call 17; (with_reducible refine (HRI.out _ _ _ (HO1.out.below (by (repeat' (first | with_reducible exact Below.refl _ _ | (with_reducible refine below_later_of ?_ ?_ _) | (with_reducible refine Below.alloc ?_ ?_ _) | (with_reducible refine Below.setCell ?_ ?_ _) | (with_reducible refine Below.drew ?_) | (simp; done) | (simp; omega) | omega))))).mono ?_); rintro e w' ⟨l2, s2, k2, q2, c2, rfl, hs, hb⟩; have HS2 := Lib.hid hs; clear hs; obtain ⟨p3, rfl⟩ := later_of_below hb; clear hb) | (go_at_call 18; (with_reducible refine (fd_same (HS.out.below (by (repeat' (first | with_reducible exact Below.refl _ _ | (with_reducible refine below_later_of ?_ ?_ _) | (with_reducible refine Below.alloc ?_ ?_ _) | (with_reducible refine Below.setCell ?_ ?_ _) | (with_reducible refine Below.drew ?_) | (simp; done) | (simp; omega) | omega)))) (FdSay.set (FdSay.set (FdSay.set HS2.out (by first | (simp; done) | (simp <;> omega)) _) (by first | (simp; done) | (simp <;> omega)) _) (by first | (simp; done) | (simp <;> omega)) _) (by omega)).mono ?_); rintro e w' ⟨rfl, hb⟩; obtain ⟨p5, rfl⟩ := later_of_below hb; clear hb))
      go_ret
      exact ⟨rfl, (by (repeat' (first | with_reducible exact Below.refl _ _ | (with_reducible refine below_later_of ?_ ?_ _) | (with_reducible refine Below.alloc ?_ ?_ _) | (with_reducible refine Below.setCell ?_ ?_ _) | (with_reducible refine Below.drew ?_) | (simp; done) | (simp; omega) | omega)))⟩
    · obtain rfl := HEE.out h0
      have HNE := Lib.hid h0
      have d0 : (E == 0) = false := by simpa using h0
      have dE : (E == E) = true := by simp
      clear h0 HEE HRR
      go_enter Tryz.func3, Tryz.ntmps3
      go_wp2_with (first | (go_at_call 13; (with_reducible refine (awake4 _ (HT.out.below (by (repeat' (first | with_reducible exact Below.refl _ _ | (with_reducible refine below_later_of ?_ ?_ _) | (with_reducible refine Below.alloc ?_ ?_ _) | (with_reducible refine Below.setCell ?_ ?_ _) | (with_reducible refine Below.drew ?_) | (simp; done) | (simp; omega) | omega))))).mono ?_); rintro e w' ⟨rfl, hb⟩; obtain ⟨pp, rfl⟩ := later_of_below hb; clear hb) | (go_at_call 15; (with_reducible refine (HSU.out _ (by (repeat' (first | with_reducible exact Below.refl _ _ | (with_reducible refine below_later_of ?_ ?_ _) | (with_reducible refine Below.alloc ?_ ?_ _) | (with_reducible refine Below.setCell ?_ ?_ _) | (with_reducible refine Below.drew ?_) | (simp; done) | (simp; omega) | omega)))).mono ?_); rintro e w' ⟨a1, c1, rfl, ho, hb⟩; have HO1 := Lib.hid (ownS_fld (L := L) (S := S) ho); clear ho; obtain ⟨p1, rfl⟩ := later_of_below hb; clear hb) | (go_at_call 14; (with_reducible refine (HFI.out _ _ _ (HO1.out.below (by (repeat' (first | with_reducible exact Below.refl _ _ | (with_reducible refine below_later_of ?_ ?_ _) | (with_reducible refine Below.alloc ?_ ?_ _) | (with_reducible refine Below.setCell ?_ ?_ _) | (with_reducible refine Below.drew ?_) | (simp; done) | (simp; omega) | omega))))).mono ?_); rintro e w' ⟨l, s, k, q, c, rfl, hs, hb⟩; have HS := Lib.hid hs; clear hs; obtain ⟨p2, rfl⟩ := later_of_below hb; clear hb) | (go_at_call 16; (with_reducible refine (rCheckField _ _ _ _ (prtF zs) _ _ (by omega) (HO1.out.below (by (repeat' (first | with_reducible exact Below.refl _ _ | (with_reducible refine below_later_of ?_ ?_ _) | (with_reducible refine Below.alloc ?_ ?_ _) | (with_reducible refine Below.setCell ?_ ?_ _) | (with_reducible refine Below.drew ?_) | (simp; done) | (simp; omega) | omega)))) HEI.out).mono ?_); rintro e w' ⟨rfl, hb⟩; obtain ⟨p4, rfl⟩ := later_of_below hb; clear hb) | (go_at_call 18; (with_reducible refine (fd_same (HS.out.below (by (repeat' (first | with_reducible exact Below.refl _ _ | (with_reducible refine below_later_of ?_ ?_ _) | (with_reducible refine Below.alloc ?_ ?_ _) | (with_reducible refine Below.setCell ?_ ?_ _) | (with_reducible refine Below.drew ?_) | (simp; done) | (simp; omega) | omega)))) (fd_none HNE.out) (by omega)).mono ?_); rintro e w' ⟨rfl, hb⟩; obtain ⟨p5, rfl⟩ := later_of_below hb; clear hb))
      go_ret
      exact ⟨rfl, (by (repeat' (first | with_reducible exact Below.refl _ _ | (with_reducible refine below_later_of ?_ ?_ _) | (with_reducible refine Below.alloc ?_ ?_ _) | (with_reducible refine Below.setCell ?_ ?_ _) | (with_reducible refine Below.drew ?_) | (simp; done) | (simp; omega) | omega)))⟩
  · obtain ⟨⟨a, cap, rfl, -⟩, -⟩ := hx
    have hd1 : decide (300 < (zs.length : Int)) = true := by simp; omega
    go_enter Tryz.func3, Tryz.ntmps3
    go_wp2_with (first | (go_at_call 13; (with_reducible refine (awake4 _ (HT.out.below (by (repeat' (first | with_reducible exact Below.refl _ _ | (with_reducible refine below_later_of ?_ ?_ _) | (with_reducible refine Below.alloc ?_ ?_ _) | (with_reducible refine Below.setCell ?_ ?_ _) | (with_reducible refine Below.drew ?_) | (simp; done) | (simp; omega) | omega))))).mono ?_); rintro e w' ⟨rfl, hb⟩; obtain ⟨pp, rfl⟩ := later_of_below hb; clear hb))
    go_ret
    exact ⟨rfl, (by (repeat' (first | with_reducible exact Below.refl _ _ | (with_reducible refine below_later_of ?_ ?_ _) | (with_reducible refine Below.alloc ?_ ?_ _) | (with_reducible refine Below.setCell ?_ ?_ _) | (with_reducible refine Below.drew ?_) | (simp; done) | (simp; omega) | omega)))⟩
end Go.Proofs.YtfiioadmpjmmgaaGreatDoor
