/- Chapter 1: the reference's Compress as the program's; fields compared; no field. -/
import Derived.Test.YtakohhlmomgegaaDoorU79
import Derived.Test.YtakohhlmomgegaaDoorZS
namespace Go.Proofs.YtakohhlmomgegaaDoor
set_option linter.unusedVariables false
set_option linter.unusedSimpArgs false
open Go.RowKit Ieee Ntt
theorem rCompress_det (L S : Int) (n cap C ccap : Nat) (f fc : Nat → Nat × Nat) (a ca : Option Addr) (w : World) (hd : DataAt w L S n f a) (hc : CodeAt w C fc ca) (he1 : (imgE L S n f).2 = 0) (he2 : (codeE C fc).2 = 0) {e0 : Int} (hE : compE L S n C f fc = e0) :
    Calls Tryd.prog 26 #[.agg #[.int .i64 L, .int .i64 S, .slice a n cap], .slice ca C ccap] w (CompDet L S n C f fc e0 w) := by
  have he := first2_mk he1 he2
  obtain ⟨hs, hg⟩ := imgE_zero he1
  obtain ⟨hC0, hC1, hgc, -⟩ := codeE_zero he2
  obtain ⟨⟨l1, l2⟩, ⟨s1, s2⟩, hnn⟩ := sizeE_zero hs
  by_cases h0 : S < C
  · obtain rfl : e0 = 10 := by rw [← hE]; unfold compE; rw [if_pos he, if_pos h0]
    refine (rCompress_short L S n cap C ccap a ca w h0).mono ?_
    rintro e w' ⟨rfl, hb⟩
    exact ⟨0, 0, 0, none, 0, rfl, fun h => absurd h (by decide), fun _ => ⟨rfl, rfl, rfl⟩, hb⟩
  · obtain rfl : e0 = 0 := by rw [← hE]; unfold compE; rw [if_pos he, if_neg h0]
    obtain ⟨L0, rfl⟩ := Int.eq_ofNat_of_zero_le (show 0 ≤ L by omega)
    obtain ⟨S0, rfl⟩ := Int.eq_ofNat_of_zero_le (show 0 ≤ S by omega)
    have hn : n = L0 * S0 := by exact_mod_cast hnn
    obtain ⟨b, off, rfl, hbw, hf⟩ := hd hs
    obtain ⟨cb, coff, rfl, hcw, hfc⟩ := hc hC0
    refine (rCompress_ok L0 (S0 + 1 - C) C S0 b off n cap cb coff ccap f fc w (by omega) (by omega) (by omega) (by omega) (by omega) hn hbw hcw hf hfc (smallS_of (by decide) hg) (smallS_of (by decide) hgc)).mono ?_
    rintro e w' ⟨a', c', rfl, ho, hb⟩
    exact ⟨_, _, _, a', c', rfl, fun _ => ⟨L0, S0, rfl, rfl, by omega, hn, rfl, rfl, rfl, smallS_of (by decide) hg, smallS_of (by decide) hgc, ho⟩, fun h => absurd rfl h, hb⟩
theorem sumV_own {W : World} {base n c : Nat} {a : Option Addr} {F : Nat → Nat × Nat} (h : OwnS W base n F a) (hn : n ≤ 100000) : SumV W (.slice a n c) n F :=
  ⟨hn, a, c, rfl, fun hp => by
    obtain ⟨g, h1, -, h3, h4⟩ := h hp
    exact ⟨g, 0, h1, h3, h4⟩⟩
theorem sumV_none {W : World} {c : Nat} {a : Option Addr} {F : Nat → Nat × Nat} : SumV W (.slice a 0 c) 0 F := ⟨by decide, a, c, rfl, fun hp => absurd hp (by decide)⟩
/-- What a compression says: with its error, or without. -/
def CompSay (W : World) (L S : Int) (n C : Nat) (f fc : Nat → Nat × Nat) (e0 l s : Int) (n' : Nat) (a : Option Addr) : Prop := (e0 = 0 → CompOkB W 0 L S n C f fc l s n' a) ∧ (e0 ≠ 0 → l = 0 ∧ s = 0 ∧ n' = 0)
theorem CompSay.below {W W' : World} {L S : Int} {n C : Nat} {f fc : Nat → Nat × Nat} {e0 l s : Int} {n' : Nat} {a : Option Addr} (h : CompSay W L S n C f fc e0 l s n' a) (hb : Below W.heap.size W W') : CompSay W' L S n C f fc e0 l s n' a :=
  ⟨fun h0 => by
    obtain ⟨L0, S0, h1, h2, h3, h4, h5, h6, h7, h8, h9, h10⟩ := h.1 h0
    exact ⟨L0, S0, h1, h2, h3, h4, h5, h6, h7, h8, h9, h10.below hb⟩, h.2⟩
theorem same_comp {W : World} {L S : Int} {n C : Nat} {f fc : Nat → Nat × Nat} {e0 l s l2 s2 : Int} {n' n2 c c2 : Nat} {a a2 : Option Addr} (h : CompSay W L S n C f fc e0 l s n' a) (k : CompSay W L S n C f fc e0 l2 s2 n2 a2) :
    Calls Tryd.prog 27 #[.agg #[.int .i64 l, .int .i64 s, .slice a n' c], .agg #[.int .i64 l2, .int .i64 s2, .slice a2 n2 c2]] W fun e w' => e = .returned (.bool true) ∧ Below W.heap.size W w' := by
  by_cases h0 : e0 = 0
  · obtain ⟨L0, S0, rfl, rfl, ⟨b1, b2, b3, b4, b5, b6⟩, hn, rfl, rfl, rfl, h8, h9, h10⟩ := h.1 h0
    obtain ⟨L0', S0', hl, hs, -, -, rfl, rfl, rfl, -, -, k10⟩ := k.1 h0
    obtain rfl : L0 = L0' := by omega
    obtain rfl : S0 = S0' := by omega
    have hN : L0 * (S0 + 1 - C) ≤ 64 * 64 := Nat.mul_le_mul b2 (by omega)
    exact sameField_any _ _ _ _ _ _ _ _ _ _ W (sumV_own h10 (by omega)) (sumV_own k10 (by omega)) ⟨fun _ => ⟨rfl, rfl, rfl, fun _ _ => rfl⟩, fun _ => rfl⟩
  · obtain ⟨rfl, rfl, rfl⟩ := h.2 h0
    obtain ⟨rfl, rfl, rfl⟩ := k.2 h0
    exact sameField_any _ _ _ _ _ _ (fun _ => (0, 0)) (fun _ => (0, 0)) _ _ W sumV_none sumV_none ⟨fun _ => ⟨rfl, rfl, rfl, fun _ _ => rfl⟩, fun _ => rfl⟩
set_option maxHeartbeats 400000 in
theorem lNoField (a : Option Addr) (c : Nat) (w : World) : Calls Tryd.prog 25 #[.agg #[.int .i64 0, .int .i64 0, .slice a 0 c]] w fun e w' => e = .returned (.bool true) ∧ Below w.heap.size w w' := by
  go_enter Tryd.func25, Tryd.ntmps25
  go_wp2
  go_ret
  exact ⟨rfl, (by (repeat' (first | with_reducible exact Below.refl _ _ | (with_reducible refine below_later_of ?_ ?_ _) | (with_reducible refine Below.alloc ?_ ?_ _) | (with_reducible refine Below.setCell ?_ ?_ _) | (with_reducible refine Below.drew ?_) | (simp; done) | (simp; omega) | omega)))⟩
end Go.Proofs.YtakohhlmomgegaaDoor
