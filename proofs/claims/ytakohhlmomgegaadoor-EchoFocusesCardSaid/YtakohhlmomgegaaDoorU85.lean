/- Chapter 1: the reference's Focus as the program's; focused fields compared. -/
import Derived.Test.YtakohhlmomgegaaDoorU84
namespace Go.Proofs.YtakohhlmomgegaaDoor
set_option linter.unusedVariables false
set_option linter.unusedSimpArgs false
open Go.RowKit Ieee Ntt
theorem rFocus_det (L S : Int) (n cap C ccap : Nat) (f fc : Nat → Nat × Nat) (a ca : Option Addr) (w : World) (hd : FldAt w L S n f a) (hw : Wide64 n f) (hc : CodeAt w C fc ca) (he1 : (fldE L S n f).2 = 0) (he2 : (codeE C fc).2 = 0) {e0 : Int} (hE : focE L S n C f fc = e0) :
    Calls Tryd.prog 51 #[.agg #[.int .i64 L, .int .i64 S, .slice a n cap], .slice ca C ccap] w (FocDet L S n C f fc e0 w) := by
  have he := first2_mk he1 he2
  obtain ⟨hs, hg⟩ := fldE_zero he1
  obtain ⟨hC0, hC1, hgc, -⟩ := codeE_zero he2
  obtain ⟨⟨l1, l2⟩, ⟨s1, s2⟩, hnn⟩ := sizeE_zero hs
  by_cases h0 : L < C
  · obtain rfl : e0 = 10 := by rw [← hE]; unfold focE; rw [if_pos he, if_pos h0]
    refine (rFocus_short L S n cap C ccap a ca w h0).mono ?_
    rintro e w' ⟨rfl, hb⟩
    exact ⟨0, 0, 0, none, 0, rfl, ⟨fun h => absurd h (by decide), fun _ => ⟨rfl, rfl, rfl⟩⟩, hb⟩
  · obtain ⟨L0, rfl⟩ := Int.eq_ofNat_of_zero_le (show 0 ≤ L by omega)
    obtain ⟨S0, rfl⟩ := Int.eq_ofNat_of_zero_le (show 0 ≤ S by omega)
    have hn : n = L0 * S0 := by exact_mod_cast hnn
    obtain ⟨b, off, rfl, hbw, hf⟩ := hd hs
    obtain ⟨cb, coff, rfl, hcw, hfc⟩ := hc hC0
    have hX := smallD_of hw hg
    have hU : SmallS C fc (xB fc) (yB fc) 3 := smallS_of (by decide) hgc
    have hgood := fld_good (L := L0 + 1 - C) (S := S0) hX hU (by omega) hn (by omega) (by omega) (by omega) (by omega) (by omega)
    have hE2 : (if (fldE ((L0 + 1 - C : Nat) : Int) S0 ((L0 + 1 - C) * S0) (focB (xD f) (yD f) (xB fc) (yB fc) S0 C)).2 = 0 then (0 : Int) else 8) = e0 := by
      rw [← hE]; unfold focE; rw [if_pos he, if_neg h0]; rfl
    refine (rFocus_run (L0 + 1 - C) S0 C L0 b off n cap cb coff ccap f fc w (by omega) (by omega) (by omega) (by omega) (by omega) (by omega) hn hbw hcw hf hfc hX hU (e0 := e0) (fun h => ?_) (fun i hi h => ?_)).mono ?_
    · rw [← hE2, if_pos (hgood.2 h)]
    · rw [← hE2, if_neg (fun h2 => ?_)]
      have := hgood.1 h2 i hi
      rw [h] at this
      cases this
    · rintro e w' ⟨l, s, n', a', c', rfl, h1, h2, hb⟩
      refine ⟨l, s, n', a', c', rfl, ⟨fun h => ?_, h2⟩, hb⟩
      obtain ⟨rfl, rfl, rfl, ho⟩ := h1 h
      exact ⟨L0, S0, rfl, rfl, by omega, hn, rfl, rfl, rfl, hX, hU, ho⟩
theorem FocSay.below {W W' : World} {b : Nat} {L S : Int} {n C : Nat} {f fc : Nat → Nat × Nat} {e0 l s : Int} {n' : Nat} {a : Option Addr} (h : FocSay W b L S n C f fc e0 l s n' a) (hb : Below W.heap.size W W') : FocSay W' b L S n C f fc e0 l s n' a :=
  ⟨fun h0 => by
    obtain ⟨L0, S0, h1, h2, h3, h4, h5, h6, h7, h8, h9, h10⟩ := h.1 h0
    exact ⟨L0, S0, h1, h2, h3, h4, h5, h6, h7, h8, h9, h10.below hb⟩, h.2⟩
theorem FocSay.set {W : World} {b : Nat} {L S : Int} {n C : Nat} {f fc : Nat → Nat × Nat} {e0 l s : Int} {n' : Nat} {a : Option Addr} (h : FocSay W b L S n C f fc e0 l s n' a) {p : Addr} (hp : p.block < b) (v : Value) : FocSay (W.setCell p v) b L S n C f fc e0 l s n' a :=
  ⟨fun h0 => by
    obtain ⟨L0, S0, h1, h2, h3, h4, h5, h6, h7, h8, h9, h10⟩ := h.1 h0
    exact ⟨L0, S0, h1, h2, h3, h4, h5, h6, h7, h8, h9, h10.set hp v⟩, h.2⟩
theorem FocSay.mono {W : World} {b b' : Nat} {L S : Int} {n C : Nat} {f fc : Nat → Nat × Nat} {e0 l s : Int} {n' : Nat} {a : Option Addr} (h : FocSay W b L S n C f fc e0 l s n' a) (hb : b' ≤ b) : FocSay W b' L S n C f fc e0 l s n' a :=
  ⟨fun h0 => by
    obtain ⟨L0, S0, h1, h2, h3, h4, h5, h6, h7, h8, h9, h10⟩ := h.1 h0
    exact ⟨L0, S0, h1, h2, h3, h4, h5, h6, h7, h8, h9, h10.mono hb⟩, h.2⟩
theorem same_foc {W : World} {b b' : Nat} {L S : Int} {n C : Nat} {f fc : Nat → Nat × Nat} {e0 l s l2 s2 : Int} {n' n2 c c2 : Nat} {a a2 : Option Addr} (h : FocSay W b L S n C f fc e0 l s n' a) (k : FocSay W b' L S n C f fc e0 l2 s2 n2 a2) :
    Calls Tryd.prog 27 #[.agg #[.int .i64 l, .int .i64 s, .slice a n' c], .agg #[.int .i64 l2, .int .i64 s2, .slice a2 n2 c2]] W fun e w' => e = .returned (.bool true) ∧ Below W.heap.size W w' := by
  by_cases h0 : e0 = 0
  · obtain ⟨L0, S0, rfl, rfl, ⟨b1, b2, b3, b4, b5, b6⟩, hn, rfl, rfl, rfl, h8, h9, h10⟩ := h.1 h0
    obtain ⟨L0', S0', hl, hs, -, -, rfl, rfl, rfl, -, -, k10⟩ := k.1 h0
    obtain rfl : L0 = L0' := by omega
    obtain rfl : S0 = S0' := by omega
    have hN : (L0 + 1 - C) * S0 ≤ 64 * 64 := Nat.mul_le_mul (by omega) b5
    exact sameField_any _ _ _ _ _ _ _ _ _ _ W (sumV_own h10 (by omega)) (sumV_own k10 (by omega)) ⟨fun _ => ⟨rfl, rfl, rfl, fun _ _ => rfl⟩, fun _ => rfl⟩
  · obtain ⟨rfl, rfl, rfl⟩ := h.2 h0
    obtain ⟨rfl, rfl, rfl⟩ := k.2 h0
    exact sameField_any _ _ _ _ _ _ (fun _ => (0, 0)) (fun _ => (0, 0)) _ _ W sumV_none sumV_none ⟨fun _ => ⟨rfl, rfl, rfl, fun _ _ => rfl⟩, fun _ => rfl⟩
theorem same_zero {W : World} {c c2 : Nat} {a a2 : Option Addr} : Calls Tryd.prog 27 #[.agg #[.int .i64 0, .int .i64 0, .slice a 0 c], .agg #[.int .i64 0, .int .i64 0, .slice a2 0 c2]] W fun e w' => e = .returned (.bool true) ∧ Below W.heap.size W w' :=
  sameField_any _ _ _ _ _ _ (fun _ => (0, 0)) (fun _ => (0, 0)) _ _ W sumV_none sumV_none ⟨fun _ => ⟨rfl, rfl, rfl, fun _ _ => rfl⟩, fun _ => rfl⟩
end Go.Proofs.YtakohhlmomgegaaDoor
