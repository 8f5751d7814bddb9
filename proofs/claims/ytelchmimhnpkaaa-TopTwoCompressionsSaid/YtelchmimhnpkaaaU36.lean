/- Chapter 1: a line by sums is a line by correlations. Plain. -/
import Derived.Test.YtelchmimhnpkaaaU21
import Derived.Test.YtelchmimhnpkaaaU15
namespace Go.Proofs.Ytelchmimhnpkaaa
set_option linter.unusedVariables false
open Ntt
theorem sum_sub (n : Nat) (f g : Nat → Int) : sum n (fun k => f k - g k) = sum n f - sum n g := by
  induction n with
  | zero => rfl
  | succ n ih => simp only [sum]; rw [ih]; omega
theorem corr_part {n C : Nat} (x y u v : Nat → Int) (c1 c2 : Bool) {s : Nat} (h : s + C ≤ n) (hn : n ≤ 128) :
    Cg PP (corr 128 (partF n x y c1) (partF C u v c2) s % PP) (sum C fun i => (if c1 then y (s + i) else x (s + i)) * (if c2 then v i else u i)) := by
  refine (Cg.emod _).trans ?_
  rw [corr_flat (C := C) _ _ s (by omega) (fun i hi => by unfold partF; rw [if_neg (by omega)])]
  refine sum_cg fun i hi => ?_
  unfold partF
  rw [if_pos (by omega), if_pos hi]
  exact (Cg.emod _).mul (Cg.emod _)
/-- The correlations of the parts of a line and of a code. -/
def corP (n C : Nat) (x y u v : Nat → Int) (c1 c2 : Bool) (s : Nat) : Int := corr 128 (partF n x y c1) (partF C u v c2) s % PP
theorem corP_bd (n C : Nat) (x y u v : Nat → Int) (c1 c2 : Bool) (s : Nat) : 0 ≤ corP n C x y u v c1 c2 s ∧ corP n C x y u v c1 c2 s < 998244353 :=
  ⟨Int.emod_nonneg _ (by decide), Int.emod_lt_of_pos _ (by decide)⟩
theorem line_re {n C : Nat} (x y u v : Nat → Int) {s : Nat} (h : s + C ≤ n) (hn : n ≤ 128) (X Y : Nat → Int) (i0 : Nat) (hx : ∀ i, x i = X (i0 + i)) (hy : ∀ i, y i = Y (i0 + i)) (hb : -1000000 ≤ reP X Y u v (i0 + s) C ∧ reP X Y u v (i0 + s) C ≤ 1000000) :
    signedP (corP n C x y u v false false s + corP n C x y u v true true s) = reP X Y u v (i0 + s) C := by
  refine signedP_of (((corr_part x y u v false false h hn).add (corr_part x y u v true true h hn)).trans ?_) (by omega) (by omega)
  rw [← sum_add]
  unfold reP
  refine sum_cg fun i _ => ?_
  rw [hx, hy, ← Nat.add_assoc]
  exact Cg.refl _
theorem line_im {n C : Nat} (x y u v : Nat → Int) {s : Nat} (h : s + C ≤ n) (hn : n ≤ 128) (X Y : Nat → Int) (i0 : Nat) (hx : ∀ i, x i = X (i0 + i)) (hy : ∀ i, y i = Y (i0 + i)) (hb : -1000000 ≤ imP X Y u v (i0 + s) C ∧ imP X Y u v (i0 + s) C ≤ 1000000) :
    signedP (corP n C x y u v true false s - corP n C x y u v false true s) = imP X Y u v (i0 + s) C := by
  refine signedP_of (((corr_part x y u v true false h hn).add (corr_part x y u v false true h hn).neg).trans ?_) (by omega) (by omega)
  rw [← Int.sub_eq_add_neg, ← sum_sub]
  unfold imP
  refine sum_cg fun i _ => ?_
  rw [hx, hy, ← Nat.add_assoc]
  exact Cg.refl _
end Go.Proofs.Ytelchmimhnpkaaa
