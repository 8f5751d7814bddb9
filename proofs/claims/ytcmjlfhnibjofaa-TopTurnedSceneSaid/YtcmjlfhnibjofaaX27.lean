/- Chapter 4: two scenes: the error of both, their interferogram with its error. -/
import Derived.Test.YtcmjlfhnibjofaaX19
import Derived.Test.YtcmjlfhnibjofaaX20
import Derived.Test.YtcmjlfhnibjofaaU77
namespace Go.Proofs.Ytcmjlfhnibjofaa
set_option linter.unusedVariables false
set_option linter.unusedSimpArgs false
open Go.RowKit Ieee Ntt
/-- What an interferogram says: with an error, or without. -/
def IfSay (W : World) (B : Nat) (L S : Int) (n : Nat) (f : Nat → Nat × Nat) (E : Int) (l s : Int) (n' : Nat) (a : Option Addr) : Prop := (E = 0 → l = L ∧ s = S ∧ n' = n ∧ OwnS W B n f a) ∧ (E ≠ 0 → l = 0 ∧ s = 0 ∧ n' = 0)
theorem IfSay.below {W W' : World} {B n n' : Nat} {L S E l s : Int} {f : Nat → Nat × Nat} {a : Option Addr} (h : IfSay W B L S n f E l s n' a) (hb : Below W.heap.size W W') : IfSay W' B L S n f E l s n' a :=
  ⟨fun h0 => by obtain ⟨h1, h2, h3, h4⟩ := h.1 h0; exact ⟨h1, h2, h3, h4.below hb⟩, h.2⟩
theorem IfSay.mono {W : World} {B B' n n' : Nat} {L S E l s : Int} {f : Nat → Nat × Nat} {a : Option Addr} (h : IfSay W B L S n f E l s n' a) (hb : B' ≤ B) : IfSay W B' L S n f E l s n' a :=
  ⟨fun h0 => by obtain ⟨h1, h2, h3, h4⟩ := h.1 h0; exact ⟨h1, h2, h3, h4.mono hb⟩, h.2⟩
theorem IfSay.set {W : World} {B n n' : Nat} {L S E l s : Int} {f : Nat → Nat × Nat} {a : Option Addr} (h : IfSay W B L S n f E l s n' a) {p : Addr} (hp : p.block < B) (v : Value) : IfSay (W.setCell p v) B L S n f E l s n' a :=
  ⟨fun h0 => by obtain ⟨h1, h2, h3, h4⟩ := h.1 h0; exact ⟨h1, h2, h3, h4.set hp v⟩, h.2⟩
/-- The bits of an interferogram of samples. -/
def ifB (f f' : Nat → Nat × Nat) : Nat → Nat × Nat := nmF (intfF (xB f) (yB f) (xB f') (yB f'))
def IfDet (L S : Int) (n : Nat) (f : Nat → Nat × Nat) (E : Int) (w : World) (e : Ending) (w' : World) : Prop :=
  ∃ l s n' a c, e = .returned (.tuple #[.agg #[.int .i64 l, .int .i64 s, .slice a n' c], .int .i64 E]) ∧ IfSay w' w.heap.size L S n f E l s n' a ∧ n' ≤ c ∧ Below w.heap.size w w'
theorem interfere_det (L S : Int) (n cap : Nat) (f : Nat → Nat × Nat) (a : Option Addr) (L' S' : Int) (n' cap' : Nat) (f' : Nat → Nat × Nat) (a' : Option Addr) (w : World) (hl : n ≤ 100000) (hl' : n' ≤ 100000) (hd : DataAt w L S n f a) (hd' : DataAt w L' S' n' f' a') {e0 : Int} (he : pairE L S n f L' S' n' f' = e0) :
    Calls Try.prog 30 #[.agg #[.int .i64 L, .int .i64 S, .slice a n cap], .agg #[.int .i64 L', .int .i64 S', .slice a' n' cap']] w (IfDet L S n (ifB f f') e0 w) := by
  by_cases h0 : e0 = 0
  · subst h0
    obtain ⟨e1, e2, rfl, rfl⟩ := pairE_zero he
    obtain ⟨s1, -⟩ := imgE_zero e1
    obtain ⟨⟨l1, l2⟩, ⟨s1', s2⟩, -⟩ := sizeE_okU s1
    obtain ⟨L0, rfl⟩ := Int.eq_ofNat_of_zero_le (show 0 ≤ L by omega)
    obtain ⟨S0, rfl⟩ := Int.eq_ofNat_of_zero_le (show 0 ≤ S by omega)
    refine (interfere_ok L0 S0 n cap f a n' cap' f' a' w hl hl' hd hd' he).mono ?_
    rintro e w' ⟨a4, c4, rfl, ho, hc, hb⟩
    exact ⟨_, _, _, a4, c4, rfl, ⟨fun _ => ⟨rfl, rfl, rfl, ho⟩, fun h => absurd rfl h⟩, hc, hb⟩
  · refine (interfere_bad L S n cap f a L' S' n' cap' f' a' w hl hl' hd hd' he h0).mono ?_
    rintro e w' ⟨rfl, hb⟩
    exact ⟨0, 0, 0, none, 0, rfl, ⟨fun h => absurd h h0, fun _ => ⟨rfl, rfl, rfl⟩⟩, Nat.le_refl _, hb⟩
/-- The error of two scenes. -/
def scnE (x y : Scn) : Int := pairE x.L x.S (x.m / 2) (smp x.p) y.L y.S (y.m / 2) (smp y.p)
end Go.Proofs.Ytcmjlfhnibjofaa
