import Derived.Test.YtcmjlfhnibjofaaZN
import Derived.Test.YtcmjlfhnibjofaaZM
/- Chapter 1: Compress and Added with their errors told; compressing is linear. -/
namespace Go.Proofs.Ytcmjlfhnibjofaa
set_option linter.unusedVariables false
set_option linter.unusedSimpArgs false
open Go.RowKit Ntt
/-- The error of Compress. -/
def compE (L S : Int) (n C : Nat) (f fc : Nat → Nat × Nat) : Int := if first2 (imgE L S n f).2 (codeE C fc).2 = 0 then (if S < C then 10 else 0) else first2 (imgE L S n f).2 (codeE C fc).2
theorem first2_mk {x y : Int} (h : x = 0) (h' : y = 0) : first2 x y = 0 := by unfold first2; rw [if_pos h]; exact h'
theorem compE_zero {L S : Int} {n C : Nat} {f fc : Nat → Nat × Nat} (h : compE L S n C f fc = 0) : (imgE L S n f).2 = 0 ∧ (codeE C fc).2 = 0 ∧ (C : Int) ≤ S := by
  unfold compE at h
  split at h
  · rename_i h1
    obtain ⟨a, b⟩ := first2_zero h1
    split at h
    · exact absurd h (by decide)
    · exact ⟨a, b, by omega⟩
  · rename_i h1; exact absurd h h1
theorem compE_mk {L S : Int} {n C : Nat} {f fc : Nat → Nat × Nat} (h1 : (imgE L S n f).2 = 0) (h2 : (codeE C fc).2 = 0) (h3 : (C : Int) ≤ S) : compE L S n C f fc = 0 := by
  unfold compE
  rw [if_pos (first2_mk h1 h2), if_neg (by omega)]
def CompDet (L S : Int) (n C : Nat) (f fc : Nat → Nat × Nat) (e0 : Int) (w : World) (e : Ending) (w' : World) : Prop :=
  ∃ l s n' a c, e = .returned (.tuple #[.agg #[.int .i64 l, .int .i64 s, .slice a n' c], .int .i64 e0]) ∧ (e0 = 0 → CompOkB w' w.heap.size L S n C f fc l s n' a) ∧ (e0 ≠ 0 → l = 0 ∧ s = 0 ∧ n' = 0) ∧ Below w.heap.size w w'
/-- The error of Added. -/
def addE (L S : Int) (n : Nat) (f : Nat → Nat × Nat) (L' S' : Int) (m : Nat) (g : Nat → Nat × Nat) : Int :=
  if first2 (imgE L S n f).2 (imgE L' S' m g).2 = 0 then (if L = L' ∧ S = S' then (if (imgE L S n (addB f g)).2 = 0 then 0 else 8) else 13) else first2 (imgE L S n f).2 (imgE L' S' m g).2
theorem addE_zero {L S : Int} {n : Nat} {f : Nat → Nat × Nat} {L' S' : Int} {m : Nat} {g : Nat → Nat × Nat} (h : addE L S n f L' S' m g = 0) : (imgE L S n f).2 = 0 ∧ (imgE L' S' m g).2 = 0 ∧ (L = L' ∧ S = S') ∧ (imgE L S n (addB f g)).2 = 0 := by
  unfold addE at h
  split at h
  · rename_i h1
    obtain ⟨a, b⟩ := first2_zero h1
    split at h
    · rename_i h2
      split at h
      · rename_i h3; exact ⟨a, b, h2, h3⟩
      · exact absurd h (by decide)
    · exact absurd h (by decide)
  · rename_i h1; exact absurd h h1
def AddDet (L S : Int) (n : Nat) (f : Nat → Nat × Nat) (L' S' : Int) (m : Nat) (g : Nat → Nat × Nat) (e0 : Int) (w : World) (e : Ending) (w' : World) : Prop :=
  ∃ l s n' a c, e = .returned (.tuple #[.agg #[.int .i64 l, .int .i64 s, .slice a n' c], .int .i64 e0]) ∧ (e0 = 0 → AddOk w' w.heap.size L S n f L' S' m g l s n' a ∧ n' ≤ c) ∧ (e0 ≠ 0 → l = 0 ∧ s = 0 ∧ n' = 0) ∧ Below w.heap.size w w'
theorem comp_linear {n C L S S0 i : Nat} {f0 f1 f2 fc : Nat → Nat × Nat} (h0 : SmallS n f0 (xB f0) (yB f0) 2047) (h1 : SmallS n f1 (xB f1) (yB f1) 2047) (hsum : ∀ k, k < n → xB f2 k = xB f0 k + xB f1 k ∧ yB f2 k = yB f0 k + yB f1 k)
    (hU : SmallS C fc (xB fc) (yB fc) 3) (hS : S + C = S0 + 1) (hn : n = L * S0) (hC : 1 ≤ C) (h64 : C ≤ 64) (hi : i < L * S) :
    cSumBits .add .f64 (compB (xB f0) (yB f0) (xB fc) (yB fc) S S0 C i).1 (compB (xB f0) (yB f0) (xB fc) (yB fc) S S0 C i).2 (compB (xB f1) (yB f1) (xB fc) (yB fc) S S0 C i).1 (compB (xB f1) (yB f1) (xB fc) (yB fc) S S0 C i).2 =
      some ((compB (xB f2) (yB f2) (xB fc) (yB fc) S S0 C i).1, (compB (xB f2) (yB f2) (xB fc) (yB fc) S S0 C i).2) ∧ ∃ x y, CNum (compB (xB f2) (yB f2) (xB fc) (yB fc) S S0 C i).1 (compB (xB f2) (yB f2) (xB fc) (yB fc) S S0 C i).2 x y := by
  have hp := place_lt hS hn hi hC
  obtain ⟨b1, b2⟩ := reP_bd (k := C) h0 hU hp (Nat.le_refl _) h64
  obtain ⟨b3, b4⟩ := reP_bd (k := C) h1 hU hp (Nat.le_refl _) h64
  obtain ⟨e1, e2⟩ := reP_add (X0 := xB f0) (Y0 := yB f0) (X1 := xB f1) (Y1 := yB f1) (X2 := xB f2) (Y2 := yB f2) (U := xB fc) (V := yB fc) (i := i / S * S0 + i % S) (K := C) fun m hm => hsum _ (by omega)
  unfold compB
  dsimp only
  rw [e1, e2]
  generalize reP (xB f0) (yB f0) (xB fc) (yB fc) (i / S * S0 + i % S) C = p at b1 ⊢
  generalize imP (xB f0) (yB f0) (xB fc) (yB fc) (i / S * S0 + i % S) C = q at b2 ⊢
  generalize reP (xB f1) (yB f1) (xB fc) (yB fc) (i / S * S0 + i % S) C = u at b3 ⊢
  generalize imP (xB f1) (yB f1) (xB fc) (yB fc) (i / S * S0 + i % S) C = v at b4 ⊢
  have m1 : BNum (f64I p) (f64I q) p q := ⟨rfl, rfl, by omega, by omega⟩
  have m2 : BNum (f64I u) (f64I v) u v := ⟨rfl, rfl, by omega, by omega⟩
  obtain ⟨re, im, h3, h4⟩ := cadd_canon m1 m2.cnum (by omega) (by omega)
  refine ⟨?_, p + u, q + v, ?_⟩
  · rw [h3, h4.re, h4.im]
  · rw [← h4.re, ← h4.im]; exact h4.cnum
end Go.Proofs.Ytcmjlfhnibjofaa

/- Chapter 1: what images, sums and compressed fields in memory keep. -/
namespace Go.Proofs.Ytcmjlfhnibjofaa
set_option linter.unusedVariables false
set_option linter.unusedSimpArgs false
open Go.RowKit Ntt
theorem AddOk.below {W W' : World} {base : Nat} {L S : Int} {n : Nat} {f : Nat → Nat × Nat} {L' S' : Int} {m : Nat} {g : Nat → Nat × Nat} {l s : Int} {n' : Nat} {a : Option Addr} (h : AddOk W base L S n f L' S' m g l s n' a) (hb : Below W.heap.size W W') : AddOk W' base L S n f L' S' m g l s n' a := by
  obtain ⟨L0, S0, h1, h2, h3, h4, h5, h6, h7, h8, h9, h10, h11⟩ := h
  exact ⟨L0, S0, h1, h2, h3, h4, h5, h6, h7, h8, h9, h10, own_step2 h11 hb⟩
theorem AddOk.set {W : World} {base : Nat} {L S : Int} {n : Nat} {f : Nat → Nat × Nat} {L' S' : Int} {m : Nat} {g : Nat → Nat × Nat} {l s : Int} {n' : Nat} {a : Option Addr} (h : AddOk W base L S n f L' S' m g l s n' a) {p : Addr} (hp : p.block < base) (v : Value) : AddOk (W.setCell p v) base L S n f L' S' m g l s n' a := by
  obtain ⟨L0, S0, h1, h2, h3, h4, h5, h6, h7, h8, h9, h10, h11⟩ := h
  exact ⟨L0, S0, h1, h2, h3, h4, h5, h6, h7, h8, h9, h10, own_set h11 hp v⟩
theorem AddOk.mono {W : World} {base base' : Nat} {L S : Int} {n : Nat} {f : Nat → Nat × Nat} {L' S' : Int} {m : Nat} {g : Nat → Nat × Nat} {l s : Int} {n' : Nat} {a : Option Addr} (h : AddOk W base L S n f L' S' m g l s n' a) (hb : base' ≤ base) : AddOk W base' L S n f L' S' m g l s n' a := by
  obtain ⟨L0, S0, h1, h2, h3, h4, h5, h6, h7, h8, h9, h10, h11⟩ := h
  exact ⟨L0, S0, h1, h2, h3, h4, h5, h6, h7, h8, h9, h10, own_mono h11 hb⟩
theorem CompOkB.below {W W' : World} {base : Nat} {L S : Int} {n C : Nat} {f fc : Nat → Nat × Nat} {l s : Int} {n' : Nat} {a : Option Addr} (h : CompOkB W base L S n C f fc l s n' a) (hb : Below W.heap.size W W') : CompOkB W' base L S n C f fc l s n' a := by
  obtain ⟨L0, S0, h1, h2, h3, h4, h5, h6, h7, h8, h9, h10⟩ := h
  exact ⟨L0, S0, h1, h2, h3, h4, h5, h6, h7, h8, h9, h10.below hb⟩
theorem CompOkB.set {W : World} {base : Nat} {L S : Int} {n C : Nat} {f fc : Nat → Nat × Nat} {l s : Int} {n' : Nat} {a : Option Addr} (h : CompOkB W base L S n C f fc l s n' a) {p : Addr} (hp : p.block < base) (v : Value) : CompOkB (W.setCell p v) base L S n C f fc l s n' a := by
  obtain ⟨L0, S0, h1, h2, h3, h4, h5, h6, h7, h8, h9, h10⟩ := h
  exact ⟨L0, S0, h1, h2, h3, h4, h5, h6, h7, h8, h9, h10.set hp v⟩
theorem CompOkB.mono {W : World} {base base' : Nat} {L S : Int} {n C : Nat} {f fc : Nat → Nat × Nat} {l s : Int} {n' : Nat} {a : Option Addr} (h : CompOkB W base L S n C f fc l s n' a) (hb : base' ≤ base) : CompOkB W base' L S n C f fc l s n' a := by
  obtain ⟨L0, S0, h1, h2, h3, h4, h5, h6, h7, h8, h9, h10⟩ := h
  exact ⟨L0, S0, h1, h2, h3, h4, h5, h6, h7, h8, h9, h10.mono hb⟩
theorem codeAt_own2 {W W' : World} {B n : Nat} {a : Option Addr} {f : Nat → Nat × Nat} (h : 0 < n → ∃ g, a = some ⟨g, 0, none⟩ ∧ B ≤ g ∧ g < W.heap.size ∧ SamplesAt W g 0 n f) (hb : Below W.heap.size W W') : CodeAt W' n f a := fun h0 => by
  obtain ⟨g, h1, -, h3, h4⟩ := h h0
  exact ⟨g, 0, h1, by have := hb.size; omega, h4.below h3 hb⟩
/-- Samples somewhere in memory. -/
def DatAt (W : World) (n : Nat) (f : Nat → Nat × Nat) (a : Option Addr) : Prop := 0 < n → ∃ g, a = some ⟨g, 0, none⟩ ∧ g < W.heap.size ∧ SamplesAt W g 0 n f
theorem DatAt.below {W W' : World} {n : Nat} {a : Option Addr} {f : Nat → Nat × Nat} (h : DatAt W n f a) (hb : Below W.heap.size W W') : DatAt W' n f a := fun h0 => by
  obtain ⟨g, h1, h3, h4⟩ := h h0
  exact ⟨g, h1, by have := hb.size; omega, h4.below h3 hb⟩
theorem DatAt.of {W : World} {B n : Nat} {a : Option Addr} {f : Nat → Nat × Nat} (h : 0 < n → ∃ g, a = some ⟨g, 0, none⟩ ∧ B ≤ g ∧ g < W.heap.size ∧ SamplesAt W g 0 n f) : DatAt W n f a := fun h0 => by
  obtain ⟨g, h1, -, h3, h4⟩ := h h0
  exact ⟨g, h1, h3, h4⟩
theorem DatAt.data {W : World} {n : Nat} {L S : Int} {a : Option Addr} {f : Nat → Nat × Nat} (h : DatAt W n f a) : DataAt W L S n f a := fun hs => by
  obtain ⟨⟨l1, l2⟩, ⟨s1, s2⟩, hn⟩ := sizeE_zero hs
  have h0 : 0 < L * S := Int.mul_pos (by omega) (by omega)
  obtain ⟨g, h1, h3, h4⟩ := h (by omega)
  exact ⟨g, 0, h1, h3, h4⟩
end Go.Proofs.Ytcmjlfhnibjofaa
