import Derived.Test.YtkoiknmijjiicaaGreatDoorZJ
/- Chapter 1: CheckField, fieldErr. -/
namespace Go.Proofs.YtkoiknmijjiicaaGreatDoor
set_option linter.unusedVariables false
set_option linter.unusedSimpArgs false
open Go.RowKit
theorem num_maxField : FNum Ieee.double 4741671816366391296 1000000000 := ⟨false, 8388608000000000, -23, 1000000000, by decide, by unfold Mag; decide, by decide⟩
/-- The number of a sample, and the error of a field. -/
def fldE (L S : Int) (n : Nat) (f : Nat → Nat × Nat) : Nat × Int := if sizeE L S n = 0 then firstE n (gD f 1000000000) else (0, sizeE L S n)
/-- Where the numbers of a field lie, if it has the right size. -/
def FldAt (W : World) (L S : Int) (n : Nat) (f : Nat → Nat × Nat) (a : Option Addr) : Prop := sizeE L S n = 0 → ∃ b off, a = some ⟨b, off, none⟩ ∧ b < W.heap.size ∧ SumsAt W b off n f
theorem FldAt.below {W W' : World} {L S : Int} {n : Nat} {f : Nat → Nat × Nat} {a : Option Addr} (h : FldAt W L S n f a) (hb : Below W.heap.size W W') : FldAt W' L S n f a := fun h0 => by
  obtain ⟨b, off, h1, h2, h3⟩ := h h0
  exact ⟨b, off, h1, by have := hb.size; omega, h3.below h2 hb⟩
def Wide64 (n : Nat) (f : Nat → Nat × Nat) : Prop := ∀ k, k < n → (f k).1 < 2 ^ 64 ∧ (f k).2 < 2 ^ 64
def xD (f : Nat → Nat × Nat) (k : Nat) : Int := intD (f k).1
def yD (f : Nat → Nat × Nat) (k : Nat) : Int := intD (f k).2
/-- Numbers of a field whose parts are whole and of at most B. -/
def SmallD (n : Nat) (f : Nat → Nat × Nat) (X Y : Nat → Int) (B : Int) : Prop := ∀ k, k < n → CNum (f k).1 (f k).2 (X k) (Y k) ∧ (-B ≤ X k ∧ X k ≤ B) ∧ -B ≤ Y k ∧ Y k ≤ B
theorem smallD_of {n : Nat} {f : Nat → Nat × Nat} {m : Int} (hw : Wide64 n f) (h : ∀ k, k < n → gD f m k = 0) : SmallD n f (xD f) (yD f) m := fun k hk => by
  obtain ⟨⟨h1, h2, h3⟩, h4, h5, h6⟩ := partD_ok (h k hk)
  exact ⟨⟨h1, h4, (hw k hk).1, (hw k hk).2⟩, ⟨h2, h3⟩, h5, h6⟩
theorem fldE_zero {L S : Int} {n : Nat} {f : Nat → Nat × Nat} (h : (fldE L S n f).2 = 0) : sizeE L S n = 0 ∧ ∀ k, k < n → gD f 1000000000 k = 0 := by
  unfold fldE at h
  by_cases h0 : sizeE L S n = 0
  · rw [if_pos h0] at h
    exact ⟨h0, firstE_zero h⟩
  · rw [if_neg h0] at h
    exact absurd h h0
end Go.Proofs.YtkoiknmijjiicaaGreatDoor

/- Chapter 1: the sums of Focus. -/
namespace Go.Proofs.YtkoiknmijjiicaaGreatDoor
set_option linter.unusedVariables false
set_option linter.unusedSimpArgs false
open Go.RowKit Ieee Ntt
def reF (X Y U V : Nat → Int) (S l s K : Nat) : Int := sum K fun k => X ((l + k) * S + s) * U k + Y ((l + k) * S + s) * V k
def imF (X Y U V : Nat → Int) (S l s K : Nat) : Int := sum K fun k => Y ((l + k) * S + s) * U k - X ((l + k) * S + s) * V k
theorem reF_succ (X Y U V : Nat → Int) (S l s K : Nat) : reF X Y U V S l s (K + 1) = reF X Y U V S l s K + (X ((l + K) * S + s) * U K + Y ((l + K) * S + s) * V K) := rfl
theorem imF_succ (X Y U V : Nat → Int) (S l s K : Nat) : imF X Y U V S l s (K + 1) = imF X Y U V S l s K + (Y ((l + K) * S + s) * U K - X ((l + K) * S + s) * V K) := rfl
/-- One step of a sum: product and sum as the walk meets them; for the numbers of a field. -/
theorem step_cnum2 {a b c d e g sa sb : Nat} {x y u v s t : Int} (hz : CNum a b x y) (hc : CNum c d u v) (hs : BNum sa sb s t) (x1 : -1000000000 ≤ x ∧ x ≤ 1000000000) (y1 : -1000000000 ≤ y ∧ y ≤ 1000000000) (u1 : -3 ≤ u ∧ u ≤ 3) (v1 : -3 ≤ v ∧ v ≤ 3) (s1 : -1000000000000 ≤ s ∧ s ≤ 1000000000000) (t1 : -1000000000000 ≤ t ∧ t ≤ 1000000000000) (he : e = c) (hg : g = Op.negFloat .f64 d) :
    ∃ p q re im, cMulBits a b e g = some (p, q) ∧ cSumBits .add .f64 sa sb p q = some (re, im) ∧ BNum re im (s + (x * u + y * v)) (t + (y * u - x * v)) := by
  subst he hg
  have hn : CNum e (Op.negFloat .f64 d) u (-v) := ⟨hc.re, neg_num hc.lb hc.im, hc.la, by
    obtain ⟨sg, r, hr, rfl⟩ := word_of hc.lb
    rw [neg_word sg hr]
    unfold Format.word
    have : double.signWeight = 2 ^ 63 := rfl
    split <;> omega⟩
  have m1 := mul_bd2 (x := x) (y := u) (A := 1000000000) (B := 3) x1 u1
  have m2 := mul_bd2 (x := y) (y := -v) (A := 1000000000) (B := 3) y1 (by omega)
  have m3 := mul_bd2 (x := x) (y := -v) (A := 1000000000) (B := 3) x1 (by omega)
  have m4 := mul_bd2 (x := y) (y := u) (A := 1000000000) (B := 3) y1 u1
  simp only [Int.reduceMul] at m1 m2 m3 m4
  obtain ⟨p, q, h1, h2⟩ := cmul_num hz hn 3000000000 (by decide) m1 m2 m3 m4
  obtain ⟨re, im, h3, h4⟩ := cadd_canon hs h2 (by omega) (by omega)
  refine ⟨p, q, re, im, h1, h3, ?_⟩
  have e1 : s + (x * u - y * -v) = s + (x * u + y * v) := by grind
  have e2 : t + (x * -v + y * u) = t + (y * u - x * v) := by grind
  rwa [e1, e2] at h4
/-- The numbers of a focused field: S of them in a line. -/
def DOkF (X Y U V : Nat → Int) (S C : Nat) (D : List (Nat × Nat)) : Prop := ∀ i z, D[i]? = some z → BNum z.1 z.2 (reF X Y U V S (i / S) (i % S) C) (imF X Y U V S (i / S) (i % S) C)
theorem DOkF.snoc {X Y U V : Nat → Int} {S C l s re im : Nat} {D : List (Nat × Nat)} (h : DOkF X Y U V S C D) (hs : s < S) (hl : D.length = l * S + s) (hz : BNum re im (reF X Y U V S l s C) (imF X Y U V S l s C)) : DOkF X Y U V S C (D ++ [(re, im)]) := fun i z hi => by
  rcases Nat.lt_or_ge i D.length with c | c
  · rw [List.getElem?_append_left c] at hi
    exact h i z hi
  · rw [List.getElem?_append_right c] at hi
    have e : i = D.length := by
      rcases Nat.eq_or_lt_of_le c with c | c
      · exact c.symm
      · rw [List.getElem?_eq_none (by simp; omega)] at hi; cases hi
    subst e
    simp at hi
    subst hi
    have e1 : D.length / S = l := by rw [hl, Nat.mul_comm, Nat.mul_add_div (by omega), Nat.div_eq_of_lt hs, Nat.add_zero]
    have e2 : D.length % S = s := by rw [hl, Nat.mul_comm, Nat.mul_add_mod, Nat.mod_eq_of_lt hs]
    rw [e1, e2]
    exact hz
theorem idx_lt {l k L C L0 S s n : Nat} (hL : L + C = L0 + 1) (hl : l < L) (hk : k < C) (hs : s < S) (hn : n = L0 * S) : (l + k) * S + s < n := by
  have h1 : (l + k + 1) * S ≤ L0 * S := Nat.mul_le_mul_right _ (by omega)
  rw [Nat.add_mul, Nat.one_mul] at h1
  omega
theorem reF_bd {n C L L0 S l s k : Nat} {f fc : Nat → Nat × Nat} {X Y U V : Nat → Int} (hX : SmallD n f X Y 1000000000) (hU : SmallS C fc U V 3) (hL : L + C = L0 + 1) (hl : l < L) (hs : s < S) (hn : n = L0 * S) (hk : k ≤ C) (h64 : k ≤ 64) :
    (-1000000000000 ≤ reF X Y U V S l s k ∧ reF X Y U V S l s k ≤ 1000000000000) ∧ -1000000000000 ≤ imF X Y U V S l s k ∧ imF X Y U V S l s k ≤ 1000000000000 := by
  have hb : ∀ j, j < k → (-6000000000 ≤ X ((l + j) * S + s) * U j + Y ((l + j) * S + s) * V j ∧ X ((l + j) * S + s) * U j + Y ((l + j) * S + s) * V j ≤ 6000000000) ∧ -6000000000 ≤ Y ((l + j) * S + s) * U j - X ((l + j) * S + s) * V j ∧ Y ((l + j) * S + s) * U j - X ((l + j) * S + s) * V j ≤ 6000000000 := fun j hj => by
    obtain ⟨-, x1, y1⟩ := hX ((l + j) * S + s) (idx_lt hL hl (by omega) hs hn)
    obtain ⟨-, u1, v1⟩ := hU j (by omega)
    have m1 := mul_bd2 x1 u1
    have m2 := mul_bd2 y1 v1
    have m3 := mul_bd2 y1 u1
    have m4 := mul_bd2 x1 v1
    simp only [Int.reduceMul] at m1 m2 m3 m4
    omega
  have s1 := sum_bd (n := k) (f := fun j => X ((l + j) * S + s) * U j + Y ((l + j) * S + s) * V j) (B := 6000000000) (fun j hj => (hb j hj).1)
  have s2 := sum_bd (n := k) (f := fun j => Y ((l + j) * S + s) * U j - X ((l + j) * S + s) * V j) (B := 6000000000) (fun j hj => (hb j hj).2)
  unfold reF imF
  omega
def FocPost (L S C : Nat) (X Y U V : Nat → Int) (w : World) (e : Ending) (w' : World) : Prop :=
  ∃ a c D, e = .returned (.agg #[.int .i64 L, .int .i64 S, .slice a D.length c]) ∧ D.length = L * S ∧ DOkF X Y U V S C D ∧ FieldAt w' (w.heap.size + 2) a D ∧ Below w.heap.size w w'
end Go.Proofs.YtkoiknmijjiicaaGreatDoor

/- Chapter 1: Focus. -/
namespace Go.Proofs.YtkoiknmijjiicaaGreatDoor
set_option linter.unusedVariables false
set_option linter.unusedSimpArgs false
open Go.RowKit Ntt
/-- The numbers of a focused field, as they are written. -/
def focB (X Y U V : Nat → Int) (S C : Nat) (i : Nat) : Nat × Nat := (f64I (reF X Y U V S (i / S) (i % S) C), f64I (imF X Y U V S (i / S) (i % S) C))
def OwnS (W : World) (base n : Nat) (f : Nat → Nat × Nat) (a : Option Addr) : Prop := 0 < n → ∃ g, a = some ⟨g, 0, none⟩ ∧ base ≤ g ∧ g < W.heap.size ∧ SumsAt W g 0 n f
theorem OwnS.of {W : World} {base n : Nat} {a : Option Addr} {D : List (Nat × Nat)} {f : Nat → Nat × Nat} (h : FieldAt W base a D) (hl : D.length = n) (hf : ∀ i z, D[i]? = some z → z = f i) : OwnS W base n f a := fun h0 => by
  obtain ⟨g, h1, h2, h3, h4⟩ := h (by omega)
  refine ⟨g, h1, h2, h3, fun k hk => ?_⟩
  have e : D[k]? = some D[k] := List.getElem?_eq_getElem (by omega)
  rw [Nat.zero_add, h4 k _ e, hf k _ e]
theorem OwnS.mono {W : World} {b b' n : Nat} {a : Option Addr} {f : Nat → Nat × Nat} (h : OwnS W b n f a) (hb : b' ≤ b) : OwnS W b' n f a := fun h0 => by
  obtain ⟨g, h1, h2, h3, h4⟩ := h h0
  exact ⟨g, h1, by omega, h3, h4⟩
theorem OwnS.below {W W' : World} {b n : Nat} {a : Option Addr} {f : Nat → Nat × Nat} (h : OwnS W b n f a) (hb : Below W.heap.size W W') : OwnS W' b n f a := fun h0 => by
  obtain ⟨g, h1, h2, h3, h4⟩ := h h0
  exact ⟨g, h1, h2, by have := hb.size; omega, h4.below h3 hb⟩
theorem OwnS.set {W : World} {b n : Nat} {a : Option Addr} {f : Nat → Nat × Nat} (h : OwnS W b n f a) {p : Addr} (hp : p.block < b) (v : Value) : OwnS (W.setCell p v) b n f a := fun h0 => by
  obtain ⟨g, h1, h2, h3, h4⟩ := h h0
  refine ⟨g, h1, h2, by simpa using h3, fun k hk => ?_⟩
  rw [World.cell?_setCell_other _ _ _ _ (by intro e; rw [e] at hp; simp at hp; omega)]
  exact h4 k hk
theorem OwnS.fld {W W' : World} {B n : Nat} {L S : Int} {a : Option Addr} {f : Nat → Nat × Nat} (h : OwnS W B n f a) (hb : Below W.heap.size W W') : FldAt W' L S n f a := fun hs => by
  obtain ⟨⟨l1, l2⟩, ⟨s1, s2⟩, hn⟩ := sizeE_zero hs
  have h0 : 0 < L * S := Int.mul_pos (by omega) (by omega)
  obtain ⟨g, h1, -, h3, h4⟩ := h (by omega)
  exact ⟨g, 0, h1, by have := hb.size; omega, h4.below h3 hb⟩
theorem focB_wide (n : Nat) (X Y U V : Nat → Int) (S C : Nat) : Wide64 n (focB X Y U V S C) := fun _ _ => ⟨f64I_lt _, f64I_lt _⟩
/-- A field of its own, in memory from some block on. -/
def FoPost (B : Nat) (L S : Int) (n : Nat) (g : Nat → Nat × Nat) (w : World) (e : Ending) (w' : World) : Prop :=
  ∃ a c, e = .returned (.agg #[.int .i64 L, .int .i64 S, .slice a n c]) ∧ OwnS w' B n g a ∧ Below w.heap.size w w'
theorem first2_zero {x y : Int} (h : first2 x y = 0) : x = 0 ∧ y = 0 := by
  unfold first2 at h
  split at h
  · exact ⟨‹_›, h⟩
  · exact absurd h ‹_›
/-- The field that Focus returns. -/
def FocOkPost (L S : Int) (n : Nat) (g : Nat → Nat × Nat) (w : World) (e : Ending) (w' : World) : Prop :=
  ∃ a c, e = .returned (.tuple #[.agg #[.int .i64 L, .int .i64 S, .slice a n c], .int .i64 0]) ∧ OwnS w' w.heap.size n g a ∧ Below w.heap.size w w'
end Go.Proofs.YtkoiknmijjiicaaGreatDoor

/- Chapter 1: Compress and Focus by their answers, with the bits of the fields; focusing is linear (plain). -/
namespace Go.Proofs.YtkoiknmijjiicaaGreatDoor
set_option linter.unusedVariables false
set_option linter.unusedSimpArgs false
open Go.RowKit Ntt
/-- The numbers of a compressed field, as they are written. -/
def compB (X Y U V : Nat → Int) (S S0 C : Nat) (i : Nat) : Nat × Nat := (f64I (reP X Y U V (i / S * S0 + i % S) C), f64I (imP X Y U V (i / S * S0 + i % S) C))
theorem compB_wide (n : Nat) (X Y U V : Nat → Int) (S S0 C : Nat) : Wide64 n (compB X Y U V S S0 C) := fun _ _ => ⟨f64I_lt _, f64I_lt _⟩
/-- What a compression says if it answers OK, by the bits. -/
def CompOkB (W : World) (base : Nat) (L S : Int) (n C : Nat) (f fc : Nat → Nat × Nat) (l s : Int) (n' : Nat) (a : Option Addr) : Prop :=
  ∃ L0 S0 : Nat, L = L0 ∧ S = S0 ∧ (1 ≤ L0 ∧ L0 ≤ 64 ∧ 1 ≤ C ∧ C ≤ S0 ∧ S0 ≤ 64 ∧ C ≤ 32) ∧ n = L0 * S0 ∧ l = L0 ∧ s = ((S0 + 1 - C : Nat) : Int) ∧ n' = L0 * (S0 + 1 - C) ∧ SmallS n f (xB f) (yB f) 2047 ∧ SmallS C fc (xB fc) (yB fc) 3 ∧
    OwnS W base n' (compB (xB f) (yB f) (xB fc) (yB fc) (S0 + 1 - C) S0 C) a
def CompAnyB (L S : Int) (n C : Nat) (f fc : Nat → Nat × Nat) (w : World) (e : Ending) (w' : World) : Prop :=
  ∃ l s n' a c e0, e = .returned (.tuple #[.agg #[.int .i64 l, .int .i64 s, .slice a n' c], .int .i64 e0]) ∧ (e0 = 0 → CompOkB w' w.heap.size L S n C f fc l s n' a) ∧ Below w.heap.size w w'
/-- What a focusing says if it answers OK. -/
def FocOk (W : World) (base : Nat) (L S : Int) (n C : Nat) (f fc : Nat → Nat × Nat) (l s : Int) (n' : Nat) (a : Option Addr) : Prop :=
  ∃ L0 S0 : Nat, L = L0 ∧ S = S0 ∧ (L0 ≤ 64 ∧ 1 ≤ C ∧ C ≤ L0 ∧ 1 ≤ S0 ∧ S0 ≤ 64 ∧ C ≤ 32) ∧ n = L0 * S0 ∧ l = ((L0 + 1 - C : Nat) : Int) ∧ s = S0 ∧ n' = (L0 + 1 - C) * S0 ∧ SmallD n f (xD f) (yD f) 1000000000 ∧ SmallS C fc (xB fc) (yB fc) 3 ∧
    OwnS W base n' (focB (xD f) (yD f) (xB fc) (yB fc) S0 C) a
def FocAny (L S : Int) (n C : Nat) (f fc : Nat → Nat × Nat) (w : World) (e : Ending) (w' : World) : Prop :=
  ∃ l s n' a c e0, e = .returned (.tuple #[.agg #[.int .i64 l, .int .i64 s, .slice a n' c], .int .i64 e0]) ∧ (e0 = 0 → FocOk w' w.heap.size L S n C f fc l s n' a) ∧ Below w.heap.size w w'
theorem intD_f64I {n : Int} (h : n.natAbs < 2 ^ 53) : intD (f64I n) = n := (intD_of (f64I_num h)).2
theorem place_lt {L S S0 C i n : Nat} (hS : S + C = S0 + 1) (hn : n = L * S0) (hi : i < L * S) (hC : 1 ≤ C) : i / S * S0 + i % S + C ≤ n := by
  have hS1 : 0 < S := by
    rcases Nat.eq_zero_or_pos S with h | h
    · subst h; simp at hi
    · exact h
  have h1 : i / S < L := (Nat.div_lt_iff_lt_mul hS1).2 hi
  have h2 := Nat.mod_lt i hS1
  have h3 : (i / S + 1) * S0 ≤ L * S0 := Nat.mul_le_mul_right _ h1
  rw [Nat.add_mul, Nat.one_mul] at h3
  omega
/-- The numbers of a compressed field are the sums. -/
theorem comp_parts {n C L S S0 i : Nat} {f fc : Nat → Nat × Nat} (hX : SmallS n f (xB f) (yB f) 2047) (hU : SmallS C fc (xB fc) (yB fc) 3) (hS : S + C = S0 + 1) (hn : n = L * S0) (hC : 1 ≤ C) (h64 : C ≤ 64) (hi : i < L * S) :
    xD (compB (xB f) (yB f) (xB fc) (yB fc) S S0 C) i = reP (xB f) (yB f) (xB fc) (yB fc) (i / S * S0 + i % S) C ∧ yD (compB (xB f) (yB f) (xB fc) (yB fc) S S0 C) i = imP (xB f) (yB f) (xB fc) (yB fc) (i / S * S0 + i % S) C := by
  obtain ⟨h1, h2⟩ := reP_bd (k := C) hX hU (place_lt hS hn hi hC) (Nat.le_refl _) h64
  exact ⟨intD_f64I (by omega), intD_f64I (by omega)⟩
theorem reP_add {X0 Y0 X1 Y1 X2 Y2 U V : Nat → Int} {i K : Nat} (h : ∀ k, k < K → X2 (i + k) = X0 (i + k) + X1 (i + k) ∧ Y2 (i + k) = Y0 (i + k) + Y1 (i + k)) :
    reP X2 Y2 U V i K = reP X0 Y0 U V i K + reP X1 Y1 U V i K ∧ imP X2 Y2 U V i K = imP X0 Y0 U V i K + imP X1 Y1 U V i K := by
  unfold reP imP
  rw [← sum_add, ← sum_add]
  refine ⟨sum_eq fun k hk => ?_, sum_eq fun k hk => ?_⟩ <;> rw [(h k hk).1, (h k hk).2] <;> grind
theorem reF_add {X0 Y0 X1 Y1 X2 Y2 U V : Nat → Int} {S l s K : Nat} (h : ∀ k, k < K → X2 ((l + k) * S + s) = X0 ((l + k) * S + s) + X1 ((l + k) * S + s) ∧ Y2 ((l + k) * S + s) = Y0 ((l + k) * S + s) + Y1 ((l + k) * S + s)) :
    reF X2 Y2 U V S l s K = reF X0 Y0 U V S l s K + reF X1 Y1 U V S l s K ∧ imF X2 Y2 U V S l s K = imF X0 Y0 U V S l s K + imF X1 Y1 U V S l s K := by
  unfold reF imF
  rw [← sum_add, ← sum_add]
  refine ⟨sum_eq fun k hk => ?_, sum_eq fun k hk => ?_⟩ <;> rw [(h k hk).1, (h k hk).2] <;> grind
/-- The numbers of an image that is compressed along and across. -/
def bothB (f fc fa : Nat → Nat × Nat) (S S0 C CA : Nat) : Nat → Nat × Nat := focB (xD (compB (xB f) (yB f) (xB fc) (yB fc) S S0 C)) (yD (compB (xB f) (yB f) (xB fc) (yB fc) S S0 C)) (xB fa) (yB fa) S CA
theorem both_linear {n C CA L S S0 LF i : Nat} {f0 f1 f2 fc fa : Nat → Nat × Nat} (h0 : SmallS n f0 (xB f0) (yB f0) 2047) (h1 : SmallS n f1 (xB f1) (yB f1) 2047) (h2 : SmallS n f2 (xB f2) (yB f2) 2047) (hsum : ∀ k, k < n → xB f2 k = xB f0 k + xB f1 k ∧ yB f2 k = yB f0 k + yB f1 k)
    (hU : SmallS C fc (xB fc) (yB fc) 3) (hA : SmallS CA fa (xB fa) (yB fa) 3) (hS : S + C = S0 + 1) (hL : LF + CA = L + 1) (hn : n = L * S0) (hC : 1 ≤ C) (h64 : C ≤ 64) (hCA : 1 ≤ CA) (hA64 : CA ≤ 64) (hi : i < LF * S)
    (d0 : SmallD (L * S) (compB (xB f0) (yB f0) (xB fc) (yB fc) S S0 C) (xD (compB (xB f0) (yB f0) (xB fc) (yB fc) S S0 C)) (yD (compB (xB f0) (yB f0) (xB fc) (yB fc) S S0 C)) 1000000000)
    (d1 : SmallD (L * S) (compB (xB f1) (yB f1) (xB fc) (yB fc) S S0 C) (xD (compB (xB f1) (yB f1) (xB fc) (yB fc) S S0 C)) (yD (compB (xB f1) (yB f1) (xB fc) (yB fc) S S0 C)) 1000000000) :
    cSumBits .add .f64 (bothB f0 fc fa S S0 C CA i).1 (bothB f0 fc fa S S0 C CA i).2 (bothB f1 fc fa S S0 C CA i).1 (bothB f1 fc fa S S0 C CA i).2 = some ((bothB f2 fc fa S S0 C CA i).1, (bothB f2 fc fa S S0 C CA i).2) ∧
      ∃ x y, CNum (bothB f2 fc fa S S0 C CA i).1 (bothB f2 fc fa S S0 C CA i).2 x y := by
  have hS1 : 0 < S := by
    rcases Nat.eq_zero_or_pos S with h | h
    · subst h; simp at hi
    · exact h
  have hl : i / S < LF := (Nat.div_lt_iff_lt_mul hS1).2 hi
  have hs := Nat.mod_lt i hS1
  obtain ⟨b1, b2⟩ := reF_bd (k := CA) d0 hA hL hl hs rfl (Nat.le_refl _) hA64
  obtain ⟨b3, b4⟩ := reF_bd (k := CA) d1 hA hL hl hs rfl (Nat.le_refl _) hA64
  have hlin := reF_add (X0 := xD (compB (xB f0) (yB f0) (xB fc) (yB fc) S S0 C)) (Y0 := yD (compB (xB f0) (yB f0) (xB fc) (yB fc) S S0 C)) (X1 := xD (compB (xB f1) (yB f1) (xB fc) (yB fc) S S0 C)) (Y1 := yD (compB (xB f1) (yB f1) (xB fc) (yB fc) S S0 C))
    (X2 := xD (compB (xB f2) (yB f2) (xB fc) (yB fc) S S0 C)) (Y2 := yD (compB (xB f2) (yB f2) (xB fc) (yB fc) S S0 C)) (U := xB fa) (V := yB fa) (S := S) (l := i / S) (s := i % S) (K := CA) (fun k hk => by
      have hj : (i / S + k) * S + i % S < L * S := idx_lt hL hl hk hs rfl
      rw [(comp_parts h0 hU hS hn hC h64 hj).1, (comp_parts h0 hU hS hn hC h64 hj).2, (comp_parts h1 hU hS hn hC h64 hj).1, (comp_parts h1 hU hS hn hC h64 hj).2, (comp_parts h2 hU hS hn hC h64 hj).1, (comp_parts h2 hU hS hn hC h64 hj).2]
      exact reP_add fun m hm => hsum _ (by have := place_lt hS hn hj hC; omega))
  obtain ⟨e1, e2⟩ := hlin
  unfold bothB focB
  dsimp only
  rw [e1, e2]
  generalize reF (xD (compB (xB f0) (yB f0) (xB fc) (yB fc) S S0 C)) (yD (compB (xB f0) (yB f0) (xB fc) (yB fc) S S0 C)) (xB fa) (yB fa) S (i / S) (i % S) CA = p at b1 ⊢
  generalize imF (xD (compB (xB f0) (yB f0) (xB fc) (yB fc) S S0 C)) (yD (compB (xB f0) (yB f0) (xB fc) (yB fc) S S0 C)) (xB fa) (yB fa) S (i / S) (i % S) CA = q at b2 ⊢
  generalize reF (xD (compB (xB f1) (yB f1) (xB fc) (yB fc) S S0 C)) (yD (compB (xB f1) (yB f1) (xB fc) (yB fc) S S0 C)) (xB fa) (yB fa) S (i / S) (i % S) CA = u at b3 ⊢
  generalize imF (xD (compB (xB f1) (yB f1) (xB fc) (yB fc) S S0 C)) (yD (compB (xB f1) (yB f1) (xB fc) (yB fc) S S0 C)) (xB fa) (yB fa) S (i / S) (i % S) CA = v at b4 ⊢
  have m1 : BNum (f64I p) (f64I q) p q := ⟨rfl, rfl, by omega, by omega⟩
  have m2 : BNum (f64I u) (f64I v) u v := ⟨rfl, rfl, by omega, by omega⟩
  obtain ⟨re, im, h3, h4⟩ := cadd_canon m1 m2.cnum (by omega) (by omega)
  refine ⟨?_, p + u, q + v, ?_⟩
  · rw [h3, h4.re, h4.im]
  · rw [← h4.re, ← h4.im]; exact h4.cnum
end Go.Proofs.YtkoiknmijjiicaaGreatDoor
