/- Chapter 1: Compress and Focus by their answers, with the bits of the fields; focusing is linear (plain). -/
import Derived.Test.YtelchmimhnpkaaaU43
namespace Go.Proofs.Ytelchmimhnpkaaa
set_option linter.unusedVariables false
open Go.RowKit Ntt
/-- The numbers of a compressed field, as they are written. -/
def compB (X Y U V : Nat → Int) (S S0 C : Nat) (i : Nat) : Nat × Nat := (f64I (reP X Y U V (i / S * S0 + i % S) C), f64I (imP X Y U V (i / S * S0 + i % S) C))
theorem compB_wide (n : Nat) (X Y U V : Nat → Int) (S S0 C : Nat) : Wide64 n (compB X Y U V S S0 C) := fun _ _ => ⟨f64I_lt _, f64I_lt _⟩
/-- What a compression says if it answers OK, by the bits. -/
def CompOkB (W : World) (base : Nat) (L S : Int) (n C : Nat) (f fc : Nat → Nat × Nat) (l s : Int) (n' : Nat) (a : Option Addr) : Prop :=
  ∃ L0 S0 : Nat, L = L0 ∧ S = S0 ∧ (1 ≤ L0 ∧ L0 ≤ 64 ∧ 1 ≤ C ∧ C ≤ S0 ∧ S0 ≤ 64 ∧ C ≤ 32) ∧ n = L0 * S0 ∧ l = L0 ∧ s = ((S0 + 1 - C : Nat) : Int) ∧ n' = L0 * (S0 + 1 - C) ∧ SmallS n f (xB f) (yB f) 2047 ∧ SmallS C fc (xB fc) (yB fc) 3 ∧
    OwnS W base n' (compB (xB f) (yB f) (xB fc) (yB fc) (S0 + 1 - C) S0 C) a
def CompAnyB (L S : Int) (n C : Nat) (f fc : Nat → Nat × Nat) (w : World) (e : Ending) (w' : World) : Prop :=
  ∃ l s n' a c e0, e = .returned (.tuple #[.agg #[.int .i64 l, .int .i64 s, .slice a n' c], .int .i64 e0]) ∧ (e0 = 0 → CompOkB w' w.heap.size L S n C f fc l s n' a) ∧ Below w.heap.size w w'
theorem compress_lawB (L S : Int) (n cap C ccap : Nat) (f fc : Nat → Nat × Nat) (a ca : Option Addr) (w : World) (hn : n ≤ 100000) (hC : C ≤ 100000) (hd : DataAt w L S n f a) (hc : CodeAt w C fc ca) :
    Calls Try.prog 13 #[.agg #[.int .i64 L, .int .i64 S, .slice a n cap], .slice ca C ccap] w (CompAnyB L S n C f fc w) := by
  refine (compress_law L S n cap C ccap f fc a ca w hn hC hd hc).mono ?_
  rintro e w' ⟨l, s, n', a', c', e0, rfl, hok, hb⟩
  refine ⟨l, s, n', a', c', e0, rfl, fun h0 => ?_, hb⟩
  obtain ⟨L0, S0, h1, h2, h3, h4, h5, h6, h7, h8, h9, D, d1, d2, d3⟩ := hok h0
  exact ⟨L0, S0, h1, h2, h3, h4, h5, h6, h7, h8, h9, OwnS.of d3 d1 fun i z hz => Prod.ext (d2 i z hz).re (d2 i z hz).im⟩
/-- What a focusing says if it answers OK. -/
def FocOk (W : World) (base : Nat) (L S : Int) (n C : Nat) (f fc : Nat → Nat × Nat) (l s : Int) (n' : Nat) (a : Option Addr) : Prop :=
  ∃ L0 S0 : Nat, L = L0 ∧ S = S0 ∧ (L0 ≤ 64 ∧ 1 ≤ C ∧ C ≤ L0 ∧ 1 ≤ S0 ∧ S0 ≤ 64 ∧ C ≤ 32) ∧ n = L0 * S0 ∧ l = ((L0 + 1 - C : Nat) : Int) ∧ s = S0 ∧ n' = (L0 + 1 - C) * S0 ∧ SmallD n f (xD f) (yD f) 1000000000 ∧ SmallS C fc (xB fc) (yB fc) 3 ∧
    OwnS W base n' (focB (xD f) (yD f) (xB fc) (yB fc) S0 C) a
def FocAny (L S : Int) (n C : Nat) (f fc : Nat → Nat × Nat) (w : World) (e : Ending) (w' : World) : Prop :=
  ∃ l s n' a c e0, e = .returned (.tuple #[.agg #[.int .i64 l, .int .i64 s, .slice a n' c], .int .i64 e0]) ∧ (e0 = 0 → FocOk w' w.heap.size L S n C f fc l s n' a) ∧ Below w.heap.size w w'
theorem focus_law (L S : Int) (n cap C ccap : Nat) (f fc : Nat → Nat × Nat) (a ca : Option Addr) (w : World) (hn : n ≤ 100000) (hC : C ≤ 100000) (hd : FldAt w L S n f a) (hw : Wide64 n f) (hc : CodeAt w C fc ca) :
    Calls Try.prog 21 #[.agg #[.int .i64 L, .int .i64 S, .slice a n cap], .slice ca C ccap] w (FocAny L S n C f fc w) := by
  by_cases he : first2 (fldE L S n f).2 (codeE C fc).2 = 0
  · obtain ⟨he1, he2⟩ := first2_zero he
    obtain ⟨hs, hg⟩ := fldE_zero he1
    obtain ⟨hC0, hC1, hgc, -⟩ := codeE_zero he2
    obtain ⟨⟨l1, l2⟩, ⟨s1, s2⟩, hnn⟩ := sizeE_zero hs
    by_cases h0 : L < C
    · refine (focus_short L S n cap C ccap f fc a ca w hn hC hd hw hc he h0).mono ?_
      rintro e w' ⟨rfl, hb⟩
      exact ⟨0, 0, 0, none, 0, 10, rfl, fun h => absurd h (by decide), hb⟩
    · obtain ⟨L0, rfl⟩ := Int.eq_ofNat_of_zero_le (show 0 ≤ L by omega)
      obtain ⟨S0, rfl⟩ := Int.eq_ofNat_of_zero_le (show 0 ≤ S by omega)
      by_cases h1 : (fldE ((L0 + 1 - C : Nat) : Int) S0 ((L0 + 1 - C) * S0) (focB (xD f) (yD f) (xB fc) (yB fc) S0 C)).2 = 0
      · refine (focus_ok L0 S0 n cap C ccap f fc a ca w hn hC hd hw hc he (by omega) (by omega) rfl h1).mono ?_
        rintro e w' ⟨a', c', rfl, ho, hb⟩
        exact ⟨_, _, _, a', c', 0, rfl, fun _ => ⟨L0, S0, rfl, rfl, by omega, by exact_mod_cast hnn, rfl, rfl, rfl, smallD_of hw hg, smallS_of (by decide) hgc, ho⟩, hb⟩
      · refine (focus_large L0 S0 n cap C ccap f fc a ca w hn hC hd hw hc he (by omega) (by omega) rfl rfl h1).mono ?_
        rintro e w' ⟨rfl, hb⟩
        exact ⟨0, 0, 0, none, 0, 8, rfl, fun h => absurd h (by decide), hb⟩
  · refine (focus_bad L S n cap C ccap f fc a ca w hn hC hd hw hc rfl he).mono ?_
    rintro e w' ⟨rfl, hb⟩
    exact ⟨0, 0, 0, none, 0, _, rfl, fun h => absurd h he, hb⟩
theorem intD_f64I {n : Int} (h : n.natAbs < 2 ^ 53) : intD (f64I n) = n := (intD_of (f64I_num h)).2
theorem place_lt {L S S0 C i n : Nat} (hS : S + C = S0 + 1) (hn : n = L * S0) (hi : i < L * S) (hC : 1 ≤ C) : i / S * S0 + i % S + C ≤ n := by
  have hS1 : 0 < S := by
    rcases Nat.eq_zero_or_pos S with h | h
    · subst h; simp at hi
    · exact h
  have h1 : i / S < L := (Nat.div_lt_iff_lt_mul hS1).2 hi
  have h2 := Nat.mod_lt i hS1
  have h3 : (i / S + 1) * S0 ≤ L * S0 := Nat.mul_le_mul_right _ h1
  rw [Nat.add_mul, Nat.one_mul] at h3
  omega
/-- The numbers of a compressed field are the sums. -/
theorem comp_parts {n C L S S0 i : Nat} {f fc : Nat → Nat × Nat} (hX : SmallS n f (xB f) (yB f) 2047) (hU : SmallS C fc (xB fc) (yB fc) 3) (hS : S + C = S0 + 1) (hn : n = L * S0) (hC : 1 ≤ C) (h64 : C ≤ 64) (hi : i < L * S) :
    xD (compB (xB f) (yB f) (xB fc) (yB fc) S S0 C) i = reP (xB f) (yB f) (xB fc) (yB fc) (i / S * S0 + i % S) C ∧ yD (compB (xB f) (yB f) (xB fc) (yB fc) S S0 C) i = imP (xB f) (yB f) (xB fc) (yB fc) (i / S * S0 + i % S) C := by
  obtain ⟨h1, h2⟩ := reP_bd (k := C) hX hU (place_lt hS hn hi hC) (Nat.le_refl _) h64
  exact ⟨intD_f64I (by omega), intD_f64I (by omega)⟩
theorem reP_add {X0 Y0 X1 Y1 X2 Y2 U V : Nat → Int} {i K : Nat} (h : ∀ k, k < K → X2 (i + k) = X0 (i + k) + X1 (i + k) ∧ Y2 (i + k) = Y0 (i + k) + Y1 (i + k)) :
    reP X2 Y2 U V i K = reP X0 Y0 U V i K + reP X1 Y1 U V i K ∧ imP X2 Y2 U V i K = imP X0 Y0 U V i K + imP X1 Y1 U V i K := by
  unfold reP imP
  rw [← sum_add, ← sum_add]
  refine ⟨sum_eq fun k hk => ?_, sum_eq fun k hk => ?_⟩ <;> rw [(h k hk).1, (h k hk).2] <;> grind
theorem reF_add {X0 Y0 X1 Y1 X2 Y2 U V : Nat → Int} {S l s K : Nat} (h : ∀ k, k < K → X2 ((l + k) * S + s) = X0 ((l + k) * S + s) + X1 ((l + k) * S + s) ∧ Y2 ((l + k) * S + s) = Y0 ((l + k) * S + s) + Y1 ((l + k) * S + s)) :
    reF X2 Y2 U V S l s K = reF X0 Y0 U V S l s K + reF X1 Y1 U V S l s K ∧ imF X2 Y2 U V S l s K = imF X0 Y0 U V S l s K + imF X1 Y1 U V S l s K := by
  unfold reF imF
  rw [← sum_add, ← sum_add]
  refine ⟨sum_eq fun k hk => ?_, sum_eq fun k hk => ?_⟩ <;> rw [(h k hk).1, (h k hk).2] <;> grind
/-- The numbers of an image that is compressed along and across. -/
def bothB (f fc fa : Nat → Nat × Nat) (S S0 C CA : Nat) : Nat → Nat × Nat := focB (xD (compB (xB f) (yB f) (xB fc) (yB fc) S S0 C)) (yD (compB (xB f) (yB f) (xB fc) (yB fc) S S0 C)) (xB fa) (yB fa) S CA
theorem both_linear {n C CA L S S0 LF i : Nat} {f0 f1 f2 fc fa : Nat → Nat × Nat} (h0 : SmallS n f0 (xB f0) (yB f0) 2047) (h1 : SmallS n f1 (xB f1) (yB f1) 2047) (h2 : SmallS n f2 (xB f2) (yB f2) 2047) (hsum : ∀ k, k < n → xB f2 k = xB f0 k + xB f1 k ∧ yB f2 k = yB f0 k + yB f1 k)
    (hU : SmallS C fc (xB fc) (yB fc) 3) (hA : SmallS CA fa (xB fa) (yB fa) 3) (hS : S + C = S0 + 1) (hL : LF + CA = L + 1) (hn : n = L * S0) (hC : 1 ≤ C) (h64 : C ≤ 64) (hCA : 1 ≤ CA) (hA64 : CA ≤ 64) (hi : i < LF * S)
    (d0 : SmallD (L * S) (compB (xB f0) (yB f0) (xB fc) (yB fc) S S0 C) (xD (compB (xB f0) (yB f0) (xB fc) (yB fc) S S0 C)) (yD (compB (xB f0) (yB f0) (xB fc) (yB fc) S S0 C)) 1000000000)
    (d1 : SmallD (L * S) (compB (xB f1) (yB f1) (xB fc) (yB fc) S S0 C) (xD (compB (xB f1) (yB f1) (xB fc) (yB fc) S S0 C)) (yD (compB (xB f1) (yB f1) (xB fc) (yB fc) S S0 C)) 1000000000) :
    cSumBits .add .f64 (bothB f0 fc fa S S0 C CA i).1 (bothB f0 fc fa S S0 C CA i).2 (bothB f1 fc fa S S0 C CA i).1 (bothB f1 fc fa S S0 C CA i).2 = some ((bothB f2 fc fa S S0 C CA i).1, (bothB f2 fc fa S S0 C CA i).2) ∧
      ∃ x y, CNum (bothB f2 fc fa S S0 C CA i).1 (bothB f2 fc fa S S0 C CA i).2 x y := by
  have hS1 : 0 < S := by
    rcases Nat.eq_zero_or_pos S with h | h
    · subst h; simp at hi
    · exact h
  have hl : i / S < LF := (Nat.div_lt_iff_lt_mul hS1).2 hi
  have hs := Nat.mod_lt i hS1
  obtain ⟨b1, b2⟩ := reF_bd (k := CA) d0 hA hL hl hs rfl (Nat.le_refl _) hA64
  obtain ⟨b3, b4⟩ := reF_bd (k := CA) d1 hA hL hl hs rfl (Nat.le_refl _) hA64
  have hlin := reF_add (X0 := xD (compB (xB f0) (yB f0) (xB fc) (yB fc) S S0 C)) (Y0 := yD (compB (xB f0) (yB f0) (xB fc) (yB fc) S S0 C)) (X1 := xD (compB (xB f1) (yB f1) (xB fc) (yB fc) S S0 C)) (Y1 := yD (compB (xB f1) (yB f1) (xB fc) (yB fc) S S0 C))
    (X2 := xD (compB (xB f2) (yB f2) (xB fc) (yB fc) S S0 C)) (Y2 := yD (compB (xB f2) (yB f2) (xB fc) (yB fc) S S0 C)) (U := xB fa) (V := yB fa) (S := S) (l := i / S) (s := i % S) (K := CA) (fun k hk => by
      have hj : (i / S + k) * S + i % S < L * S := idx_lt hL hl hk hs rfl
      rw [(comp_parts h0 hU hS hn hC h64 hj).1, (comp_parts h0 hU hS hn hC h64 hj).2, (comp_parts h1 hU hS hn hC h64 hj).1, (comp_parts h1 hU hS hn hC h64 hj).2, (comp_parts h2 hU hS hn hC h64 hj).1, (comp_parts h2 hU hS hn hC h64 hj).2]
      exact reP_add fun m hm => hsum _ (by have := place_lt hS hn hj hC; omega))
  obtain ⟨e1, e2⟩ := hlin
  unfold bothB focB
  dsimp only
  rw [e1, e2]
  generalize reF (xD (compB (xB f0) (yB f0) (xB fc) (yB fc) S S0 C)) (yD (compB (xB f0) (yB f0) (xB fc) (yB fc) S S0 C)) (xB fa) (yB fa) S (i / S) (i % S) CA = p at b1 ⊢
  generalize imF (xD (compB (xB f0) (yB f0) (xB fc) (yB fc) S S0 C)) (yD (compB (xB f0) (yB f0) (xB fc) (yB fc) S S0 C)) (xB fa) (yB fa) S (i / S) (i % S) CA = q at b2 ⊢
  generalize reF (xD (compB (xB f1) (yB f1) (xB fc) (yB fc) S S0 C)) (yD (compB (xB f1) (yB f1) (xB fc) (yB fc) S S0 C)) (xB fa) (yB fa) S (i / S) (i % S) CA = u at b3 ⊢
  generalize imF (xD (compB (xB f1) (yB f1) (xB fc) (yB fc) S S0 C)) (yD (compB (xB f1) (yB f1) (xB fc) (yB fc) S S0 C)) (xB fa) (yB fa) S (i / S) (i % S) CA = v at b4 ⊢
  have m1 : BNum (f64I p) (f64I q) p q := ⟨rfl, rfl, by omega, by omega⟩
  have m2 : BNum (f64I u) (f64I v) u v := ⟨rfl, rfl, by omega, by omega⟩
  obtain ⟨re, im, h3, h4⟩ := cadd_canon m1 m2.cnum (by omega) (by omega)
  refine ⟨?_, p + u, q + v, ?_⟩
  · rw [h3, h4.re, h4.im]
  · rw [← h4.re, ← h4.im]; exact h4.cnum
end Go.Proofs.Ytelchmimhnpkaaa
