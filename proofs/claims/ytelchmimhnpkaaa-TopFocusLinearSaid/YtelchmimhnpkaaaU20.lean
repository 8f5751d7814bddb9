/- Chapter 1: the sums of Compress (not finished). -/
import Derived.Test.YtelchmimhnpkaaaU19
namespace Go.Proofs.Ytelchmimhnpkaaa
set_option linter.unusedVariables false
open Go.RowKit Ieee Ntt
def reP (X Y U V : Nat → Int) (i : Nat) (K : Nat) : Int := sum K fun k => X (i + k) * U k + Y (i + k) * V k
def imP (X Y U V : Nat → Int) (i : Nat) (K : Nat) : Int := sum K fun k => Y (i + k) * U k - X (i + k) * V k
theorem reP_succ (X Y U V : Nat → Int) (i K : Nat) : reP X Y U V i (K + 1) = reP X Y U V i K + (X (i + K) * U K + Y (i + K) * V K) := rfl
theorem imP_succ (X Y U V : Nat → Int) (i K : Nat) : imP X Y U V i (K + 1) = imP X Y U V i K + (Y (i + K) * U K - X (i + K) * V K) := rfl
/-- Samples whose parts are small whole numbers. -/
def SmallS (n : Nat) (f : Nat → Nat × Nat) (X Y : Nat → Int) (B : Int) : Prop := ∀ k, k < n → SNum (f k).1 (f k).2 (X k) (Y k) ∧ (-B ≤ X k ∧ X k ≤ B) ∧ -B ≤ Y k ∧ Y k ≤ B
/-- What is written of a whole number hangs on its sign and its size alone. -/
theorem write_canon {f : Format} (g : GoodF f) {s : Bool} {m : Nat} {e : Int} {n : Nat} (h : Mag m e n) (hlt : n < 2 ^ (f.fractionBits + 1)) : f.write (.number s m e) = f.write (.number s n 0) := by
  show f.nearest s m e = f.nearest s n 0
  by_cases h0 : n = 0
  · have hm := (mag_zero h).2 h0
    subst h0 hm
    unfold Format.nearest
    simp
  · obtain ⟨k, last, h1, -, -, h4, h5⟩ := nearest_whole f g.lp g.ex s m e n h h0 hlt
    obtain ⟨k', last', j1, -, -, j4, j5⟩ := nearest_whole f g.lp g.ex s n 0 n (mag_nat n) h0 hlt
    rw [h1, j1, h4, h5, j4, j5]
/-- Sums of whole numbers, the first of which is no -0, are none. -/
theorem add_canon {b : Nat} {x y : Int} (hb : FNum double b y) (hx : x.natAbs < 2 ^ 53) (hlt : (x + y).natAbs < 2 ^ 53) : double.add (f64I x) b = some (f64I (x + y)) := by
  obtain ⟨s, m, i, u, h1, h2, h3⟩ := f64I_num hx
  have hs : x = 0 → s = false := fun h0 => by
    subst h0
    have e : double.read (f64I 0) = .number false 0 (-1074) := by decide
    rw [e] at h1
    cases h1
    rfl
  obtain ⟨t, n, j, v, k1, k2, k3⟩ := hb
  unfold Format.add
  rw [h1, k1]
  simp only [Datum.sum, Option.map_some]
  congr 1
  have e1 := mag_base h2 (base := min i j) (by omega)
  have e2 := mag_base k2 (base := min i j) (by omega)
  generalize hT : signed s m (i - min i j).toNat + signed t n (j - min i j).toNat = T
  have hTv : T * ((2 ^ (min i j).toNat : Nat) : Int) = (sgn s u + sgn t v) * ((2 ^ (-(min i j)).toNat : Nat) : Int) := by
    rw [← hT, signed_sgn, signed_sgn, Int.add_mul, Int.add_mul, ← sgn_mul, ← sgn_mul, e1, e2, sgn_mul, sgn_mul]
  have hmag : Mag T.natAbs (min i j) (sgn s u + sgn t v).natAbs := by
    unfold Mag
    have := congrArg Int.natAbs hTv
    rwa [Int.natAbs_mul, Int.natAbs_mul, Int.natAbs_natCast, Int.natAbs_natCast] at this
  rw [h3, k3] at hmag hTv
  rw [write_canon good_double hmag hlt]
  have p1 : (0 : Int) < ((2 ^ (min i j).toNat : Nat) : Int) := by have := Nat.two_pow_pos (min i j).toNat; omega
  have p2 : (0 : Int) < ((2 ^ (-(min i j)).toNat : Nat) : Int) := by have := Nat.two_pow_pos (-(min i j)).toNat; omega
  have hsg : (if T = 0 then s && t else decide (T < 0)) = decide (x + y < 0) := by
    by_cases h0 : T = 0
    · rw [if_pos h0]
      rw [h0, Int.zero_mul] at hTv
      have hS : x + y = 0 := (Int.mul_eq_zero.1 hTv.symm).resolve_right (by omega)
      rw [hS]
      by_cases hx0 : x = 0
      · rw [hs hx0]; rfl
      · have : (s && t) = false := by
          unfold sgn at h3 k3
          cases s <;> cases t <;> simp at h3 k3 ⊢
          omega
        rw [this]; rfl
    · rw [if_neg h0, decide_eq_decide]
      constructor
      · intro h
        rcases Int.lt_or_le (x + y) 0 with h' | h'
        · exact h'
        · have := Int.mul_nonneg h' (Int.le_of_lt p2)
          have := Int.mul_neg_of_neg_of_pos h p1
          omega
      · intro h
        rcases Int.lt_or_le T 0 with h' | h'
        · exact h'
        · have := Int.mul_nonneg h' (Int.le_of_lt p1)
          have := Int.mul_neg_of_neg_of_pos h p2
          omega
  rw [hsg]
  rfl
/-- A complex number that is written as whole numbers are: no part is -0. -/
structure BNum (a b : Nat) (x y : Int) : Prop where
  re : a = f64I x
  im : b = f64I y
  hx : x.natAbs < 9007199254740992
  hy : y.natAbs < 9007199254740992
theorem f64I_lt (x : Int) : f64I x < 2 ^ 64 := fnum_write_lt (.number (decide (x < 0)) x.natAbs 0)
theorem BNum.cnum {a b : Nat} {x y : Int} (h : BNum a b x y) : CNum a b x y :=
  ⟨by rw [h.re]; exact f64I_num h.hx, by rw [h.im]; exact f64I_num h.hy, by rw [h.re]; exact f64I_lt x, by rw [h.im]; exact f64I_lt y⟩
theorem cadd_canon {a b c d : Nat} {x y u v : Int} (h : BNum a b x y) (k : CNum c d u v) (b1 : (x + u).natAbs < 9007199254740992) (b2 : (y + v).natAbs < 9007199254740992) : ∃ re im, cSumBits .add .f64 a b c d = some (re, im) ∧ BNum re im (x + u) (y + v) := by
  refine ⟨f64I (x + u), f64I (y + v), ?_, ⟨rfl, rfl, b1, b2⟩⟩
  have f1 : floatBits .add .f64 a c = some (f64I (x + u)) := by rw [h.re]; exact add_canon k.re h.hx b1
  have f2 : floatBits .add .f64 b d = some (f64I (y + v)) := by rw [h.im]; exact add_canon k.im h.hy b2
  unfold cSumBits
  rw [f1, f2]
  rfl
theorem zero_bnum : BNum 0 0 0 0 := ⟨by decide, by decide, by decide, by decide⟩
/-- One step of a sum: product and sum as the walk meets them. -/
theorem step_cnum {a b c d e g sa sb : Nat} {x y u v s t : Int} (hz : CNum a b x y) (hc : CNum c d u v) (hs : BNum sa sb s t) (x1 : -2047 ≤ x ∧ x ≤ 2047) (y1 : -2047 ≤ y ∧ y ≤ 2047) (u1 : -3 ≤ u ∧ u ≤ 3) (v1 : -3 ≤ v ∧ v ≤ 3) (s1 : -1000000 ≤ s ∧ s ≤ 1000000) (t1 : -1000000 ≤ t ∧ t ≤ 1000000) (he : e = c) (hg : g = Op.negFloat .f64 d) :
    ∃ p q re im, cMulBits a b e g = some (p, q) ∧ cSumBits .add .f64 sa sb p q = some (re, im) ∧ BNum re im (s + (x * u + y * v)) (t + (y * u - x * v)) := by
  subst he hg
  have hn : CNum e (Op.negFloat .f64 d) u (-v) := ⟨hc.re, neg_num hc.lb hc.im, hc.la, by
    obtain ⟨sg, r, hr, rfl⟩ := word_of hc.lb
    rw [neg_word sg hr]
    unfold Format.word
    have : double.signWeight = 2 ^ 63 := rfl
    split <;> omega⟩
  have m1 := mul_bd2 (x := x) (y := u) (A := 2047) (B := 3) x1 u1
  have m2 := mul_bd2 (x := y) (y := -v) (A := 2047) (B := 3) y1 (by omega)
  have m3 := mul_bd2 (x := x) (y := -v) (A := 2047) (B := 3) x1 (by omega)
  have m4 := mul_bd2 (x := y) (y := u) (A := 2047) (B := 3) y1 u1
  simp only [Int.reduceMul] at m1 m2 m3 m4
  obtain ⟨p, q, h1, h2⟩ := cmul_num hz hn 6141 (by decide) m1 m2 m3 m4
  obtain ⟨re, im, h3, h4⟩ := cadd_canon hs h2 (by omega) (by omega)
  refine ⟨p, q, re, im, h1, h3, ?_⟩
  have e1 : s + (x * u - y * -v) = s + (x * u + y * v) := by grind
  have e2 : t + (x * -v + y * u) = t + (y * u - x * v) := by grind
  rwa [e1, e2] at h4
end Go.Proofs.Ytelchmimhnpkaaa
