/- Floats that stand for whole numbers: products, differences, opposites. Plain. -/
import Derived.Test.YtkoiknmijjiicaaGreatDoorZF
namespace Go.Proofs.YtkoiknmijjiicaaGreatDoor
set_option linter.unusedVariables false
set_option linter.unusedSimpArgs false
open Ieee
/-- A datum that stands for a whole number. -/
def DNum (d : Datum) (n : Int) : Prop := ∃ s m e a, d = .number s m e ∧ Mag m e a ∧ sgn s a = n
theorem FNum.dat {f : Format} {b : Nat} {n : Int} (h : FNum f b n) : DNum (f.read b) n := h
theorem mag_mul {m n : Nat} {i j : Int} {u v : Nat} (h : Mag m i u) (k : Mag n j v) : Mag (m * n) (i + j) (u * v) := by
  unfold Mag at *
  have hm : m * n * 2 ^ (i.toNat + j.toNat) = u * v * 2 ^ ((-i).toNat + (-j).toNat) := by
    rw [Nat.pow_add, Nat.pow_add]
    have := congr (congrArg (· * ·) h) k
    calc m * n * (2 ^ i.toNat * 2 ^ j.toNat) = m * 2 ^ i.toNat * (n * 2 ^ j.toNat) := by grind
      _ = u * 2 ^ (-i).toNat * (v * 2 ^ (-j).toNat) := this
      _ = u * v * (2 ^ (-i).toNat * 2 ^ (-j).toNat) := by grind
  obtain ⟨c, h1, h2⟩ : ∃ c, i.toNat + j.toNat = (i + j).toNat + c ∧ (-i).toNat + (-j).toNat = (-(i + j)).toNat + c := ⟨i.toNat + j.toNat - (i + j).toNat, by omega, by omega⟩
  rw [h1, h2, Nat.pow_add, Nat.pow_add, ← Nat.mul_assoc, ← Nat.mul_assoc] at hm
  exact Nat.eq_of_mul_eq_mul_right (Nat.two_pow_pos c) hm
theorem sgn_xor (s t : Bool) (u v : Nat) : sgn (s ^^ t) (u * v) = sgn s u * sgn t v := by
  unfold sgn; cases s <;> cases t <;> simp [Int.neg_mul, Int.mul_neg]
theorem mul_num {f : Format} (g : GoodF f) {a b : Nat} {x y : Int} (ha : FNum f a x) (hb : FNum f b y) (hlt : (x * y).natAbs < 2 ^ (f.fractionBits + 1)) : ∃ r, f.mul a b = some r ∧ FNum f r (x * y) := by
  obtain ⟨s, m, i, u, h1, h2, rfl⟩ := ha
  obtain ⟨t, n, j, v, k1, k2, rfl⟩ := hb
  unfold Format.mul
  rw [h1, k1]
  simp only [Datum.product, Option.map_some]
  refine ⟨_, rfl, ?_⟩
  rw [← sgn_xor] at hlt ⊢
  rw [sgn_abs] at hlt
  exact write_num g (mag_mul h2 k2) hlt
theorem sgn_not (s : Bool) (a : Nat) : sgn (!s) a = -sgn s a := by unfold sgn; cases s <;> simp
theorem opp_num {d : Datum} {n : Int} (h : DNum d n) : DNum d.opposite (-n) := by
  obtain ⟨s, m, e, a, rfl, h2, rfl⟩ := h
  exact ⟨!s, m, e, a, rfl, h2, sgn_not s a⟩
/-- A sum of data, written. -/
theorem sum_num {f : Format} (g : GoodF f) {d k : Datum} {x y : Int} (ha : DNum d x) (hb : DNum k y) (hlt : (x + y).natAbs < 2 ^ (f.fractionBits + 1)) : ∃ r, (d.sum k).map f.write = some r ∧ FNum f r (x + y) := by
  obtain ⟨s, m, i, u, rfl, h2, rfl⟩ := ha
  obtain ⟨t, n, j, v, rfl, k2, rfl⟩ := hb
  simp only [Datum.sum, Option.map_some]
  refine ⟨_, rfl, ?_⟩
  have e1 := mag_base h2 (base := min i j) (by omega)
  have e2 := mag_base k2 (base := min i j) (by omega)
  generalize hT : signed s m (i - min i j).toNat + signed t n (j - min i j).toNat = T
  have hTv : T * ((2 ^ (min i j).toNat : Nat) : Int) = (sgn s u + sgn t v) * ((2 ^ (-(min i j)).toNat : Nat) : Int) := by
    rw [← hT, signed_sgn, signed_sgn, Int.add_mul, Int.add_mul, ← sgn_mul, ← sgn_mul, e1, e2, sgn_mul, sgn_mul]
  have hmag : Mag T.natAbs (min i j) (sgn s u + sgn t v).natAbs := by
    unfold Mag
    have := congrArg Int.natAbs hTv
    rwa [Int.natAbs_mul, Int.natAbs_mul, Int.natAbs_natCast, Int.natAbs_natCast] at this
  have hw := write_num g (s := if T = 0 then s && t else decide (T < 0)) hmag hlt
  have hs : sgn (if T = 0 then s && t else decide (T < 0)) (sgn s u + sgn t v).natAbs = sgn s u + sgn t v := by
    have p1 : (0 : Int) < ((2 ^ (min i j).toNat : Nat) : Int) := by have := Nat.two_pow_pos (min i j).toNat; omega
    have p2 : (0 : Int) < ((2 ^ (-(min i j)).toNat : Nat) : Int) := by have := Nat.two_pow_pos (-(min i j)).toNat; omega
    generalize sgn s u + sgn t v = S at *
    by_cases h0 : T = 0
    · rw [h0, Int.zero_mul] at hTv
      have : S = 0 := (Int.mul_eq_zero.1 hTv.symm).resolve_right (by omega)
      rw [this]
      unfold sgn; split <;> simp
    · rw [if_neg h0]
      unfold sgn
      rcases Int.lt_or_gt_of_ne h0 with h | h
      · have : S < 0 := by
          rcases Int.lt_or_le S 0 with h' | h'
          · exact h'
          · have := Int.mul_nonneg h' (Int.le_of_lt p2)
            have := Int.mul_neg_of_neg_of_pos h p1
            omega
        simp [h]; omega
      · have : 0 ≤ S := by
          rcases Int.lt_or_le S 0 with h' | h'
          · have := Int.mul_neg_of_neg_of_pos h' p2
            have := Int.mul_pos h p1
            omega
          · exact h'
        simp [show ¬ T < 0 by omega]; omega
  rw [hs] at hw
  exact hw
theorem sub_num {f : Format} (g : GoodF f) {a b : Nat} {x y : Int} (ha : FNum f a x) (hb : FNum f b y) (hlt : (x - y).natAbs < 2 ^ (f.fractionBits + 1)) : ∃ r, f.sub a b = some r ∧ FNum f r (x - y) := by
  rw [Int.sub_eq_add_neg] at hlt ⊢
  exact sum_num g ha.dat (opp_num hb.dat) hlt
end Go.Proofs.YtkoiknmijjiicaaGreatDoor
