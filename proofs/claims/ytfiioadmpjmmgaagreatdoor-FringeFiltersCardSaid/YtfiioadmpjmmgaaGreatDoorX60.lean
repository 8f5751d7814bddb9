/- Chapter 4, plain: sums over windows and blocks. -/
import Derived.Test.YtfiioadmpjmmgaaGreatDoorXA
namespace Go.Proofs.YtfiioadmpjmmgaaGreatDoor
set_option linter.unusedVariables false
set_option linter.unusedSimpArgs false
open Go.RowKit Ntt
def sumN (f : Nat → Int) (a : Nat) : Nat → Int
  | 0 => 0
  | k + 1 => sumN f a k + f (a + k)
theorem sumN_bd {f : Nat → Int} {a : Nat} {B : Int} : ∀ {k : Nat}, (∀ j, j < k → -B ≤ f (a + j) ∧ f (a + j) ≤ B) → -(k * B) ≤ sumN f a k ∧ sumN f a k ≤ k * B
  | 0, _ => by simp [sumN]
  | k + 1, h => by
    have ih := sumN_bd (k := k) (fun j hj => h j (by omega))
    have h1 := h k (Nat.lt_succ_self k)
    rw [sumN, show (((k + 1 : Nat) : Int) * B) = k * B + B by rw [Int.natCast_succ, Int.add_mul, Int.one_mul]]
    omega
theorem sumN_congr {f g : Nat → Int} {a : Nat} : ∀ {k : Nat}, (∀ j, j < k → f (a + j) = g (a + j)) → sumN f a k = sumN g a k
  | 0, _ => rfl
  | k + 1, h => by rw [sumN, sumN, sumN_congr (k := k) (fun j hj => h j (by omega)), h k (Nat.lt_succ_self k)]
/-- A part of a row, and a block. -/
def rowW (F : Nat → Int) (S l a k : Nat) : Int := sumN (fun s => F (l * S + s)) a k
def winW (F : Nat → Int) (S a k b m : Nat) : Int := sumN (fun l => rowW F S l a k) b m
theorem rowW_bd {F : Nat → Int} {L S l a k : Nat} {B : Int} (h : ∀ i, i < L * S → -B ≤ F i ∧ F i ≤ B) (hl : l < L) (hk : a + k ≤ S) : -(k * B) ≤ rowW F S l a k ∧ rowW F S l a k ≤ k * B :=
  sumN_bd fun j hj => h _ (by
    have h1 : (l + 1) * S ≤ L * S := Nat.mul_le_mul_right _ hl
    rw [Nat.add_mul, Nat.one_mul] at h1
    omega)
theorem mul_le3 {x y : Int} {k n : Nat} (h1 : -(k * x) ≤ y ∧ y ≤ k * x) (hk : k ≤ n) (hx : 0 ≤ x) : -(n * x) ≤ y ∧ y ≤ n * x := by
  have : (k : Int) * x ≤ (n : Int) * x := Int.mul_le_mul_of_nonneg_right (by omega) hx
  omega
theorem winW_bd {F : Nat → Int} {L S a k b m : Nat} {B : Int} (h : ∀ i, i < L * S → -B ≤ F i ∧ F i ≤ B) (hB : 0 ≤ B) (hL : L ≤ 64) (hS : S ≤ 64) (hm : b + m ≤ L) (hk : a + k ≤ S) : -(4096 * B) ≤ winW F S a k b m ∧ winW F S a k b m ≤ 4096 * B := by
  have h1 : ∀ j, j < m → -(64 * B) ≤ rowW F S (b + j) a k ∧ rowW F S (b + j) a k ≤ 64 * B := fun j hj => mul_le3 (n := 64) (rowW_bd (L := L) h (by omega) hk) (by omega) hB
  have h2 := sumN_bd (f := fun l => rowW F S l a k) (a := b) (k := m) h1
  have h3 := mul_le3 (n := 64) h2 (by omega) (by omega)
  unfold winW
  omega
/-- Where a window starts and ends. -/
def loW (l half : Nat) : Nat := l - half
def hiW (l half L : Nat) : Nat := min (l + half + 1) L
def cntW (l half L : Nat) : Nat := hiW l half L - loW l half
theorem cntW_le {l half L : Nat} (h : l < L) : loW l half + cntW l half L ≤ L ∧ loW l half + cntW l half L = hiW l half L := by unfold cntW hiW loW; omega
/-- The sum of the window around a place. -/
def winP (F : Nat → Int) (L S half l s : Nat) : Int := winW F S (loW s half) (cntW s half S) (loW l half) (cntW l half L)
theorem winP_bd {F : Nat → Int} {L S half l s : Nat} {B : Int} (h : ∀ i, i < L * S → -B ≤ F i ∧ F i ≤ B) (hB : 0 ≤ B) (hL : L ≤ 64) (hS : S ≤ 64) (hl : l < L) (hs : s < S) : -(4096 * B) ≤ winP F L S half l s ∧ winP F L S half l s ≤ 4096 * B :=
  winW_bd h hB hL hS (cntW_le hl).1 (cntW_le hs).1
theorem rowW_succ (F : Nat → Int) (S l a k : Nat) : rowW F S l a (k + 1) = rowW F S l a k + F (l * S + (a + k)) := rfl
theorem winW_succ (F : Nat → Int) (S a k b m : Nat) : winW F S a k b (m + 1) = winW F S a k b m + rowW F S (b + m) a k := rfl
theorem sumN_shift {f g : Nat → Int} {a b : Nat} : ∀ {k : Nat}, (∀ j, j < k → f (a + j) = g (b + j)) → sumN f a k = sumN g b k
  | 0, _ => rfl
  | k + 1, h => by rw [sumN, sumN, sumN_shift (k := k) (fun j hj => h j (by omega)), h k (Nat.lt_succ_self k)]
theorem sumN_add (f : Nat → Int) (a m : Nat) : ∀ k, sumN f a (m + k) = sumN f a m + sumN f (a + m) k
  | 0 => by simp [sumN]
  | k + 1 => by rw [← Nat.add_assoc, sumN, sumN_add f a m k, sumN, Nat.add_assoc]; omega
end Go.Proofs.YtfiioadmpjmmgaaGreatDoor
