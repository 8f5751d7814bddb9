/- Chapter 1: the reference's sums of powers are the transform; each transform undoes the other one; the transform of a correlation. Plain. -/
import Derived.Test.YtakohhlmomgegaaDoorZG
namespace Go.Proofs.YtakohhlmomgegaaDoor
set_option linter.unusedVariables false
set_option linter.unusedSimpArgs false
namespace Ntt
/-- Sums with powers, number by number: the sum, and the next power. -/
def sumS (a : Nat → Int) (s : Int) : Nat → Int × Int
  | 0 => (0, 1)
  | j + 1 => (((sumS a s j).1 + a j * (sumS a s j).2) % PP, (sumS a s j).2 * s % PP)
theorem sumS_cg (a : Nat → Int) (s : Int) : ∀ j, Cg PP (sumS a s j).1 (sum j fun i => a i * s ^ i) ∧ Cg PP (sumS a s j).2 (s ^ j)
  | 0 => ⟨Cg.refl _, by rw [Int.pow_zero]; exact Cg.refl _⟩
  | j + 1 => by
    obtain ⟨h1, h2⟩ := sumS_cg a s j
    unfold sumS
    rw [sum, Int.pow_succ]
    exact ⟨(Cg.emod _).trans (h1.add ((Cg.refl _).mul h2)), (Cg.emod _).trans (h2.mul (Cg.refl _))⟩
theorem sumS_bd (a : Nat → Int) (s : Int) (j : Nat) : (0 ≤ (sumS a s j).1 ∧ (sumS a s j).1 < 998244353) ∧ 0 ≤ (sumS a s j).2 ∧ (sumS a s j).2 < 998244353 := by
  cases j with
  | zero => exact ⟨⟨show (0 : Int) ≤ 0 by decide, show (0 : Int) < 998244353 by decide⟩, show (0 : Int) ≤ 1 by decide, show (1 : Int) < 998244353 by decide⟩
  | succ j => exact ⟨⟨Int.emod_nonneg _ (by decide), Int.emod_lt_of_pos _ (by decide)⟩, Int.emod_nonneg _ (by decide), Int.emod_lt_of_pos _ (by decide)⟩
theorem dft_pow (n : Nat) (a : Nat → Int) (r : Int) (k : Nat) : dft n a r k = sum n fun i => a i * (r ^ k) ^ i := sum_eq fun i _ => by rw [Int.pow_mul]
theorem sumS_fft (m : Nat) (a : Nat → Int) {r : Int} {k : Nat} (hr : Cg PP (r ^ (2 ^ m)) 1) (ha : ∀ i, i < 2 ^ m → 0 ≤ a i ∧ a i < 998244353) (hk : k < 2 ^ 31) : (sumS a (powM r k) (2 ^ m)).1 = fft PP m a r k := by
  obtain ⟨⟨b1, b2⟩, -⟩ := sumS_bd a (powM r k) (2 ^ m)
  obtain ⟨c1, c2⟩ := fft_bd m (a := a) r k ha
  refine Cg.eq (p := PP) ?_ b1 b2 c1 c2
  refine (sumS_cg a _ _).1.trans (Cg.trans ?_ (fft_cg m a k hr).symm)
  rw [dft_pow]
  exact sum_cg fun i _ => (Cg.refl _).mul ((powM_cg r hk).pow i)
theorem dft_scale (n : Nat) (b : Nat → Int) (q w : Int) (s : Nat) : dft n (fun j => b j * q) w s = q * dft n b w s := by
  unfold dft
  rw [← sum_mul]
  exact sum_eq fun j _ => by dsimp only; rw [Int.mul_comm (b j) q, Int.mul_assoc]
theorem back_fft {m n : Nat} (hm : m ≤ 7) (hn : n = 2 ^ m) (a : Nat → Int) (ha : ∀ i, i < n → 0 ≤ a i ∧ a i < 998244353) {s : Nat} (hs : s < n) : backP n m (fft PP m a (rootM n)) s = a s := by
  subst hn
  have R := roots m hm
  obtain ⟨c1, c2⟩ := ha s hs
  refine Cg.eq (p := PP) ?_ (Int.emod_nonneg _ (by decide)) (Int.emod_lt_of_pos _ (by decide)) c1 c2
  unfold backP
  refine (Cg.emod _).trans (Cg.trans ?_ (back_dft R (parts m hm) a hs))
  rw [Int.mul_comm]
  exact (Cg.refl _).mul ((fft_cg m _ s R.swap.one).trans (dft_list (fun j _ => fft_cg m a j R.one) _ _))
theorem fft_back {m n : Nat} (hm : m ≤ 7) (hn : n = 2 ^ m) (a : Nat → Int) (ha : ∀ i, i < n → 0 ≤ a i ∧ a i < 998244353) {s : Nat} (hs : s < n) : fft PP m (backP n m a) (rootM n) s = a s := by
  subst hn
  have R := roots m hm
  obtain ⟨c1, c2⟩ := ha s hs
  obtain ⟨d1, d2⟩ := fft_bd m (a := backP (2 ^ m) m a) (rootM (2 ^ m)) s (fun i _ => ⟨Int.emod_nonneg _ (by decide), Int.emod_lt_of_pos _ (by decide)⟩)
  refine Cg.eq (p := PP) ?_ d1 d2 c1 c2
  refine (fft_cg m _ s R.one).trans (Cg.trans ?_ (back_dft R.swap (parts m hm) a hs))
  rw [← dft_scale]
  exact dft_list (fun j _ => (Cg.emod _).trans ((fft_cg m a j R.swap.one).mul (Cg.refl _))) _ _
/-- A correlation, number by number. -/
def corS (n : Nat) (a b : Nat → Int) (s : Nat) : Nat → Int
  | 0 => 0
  | k + 1 => (corS n a b s k + a ((s + k) % n) * b k) % PP
theorem corS_eq (n : Nat) (a b : Nat → Int) (s : Nat) : ∀ k, corS n a b s k = sum k (fun i => a ((s + i) % n) * b i) % PP
  | 0 => by simp [corS, sum]
  | k + 1 => by unfold corS; rw [corS_eq n a b s k, sum, Int.emod_add_emod]
theorem corS_bd (n : Nat) (a b : Nat → Int) (s k : Nat) : 0 ≤ corS n a b s k ∧ corS n a b s k < 998244353 := by
  rw [corS_eq]
  exact ⟨Int.emod_nonneg _ (by decide), Int.emod_lt_of_pos _ (by decide)⟩
/-- Counted backwards: the other root. -/
theorem dft_other {m : Nat} {w v : Int} (R : Root PP m w v) (b : Nat → Int) {k : Nat} (hk : k < 2 ^ m) : Cg PP (dft (2 ^ m) b v k) (dft (2 ^ m) b w ((2 ^ m - k) % 2 ^ m)) := by
  have h1 : Cg PP (w ^ ((2 ^ m - k) % 2 ^ m)) (w ^ (2 ^ m - k)) := pow_mod R.one _
  have hwv : Cg PP (w ^ k * v ^ k) 1 := by
    rw [← Int.mul_pow]
    have := R.inv.pow k
    rwa [Int.one_pow] at this
  have h2 : Cg PP (w ^ (2 ^ m - k)) (v ^ k) := by
    have e1 := (Cg.refl (p := PP) (w ^ (2 ^ m - k))).mul hwv
    rw [Int.mul_one, ← Int.mul_assoc, ← Int.pow_add, show 2 ^ m - k + k = 2 ^ m by omega] at e1
    have e2 := R.one.mul (Cg.refl (p := PP) (v ^ k))
    rw [Int.one_mul] at e2
    exact e1.symm.trans e2
  rw [dft_pow, dft_pow]
  exact sum_cg fun i _ => (Cg.refl _).mul ((h1.trans h2).symm.pow i)
theorem fft_corr {m n : Nat} (hm : m ≤ 7) (hn : n = 2 ^ m) (a b : Nat → Int) {k : Nat} (hk : k < n) :
    Cg PP (fft PP m (fun s => corr n a b s % PP) (rootM n) k) (fft PP m a (rootM n) k * fft PP m b (rootM n) ((n - k) % n)) := by
  subst hn
  have R := roots m hm
  refine (fft_cg m _ k R.one).trans ?_
  refine Cg.trans ?_ ((fft_cg m a k R.one).symm.mul (fft_cg m b _ R.one).symm)
  refine Cg.trans ?_ ((Cg.refl _).mul (dft_other R b hk))
  have h := back_dft R.swap (parts m hm) (fun k => dft (2 ^ m) a (rootM (2 ^ m)) k * dft (2 ^ m) b (invM (rootM (2 ^ m))) k) hk
  refine Cg.trans ?_ h
  rw [← dft_scale]
  refine dft_list (fun j _ => (Cg.emod _).trans ?_) _ _
  rw [Int.mul_comm]
  exact (corr_dft R (parts m hm) a b j).symm
end Ntt
end Go.Proofs.YtakohhlmomgegaaDoor
