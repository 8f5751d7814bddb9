import Derived.Test.YtkoiknmijjiicaaGreatDoorZL
/- Sums modulo a number; sums of powers of a root. Plain. -/
namespace Go.Proofs.YtkoiknmijjiicaaGreatDoor
set_option linter.unusedVariables false
set_option linter.unusedSimpArgs false
namespace Ntt
/-- x and y differ by a multiple of p. -/
def Cg (p x y : Int) : Prop := ∃ c, x = y + c * p
variable {p : Int}
theorem Cg.refl (x : Int) : Cg p x x := ⟨0, by omega⟩
theorem Cg.symm {x y : Int} (h : Cg p x y) : Cg p y x := by obtain ⟨c, rfl⟩ := h; exact ⟨-c, by grind⟩
theorem Cg.trans {x y z : Int} (h : Cg p x y) (k : Cg p y z) : Cg p x z := by obtain ⟨c, rfl⟩ := h; obtain ⟨d, rfl⟩ := k; exact ⟨c + d, by grind⟩
theorem Cg.add {x y u v : Int} (h : Cg p x y) (k : Cg p u v) : Cg p (x + u) (y + v) := by obtain ⟨c, rfl⟩ := h; obtain ⟨d, rfl⟩ := k; exact ⟨c + d, by grind⟩
theorem Cg.mul {x y u v : Int} (h : Cg p x y) (k : Cg p u v) : Cg p (x * u) (y * v) := by obtain ⟨c, rfl⟩ := h; obtain ⟨d, rfl⟩ := k; exact ⟨c * v + y * d + c * d * p, by grind⟩
theorem Cg.neg {x y : Int} (h : Cg p x y) : Cg p (-x) (-y) := by obtain ⟨c, rfl⟩ := h; exact ⟨-c, by grind⟩
theorem Cg.pow {x y : Int} (h : Cg p x y) : ∀ n : Nat, Cg p (x ^ n) (y ^ n)
  | 0 => by rw [Int.pow_zero, Int.pow_zero]; exact Cg.refl _
  | n + 1 => by rw [Int.pow_succ, Int.pow_succ]; exact (h.pow n).mul h
theorem Cg.emod (x : Int) : Cg p (x % p) x := ⟨-(x / p), by have := Int.emod_add_mul_ediv x p; grind⟩
theorem Cg.eq {x y : Int} (h : Cg p x y) (x0 : 0 ≤ x) (x1 : x < p) (y0 : 0 ≤ y) (y1 : y < p) : x = y := by
  obtain ⟨c, hc⟩ := h
  have h1 : x % p = y % p := by rw [hc]; exact Int.add_mul_emod_self_right _ _ _
  rwa [Int.emod_eq_of_lt x0 x1, Int.emod_eq_of_lt y0 y1] at h1
theorem Cg.of_emod {x y : Int} (h : x % p = y % p) : Cg p x y := (Cg.emod x).symm.trans (h ▸ Cg.emod y)
theorem Cg.emod_eq {x y : Int} (h : Cg p x y) : x % p = y % p := by
  obtain ⟨c, hc⟩ := h
  rw [hc]; exact Int.add_mul_emod_self_right _ _ _
/-- A sum over the first n numbers. -/
def sum (n : Nat) (f : Nat → Int) : Int := match n with
  | 0 => 0
  | n + 1 => sum n f + f n
theorem sum_cg {n : Nat} {f g : Nat → Int} (h : ∀ k, k < n → Cg p (f k) (g k)) : Cg p (sum n f) (sum n g) := by
  induction n with
  | zero => exact Cg.refl _
  | succ n ih => exact (ih fun k hk => h k (by omega)).add (h n (by omega))
theorem sum_eq {n : Nat} {f g : Nat → Int} (h : ∀ k, k < n → f k = g k) : sum n f = sum n g := by
  induction n with
  | zero => rfl
  | succ n ih => rw [sum, sum, ih fun k hk => h k (by omega), h n (by omega)]
theorem sum_add (n : Nat) (f g : Nat → Int) : sum n (fun k => f k + g k) = sum n f + sum n g := by
  induction n with
  | zero => rfl
  | succ n ih => rw [sum, sum, sum, ih]; omega
theorem sum_mul (n : Nat) (c : Int) (f : Nat → Int) : sum n (fun k => c * f k) = c * sum n f := by
  induction n with
  | zero => simp [sum]
  | succ n ih => rw [sum, sum, ih, Int.mul_add]
theorem sum_zero (n : Nat) : sum n (fun _ => 0) = 0 := by
  induction n with
  | zero => rfl
  | succ n ih => rw [sum, ih]; rfl
theorem sum_one (n : Nat) : sum n (fun _ => 1) = n := by
  induction n with
  | zero => rfl
  | succ n ih => rw [sum, ih]; omega
theorem sum_swap (n m : Nat) (f : Nat → Nat → Int) : sum n (fun i => sum m (fun j => f i j)) = sum m (fun j => sum n (fun i => f i j)) := by
  induction n with
  | zero => simp only [sum]; exact (sum_zero m).symm
  | succ n ih => simp only [sum]; rw [ih, ← sum_add]
theorem sum_split (m n : Nat) (f : Nat → Int) : sum (m + n) f = sum m f + sum n (fun k => f (m + k)) := by
  induction n with
  | zero => simp [sum]
  | succ n ih => rw [← Nat.add_assoc, sum, sum, ih]; omega
theorem sum_even_odd (n : Nat) (f : Nat → Int) : sum (2 * n) f = sum n (fun k => f (2 * k)) + sum n (fun k => f (2 * k + 1)) := by
  induction n with
  | zero => rfl
  | succ n ih => rw [show 2 * (n + 1) = 2 * n + 1 + 1 by omega, sum, sum, sum, sum, ih]; omega
/-- One term alone. -/
theorem sum_single {n i : Nat} (hi : i < n) (c : Int) : sum n (fun k => if k = i then c else 0) = c := by
  induction n with
  | zero => omega
  | succ n ih =>
    rw [sum]
    by_cases e : n = i
    · subst e
      have : sum n (fun k => if k = n then c else 0) = sum n (fun _ => 0) := sum_eq fun k hk => if_neg (by omega)
      rw [this, sum_zero, if_pos rfl]; omega
    · rw [ih (by omega), if_neg e]; omega
theorem sum_single' {n i : Nat} (hi : i < n) (f : Nat → Int) : sum n (fun k => if k = i then f k else 0) = f i := by
  rw [← sum_single hi (f i)]
  refine sum_eq fun k _ => ?_
  by_cases e : k = i
  · subst e; rfl
  · rw [if_neg e, if_neg e]
/-- Sums of powers. -/
theorem geo_double (u : Int) (m : Nat) : sum (2 ^ (m + 1)) (fun k => u ^ k) = (1 + u ^ (2 ^ m)) * sum (2 ^ m) (fun k => u ^ k) := by
  rw [show 2 ^ (m + 1) = 2 ^ m + 2 ^ m by rw [Nat.pow_succ]; omega, sum_split, ← Int.add_comm, Int.add_mul, Int.one_mul, ← sum_mul, Int.add_comm]
  congr 1
  exact sum_eq fun k _ => by rw [Int.pow_add]
theorem geo_zero {u : Int} : ∀ {m : Nat}, (∃ i, i < m ∧ Cg p (u ^ (2 ^ i)) (-1)) → Cg p (sum (2 ^ m) (fun k => u ^ k)) 0
  | 0, ⟨i, hi, _⟩ => by omega
  | m + 1, ⟨i, hi, h⟩ => by
    rw [geo_double]
    by_cases e : i = m
    · subst e
      have := ((Cg.refl (p := p) 1).add h).mul (Cg.refl (p := p) (sum (2 ^ i) (fun k => u ^ k)))
      exact this.trans (by rw [show (1 : Int) + -1 = 0 by rfl, Int.zero_mul]; exact Cg.refl _)
    · have := (Cg.refl (p := p) (1 + u ^ (2 ^ m))).mul (geo_zero (m := m) ⟨i, by omega, h⟩)
      rw [Int.mul_zero] at this
      exact this
theorem geo_one {u : Int} (h : Cg p u 1) (n : Nat) : Cg p (sum n (fun k => u ^ k)) n := by
  rw [← sum_one n]
  exact sum_cg fun k _ => (h.pow k).trans (by rw [Int.one_pow]; exact Cg.refl _)
theorem pow_odd_neg : ∀ d : Nat, d % 2 = 1 → (-1 : Int) ^ d = -1 := fun d h => by
  obtain ⟨k, rfl⟩ : ∃ k, d = 2 * k + 1 := ⟨d / 2, by omega⟩
  rw [Int.pow_succ, Int.pow_mul, show (-1 : Int) ^ 2 = 1 by rfl, Int.one_pow]; rfl
/-- A root of 2^m powers: some power of each of its powers but 1 is -1. -/
theorem root_neg : ∀ {m : Nat} {w : Int} {d : Nat}, Cg p (w ^ (2 ^ m)) (-1) → 0 < d → d < 2 ^ (m + 1) → ∃ i, i < m + 1 ∧ Cg p ((w ^ d) ^ (2 ^ i)) (-1)
  | m, w, d, hw, h0, h1 => by
    by_cases ho : d % 2 = 1
    · refine ⟨m, by omega, ?_⟩
      rw [← Int.pow_mul, Nat.mul_comm, Int.pow_mul, ← pow_odd_neg d ho]
      exact hw.pow d
    · obtain ⟨c, rfl⟩ : ∃ c, d = 2 * c := ⟨d / 2, by omega⟩
      cases m with
      | zero => simp at h1; omega
      | succ m =>
        have hw' : Cg p ((w ^ 2) ^ (2 ^ m)) (-1) := by rw [← Int.pow_mul, show 2 * 2 ^ m = 2 ^ (m + 1) by rw [Nat.pow_succ]; omega]; exact hw
        obtain ⟨i, hi, h⟩ := root_neg (m := m) (w := w ^ 2) (d := c) hw' (by omega) (by rw [Nat.pow_succ] at h1 ⊢; omega)
        exact ⟨i, by omega, by rw [Int.pow_mul]; exact h⟩
/-- The transform by its definition; and as it is found, by halves. -/
def dft (n : Nat) (a : Nat → Int) (r : Int) (k : Nat) : Int := sum n fun j => a j * r ^ (k * j)
def pwr (p r : Int) : Nat → Int
  | 0 => 1
  | k + 1 => pwr p r k * r % p
def fft (p : Int) : Nat → (Nat → Int) → Int → Nat → Int
  | 0, a, _, _ => a 0
  | m + 1, a, r, k => (fft p m (fun i => a (2 * i)) (r * r % p) (k % 2 ^ m) + pwr p r k * fft p m (fun i => a (2 * i + 1)) (r * r % p) (k % 2 ^ m)) % p
theorem pwr_cg (r : Int) : ∀ k, Cg p (pwr p r k) (r ^ k)
  | 0 => by rw [Int.pow_zero]; exact Cg.refl _
  | k + 1 => by rw [Int.pow_succ]; exact (Cg.emod _).trans ((pwr_cg r k).mul (Cg.refl _))
theorem dft_base {r s : Int} (h : Cg p r s) (n : Nat) (a : Nat → Int) (k : Nat) : Cg p (dft n a r k) (dft n a s k) :=
  sum_cg fun j _ => (Cg.refl _).mul (h.pow _)
theorem dft_list {a b : Nat → Int} {n : Nat} (h : ∀ j, j < n → Cg p (a j) (b j)) (r : Int) (k : Nat) : Cg p (dft n a r k) (dft n b r k) :=
  sum_cg fun j hj => (h j hj).mul (Cg.refl _)
theorem pow_mod {r : Int} {n : Nat} (h : Cg p (r ^ n) 1) (k : Nat) : Cg p (r ^ (k % n)) (r ^ k) := by
  have e : r ^ k = r ^ (k % n) * (r ^ n) ^ (k / n) := by rw [← Int.pow_mul, ← Int.pow_add, Nat.mod_add_div]
  rw [e]
  have := (Cg.refl (p := p) (r ^ (k % n))).mul (h.pow (k / n))
  rw [Int.one_pow, Int.mul_one] at this
  exact this.symm
theorem dft_mod {r : Int} {n : Nat} (h : Cg p (r ^ n) 1) (a : Nat → Int) (k : Nat) : Cg p (dft n a r (k % n)) (dft n a r k) :=
  sum_cg fun j _ => (Cg.refl _).mul (by
    rw [Int.pow_mul, Int.pow_mul]
    exact (pow_mod h k).pow j)
theorem fft_cg : ∀ (m : Nat) (a : Nat → Int) {r : Int} (k : Nat), Cg p (r ^ (2 ^ m)) 1 → Cg p (fft p m a r k) (dft (2 ^ m) a r k)
  | 0, a, r, k, _ => by simp [fft, dft, sum]; exact Cg.refl _
  | m + 1, a, r, k, h => by
    have h2 : Cg p (r * r % p) (r ^ 2) := by rw [Int.pow_succ, Int.pow_succ, Int.pow_zero, Int.one_mul]; exact Cg.emod _
    have h3 : Cg p ((r ^ 2) ^ (2 ^ m)) 1 := by rw [← Int.pow_mul, show 2 * 2 ^ m = 2 ^ (m + 1) by rw [Nat.pow_succ]; omega]; exact h
    have h4 : Cg p ((r * r % p) ^ (2 ^ m)) 1 := (h2.pow _).trans h3
    have half : ∀ b : Nat → Int, Cg p (fft p m b (r * r % p) (k % 2 ^ m)) (dft (2 ^ m) b (r ^ 2) k) := fun b =>
      ((fft_cg m b _ h4).trans (dft_base h2 _ _ _)).trans (dft_mod h3 b k)
    unfold fft
    refine (Cg.emod _).trans (((half _).add ((pwr_cg r k).mul (half _))).trans ?_)
    have e : dft (2 ^ (m + 1)) a r k = dft (2 ^ m) (fun i => a (2 * i)) (r ^ 2) k + r ^ k * dft (2 ^ m) (fun i => a (2 * i + 1)) (r ^ 2) k := by
      unfold dft
      rw [show 2 ^ (m + 1) = 2 * 2 ^ m by rw [Nat.pow_succ]; omega, sum_even_odd, ← sum_mul]
      congr 1
      · exact sum_eq fun j _ => by rw [← Int.pow_mul]; congr 2; grind
      · exact sum_eq fun j _ => by
          rw [← Int.pow_mul, show k * (2 * j + 1) = k + 2 * (k * j) by grind, Int.pow_add]
          grind
    rw [e]
    exact Cg.refl _
/-- What is asked of a root w of 2^m powers, and of its inverse v. -/
structure Root (p : Int) (m : Nat) (w v : Int) : Prop where
  one : Cg p (w ^ (2 ^ m)) 1
  inv : Cg p (w * v) 1
  half : ∀ k, m = k + 1 → Cg p (w ^ (2 ^ k)) (-1)
theorem Root.swap {m : Nat} {w v : Int} (h : Root p m w v) : Root p m v w := by
  have hwv : ∀ n, Cg p (w ^ n * v ^ n) 1 := fun n => by
    rw [← Int.mul_pow]
    have := h.inv.pow n
    rw [Int.one_pow] at this
    exact this
  refine ⟨?_, by rw [Int.mul_comm]; exact h.inv, fun k hk => ?_⟩
  · have := h.one.symm.mul (Cg.refl (p := p) (v ^ (2 ^ m)))
    rw [Int.one_mul] at this
    exact this.trans (hwv _)
  · have h1 := (h.half k hk).mul (Cg.refl (p := p) (v ^ (2 ^ k)))
    have h2 := (h1.symm.trans (hwv _)).neg
    have e : -(-1 * v ^ (2 ^ k)) = v ^ (2 ^ k) := by grind
    rw [e] at h2
    exact h2
theorem Root.geo_ne {m : Nat} {w v : Int} (h : Root p m w v) {d : Nat} (h0 : 0 < d) (h1 : d < 2 ^ m) : Cg p (sum (2 ^ m) (fun k => (w ^ d) ^ k)) 0 := by
  cases m with
  | zero => simp at h1; omega
  | succ m => exact geo_zero (root_neg (h.half m rfl) h0 h1)
theorem sum_pow_cg {u x : Int} (h : Cg p u x) (n : Nat) : Cg p (sum n (fun k => u ^ k)) (sum n (fun k => x ^ k)) := sum_cg fun k _ => h.pow k
/-- Different powers are orthogonal. -/
theorem Root.orth {m : Nat} {w v : Int} (h : Root p m w v) {j : Nat} (t : Nat) (hj : j < 2 ^ m) : Cg p (sum (2 ^ m) (fun k => (w ^ j * v ^ t) ^ k)) (if j = t % 2 ^ m then ((2 ^ m : Nat) : Int) else 0) := by
  have hwv : ∀ n, Cg p (w ^ n * v ^ n) 1 := fun n => by
    rw [← Int.mul_pow]
    have := h.inv.pow n
    rw [Int.one_pow] at this
    exact this
  have hs := h.swap
  have hu : Cg p (w ^ j * v ^ t) (w ^ j * v ^ (t % 2 ^ m)) := (Cg.refl _).mul (pow_mod hs.one t).symm
  refine (sum_pow_cg hu _).trans ?_
  have ht : t % 2 ^ m < 2 ^ m := Nat.mod_lt _ (Nat.pow_pos (by decide))
  generalize t % 2 ^ m = e at ht ⊢
  by_cases c : j = e
  · subst c
    rw [if_pos rfl]
    exact geo_one (hwv j) _
  · rw [if_neg c]
    rcases Nat.lt_or_gt_of_ne c with hlt | hlt
    · have hx : Cg p (w ^ j * v ^ e) (v ^ (e - j)) := by
        rw [show e = j + (e - j) by omega, Int.pow_add, ← Int.mul_assoc, show j + (e - j) - j = e - j by omega]
        have := (hwv j).mul (Cg.refl (p := p) (v ^ (e - j)))
        rwa [Int.one_mul] at this
      exact (sum_pow_cg hx _).trans (hs.geo_ne (by omega) (by omega))
    · have hx : Cg p (w ^ j * v ^ e) (w ^ (j - e)) := by
        rw [show w ^ j = w ^ e * w ^ (j - e) by rw [← Int.pow_add]; congr 1; omega, Int.mul_assoc, Int.mul_comm (w ^ (j - e)), ← Int.mul_assoc]
        have := (hwv e).mul (Cg.refl (p := p) (w ^ (j - e)))
        rwa [Int.one_mul] at this
      exact (sum_pow_cg hx _).trans (h.geo_ne (by omega) (by omega))
/-- The correlation by its definition. -/
def corr (n : Nat) (a b : Nat → Int) (s : Nat) : Int := sum n fun i => a ((s + i) % n) * b i
theorem term_eq (w v a b : Int) (s i j k : Nat) : v ^ (s * k) * (b * v ^ (k * i)) * (a * w ^ (k * j)) = b * (a * (w ^ j * v ^ (s + i)) ^ k) := by
  rw [Int.mul_pow, ← Int.pow_mul, ← Int.pow_mul, show (s + i) * k = s * k + k * i by grind, Int.pow_add, Nat.mul_comm j k]
  generalize v ^ (s * k) = x
  generalize v ^ (k * i) = y
  generalize w ^ (k * j) = z
  grind
theorem dft_prod (n : Nat) (w v : Int) (a b : Nat → Int) (s k : Nat) :
    dft n a w k * dft n b v k * v ^ (s * k) = sum n fun i => sum n fun j => b i * (a j * (w ^ j * v ^ (s + i)) ^ k) := by
  rw [show dft n a w k * dft n b v k * v ^ (s * k) = (v ^ (s * k) * dft n a w k) * dft n b v k by grind]
  unfold dft
  rw [← sum_mul]
  refine sum_eq fun i _ => ?_
  rw [show (v ^ (s * k) * sum n fun j => a j * w ^ (k * j)) * (b i * v ^ (k * i)) = (v ^ (s * k) * (b i * v ^ (k * i))) * sum n (fun j => a j * w ^ (k * j)) by grind, ← sum_mul]
  exact sum_eq fun j _ => term_eq _ _ _ _ _ _ _ _
theorem pick_sum {n t : Nat} (ht : t < n) (a : Nat → Int) (c : Int) : sum n (fun j => a j * (if j = t then c else 0)) = a t * c := by
  rw [← sum_single' ht (fun j => a j * c)]
  refine sum_eq fun j _ => ?_
  by_cases e : j = t
  · rw [if_pos e, if_pos e]
  · rw [if_neg e, if_neg e, Int.mul_zero]
theorem corr_dft {m : Nat} {w v q : Int} (h : Root p m w v) (hq : Cg p (q * ((2 ^ m : Nat) : Int)) 1) (a b : Nat → Int) (s : Nat) :
    Cg p (q * dft (2 ^ m) (fun k => dft (2 ^ m) a w k * dft (2 ^ m) b v k) v s) (corr (2 ^ m) a b s) := by
  have e : dft (2 ^ m) (fun k => dft (2 ^ m) a w k * dft (2 ^ m) b v k) v s = sum (2 ^ m) fun i => b i * sum (2 ^ m) fun j => a j * sum (2 ^ m) fun k => (w ^ j * v ^ (s + i)) ^ k := by
    show (sum (2 ^ m) fun k => dft (2 ^ m) a w k * dft (2 ^ m) b v k * v ^ (s * k)) = _
    rw [sum_eq (fun k _ => dft_prod (2 ^ m) w v a b s k), sum_swap]
    refine sum_eq fun i _ => ?_
    rw [sum_swap, ← sum_mul]
    refine sum_eq fun j _ => ?_
    rw [sum_mul, sum_mul]
  rw [e]
  have h1 : Cg p (sum (2 ^ m) fun i => b i * sum (2 ^ m) fun j => a j * sum (2 ^ m) fun k => (w ^ j * v ^ (s + i)) ^ k) (sum (2 ^ m) fun i => b i * (a ((s + i) % 2 ^ m) * ((2 ^ m : Nat) : Int))) := by
    refine sum_cg fun i _ => (Cg.refl _).mul ?_
    have hk : Cg p (sum (2 ^ m) fun j => a j * sum (2 ^ m) fun k => (w ^ j * v ^ (s + i)) ^ k) (sum (2 ^ m) fun j => a j * (if j = (s + i) % 2 ^ m then ((2 ^ m : Nat) : Int) else 0)) :=
      sum_cg fun j hj => (Cg.refl _).mul (h.orth (s + i) hj)
    rw [pick_sum (Nat.mod_lt _ (Nat.pow_pos (by decide)))] at hk
    exact hk
  refine ((Cg.refl q).mul h1).trans ?_
  rw [← sum_mul]
  unfold corr
  refine sum_cg fun i _ => ?_
  rw [show q * (b i * (a ((s + i) % 2 ^ m) * ((2 ^ m : Nat) : Int))) = a ((s + i) % 2 ^ m) * b i * (q * ((2 ^ m : Nat) : Int)) by grind]
  have := (Cg.refl (p := p) (a ((s + i) % 2 ^ m) * b i)).mul hq
  rwa [Int.mul_one] at this
/-- The transform by the inverse root undoes the other one, but for a factor. -/
theorem back_dft {m : Nat} {w v q : Int} (h : Root p m w v) (hq : Cg p (q * ((2 ^ m : Nat) : Int)) 1) (a : Nat → Int) {s : Nat} (hs : s < 2 ^ m) :
    Cg p (q * dft (2 ^ m) (fun k => dft (2 ^ m) a w k) v s) (a s) := by
  have e : dft (2 ^ m) (fun k => dft (2 ^ m) a w k) v s = sum (2 ^ m) fun j => a j * sum (2 ^ m) fun k => (w ^ j * v ^ s) ^ k := by
    show (sum (2 ^ m) fun k => dft (2 ^ m) a w k * v ^ (s * k)) = _
    have e1 : ∀ k, dft (2 ^ m) a w k * v ^ (s * k) = sum (2 ^ m) fun j => a j * (w ^ j * v ^ s) ^ k := fun k => by
      rw [Int.mul_comm]
      unfold dft
      rw [← sum_mul]
      refine sum_eq fun j _ => ?_
      rw [Int.mul_pow, ← Int.pow_mul, ← Int.pow_mul, Nat.mul_comm j k]
      grind
    rw [sum_eq (fun k _ => e1 k), sum_swap]
    exact sum_eq fun j _ => by rw [sum_mul]
  have hk : Cg p (sum (2 ^ m) fun j => a j * sum (2 ^ m) fun k => (w ^ j * v ^ s) ^ k) (sum (2 ^ m) fun j => a j * (if j = s then ((2 ^ m : Nat) : Int) else 0)) := by
    refine sum_cg fun j hj => (Cg.refl _).mul ?_
    have := h.orth s hj
    rwa [Nat.mod_eq_of_lt hs] at this
  rw [pick_sum hs] at hk
  rw [e]
  have := ((Cg.refl (p := p) q).mul hk)
  rw [show q * (a s * ((2 ^ m : Nat) : Int)) = a s * (q * ((2 ^ m : Nat) : Int)) by grind] at this
  have h2 := (Cg.refl (p := p) (a s)).mul hq
  rw [Int.mul_one] at h2
  exact this.trans h2
end Ntt
end Go.Proofs.YtkoiknmijjiicaaGreatDoor

/- Powers modulo the prime; the roots that the transforms take. Plain. -/
namespace Go.Proofs.YtkoiknmijjiicaaGreatDoor
set_option linter.unusedVariables false
set_option linter.unusedSimpArgs false
namespace Ntt
/-- The prime. -/
abbrev PP : Int := 998244353
/-- A power modulo the prime, as the program finds it: f rounds at most. -/
def powF : Nat → Int → Nat → Int → Int
  | 0, _, _, out => out
  | f + 1, a, n, out => if n = 0 then out else powF f (a * a % PP) (n / 2) (if n % 2 = 1 then out * a % PP else out)
theorem powF_cg : ∀ (f : Nat) (a : Int) (n : Nat) (out : Int), n < 2 ^ f → Cg PP (powF f a n out) (out * a ^ n)
  | 0, a, n, out, h => by
    obtain rfl : n = 0 := by simpa using h
    rw [Int.pow_zero, Int.mul_one]; exact Cg.refl _
  | f + 1, a, n, out, h => by
    unfold powF
    by_cases h0 : n = 0
    · subst h0; rw [if_pos rfl, Int.pow_zero, Int.mul_one]; exact Cg.refl _
    · rw [if_neg h0]
      have hn : n / 2 < 2 ^ f := by rw [Nat.pow_succ] at h; omega
      refine (powF_cg f _ _ _ hn).trans ?_
      have h2 : Cg PP ((a * a % PP) ^ (n / 2)) (a ^ (2 * (n / 2))) := by
        rw [Int.pow_mul]
        refine Cg.pow ?_ _
        rw [Int.pow_succ, Int.pow_succ, Int.pow_zero, Int.one_mul]; exact Cg.emod _
      by_cases h1 : n % 2 = 1
      · rw [if_pos h1]
        refine ((Cg.emod _).mul h2).trans ?_
        rw [Int.mul_assoc, show a * a ^ (2 * (n / 2)) = a ^ (2 * (n / 2) + 1) by rw [Int.pow_succ, Int.mul_comm], show 2 * (n / 2) + 1 = n by omega]
        exact Cg.refl _
      · rw [if_neg h1]
        refine ((Cg.refl _).mul h2).trans ?_
        rw [show 2 * (n / 2) = n by omega]
        exact Cg.refl _
theorem powF_bd : ∀ (f : Nat) (a : Int) (n : Nat) (out : Int), 0 ≤ out → out < PP → 0 ≤ powF f a n out ∧ powF f a n out < PP
  | 0, a, n, out, h1, h2 => ⟨h1, h2⟩
  | f + 1, a, n, out, h1, h2 => by
    unfold powF
    by_cases h0 : n = 0
    · rw [if_pos h0]; exact ⟨h1, h2⟩
    · rw [if_neg h0]
      by_cases h3 : n % 2 = 1
      · rw [if_pos h3]
        exact powF_bd f _ _ _ (Int.emod_nonneg _ (by decide)) (Int.emod_lt_of_pos _ (by decide))
      · rw [if_neg h3]
        exact powF_bd f _ _ _ h1 h2
def powM (a : Int) (n : Nat) : Int := powF 31 a n 1
/-- The root of so many powers; the inverse of a number. -/
def rootM (n : Nat) : Int := powM 3 (998244352 / n)
def invM (a : Int) : Int := powM a 998244351
theorem powM_cg (a : Int) {n : Nat} (h : n < 2 ^ 31) : Cg PP (powM a n) (a ^ n) := by
  have := powF_cg 31 a n 1 h
  rwa [Int.one_mul] at this
theorem powM_bd (a : Int) (n : Nat) : 0 ≤ powM a n ∧ powM a n < PP := powF_bd 31 a n 1 (by decide) (by decide)
/-- Squares, told again and again. -/
def sqs (w : Int) : Nat → Int
  | 0 => w % PP
  | k + 1 => sqs w k * sqs w k % PP
theorem sqs_cg (w : Int) : ∀ k, Cg PP (sqs w k) (w ^ (2 ^ k))
  | 0 => by rw [Nat.pow_zero, Int.pow_succ, Int.pow_zero, Int.one_mul]; exact Cg.emod _
  | k + 1 => by
    rw [Nat.pow_succ, Int.pow_mul, Int.pow_succ, Int.pow_succ, Int.pow_zero, Int.one_mul]
    exact (Cg.emod _).trans ((sqs_cg w k).mul (sqs_cg w k))
theorem root_of {m : Nat} {w v : Int} (h1 : sqs w m = 1) (h2 : w * v % PP = 1) (h3 : ∀ k, m = k + 1 → sqs w k = 998244352) : Root PP m w v := by
  refine ⟨?_, ?_, fun k hk => ?_⟩
  · have := sqs_cg w m; rw [h1] at this; exact this.symm
  · exact Cg.of_emod (by rw [h2]; rfl)
  · have := sqs_cg w k
    rw [h3 k hk] at this
    exact this.symm.trans ⟨1, by decide⟩
theorem roots : ∀ m, m ≤ 7 → Root PP m (rootM (2 ^ m)) (invM (rootM (2 ^ m)))
  | 0, _ => root_of (by decide +kernel) (by decide +kernel) (fun k hk => by omega)
  | 1, _ => root_of (by decide +kernel) (by decide +kernel) (fun k hk => by obtain rfl : k = 0 := (by omega); decide +kernel)
  | 2, _ => root_of (by decide +kernel) (by decide +kernel) (fun k hk => by obtain rfl : k = 1 := (by omega); decide +kernel)
  | 3, _ => root_of (by decide +kernel) (by decide +kernel) (fun k hk => by obtain rfl : k = 2 := (by omega); decide +kernel)
  | 4, _ => root_of (by decide +kernel) (by decide +kernel) (fun k hk => by obtain rfl : k = 3 := (by omega); decide +kernel)
  | 5, _ => root_of (by decide +kernel) (by decide +kernel) (fun k hk => by obtain rfl : k = 4 := (by omega); decide +kernel)
  | 6, _ => root_of (by decide +kernel) (by decide +kernel) (fun k hk => by obtain rfl : k = 5 := (by omega); decide +kernel)
  | 7, _ => root_of (by decide +kernel) (by decide +kernel) (fun k hk => by obtain rfl : k = 6 := (by omega); decide +kernel)
theorem parts : ∀ m, m ≤ 7 → Cg PP (invM ((2 ^ m : Nat) : Int) * ((2 ^ m : Nat) : Int)) 1
  | 0, _ => Cg.of_emod (by decide +kernel)
  | 1, _ => Cg.of_emod (by decide +kernel)
  | 2, _ => Cg.of_emod (by decide +kernel)
  | 3, _ => Cg.of_emod (by decide +kernel)
  | 4, _ => Cg.of_emod (by decide +kernel)
  | 5, _ => Cg.of_emod (by decide +kernel)
  | 6, _ => Cg.of_emod (by decide +kernel)
  | 7, _ => Cg.of_emod (by decide +kernel)
end Ntt
end Go.Proofs.YtkoiknmijjiicaaGreatDoor

/- Correlations in which nothing comes round; numbers of at most half the prime. Plain. -/
namespace Go.Proofs.YtkoiknmijjiicaaGreatDoor
set_option linter.unusedVariables false
set_option linter.unusedSimpArgs false
namespace Ntt
/-- A correlation in which nothing comes round. -/
theorem corr_flat {n C : Nat} (a b : Nat → Int) (s : Nat) (hC : s + C ≤ n) (hb : ∀ i, C ≤ i → b i = 0) : corr n a b s = sum C fun i => a (s + i) * b i := by
  unfold corr
  obtain ⟨k, rfl⟩ : ∃ k, n = C + k := ⟨n - C, by omega⟩
  rw [sum_split]
  have h0 : sum k (fun j => a ((s + (C + j)) % (C + k)) * b (C + j)) = 0 := by
    rw [sum_eq (g := fun _ => 0) (fun j _ => by rw [hb _ (by omega), Int.mul_zero]), sum_zero]
  rw [h0, Int.add_zero]
  exact sum_eq fun i hi => by rw [Nat.mod_eq_of_lt (by omega)]
theorem corr_cg {p : Int} {n : Nat} {a b c d : Nat → Int} (h : ∀ i, Cg p (a i) (c i)) (k : ∀ i, Cg p (b i) (d i)) (s : Nat) : Cg p (corr n a b s) (corr n c d s) :=
  sum_cg fun i _ => (h _).mul (k _)
/-- The number of at most half the prime in size. -/
def signedP (n : Int) : Int := if 499122176 < n % PP then n % PP - PP else n % PP
theorem signedP_of {n z : Int} (h : Cg PP n z) (h1 : -499122176 ≤ z) (h2 : z ≤ 499122176) : signedP n = z := by
  obtain ⟨c, rfl⟩ := h
  unfold signedP PP
  split <;> omega
theorem sum_bd {n : Nat} {f : Nat → Int} {B : Int} (h : ∀ k, k < n → -B ≤ f k ∧ f k ≤ B) : -((n : Int) * B) ≤ sum n f ∧ sum n f ≤ (n : Int) * B := by
  induction n with
  | zero => simp [sum]
  | succ n ih =>
    have h1 := ih fun k hk => h k (by omega)
    have h2 := h n (by omega)
    rw [sum, Int.natCast_succ, Int.add_mul, Int.one_mul]
    omega
theorem mul_bd2 {x y A B : Int} (hx : -A ≤ x ∧ x ≤ A) (hy : -B ≤ y ∧ y ≤ B) : -(A * B) ≤ x * y ∧ x * y ≤ A * B := by
  have h1 := Int.mul_nonneg (show 0 ≤ A - x by omega) (show 0 ≤ B + y by omega)
  have h2 := Int.mul_nonneg (show 0 ≤ A + x by omega) (show 0 ≤ B - y by omega)
  have h3 := Int.mul_nonneg (show 0 ≤ A - x by omega) (show 0 ≤ B - y by omega)
  have h4 := Int.mul_nonneg (show 0 ≤ A + x by omega) (show 0 ≤ B + y by omega)
  constructor <;> grind
end Ntt
end Go.Proofs.YtkoiknmijjiicaaGreatDoor
