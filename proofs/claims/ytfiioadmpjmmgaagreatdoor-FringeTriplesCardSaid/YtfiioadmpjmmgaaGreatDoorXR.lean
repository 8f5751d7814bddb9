import Derived.Test.YtfiioadmpjmmgaaGreatDoorU69
import Derived.Test.YtfiioadmpjmmgaaGreatDoorXA
import Derived.Test.YtfiioadmpjmmgaaGreatDoorX89
import Derived.Test.YtfiioadmpjmmgaaGreatDoorX27
import Derived.Test.YtfiioadmpjmmgaaGreatDoorXM
import Derived.Deep.CutRange
import Derived.Deep.RegionHeld3
/- Chapter 4, plain: the phases of three products close. No program in sight. -/
namespace Go.Proofs.YtfiioadmpjmmgaaGreatDoor
set_option linter.unusedVariables false
set_option linter.unusedSimpArgs false
/-- Products of pairs, as of complex numbers; the conjugate. -/
def gM (u v : Int × Int) : Int × Int := (u.1 * v.1 - u.2 * v.2, u.1 * v.2 + u.2 * v.1)
def gJ (u : Int × Int) : Int × Int := (u.1, -u.2)
theorem gM_comm (u v : Int × Int) : gM u v = gM v u := by unfold gM; apply Prod.ext <;> dsimp only <;> grind
theorem gM_assoc (u v w : Int × Int) : gM (gM u v) w = gM u (gM v w) := by unfold gM; apply Prod.ext <;> dsimp only <;> grind
theorem gJ_mul (u v : Int × Int) : gJ (gM u v) = gM (gJ u) (gJ v) := by unfold gM gJ; apply Prod.ext <;> dsimp only <;> grind
theorem gJ_gJ (u : Int × Int) : gJ (gJ u) = u := by unfold gJ; simp
theorem gM_one (u : Int × Int) : gM (1, 0) u = u := by unfold gM; apply Prod.ext <;> dsimp only <;> grind
def nrmP (u : Int × Int) : Int := u.1 * u.1 + u.2 * u.2
def gS (k : Int) (u : Int × Int) : Int × Int := (k * u.1, k * u.2)
theorem gM_J (u : Int × Int) : gM u (gJ u) = (nrmP u, 0) := by unfold gM gJ nrmP; apply Prod.ext <;> dsimp only <;> grind
theorem gM_real (k : Int) (u : Int × Int) : gM (k, 0) u = gS k u := by unfold gM gS; apply Prod.ext <;> dsimp only <;> grind
theorem gS_mul (k : Int) (u v : Int × Int) : gM (gS k u) v = gS k (gM u v) := by unfold gM gS; apply Prod.ext <;> dsimp only <;> grind
theorem gS_J (k : Int) (u : Int × Int) : gJ (gS k u) = gS k (gJ u) := by unfold gJ gS; apply Prod.ext <;> dsimp only <;> grind
/-- A pair lies near the positive axis. -/
def PR (w : Int × Int) (N : Int) : Prop := 0 < w.1 ∧ 100000 * w.2 ≤ N * w.1 ∧ -(N * w.1) ≤ 100000 * w.2
def prB (w : Int × Int) (N : Int) : Bool := decide (0 < w.1) && (decide (100000 * w.2 ≤ N * w.1) && decide (-(N * w.1) ≤ 100000 * w.2))
theorem prB_iff {w : Int × Int} {N : Int} : prB w N = true ↔ PR w N := by unfold prB PR; simp only [Bool.and_eq_true, decide_eq_true_eq]
theorem PR.mono {w : Int × Int} {M N : Int} (h : PR w M) (hm : M ≤ N) : PR w N := by
  obtain ⟨h1, h2, h3⟩ := h
  have := Int.mul_le_mul_of_nonneg_right hm (Int.le_of_lt h1)
  exact ⟨h1, by omega, by omega⟩
theorem PR.J {w : Int × Int} {N : Int} (h : PR w N) : PR (gJ w) N := by
  obtain ⟨h1, h2, h3⟩ := h
  unfold gJ
  exact ⟨h1, by dsimp only; omega, by dsimp only; omega⟩
theorem PR.scale {w : Int × Int} {N k : Int} (hk : 0 < k) (h : PR (gS k w) N) : PR w N := by
  obtain ⟨h1, h2, h3⟩ := h
  unfold gS at h1 h2 h3
  dsimp only at h1 h2 h3
  refine ⟨?_, ?_, ?_⟩
  · rcases Int.lt_or_le 0 w.1 with c | c
    · exact c
    · have := Int.mul_nonneg (Int.le_of_lt hk) (show 0 ≤ -w.1 by omega)
      have e : k * -w.1 = -(k * w.1) := by grind
      omega
  · refine Int.le_of_mul_le_mul_left (a := k) ?_ hk
    have e1 : k * (100000 * w.2) = 100000 * (k * w.2) := by grind
    have e2 : k * (N * w.1) = N * (k * w.1) := by grind
    omega
  · refine Int.le_of_mul_le_mul_left (a := k) ?_ hk
    have e1 : k * (100000 * w.2) = 100000 * (k * w.2) := by grind
    have e2 : k * -(N * w.1) = -(N * (k * w.1)) := by grind
    omega
theorem PR.small {a b M : Int} (h1 : 0 < a) (h2 : 100000 * b ≤ M * a) (h3 : -(M * a) ≤ 100000 * b) (hM : M ≤ 1000) : 0 ≤ a - 100 * b ∧ 0 ≤ a + 100 * b := by
  have := Int.mul_le_mul_of_nonneg_right hM (Int.le_of_lt h1)
  omega
theorem PR.mul {u v : Int × Int} {M N : Int} (hu : PR u M) (hv : PR v N) (hM : 0 ≤ M ∧ M ≤ 1000) (hN : 0 ≤ N ∧ N ≤ 1000) : PR (gM u v) (M + N + 1) := by
  obtain ⟨a, b⟩ := u
  obtain ⟨c, d⟩ := v
  obtain ⟨h1, h2, h3⟩ := hu
  obtain ⟨k1, k2, k3⟩ := hv
  dsimp only at h1 h2 h3 k1 k2 k3
  obtain ⟨p1, p2⟩ := PR.small h1 h2 h3 hM.2
  obtain ⟨q1, q2⟩ := PR.small k1 k2 k3 hN.2
  have e1 := Int.mul_nonneg p1 q1
  have e2 := Int.mul_nonneg p1 q2
  have e3 := Int.mul_nonneg p2 q1
  have e4 := Int.mul_nonneg p2 q2
  have f1 := Int.mul_le_mul_of_nonneg_left k2 (Int.le_of_lt h1)
  have f2 := Int.mul_le_mul_of_nonneg_left k3 (Int.le_of_lt h1)
  have f3 := Int.mul_le_mul_of_nonneg_right h2 (Int.le_of_lt k1)
  have f4 := Int.mul_le_mul_of_nonneg_right h3 (Int.le_of_lt k1)
  have hX := Int.mul_pos h1 k1
  have x1 : (a - 100 * b) * (c - 100 * d) = a * c - 100 * (a * d) - 100 * (b * c) + 10000 * (b * d) := by grind
  have x2 : (a - 100 * b) * (c + 100 * d) = a * c + 100 * (a * d) - 100 * (b * c) - 10000 * (b * d) := by grind
  have x3 : (a + 100 * b) * (c - 100 * d) = a * c - 100 * (a * d) + 100 * (b * c) - 10000 * (b * d) := by grind
  have x4 : (a + 100 * b) * (c + 100 * d) = a * c + 100 * (a * d) + 100 * (b * c) + 10000 * (b * d) := by grind
  have y1 : a * (100000 * d) = 100000 * (a * d) := by grind
  have y2 : a * (N * c) = N * (a * c) := by grind
  have y3 : a * -(N * c) = -(N * (a * c)) := by grind
  have y4 : 100000 * b * c = 100000 * (b * c) := by grind
  have y5 : M * a * c = M * (a * c) := by grind
  have y6 : -(M * a) * c = -(M * (a * c)) := by grind
  rw [x1] at e1
  rw [x2] at e2
  rw [x3] at e3
  rw [x4] at e4
  rw [y1, y2] at f1
  rw [y1, y3] at f2
  rw [y4, y5] at f3
  rw [y4, y6] at f4
  have z1 : (M + N + 1) * (b * d) ≤ a * c := by
    rcases Int.lt_or_le (b * d) 0 with g | g
    · have := Int.mul_nonneg (show 0 ≤ M + N + 1 by omega) (show 0 ≤ -(b * d) by omega)
      have e : (M + N + 1) * -(b * d) = -((M + N + 1) * (b * d)) := by grind
      omega
    · have := Int.mul_le_mul_of_nonneg_right (show M + N + 1 ≤ 2001 by omega) g
      omega
  have z2 : (M + N + 1) * (a * c - b * d) = M * (a * c) + N * (a * c) + a * c - (M + N + 1) * (b * d) := by grind
  unfold gM PR
  dsimp only
  rw [z2]
  refine ⟨by omega, by omega, by omega⟩
/-- A pair between two others that lie near. -/
theorem PR.cone {u v w z : Int × Int} {N : Int} (h1 : PR (gM u v) N) (h2 : PR (gM u w) N) (hc : v.2 * w.1 < v.1 * w.2) (ha : v.2 * z.1 ≤ v.1 * z.2) (hb : w.1 * z.2 ≤ w.2 * z.1) (hz : 1 ≤ z.1) : PR (gM u z) N := by
  obtain ⟨c, hcc⟩ : ∃ c, v.1 * w.2 - v.2 * w.1 = c := ⟨_, rfl⟩
  obtain ⟨s, hs⟩ : ∃ s, z.1 * w.2 - z.2 * w.1 = s := ⟨_, rfl⟩
  obtain ⟨t, ht⟩ : ∃ t, v.1 * z.2 - v.2 * z.1 = t := ⟨_, rfl⟩
  have hc0 : 0 < c := by omega
  have m1 : w.1 * z.2 = z.2 * w.1 := Int.mul_comm _ _
  have m2 : w.2 * z.1 = z.1 * w.2 := Int.mul_comm _ _
  have hs0 : 0 ≤ s := by omega
  have ht0 : 0 ≤ t := by omega
  have g1 : c * z.1 = s * v.1 + t * w.1 := by subst hcc hs ht; grind
  have g2 : c * z.2 = s * v.2 + t * w.2 := by subst hcc hs ht; grind
  refine PR.scale hc0 ?_
  obtain ⟨a1, a2, a3⟩ := h1
  obtain ⟨b1, b2, b3⟩ := h2
  have e1 : c * (gM u z).1 = s * (gM u v).1 + t * (gM u w).1 := by
    have q1 : c * (gM u z).1 = u.1 * (c * z.1) - u.2 * (c * z.2) := by unfold gM; dsimp only; grind
    rw [q1, g1, g2]
    unfold gM
    dsimp only
    grind
  have e2 : c * (gM u z).2 = s * (gM u v).2 + t * (gM u w).2 := by
    have q1 : c * (gM u z).2 = u.1 * (c * z.2) + u.2 * (c * z.1) := by unfold gM; dsimp only; grind
    rw [q1, g1, g2]
    unfold gM
    dsimp only
    grind
  generalize (gM u v).1 = A1 at *
  generalize (gM u v).2 = A2 at *
  generalize (gM u w).1 = B1 at *
  generalize (gM u w).2 = B2 at *
  unfold gS PR
  dsimp only
  rw [e1, e2]
  have r1 := Int.mul_le_mul_of_nonneg_left a2 hs0
  have r2 := Int.mul_le_mul_of_nonneg_left a3 hs0
  have r3 := Int.mul_le_mul_of_nonneg_left b2 ht0
  have r4 := Int.mul_le_mul_of_nonneg_left b3 ht0
  have x1 : s * (100000 * A2) = 100000 * (s * A2) := by grind
  have x2 : s * (N * A1) = N * (s * A1) := by grind
  have x3 : s * -(N * A1) = -(N * (s * A1)) := by grind
  have x4 : t * (100000 * B2) = 100000 * (t * B2) := by grind
  have x5 : t * (N * B1) = N * (t * B1) := by grind
  have x6 : t * -(N * B1) = -(N * (t * B1)) := by grind
  rw [x1, x2] at r1
  rw [x1, x3] at r2
  rw [x4, x5] at r3
  rw [x4, x6] at r4
  have y : N * (s * A1 + t * B1) = N * (s * A1) + N * (t * B1) := Int.mul_add _ _ _
  refine ⟨?_, by omega, by omega⟩
  have n1 := Int.mul_nonneg hs0 (Int.le_of_lt a1)
  have n2 := Int.mul_nonneg ht0 (Int.le_of_lt b1)
  rcases (show 0 < s ∨ s = 0 by omega) with d | d
  · have := Int.mul_pos d a1
    omega
  · rcases (show 0 < t ∨ t = 0 by omega) with d' | d'
    · have := Int.mul_pos d' b1
      omega
    · exfalso
      subst d d'
      have := Int.mul_pos hc0 (show 0 < z.1 by omega)
      rw [g1, Int.zero_mul, Int.zero_mul] at this
      omega
/-- The powers of a pair that turns by just about a part. -/
def gG : Int × Int := (5867, 9)
def gN : Nat → Int × Int
  | 0 => (1, 0)
  | k + 1 => gM gG (gN k)
theorem gN_add (a : Nat) : ∀ b, gN (a + b) = gM (gN a) (gN b)
  | 0 => by rw [gM_comm]; exact (gM_one _).symm
  | b + 1 => by
    rw [Nat.add_succ]
    simp only [gN]
    rw [gN_add a b, ← gM_assoc, gM_comm gG (gN a), gM_assoc]
def gF : Nat → Nat → Int × Int
  | 0, _ => (1, 0)
  | f + 1, n => if n = 0 then (1, 0) else if n % 2 = 0 then gM (gF f (n / 2)) (gF f (n / 2)) else gM gG (gM (gF f (n / 2)) (gF f (n / 2)))
theorem gF_eq : ∀ (f n : Nat), n < 2 ^ f → gF f n = gN n
  | 0, n, h => by
    have : n = 0 := by simpa using h
    subst this
    rfl
  | f + 1, n, h => by
    rw [Nat.pow_succ] at h
    have ih := gF_eq f (n / 2) (by omega)
    simp only [gF]
    rw [ih, ← gN_add]
    by_cases c : n = 0
    · subst c; rw [if_pos rfl]; rfl
    · rw [if_neg c]
      by_cases d : n % 2 = 0
      · rw [if_pos d]; congr 1; omega
      · rw [if_neg d]
        have e : n = (n / 2 + n / 2) + 1 := by omega
        have : gN n = gN ((n / 2 + n / 2) + 1) := by rw [← e]
        rw [this]
        rfl
theorem nrm_pos : ∀ n, 0 < nrmP (gN n)
  | 0 => by decide
  | n + 1 => by
    have ih := nrm_pos n
    have e : nrmP (gN (n + 1)) = 34421770 * nrmP (gN n) := by
      simp only [gN]
      unfold nrmP gM gG
      dsimp only
      grind
    omega
def lowOk (k : Nat) : Bool := prB (gM (gJ (gF 10 k)) (rdirP ((2 * k - 1 : Nat) : Int))) 80 && (prB (gM (gJ (gF 10 k)) (rdirP ((min 1024 (2 * k + 1) : Nat) : Int))) 80 && decide ((rdirP ((2 * k - 1 : Nat) : Int)).2 * (rdirP ((min 1024 (2 * k + 1) : Nat) : Int)).1 < (rdirP ((2 * k - 1 : Nat) : Int)).1 * (rdirP ((min 1024 (2 * k + 1) : Nat) : Int)).2))
theorem lows_ok : (List.range 513).all lowOk = true := by decide +kernel
def finOk (n : Nat) : Bool := !prB (gF 12 n) 320 || decide (n ≤ 2)
theorem fins_ok : (List.range 2049).all finOk = true := by decide +kernel
theorem turn1 : PR (gM (gJ (gN 1024)) (0, 1)) 3 := by rw [← gF_eq 11 1024 (by decide), ← prB_iff]; decide +kernel
theorem turn2 : PR (gM (gJ (gN 2048)) (-1, 0)) 5 := by rw [← gF_eq 12 2048 (by decide), ← prB_iff]; decide +kernel
theorem turn4 : PR (gN 4096) 9 := by rw [← gF_eq 13 4096 (by decide), ← prB_iff]; decide +kernel
theorem low_near {x y : Int} (h0 : 0 ≤ y) (h1 : y ≤ x) (h2 : 1 ≤ x) : PR (gM (gJ (gN (lowP x y).toNat)) (x, y)) 80 := by
  obtain ⟨b1, b2⟩ := between h0 h1 h2
  obtain ⟨l1, l2⟩ := lowP_bd x y
  obtain ⟨k, hk⟩ : ∃ k : Nat, lowP x y = k := ⟨(lowP x y).toNat, by omega⟩
  rw [hk] at b1 b2 l2 ⊢
  rw [Int.toNat_natCast]
  have h := List.all_eq_true.1 lows_ok k (List.mem_range.2 (by omega))
  unfold lowOk at h
  simp only [Bool.and_eq_true, prB_iff, decide_eq_true_eq] at h
  rw [gF_eq 10 k (by omega)] at h
  obtain ⟨g1, g2, g3⟩ := h
  refine PR.cone g1 g2 g3 ?_ ?_ h2
  · dsimp only
    by_cases c : k = 0
    · subst c
      have e : rdirP ((2 * 0 - 1 : Nat) : Int) = (16777216, 0) := rfl
      rw [e]
      dsimp only
      omega
    · have := b1 (by omega)
      rw [show 2 * (k : Int) - 1 = ((2 * k - 1 : Nat) : Int) by omega, dir_same _ (by omega) (by omega)] at this
      exact this
  · dsimp only
    by_cases c : k = 512
    · subst c
      have e : rdirP ((min 1024 (2 * 512 + 1) : Nat) : Int) = (11863283, 11863283) := by decide +kernel
      rw [e]
      dsimp only
      omega
    · have := b2 (by omega)
      rw [show 2 * (k : Int) + 1 = ((min 1024 (2 * k + 1) : Nat) : Int) by omega, dir_same _ (by omega) (by omega)] at this
      omega
theorem turn_eq (a b c z : Int × Int) : gM (gM (gJ (gM a b)) c) (gJ (gM (gJ a) z)) = gS (nrmP a) (gM (gJ b) (gM c (gJ z))) := by
  rw [gJ_mul (gJ a) z, gJ_gJ, gJ_mul a b]
  have e1 : gM (gM (gM (gJ a) (gJ b)) c) (gM a (gJ z)) = gM (gM a (gJ a)) (gM (gJ b) (gM c (gJ z))) := by
    rw [gM_assoc (gJ a) (gJ b) c, gM_assoc (gJ a) _ _, gM_assoc a (gJ a) _]
    rw [← gM_assoc (gM (gJ b) c) a (gJ z), gM_comm (gM (gJ b) c) a, gM_assoc a _ (gJ z), ← gM_assoc (gJ a) a _, gM_comm (gJ a) a, gM_assoc a (gJ a) _, gM_assoc (gJ b) c (gJ z)]
  rw [e1, gM_J, gM_real]
theorem turn_near {c z z' : Int × Int} {m n : Nat} {M N : Int} (hc : PR (gM (gJ (gN (m + n))) c) M) (hq : PR (gM (gJ (gN m)) z') N) (hz : z = gM c (gJ z')) (hM : 0 ≤ M ∧ M ≤ 1000) (hN : 0 ≤ N ∧ N ≤ 1000) : PR (gM (gJ (gN n)) z) (M + N + 1) := by
  have h := hc.mul hq.J hM hN
  rw [gN_add, turn_eq, ← hz] at h
  exact h.scale (nrm_pos m)
theorem quad_near {x y : Int} (h0 : 0 ≤ x) (h1 : 0 ≤ y) (h2 : ¬ (x = 0 ∧ y = 0)) : PR (gM (gJ (gN (quadP x y).toNat)) (x, y)) 84 := by
  unfold quadP
  by_cases c : x < y
  · rw [if_pos c]
    have hl := (lowP_bd y x)
    have h := low_near h0 (show x ≤ y by omega) (by omega)
    exact turn_near (m := (lowP y x).toNat) (n := (1024 - lowP y x).toNat) (c := (0, 1)) (z' := (y, x)) (M := 3) (N := 80) (by rw [show (lowP y x).toNat + (1024 - lowP y x).toNat = 1024 by omega]; exact turn1) h (by unfold gM gJ; apply Prod.ext <;> dsimp only <;> omega) (by decide) (by decide)
  · rw [if_neg c]
    exact (low_near h1 (by omega) (by omega)).mono (by decide)
theorem up_near {x y : Int} (h1 : 0 ≤ y) (h2 : ¬ (x = 0 ∧ y = 0)) : PR (gM (gJ (gN (upP x y).toNat)) (x, y)) 90 := by
  unfold upP
  by_cases c : x < 0
  · rw [if_pos c]
    have hl := (quadP_bd (-x) y)
    have h := quad_near (show 0 ≤ -x by omega) h1 (by omega)
    exact turn_near (m := (quadP (-x) y).toNat) (n := (2048 - quadP (-x) y).toNat) (c := (-1, 0)) (z' := (-x, y)) (M := 5) (N := 84) (by rw [show (quadP (-x) y).toNat + (2048 - quadP (-x) y).toNat = 2048 by omega]; exact turn2) h (by unfold gM gJ; apply Prod.ext <;> dsimp only <;> omega) (by decide) (by decide)
  · rw [if_neg c]
    exact (quad_near (by omega) h1 h2).mono (by decide)
/-- The same for numbers of parts that may be below 0. -/
def gp (k : Int) : Int × Int := if 0 ≤ k then gN k.toNat else gJ (gN (-k).toNat)
theorem gp_nat (n : Nat) : gp n = gN n := by unfold gp; rw [if_pos (by omega), Int.toNat_natCast]
theorem gp_neg (k : Int) : gp (-k) = gJ (gp k) := by
  unfold gp
  rcases (show k = 0 ∨ 0 < k ∨ k < 0 by omega) with rfl | c | c
  · rfl
  · rw [if_neg (by omega), if_pos (by omega), Int.neg_neg]
  · rw [if_pos (by omega), if_neg (by omega), gJ_gJ]
theorem gp_sub (a b : Nat) : ∃ s, 0 < s ∧ gM (gN a) (gJ (gN b)) = gS s (gp ((a : Int) - b)) := by
  rcases (show b ≤ a ∨ a < b by omega) with c | c
  · obtain ⟨d, rfl⟩ : ∃ d, a = b + d := ⟨a - b, by omega⟩
    refine ⟨nrmP (gN b), nrm_pos b, ?_⟩
    rw [show ((b + d : Nat) : Int) - b = (d : Int) by omega, gp_nat, gN_add, gM_comm (gN b) (gN d), gM_assoc, gM_J, gM_comm (gN d), gM_real]
  · obtain ⟨d, rfl⟩ : ∃ d, b = a + d := ⟨b - a, by omega⟩
    refine ⟨nrmP (gN a), nrm_pos a, ?_⟩
    rw [show (a : Int) - ((a + d : Nat) : Int) = -(d : Int) by omega, gp_neg, gp_nat, gN_add, gJ_mul, ← gM_assoc, gM_J, gM_real]
theorem gS_one (u : Int × Int) : gS 1 u = u := by unfold gS; simp
theorem nat_or (a : Int) : (∃ n : Nat, a = n) ∨ ∃ n : Nat, a = -(n : Int) := by
  rcases Int.lt_or_le a 0 with c | c
  · exact .inr ⟨(-a).toNat, by omega⟩
  · exact .inl ⟨a.toNat, by omega⟩
theorem gp_add (a b : Int) : ∃ s, 0 < s ∧ gM (gp a) (gp b) = gS s (gp (a + b)) := by
  rcases nat_or a with ⟨n, rfl⟩ | ⟨n, rfl⟩
  · rcases nat_or b with ⟨m, rfl⟩ | ⟨m, rfl⟩
    · exact ⟨1, by decide, by rw [gp_nat, gp_nat, gS_one, show (n : Int) + m = ((n + m : Nat) : Int) by omega, gp_nat, gN_add]⟩
    · rw [gp_neg, gp_nat, gp_nat]
      exact gp_sub n m
  · rcases nat_or b with ⟨m, rfl⟩ | ⟨m, rfl⟩
    · rw [gp_neg, gp_nat, gp_nat, gM_comm, show -(n : Int) + m = (m : Int) - n by omega]
      exact gp_sub m n
    · exact ⟨1, by decide, by rw [gp_neg, gp_neg, gp_nat, gp_nat, gS_one, show -(n : Int) + -(m : Int) = -((n + m : Nat) : Int) by omega, gp_neg, gp_nat, gN_add, gJ_mul]⟩
theorem ph_near {x y : Int} (h : ¬ (x = 0 ∧ y = 0)) : PR (gM (gJ (gp (phP x y))) (x, y)) 90 := by
  unfold phP
  by_cases c : y < 0
  · rw [if_pos c, gp_neg]
    have hb := upP_bd x (-y)
    have hu := (up_near (x := x) (y := -y) (by omega) (by omega)).J
    rw [show upP x (-y) = ((upP x (-y)).toNat : Int) by omega, gp_nat]
    rw [gJ_mul] at hu
    have e : gJ (x, -y) = (x, y) := by unfold gJ; apply Prod.ext <;> dsimp only; omega
    rwa [e] at hu
  · rw [if_neg c]
    have hb := upP_bd x y
    have hu := (up_near (x := x) (y := y) (by omega) (by omega))
    rw [show upP x y = ((upP x y).toNat : Int) by omega, gp_nat]
    exact hu
theorem phase_near {x y : Int} (h : ¬ (x = 0 ∧ y = 0)) : PR (gM (gJ (gp (phaseP x y))) (x, y)) 100 := by
  have hp := ph_near h
  have hb := phP_bd x y
  unfold phaseP
  by_cases c : phP x y < 2048
  · rw [if_pos c]
    exact hp.mono (by decide)
  · rw [if_neg c]
    have e : phP x y = ((2048 : Nat) : Int) := by omega
    rw [e, gp_nat] at hp
    rw [show (-2048 : Int) = -((2048 : Nat) : Int) by rfl, gp_neg, gp_nat, gJ_gJ]
    have q := turn4.mul hp (by decide) (by decide)
    have g : gM (gN 4096) (gM (gJ (gN 2048)) (x, y)) = gS (nrmP (gN 2048)) (gM (gN 2048) (x, y)) := by
      rw [show (4096 : Nat) = 2048 + 2048 from rfl, gN_add, gM_assoc, ← gM_assoc (gN 2048) (gJ (gN 2048)), gM_J, gM_real, gM_comm (gN 2048) (gS _ _), gS_mul, gM_comm (x, y)]
    rw [g] at q
    exact q.scale (nrm_pos 2048)
theorem turn_whole {n t : Int} {N : Int} (h : PR (gp n) N) (ht : t = 0 ∨ t = 4096 ∨ t = -4096) (hN : 0 ≤ N ∧ N ≤ 1000) : PR (gp (n + t)) (N + 10) := by
  rcases ht with rfl | rfl | rfl
  · rw [Int.add_zero]; exact h.mono (by omega)
  · obtain ⟨s, h0, hs⟩ := gp_add n 4096
    have := h.mul (show PR (gp 4096) 9 from by rw [show (4096 : Int) = ((4096 : Nat) : Int) from rfl, gp_nat]; exact turn4) hN (by decide)
    rw [hs] at this
    exact (this.scale h0).mono (by omega)
  · obtain ⟨s, h0, hs⟩ := gp_add n (-4096)
    have := h.mul (show PR (gp (-4096)) 9 from by rw [show (-4096 : Int) = -((4096 : Nat) : Int) from rfl, gp_neg, gp_nat]; exact turn4.J) hN (by decide)
    rw [hs] at this
    exact (this.scale h0).mono (by omega)
theorem fin_near {n : Int} (h : PR (gp n) 320) (h0 : -2048 ≤ n) (h1 : n ≤ 2048) : -2 ≤ n ∧ n ≤ 2 := by
  have key : ∀ k : Nat, k ≤ 2048 → PR (gN k) 320 → k ≤ 2 := fun k hk hp => by
    have q := List.all_eq_true.1 fins_ok k (List.mem_range.2 (by omega))
    unfold finOk at q
    rw [gF_eq 12 k (by omega), prB_iff.2 hp] at q
    simpa using q
  rcases Int.lt_or_le n 0 with c | c
  · have := h.J
    rw [← gp_neg, show -n = ((-n).toNat : Int) by omega, gp_nat] at this
    have := key (-n).toNat (by omega) this
    omega
  · rw [show n = (n.toNat : Int) by omega, gp_nat] at h
    have := key n.toNat (by omega) h
    omega
theorem three_eq (g1 g2 g3 z1 z2 z3 : Int × Int) : gM (gM (gM (gJ g1) z1) (gM (gJ g2) z2)) (gJ (gM (gJ g3) z3)) = gM (gM (gM z1 z2) (gJ z3)) (gM (gM (gJ g1) (gJ g2)) g3) := by
  rw [gJ_mul (gJ g3) z3, gJ_gJ]
  generalize gJ g1 = a
  generalize gJ g2 = b
  generalize gJ z3 = c
  have e1 : gM (gM a z1) (gM b z2) = gM (gM a b) (gM z1 z2) := by
    rw [gM_assoc a z1, ← gM_assoc z1 b, gM_comm z1 b, gM_assoc b z1, ← gM_assoc a b]
  rw [e1, gM_comm (gM (gM z1 z2) c), gM_comm g3 c]
  generalize gM a b = u
  generalize gM z1 z2 = v
  rw [gM_assoc u v, ← gM_assoc v c, gM_comm (gM v c) g3, ← gM_assoc u g3]
/-- THREE PHASES CLOSE. -/
theorem three_close {x1 y1 x2 y2 x3 y3 t : Int} (h1 : ¬ (x1 = 0 ∧ y1 = 0)) (h2 : ¬ (x2 = 0 ∧ y2 = 0)) (h3 : ¬ (x3 = 0 ∧ y3 = 0)) (ht : 0 < t) (h : gM (gM (x1, y1) (x2, y2)) (gJ (x3, y3)) = (t, 0)) :
    -2 ≤ wrP (phaseP x1 y1 + phaseP x2 y2 - phaseP x3 y3) ∧ wrP (phaseP x1 y1 + phaseP x2 y2 - phaseP x3 y3) ≤ 2 := by
  have p1 := phase_near h1
  have p2 := phase_near h2
  have p3 := (phase_near h3).J
  obtain ⟨b1, c1⟩ := phaseP_bd x1 y1
  obtain ⟨b2, c2⟩ := phaseP_bd x2 y2
  obtain ⟨b3, c3⟩ := phaseP_bd x3 y3
  generalize phaseP x1 y1 = A at *
  generalize phaseP x2 y2 = B at *
  generalize phaseP x3 y3 = C at *
  have q := (p1.mul p2 (by decide) (by decide)).mul p3 (by decide) (by decide)
  rw [three_eq, h, gM_real] at q
  have q := (q.scale ht).J
  rw [gJ_mul, gJ_mul, gJ_gJ, gJ_gJ] at q
  obtain ⟨s, s0, hs⟩ := gp_add A B
  obtain ⟨r, r0, hr⟩ := gp_add (A + B) (-C)
  rw [hs, ← gp_neg, gS_mul, hr] at q
  have q := (q.scale s0).scale r0
  have e : A + B - C = A + B + -C := by omega
  rw [e]
  generalize A + B + -C = n at *
  obtain ⟨w1, w2⟩ := wrP_bd n
  have q := turn_whole (t := wrP n - n) q (by unfold wrP at *; omega) (by decide)
  rw [show n + (wrP n - n) = wrP n by omega] at q
  exact fin_near (q.mono (by decide)) w1 (by omega)
end Go.Proofs.YtfiioadmpjmmgaaGreatDoor

/- Chapter 4: the phases of the interferogram of two scenes. -/
namespace Go.Proofs.YtfiioadmpjmmgaaGreatDoor
set_option linter.unusedVariables false
set_option linter.unusedSimpArgs false
open Go.RowKit Ieee Ntt
/-- The phases of two scenes. -/
def triP (x y : Scn) : List Int := (List.range (x.m / 2)).map (phsP (xD (ifB (smp x.p) (smp y.p))) (yD (ifB (smp x.p) (smp y.p))))
theorem triP_length (x y : Scn) : (triP x y).length = x.m / 2 := by unfold triP; simp
/-- What two right scenes are. -/
theorem scn_ok {x y : Scn} (h : scnE x y = 0) : ((1 ≤ x.L ∧ x.L ≤ 64) ∧ (1 ≤ x.S ∧ x.S ≤ 64) ∧ ((x.m / 2 : Nat) : Int) = x.L * x.S) ∧ y.L = x.L ∧ y.S = x.S ∧ y.m / 2 = x.m / 2 ∧ SmallS (x.m / 2) (smp x.p) (xB (smp x.p)) (yB (smp x.p)) 2047 ∧ SmallS (x.m / 2) (smp y.p) (xB (smp y.p)) (yB (smp y.p)) 2047 := by
  obtain ⟨e1, e2, hL, hS⟩ := pairE_zero h
  obtain ⟨s1, g1⟩ := imgE_zero e1
  obtain ⟨s2, g2⟩ := imgE_zero e2
  obtain ⟨h1, h2, hn⟩ := sizeE_okU s1
  obtain ⟨-, -, hn'⟩ := sizeE_okU s2
  have hnn : y.m / 2 = x.m / 2 := by
    have e : x.L * x.S = y.L * y.S := by rw [hL, hS]
    omega
  refine ⟨⟨h1, h2, hn⟩, hL.symm, hS.symm, hnn, smallS_of (by decide) g1, ?_⟩
  rw [← hnn]
  exact smallS_of (by decide) g2
theorem xD_ifB {x y : Scn} (h : scnE x y = 0) {k : Nat} (hk : k < x.m / 2) : xD (ifB (smp x.p) (smp y.p)) k = (intfF (xB (smp x.p)) (yB (smp x.p)) (xB (smp y.p)) (yB (smp y.p)) k).1 ∧ yD (ifB (smp x.p) (smp y.p)) k = (intfF (xB (smp x.p)) (yB (smp x.p)) (xB (smp y.p)) (yB (smp y.p)) k).2 := by
  obtain ⟨-, -, -, -, hX, hU⟩ := scn_ok h
  obtain ⟨b1, b2⟩ := intfF_bd (hX k hk).2 (hU k hk).2
  unfold xD yD ifB nmF
  exact ⟨intD_f64I (by omega), intD_f64I (by omega)⟩
theorem tri_fld {x y : Scn} (h : scnE x y = 0) : (fldE x.L x.S (x.m / 2) (ifB (smp x.p) (smp y.p))).2 = 0 := by
  obtain ⟨⟨h1, h2, hn⟩, -, -, -, hX, hU⟩ := scn_ok h
  have hs : sizeE x.L x.S ((x.m / 2 : Nat) : Int) = 0 := by
    unfold sizeE
    rw [inE_iff.2 h1, inE_iff.2 h2]
    simp [hn]
  unfold fldE
  rw [if_pos hs, firstE_ok]
  intro k hk
  obtain ⟨b1, b2⟩ := intfF_bd (hX k hk).2 (hU k hk).2
  unfold gD ifB nmF
  dsimp only
  rw [partD_f64 _ _ _ (by omega) (by omega), inE_iff.2 (by omega), inE_iff.2 (by omega)]
  rfl
theorem triP_at {x y : Scn} {k : Nat} (hk : k < x.m / 2) : intAt (triP x y) k = phsP (xD (ifB (smp x.p) (smp y.p))) (yD (ifB (smp x.p) (smp y.p))) k := by
  unfold triP
  simp [intAt, List.getD_eq_getElem?_getD, hk]
theorem phs_bd (X Y : Nat → Int) (k : Nat) : phsP X Y k = 1000000000000 ∨ (-2048 ≤ phsP X Y k ∧ phsP X Y k ≤ 2047) := by
  unfold phsP
  split
  · exact .inl rfl
  · exact .inr (phaseP_bd _ _)
theorem any_worldT {G : World → Prop} {w : World} (F : World → Prop) (hf : F w) (h : ∀ W, F W → G W) : G w := h w hf
set_option maxRecDepth 20000 in
set_option maxHeartbeats 8000000 in
theorem lPhases (x y : Scn) (w : World) (hx : x.At w) (hy : y.At w) (hmx : x.m ≤ 10000) (hmy : y.m ≤ 10000) (hE : scnE x y = 0) :
    Calls Tryz.prog 55 #[.agg #[.int .i64 x.L, .int .i64 x.S, .slice x.pa x.m x.pc, .slice x.ca x.mc x.cc], .agg #[.int .i64 y.L, .int .i64 y.S, .slice y.pa y.m y.pc, .slice y.ca y.mc y.cc]] w fun e w' => ∃ q c, e = .returned (.tuple #[.agg #[.int .i64 x.L, .int .i64 x.S, .slice q (x.m / 2) c], .bool true]) ∧ OwnIV w.heap.size w' (.slice q (x.m / 2) c) (triP x y) ∧ Below w.heap.size w w' := by
  have HIX0 := Lib.hid (show ∀ W, Below w.heap.size w W → _ from fun W hW => lImage x W (by omega) (hx.below hW))
  have HIY0 := Lib.hid (show ∀ W, Below w.heap.size w W → _ from fun W hW => lImage y W (by omega) (hy.below hW))
  have HE := Lib.hid (show pairE x.L x.S (x.m / 2) (smp x.p) y.L y.S (y.m / 2) (smp y.p) = 0 from hE)
  have HFE := Lib.hid (tri_fld hE)
  have HWD := Lib.hid (show Wide64 (x.m / 2) (ifB (smp x.p) (smp y.p)) from fun k _ => ⟨f64I_lt _, f64I_lt _⟩)
  clear hx hy hE
  go_enter Tryz.func55, Tryz.ntmps55
  go_wp2_with fail
  refine any_worldT (fun w' => (w'.cell? ⟨w.heap.size, 0, none⟩ = some (.int .i64 x.L) ∧ w'.cell? ⟨w.heap.size, 1, none⟩ = some (.int .i64 x.S) ∧ w'.cell? ⟨w.heap.size, 2, none⟩ = some (.slice x.pa x.m x.pc) ∧ w'.cell? ⟨w.heap.size, 3, none⟩ = some (.slice x.ca x.mc x.cc)) ∧ (w'.cell? ⟨w.heap.size + 1, 0, none⟩ = some (.int .i64 y.L) ∧ w'.cell? ⟨w.heap.size + 1, 1, none⟩ = some (.int .i64 y.S) ∧ w'.cell? ⟨w.heap.size + 1, 2, none⟩ = some (.slice y.pa y.m y.pc) ∧ w'.cell? ⟨w.heap.size + 1, 3, none⟩ = some (.slice y.ca y.mc y.cc)) ∧ ((w'.cell? ⟨w.heap.size + 2, 0, none⟩ = some (.int .i64 0) ∧ w'.cell? ⟨w.heap.size + 2, 1, none⟩ = some (.int .i64 0) ∧ w'.cell? ⟨w.heap.size + 2, 2, none⟩ = some (.slice none 0 0)) ∧ w'.frozen? ⟨w.heap.size + 2, 0, none⟩ = false ∧ w'.frozen? ⟨w.heap.size + 2, 1, none⟩ = false ∧ w'.frozen? ⟨w.heap.size + 2, 2, none⟩ = false) ∧ Below w.heap.size w w' ∧ w.heap.size + 2 < w'.heap.size) ⟨⟨(by (first | (simp [go_sem]; done) | simp [go_sem, ↓IntWalk.iteOmega])), (by (first | (simp [go_sem]; done) | simp [go_sem, ↓IntWalk.iteOmega])), (by (first | (simp [go_sem]; done) | simp [go_sem, ↓IntWalk.iteOmega])), (by (first | (simp [go_sem]; done) | simp [go_sem, ↓IntWalk.iteOmega]))⟩, ⟨(by (first | (simp [go_sem]; done) | simp [go_sem, ↓IntWalk.iteOmega])), (by (first | (simp [go_sem]; done) | simp [go_sem, ↓IntWalk.iteOmega])), (by (first | (simp [go_sem]; done) | simp [go_sem, ↓IntWalk.iteOmega])), (by (first | (simp [go_sem]; done) | simp [go_sem, ↓IntWalk.iteOmega]))⟩, ⟨⟨(by (first | (simp [go_sem]; done) | simp [go_sem, ↓IntWalk.iteOmega])), (by (first | (simp [go_sem]; done) | simp [go_sem, ↓IntWalk.iteOmega])), (by (first | (simp [go_sem]; done) | simp [go_sem, ↓IntWalk.iteOmega]))⟩, (by (first | (simp [go_sem]; done) | simp [go_sem, ↓IntWalk.iteOmega])), (by (first | (simp [go_sem]; done) | simp [go_sem, ↓IntWalk.iteOmega])), (by (first | (simp [go_sem]; done) | simp [go_sem, ↓IntWalk.iteOmega]))⟩, (by (repeat' (first | with_reducible exact Below.refl _ _ | (with_reducible refine below_later_of ?_ ?_ _) | (with_reducible refine Below.alloc ?_ ?_ _) | (with_reducible refine Below.setCell ?_ ?_ _) | (with_reducible refine Below.drew ?_) | (simp; done) | (simp; omega) | omega))), by first | (simp; done) | (simp <;> omega)⟩ ?_
  rintro W1 ⟨⟨k0, k1, k2, k3⟩, ⟨j0, j1, j2, j3⟩, ⟨⟨r0, r1, r2⟩, t0, t1, t2⟩, hb1, hlt1⟩
  have HB1 := Lib.hid hb1
  have hs1 := hb1.size
  have HIX := Lib.hid (show ∀ W, Below W1.heap.size W1 W → _ from fun W hW => HIX0.out W (HB1.out.trans (hW.mono hs1)))
  have HIY := Lib.hid (show ∀ W, Below W1.heap.size W1 W → _ from fun W hW => HIY0.out W (HB1.out.trans (hW.mono hs1)))
  clear hb1
  go_wp2_with fail
  go_cut [6, 7] from 10 to 18 (fun X Y wx => ∃ B a c, X = .pointer (some ⟨B, 0, none⟩) ∧ Y = .int .i64 0 ∧ ImgBlk wx B x.L x.S a (x.m / 2) c ∧ OwnS wx 0 (x.m / 2) (ifB (smp x.p) (smp y.p)) a ∧ B < wx.heap.size ∧ Below W1.heap.size W1 wx)
  case first =>
    go_region_held3 (fun w' => (w'.cell? ⟨w.heap.size, 0, none⟩ = some (.int .i64 x.L) ∧ w'.cell? ⟨w.heap.size, 1, none⟩ = some (.int .i64 x.S) ∧ w'.cell? ⟨w.heap.size, 2, none⟩ = some (.slice x.pa x.m x.pc) ∧ w'.cell? ⟨w.heap.size, 3, none⟩ = some (.slice x.ca x.mc x.cc)) ∧ (w'.cell? ⟨w.heap.size + 1, 0, none⟩ = some (.int .i64 y.L) ∧ w'.cell? ⟨w.heap.size + 1, 1, none⟩ = some (.int .i64 y.S) ∧ w'.cell? ⟨w.heap.size + 1, 2, none⟩ = some (.slice y.pa y.m y.pc) ∧ w'.cell? ⟨w.heap.size + 1, 3, none⟩ = some (.slice y.ca y.mc y.cc))) (first | exact ⟨⟨k0, k1, k2, k3⟩, j0, j1, j2, j3⟩ | ((first | (simp [go_sem, k0, k1, k2, k3, j0, j1, j2, j3]; done) | simp [go_sem, k0, k1, k2, k3, j0, j1, j2, j3, ↓IntWalk.iteOmega]); done)) (first | (go_at_call 36; (with_reducible refine (HIX.out _ (by (repeat' (first | with_reducible exact Below.refl _ _ | (with_reducible refine below_later_of ?_ ?_ _) | (with_reducible refine Below.alloc ?_ ?_ _) | (with_reducible refine Below.setCell ?_ ?_ _) | (with_reducible refine Below.drew ?_) | (simp; done) | (simp; omega) | omega)))).mono ?_); rintro e w' ⟨a1, c1, rfl, ha, -, hb⟩; have HA1 := Lib.hid ha; clear ha; obtain ⟨q1, rfl⟩ := later_of_below hb; clear hb) | (go_at_call 36; (with_reducible refine (HIY.out _ (by (repeat' (first | with_reducible exact Below.refl _ _ | (with_reducible refine below_later_of ?_ ?_ _) | (with_reducible refine Below.alloc ?_ ?_ _) | (with_reducible refine Below.setCell ?_ ?_ _) | (with_reducible refine Below.drew ?_) | (simp; done) | (simp; omega) | omega)))).mono ?_); rintro e w' ⟨a2, c2, rfl, ha, -, hb⟩; have HA2 := Lib.hid ha; clear ha; obtain ⟨q2, rfl⟩ := later_of_below hb; clear hb) | (go_at_call 63; (with_reducible refine (interfere_det x.L x.S (x.m / 2) c1 (smp x.p) a1 y.L y.S (y.m / 2) c2 (smp y.p) a2 _ (by omega) (by omega) (dataAt_own HA1.out (by (repeat' (first | with_reducible exact Below.refl _ _ | (with_reducible refine below_later_of ?_ ?_ _) | (with_reducible refine Below.alloc ?_ ?_ _) | (with_reducible refine Below.setCell ?_ ?_ _) | (with_reducible refine Below.drew ?_) | (simp; done) | (simp; omega) | omega)))) (dataAt_own HA2.out (by (repeat' (first | with_reducible exact Below.refl _ _ | (with_reducible refine below_later_of ?_ ?_ _) | (with_reducible refine Below.alloc ?_ ?_ _) | (with_reducible refine Below.setCell ?_ ?_ _) | (with_reducible refine Below.drew ?_) | (simp; done) | (simp; omega) | omega)))) HE.out).mono ?_); rintro e w' ⟨l5, s5, n5, a5, c5, rfl, hok0, -, hb⟩; obtain ⟨rfl, rfl, rfl, hok1⟩ := hok0.1 rfl; have HOK := Lib.hid hok1; clear hok0 hok1; obtain ⟨q3, rfl⟩ := later_of_below hb; clear hb))
    all_goals
      rename_i hheld
      clear hheld
      go_wp2_with fail
      go_meet
      refine ⟨_, a5, c5, rfl, rfl, ⟨(by (first | (simp [go_sem]; done) | simp [go_sem, ↓IntWalk.iteOmega])), (by (first | (simp [go_sem]; done) | simp [go_sem, ↓IntWalk.iteOmega])), (by (first | (simp [go_sem]; done) | simp [go_sem, ↓IntWalk.iteOmega]))⟩, ?_, by simp <;> omega, (by (repeat' (first | with_reducible exact Below.refl _ _ | (with_reducible refine below_later_of ?_ ?_ _) | (with_reducible refine Below.alloc ?_ ?_ _) | (with_reducible refine Below.setCell ?_ ?_ _) | (with_reducible refine Below.drew ?_) | (simp; done) | (simp; omega) | omega)))⟩
      first
        | (refine (HOK.out.below ?_).mono (Nat.zero_le _); (repeat' (first | with_reducible exact Below.refl _ _ | (with_reducible refine below_later_of ?_ ?_ _) | (with_reducible refine Below.alloc ?_ ?_ _) | (with_reducible refine Below.setCell ?_ ?_ _) | (with_reducible refine Below.drew ?_) | (simp; done) | (simp; omega) | omega)); done)
        | (refine (OwnS.set (OwnS.set (OwnS.set HOK.out ?_ _) ?_ _) ?_ _).mono (Nat.zero_le _) <;> simp <;> omega)
  case rest =>
    obtain ⟨B5, aq, cq, rfl, rfl, hi5, hok, hB5, hb⟩ := hcut
    obtain ⟨W3, hW3⟩ : ∃ W3 : World, W3 = wc := ⟨_, rfl⟩
    subst hW3
    have hs3 := hb.size
    have HB3 := Lib.hid (HB1.out.trans (hb.mono hs1))
    have HFW := Lib.hid hok
    obtain ⟨i0, i1, i2⟩ := hi5
    have r0 := (hb.cell (p := ⟨w.heap.size + 2, 0, none⟩) (by simp; omega)).trans r0
    have r1 := (hb.cell (p := ⟨w.heap.size + 2, 1, none⟩) (by simp; omega)).trans r1
    have r2 := (hb.cell (p := ⟨w.heap.size + 2, 2, none⟩) (by simp; omega)).trans r2
    have t0 := (hb.frozen (p := ⟨w.heap.size + 2, 0, none⟩) (by simp; omega)).trans t0
    have t1 := (hb.frozen (p := ⟨w.heap.size + 2, 1, none⟩) (by simp; omega)).trans t1
    have t2 := (hb.frozen (p := ⟨w.heap.size + 2, 2, none⟩) (by simp; omega)).trans t2
    have hw3 : w.heap.size + 2 < W3.heap.size := by omega
    clear hb hok HIX HIY HIX0 HIY0 HE k0 k1 k2 k3 j0 j1 j2 j3
    go_wp2_with (first | (go_at_call 50; (with_reducible refine (phasesOf_ok x.L x.S (x.m / 2) cq (ifB (smp x.p) (smp y.p)) aq _ (ownS_fld (HFW.out.below (by (repeat' (first | with_reducible exact Below.refl _ _ | (with_reducible refine below_later_of ?_ ?_ _) | (with_reducible refine Below.alloc ?_ ?_ _) | (with_reducible refine Below.setCell ?_ ?_ _) | (with_reducible refine Below.drew ?_) | (simp; done) | (simp; omega) | omega))))) HWD.out (by omega) HFE.out).mono ?_); rintro e w' ⟨q6, c6, rfl, ho, hb⟩; have HO := Lib.hid ho; clear ho; obtain ⟨q4, rfl⟩ := later_of_below hb; clear hb))
    refine bodyPost_ret (v := .tuple #[.agg #[.int .i64 x.L, .int .i64 x.S, .slice q6 (x.m / 2) c6], .bool true]) ?_ rfl ⟨q6, c6, rfl, ?_, (((HB3.out.trans (below_mono_of HB3.out.size (by (repeat' (first | with_reducible exact Below.refl _ _ | (with_reducible refine below_later_of ?_ ?_ _) | (with_reducible refine Below.alloc ?_ ?_ _) | (with_reducible refine Below.setCell ?_ ?_ _) | (with_reducible refine Below.drew ?_) | (simp; done) | (simp; omega) | omega))))).setCell (p := ⟨w.heap.size + 1 + 1, 0, none⟩) (by simp <;> omega) _).setCell (p := ⟨w.heap.size + 1 + 1, 1, none⟩) (by simp <;> omega) _).setCell (p := ⟨w.heap.size + 1 + 1, 2, none⟩) (by simp <;> omega) _⟩
    · first | (simp [results, Tryz.results55, go_sem]; done) | simp [results, Tryz.results55, go_sem, r0, r1, r2, ↓IntWalk.iteOmega]
    · exact OwnIV.mono (OwnIV.set (OwnIV.set (OwnIV.set (HO.out.below (by (repeat' (first | with_reducible exact Below.refl _ _ | (with_reducible refine below_later_of ?_ ?_ _) | (with_reducible refine Below.alloc ?_ ?_ _) | (with_reducible refine Below.setCell ?_ ?_ _) | (with_reducible refine Below.drew ?_) | (simp; done) | (simp; omega) | omega)))) (by simp <;> omega) _) (by simp <;> omega) _) (by simp <;> omega) _) (by omega)
end Go.Proofs.YtfiioadmpjmmgaaGreatDoor

/- Chapter 4: three scenes: what their phases are, and how they close. Plain, and the samples. -/
namespace Go.Proofs.YtfiioadmpjmmgaaGreatDoor
set_option linter.unusedVariables false
set_option linter.unusedSimpArgs false
open Go.RowKit Ieee Ntt
theorem nrm_mul (u v : Int × Int) : nrmP (gM u v) = nrmP u * nrmP v := by unfold nrmP gM; dsimp only; grind
theorem nrm_J (u : Int × Int) : nrmP (gJ u) = nrmP u := by unfold nrmP gJ; dsimp only; grind
theorem sq_nonneg (x : Int) : 0 ≤ x * x := by
  rcases Int.lt_or_le x 0 with h | h
  · have := Int.mul_nonneg (show 0 ≤ -x by omega) (show 0 ≤ -x by omega)
    have e : -x * -x = x * x := by grind
    omega
  · exact Int.mul_nonneg h h
theorem sq_posE {x : Int} (h : x ≠ 0) : 0 < x * x := by
  rcases Int.lt_or_le x 0 with c | c
  · have := Int.mul_pos (show 0 < -x by omega) (show 0 < -x by omega)
    have e : -x * -x = x * x := by grind
    omega
  · exact Int.mul_pos (by omega) (by omega)
theorem nrm_posE {u : Int × Int} (h : ¬ (u.1 = 0 ∧ u.2 = 0)) : 0 < nrmP u := by
  unfold nrmP
  have a := sq_nonneg u.1
  have b := sq_nonneg u.2
  by_cases c : u.1 = 0
  · have := sq_posE (x := u.2) (by omega)
    omega
  · have := sq_posE c
    omega
theorem nrm_zero {u : Int × Int} (h : u.1 = 0 ∧ u.2 = 0) : nrmP u = 0 := by
  unfold nrmP
  rw [h.1, h.2]
  rfl
/-- A sample, and whether it is 0. -/
def sPt (x : Scn) (k : Nat) : Int × Int := (xB (smp x.p) k, yB (smp x.p) k)
def zerB (x : Scn) (k : Nat) : Bool := decide ((sPt x k).1 = 0 ∧ (sPt x k).2 = 0)
theorem zer_no {x : Scn} {k : Nat} (h : zerB x k = false) : ¬ ((sPt x k).1 = 0 ∧ (sPt x k).2 = 0) := by
  unfold zerB at h
  simpa using h
theorem zer_yes {x : Scn} {k : Nat} (h : zerB x k = true) : (sPt x k).1 = 0 ∧ (sPt x k).2 = 0 := by
  unfold zerB at h
  simpa using h
theorem tmP_eq (p q : Int × Int) : tmP p q = gM p (gJ q) := by unfold tmP gM gJ; apply Prod.ext <;> dsimp only <;> grind
theorem prod_no {p q : Int × Int} (hp : ¬ (p.1 = 0 ∧ p.2 = 0)) (hq : ¬ (q.1 = 0 ∧ q.2 = 0)) : ¬ ((gM p (gJ q)).1 = 0 ∧ (gM p (gJ q)).2 = 0) := fun h => by
  have := nrm_zero h
  rw [nrm_mul, nrm_J] at this
  have := Int.mul_pos (nrm_posE hp) (nrm_posE hq)
  omega
theorem prod_zero {p q : Int × Int} (h : (p.1 = 0 ∧ p.2 = 0) ∨ (q.1 = 0 ∧ q.2 = 0)) : (gM p (gJ q)).1 = 0 ∧ (gM p (gJ q)).2 = 0 := by
  unfold gM gJ
  dsimp only
  rcases h with ⟨h1, h2⟩ | ⟨h1, h2⟩ <;> rw [h1, h2] <;> simp
theorem triP_val {x y : Scn} (h : scnE x y = 0) {k : Nat} (hk : k < x.m / 2) : intAt (triP x y) k = if zerB x k || zerB y k then 1000000000000 else phaseP (gM (sPt x k) (gJ (sPt y k))).1 (gM (sPt x k) (gJ (sPt y k))).2 := by
  obtain ⟨e1, e2⟩ := xD_ifB h hk
  rw [triP_at hk]
  unfold phsP
  rw [e1, e2]
  have e : intfF (xB (smp x.p)) (yB (smp x.p)) (xB (smp y.p)) (yB (smp y.p)) k = gM (sPt x k) (gJ (sPt y k)) := tmP_eq (sPt x k) (sPt y k)
  rw [e]
  by_cases c : (zerB x k || zerB y k) = true
  · have c' : zerB x k = true ∨ zerB y k = true := by simpa using c
    rw [if_pos c, if_pos (prod_zero (c'.imp zer_yes zer_yes))]
  · have c' : zerB x k = false ∧ zerB y k = false := by simpa using c
    rw [if_neg c, if_neg (prod_no (zer_no c'.1) (zer_no c'.2))]
theorem wr_three (a b c : Int) : wrP (wrP (a + 1 * b) + -1 * c) = wrP (a + b - c) := by unfold wrP; omega
/-- The closure of the phases of three scenes. -/
def cloL (x y z : Scn) : List Int := combL (combL (triP x y) (triP y z) 1) (triP x z) (-1)
theorem cloL_length (x y z : Scn) : (cloL x y z).length = x.m / 2 := by unfold cloL; rw [combL_len, combL_len, triP_length]
theorem scn_yz {x y z : Scn} (h1 : scnE x y = 0) (h2 : scnE x z = 0) : scnE y z = 0 ∧ scnE x x = 0 := by
  obtain ⟨a1, a2, a3, a4⟩ := pairE_zero h1
  obtain ⟨b1, b2, b3, b4⟩ := pairE_zero h2
  unfold scnE pairE
  constructor
  · rw [a2, b2]
    simp [first2, ← a3, ← a4, b3, b4]
  · rw [a1]
    simp [first2]
theorem three_pts (p q r : Int × Int) : gM (gM (gM p (gJ q)) (gM q (gJ r))) (gJ (gM p (gJ r))) = (nrmP p * nrmP q * nrmP r, 0) := by
  have e : gM (gM (gM p (gJ q)) (gM q (gJ r))) (gM (gJ p) r) = gM (gM p (gJ p)) (gM (gM q (gJ q)) (gM r (gJ r))) := by
    generalize gJ p = a
    generalize gJ q = b
    generalize gJ r = c
    unfold gM
    apply Prod.ext <;> dsimp only <;> grind
  rw [gJ_mul, gJ_gJ, e, gM_J, gM_J, gM_J, gM_real, gM_real]
  unfold gS
  dsimp only
  apply Prod.ext <;> dsimp only <;> grind
theorem clo_at {x y z : Scn} (h1 : scnE x y = 0) (h2 : scnE x z = 0) {k : Nat} (hk : k < x.m / 2) :
    ((zerB x k || zerB y k || zerB z k) = true → intAt (cloL x y z) k = 1000000000000) ∧ ((zerB x k || zerB y k || zerB z k) = false → -2 ≤ intAt (cloL x y z) k ∧ intAt (cloL x y z) k ≤ 2) := by
  obtain ⟨-, -, -, hn, -⟩ := scn_ok h1
  have ha := triP_val h1 hk
  have hb := triP_val (scn_yz h1 h2).1 (k := k) (by omega)
  have hc := triP_val h2 hk
  have l1 : k < (triP x y).length := by rw [triP_length]; exact hk
  unfold cloL
  rw [combL_at (by rw [combL_len]; exact l1)]
  unfold combF
  rw [combL_at l1]
  unfold combF
  rw [ha, hb, hc]
  cases hx : zerB x k
  · cases hy : zerB y k
    · cases hz : zerB z k
      · refine ⟨fun h => by simp at h, fun _ => ?_⟩
        simp only [Bool.or_false, Bool.false_eq_true, if_false]
        have p1 := prod_no (zer_no hx) (zer_no hy)
        have p2 := prod_no (zer_no hy) (zer_no hz)
        have p3 := prod_no (zer_no hx) (zer_no hz)
        have e := three_pts (sPt x k) (sPt y k) (sPt z k)
        have t0 := Int.mul_pos (Int.mul_pos (nrm_posE (zer_no hx)) (nrm_posE (zer_no hy))) (nrm_posE (zer_no hz))
        have key := three_close p1 p2 p3 t0 e
        obtain ⟨b1, b2⟩ := phaseP_bd (gM (sPt x k) (gJ (sPt y k))).1 (gM (sPt x k) (gJ (sPt y k))).2
        obtain ⟨b3, b4⟩ := phaseP_bd (gM (sPt y k) (gJ (sPt z k))).1 (gM (sPt y k) (gJ (sPt z k))).2
        obtain ⟨b5, b6⟩ := phaseP_bd (gM (sPt x k) (gJ (sPt z k))).1 (gM (sPt x k) (gJ (sPt z k))).2
        generalize phaseP (gM (sPt x k) (gJ (sPt y k))).1 (gM (sPt x k) (gJ (sPt y k))).2 = a at *
        generalize phaseP (gM (sPt y k) (gJ (sPt z k))).1 (gM (sPt y k) (gJ (sPt z k))).2 = b at *
        generalize phaseP (gM (sPt x k) (gJ (sPt z k))).1 (gM (sPt x k) (gJ (sPt z k))).2 = c at *
        obtain ⟨w1, w2⟩ := wrP_bd (a + 1 * b)
        rw [if_neg (by omega), if_neg (by omega), wr_three]
        exact key
      · refine ⟨fun _ => ?_, fun h => by simp at h⟩
        simp
    · refine ⟨fun _ => ?_, fun h => by simp at h⟩
      simp
  · refine ⟨fun _ => ?_, fun h => by simp at h⟩
    simp
theorem phase_real {t : Int} (h : 0 < t) : phaseP t 0 = 0 := by
  obtain ⟨l0, l1⟩ := lowP_bd t 0
  have hl : lowP t 0 = 0 := by
    rcases (show lowP t 0 = 0 ∨ 1 ≤ lowP t 0 by omega) with c | c
    · exact c
    · exfalso
      have hb := (between (x := t) (y := 0) (by decide) (by omega) (by omega)).1 c
      obtain ⟨⟨f1, -⟩, ⟨f3, -⟩, -, f4⟩ := dir_facts (2 * lowP t 0 - 2) (by omega) (by omega)
      obtain ⟨⟨g1, -⟩, ⟨g3, -⟩, -, -⟩ := dir_facts (2 * lowP t 0 - 1) (by omega) (by omega)
      have f4 := f4 (by omega)
      rw [show 2 * lowP t 0 - 2 + 1 = 2 * lowP t 0 - 1 by omega] at f4
      generalize (dirP (2 * lowP t 0 - 2)) = d at *
      generalize (dirP (2 * lowP t 0 - 1)) = e at *
      rw [Int.mul_zero] at hb
      have m1 := Int.mul_nonneg f3 (show 0 ≤ e.1 by omega)
      rcases (show e.2 = 0 ∨ 0 < e.2 by omega) with c2 | c2
      · rw [c2, Int.mul_zero] at f4
        omega
      · have := Int.mul_pos c2 h
        omega
  unfold phaseP
  have e : phP t 0 = lowP t 0 := by
    unfold phP upP quadP
    rw [if_neg (by omega), if_neg (by omega), if_neg (by omega)]
  rw [e, hl]
  rfl
theorem own_at {x : Scn} (h : scnE x x = 0) {k : Nat} (hk : k < x.m / 2) : intAt (triP x x) k = if zerB x k then 1000000000000 else 0 := by
  rw [triP_val h hk]
  cases hx : zerB x k
  · have e := gM_J (sPt x k)
    have p := nrm_posE (zer_no hx)
    rw [e]
    simp only [Bool.or_false, Bool.false_eq_true, if_false]
    exact phase_real p
  · simp
/-- What a sample compared with 0 gives. -/
theorem zer_bits {n : Nat} {x : Scn} {M : Int} (h : SmallS n (smp x.p) (xB (smp x.p)) (yB (smp x.p)) M) {k : Nat} (hk : k < n) :
    (FloatKind.f32.format.order (smp x.p k).1 0 == some Ordering.eq && FloatKind.f32.format.order (smp x.p k).2 0 == some Ordering.eq) = zerB x k := by
  obtain ⟨⟨g1, g2, -⟩, -⟩ := h k hk
  have z1 : (FloatKind.f32.format.order (smp x.p k).1 0 == some Ordering.eq) = decide (xB (smp x.p) k = 0) := by
    rw [show FloatKind.f32.format.order (smp x.p k).1 0 = some (compare (xB (smp x.p) k) 0) from order_num _ g1 zero_single, beq_eq_iff]
  have z2 : (FloatKind.f32.format.order (smp x.p k).2 0 == some Ordering.eq) = decide (yB (smp x.p) k = 0) := by
    rw [show FloatKind.f32.format.order (smp x.p k).2 0 = some (compare (yB (smp x.p) k) 0) from order_num _ g2 zero_single, beq_eq_iff]
  rw [z1, z2]
  unfold zerB sPt
  simp [Bool.decide_and]
theorem tri_ok {x y : Scn} (h : scnE x y = 0) : (mapE x.L x.S (triP x y)).2 = 0 := by
  obtain ⟨⟨h1, h2, hn⟩, -⟩ := scn_ok h
  have hs : sizeE x.L x.S ((triP x y).length : Int) = 0 := by
    rw [triP_length]
    unfold sizeE
    rw [inE_iff.2 h1, inE_iff.2 h2]
    simp [hn]
  unfold mapE
  rw [if_pos hs, firstE_ok]
  intro k hk
  rw [triP_length] at hk
  unfold mapG
  rw [if_pos]
  rw [triP_at hk]
  unfold phOk
  rcases phs_bd (xD (ifB (smp x.p) (smp y.p))) (yD (ifB (smp x.p) (smp y.p))) k with e | ⟨e1, e2⟩
  · rw [e]; rfl
  · rw [inE_iff.2 (by omega)]; simp
theorem tri_three {x y z : Scn} (h1 : scnE x y = 0) (h2 : scnE x z = 0) : threeE x.L x.S (triP x y) x.L x.S (triP y z) x.L x.S (triP x z) = 0 := by
  obtain ⟨-, e1, e2, -, -⟩ := scn_ok h1
  have a := tri_ok h1
  have b := tri_ok (scn_yz h1 h2).1
  have c := tri_ok h2
  rw [e1, e2] at b
  unfold threeE
  rw [a, b, c]
  simp
end Go.Proofs.YtfiioadmpjmmgaaGreatDoor
