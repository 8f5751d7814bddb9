import Derived.Test.YtcmjlfhnibjofaaZG
import Derived.Test.YtcmjlfhnibjofaaZL
import Derived.WalkSpells
import Derived.Laws.Cover2
import Derived.Laws.Cover3
import Derived.WalkLawsBesides
import Derived.Deep.RegionHeld3
import Derived.BigRegion
import Derived.RegionTactic
import Derived.Deep.LoopGhost
import Derived.Test.YtcmjlfhnibjofaaZJ
import Derived.Test.YtcmjlfhnibjofaaZH
/- Chapter 1: whole roots: plain, and the program's root. -/
namespace Go.Proofs.Ytcmjlfhnibjofaa
set_option linter.unusedVariables false
set_option linter.unusedSimpArgs false
open Go.RowKit
theorem sq_lt_of_lt {a b : Int} (ha : 0 ≤ a) (h : a < b) : a * a < b * b :=
  Int.lt_of_le_of_lt (Int.mul_le_mul_of_nonneg_left (Int.le_of_lt h) ha) (Int.mul_lt_mul_of_pos_right h (by omega))
theorem lt_of_sq_lt {a b : Int} (hb : 0 ≤ b) (h : a * a < b * b) : a < b := by
  rcases Int.lt_or_le a b with h1 | h1
  · exact h1
  · have := Int.mul_le_mul h1 h1 hb (Int.le_trans hb h1); omega
theorem le_of_sq_le {a b : Int} (hb : 0 ≤ b) (h : a * a ≤ b * b) : a ≤ b := by
  rcases Int.lt_or_le b a with h1 | h1
  · have := sq_lt_of_lt hb h1; omega
  · exact h1

/-- The root digit by digit, as the reference finds it: bit is 2 ^ k. -/
def rootGo (n : Int) : Nat → Int → Int
  | 0, r => r
  | k + 1, r => rootGo n k (if (r + 2 ^ k) * (r + 2 ^ k) ≤ n then r + 2 ^ k else r)
def rootP (n : Int) : Int := rootGo n 31 0

theorem rootGo_spec (n : Int) : ∀ (k : Nat) (r : Int), 0 ≤ r → r * r ≤ n → n < (r + 2 ^ k) * (r + 2 ^ k) →
    0 ≤ rootGo n k r ∧ rootGo n k r * rootGo n k r ≤ n ∧ n < (rootGo n k r + 1) * (rootGo n k r + 1)
  | 0, r, h0, h1, h2 => by simp only [rootGo]; exact ⟨h0, h1, by simpa using h2⟩
  | k + 1, r, h0, h1, h2 => by
    simp only [rootGo]
    have hp : (0 : Int) < 2 ^ k := Int.pow_pos (by omega)
    have he : (2 : Int) ^ (k + 1) = 2 ^ k + 2 ^ k := by rw [Int.pow_succ]; omega
    by_cases h : (r + 2 ^ k) * (r + 2 ^ k) ≤ n
    · rw [if_pos h]
      refine rootGo_spec n k _ (by omega) h ?_
      rw [he] at h2
      rw [Int.add_assoc]
      exact h2
    · rw [if_neg h]
      exact rootGo_spec n k r h0 h1 (by omega)

theorem rootP_spec (n : Int) (h0 : 0 ≤ n) (h1 : n < 4611686018427387904) : 0 ≤ rootP n ∧ rootP n * rootP n ≤ n ∧ n < (rootP n + 1) * (rootP n + 1) := by
  unfold rootP
  exact rootGo_spec n 31 0 (by omega) (by simpa using h0) (by simpa using h1)

theorem rootP_unique (n r : Int) (h0 : 0 ≤ r) (h1 : r * r ≤ n) (h2 : n < (r + 1) * (r + 1)) (h3 : n < 4611686018427387904) : rootP n = r := by
  have hn : 0 ≤ n := Int.le_trans (Int.mul_nonneg h0 h0) h1
  obtain ⟨s0, s1, s2⟩ := rootP_spec n hn h3
  have a : rootP n < r + 1 := lt_of_sq_lt (by omega) (by omega)
  have b : r < rootP n + 1 := lt_of_sq_lt (by omega) (by omega)
  omega

theorem rootP_le (n : Int) (h0 : 0 ≤ n) (h1 : n < 4611686018427387904) : rootP n ≤ 2147483647 := by
  obtain ⟨s0, s1, s2⟩ := rootP_spec n h0 h1
  have : rootP n < 2147483648 := lt_of_sq_lt (by omega) (by omega)
  omega

theorem sq_bd (a b : Int) (h1 : -b ≤ a) (h2 : a ≤ b) : 0 ≤ a * a ∧ a * a ≤ b * b := by
  rcases Int.le_total 0 a with h | h
  · exact ⟨Int.mul_nonneg h h, Int.mul_le_mul h2 h2 h (by omega)⟩
  · have : a * a = (-a) * (-a) := by rw [Int.neg_mul_neg]
    rw [this]
    exact ⟨Int.mul_nonneg (by omega) (by omega), Int.mul_le_mul (by omega) (by omega) (by omega) (by omega)⟩


/-- One step of the root by halves of sums: it stays at least the root. -/
theorem newton_up {n x : Int} (hx : 1 ≤ x) (hn : 0 ≤ n) : n < ((x + n / x) / 2 + 1) * ((x + n / x) / 2 + 1) := by
  have h1 := Int.emod_add_mul_ediv n x
  have h2 := Int.emod_lt_of_pos n (show 0 < x by omega)
  have hq : 0 ≤ n / x := Int.ediv_nonneg hn (by omega)
  have e1 : x * (n / x + 1) = x * (n / x) + x := by rw [Int.mul_add, Int.mul_one]
  have h3 : n < x * (n / x + 1) := by omega
  generalize n / x = q at h1 hq h3 ⊢
  have hy : x + q + 1 ≤ 2 * ((x + q) / 2 + 1) := by omega
  generalize (x + q) / 2 + 1 = y at hy ⊢
  have h4 : (x + q + 1) * (x + q + 1) ≤ (2 * y) * (2 * y) := Int.mul_le_mul hy hy (by omega) (by omega)
  have h5 : 0 ≤ (x - (q + 1)) * (x - (q + 1)) := (sq_bd (x - (q + 1)) ((x - (q + 1)).natAbs) (by omega) (by omega)).1
  grind
theorem newton_end {n x : Int} (hx : 1 ≤ x) (hn : 0 ≤ n) (h : x ≤ (x + n / x) / 2) : x * x ≤ n := by
  have h1 : x ≤ n / x := by omega
  have h2 := Int.mul_le_mul_of_nonneg_left h1 (show 0 ≤ x by omega)
  have h3 := Int.mul_ediv_self_le (x := n) (show x ≠ 0 by omega)
  omega
set_option maxHeartbeats 1000000 in
theorem root_any (n : Int) (w : World) (h0 : 0 ≤ n) (h1 : n ≤ 4000000000000000000) :
    Calls Try.prog 202 #[.int .i64 n] w fun e w' => e = .returned (.int .i64 (rootP n)) ∧ w = w' := by
  by_cases h2 : n < 2
  · have HF := Lib.hid (show n = rootP n by
      rcases (show n = 0 ∨ n = 1 by omega) with rfl | rfl
      · exact (rootP_unique 0 0 (by decide) (by decide) (by decide) (by decide)).symm
      · exact (rootP_unique 1 1 (by decide) (by decide) (by decide) (by decide)).symm)
    go_enter Try.func202, Try.ntmps202
    go_wp2
    go_ret
    exact ⟨ret_intE HF.out, rfl⟩
  · have hn1 : n / n = 1 := Int.ediv_self (by omega)
    have hup := newton_up (n := n) (x := n) (by omega) h0
    have HUP := Lib.hid (show n < (n + 1) * (n + 1) by
      have := Int.mul_nonneg h0 h0
      rw [Int.add_mul, Int.mul_add]; omega)
    have HST := Lib.hid (show (n + 1) / 2 = (n + n / n) / 2 by rw [hn1])
    clear hup hn1
    go_enter Try.func202, Try.ntmps202
    go_wp2
    go_loop [3, 4] (fun a b => ∃ x y : Int, a = .int .i64 x ∧ b = .int .i64 y ∧ 1 ≤ x ∧ x ≤ n ∧ y = (x + n / x) / 2 ∧ n < (x + 1) * (x + 1)) (fun a _ => (intOf a).toNat)
    case atStart => exact ⟨n, (n + 1) / 2, rfl, rfl, by omega, by omega, HST.out, HUP.out⟩
    case round =>
      obtain ⟨x, y, rfl, rfl, hx, hxn, hy, hup⟩ := hrel
      have HY := Lib.hid hy
      have HU := Lib.hid hup
      have q0 : 0 ≤ n / x := Int.ediv_nonneg h0 (by omega)
      have q1 : n / x ≤ n := Int.ediv_le_self _ h0
      have y0 : 0 ≤ y := by omega
      by_cases hlt : y < x
      · have hdl : decide (y < x) = true := by simpa using hlt
        have y1 : 1 ≤ y := by
          rcases (show x = 1 ∨ 2 ≤ x by omega) with h | h
          · subst h
            rw [Int.ediv_one] at hy
            omega
          · omega
        have HN := Lib.hid (show n < (y + 1) * (y + 1) by rw [hy]; exact newton_up hx h0)
        have q2 : 0 ≤ n / y := Int.ediv_nonneg h0 (by omega)
        have q3 : n / y ≤ n := Int.ediv_le_self _ h0
        clear hy hup
        go_wp2
        go_round
        case rel => exact ⟨y, (y + n / y) / 2, rfl, by first | rfl | simp, y1, by omega, rfl, HN.out⟩
        case measure => simp [intOf]; omega
      · have hdl : decide (y < x) = false := by simpa using hlt
        have HF := Lib.hid (show x = rootP n from (rootP_unique n x (by omega) (newton_end hx h0 (by omega)) hup (by omega)).symm)
        clear hy hup
        go_wp2
        go_ret
        exact ⟨ret_intE HF.out, rfl⟩
end Go.Proofs.Ytcmjlfhnibjofaa

/- Chapter 1: directions and phases, plain. -/
namespace Go.Proofs.Ytcmjlfhnibjofaa
set_option linter.unusedVariables false
set_option linter.unusedSimpArgs false
/-- The direction between two others. -/
def midP (a b : Int × Int) : Int × Int := ((a.1 + b.1) * 16777216 / rootP ((a.1 + b.1) * (a.1 + b.1) + (a.2 + b.2) * (a.2 + b.2)), (a.2 + b.2) * 16777216 / rootP ((a.1 + b.1) * (a.1 + b.1) + (a.2 + b.2) * (a.2 + b.2)))
/-- A direction of at most an eighth of a turn. -/
def WayOk (a : Int × Int) : Prop := 1 ≤ a.1 ∧ a.1 ≤ 16777216 ∧ 0 ≤ a.2 ∧ a.2 ≤ a.1
theorem sum_ok {a b : Int × Int} (ha : WayOk a) (hb : WayOk b) : (2 ≤ a.1 + b.1 ∧ a.1 + b.1 ≤ 33554432) ∧ (0 ≤ a.2 + b.2 ∧ a.2 + b.2 ≤ a.1 + b.1) := by
  obtain ⟨h1, h2, h3, h4⟩ := ha
  obtain ⟨k1, k2, k3, k4⟩ := hb
  omega
theorem norm_bd {x y : Int} (h1 : 2 ≤ x) (h2 : x ≤ 33554432) (h3 : 0 ≤ y) (h4 : y ≤ x) : (x * x + y * y ≤ 2251799813685248 ∧ 0 ≤ x * x + y * y) ∧ x ≤ rootP (x * x + y * y) ∧ rootP (x * x + y * y) ≤ 2 * x := by
  obtain ⟨s1, s2⟩ := sq_bd x 33554432 (by omega) h2
  obtain ⟨s3, s4⟩ := sq_bd y 33554432 (by omega) (by omega)
  have s5 := (sq_bd y x (by omega) h4).2
  obtain ⟨r0, r1, r2⟩ := rootP_spec (x * x + y * y) (by omega) (by omega)
  refine ⟨by omega, ?_, ?_⟩
  · have := lt_of_sq_lt (a := x) (b := rootP (x * x + y * y) + 1) (by omega) (by omega)
    omega
  · refine le_of_sq_le (by omega) ?_
    have : 2 * x * (2 * x) = x * x + x * x + x * x + x * x := by grind
    omega
theorem mid_ok {a b : Int × Int} (ha : WayOk a) (hb : WayOk b) : WayOk (midP a b) := by
  obtain ⟨⟨h1, h2⟩, h3, h4⟩ := sum_ok ha hb
  obtain ⟨-, r1, r2⟩ := norm_bd h1 h2 h3 h4
  unfold midP WayOk
  dsimp only
  generalize a.1 + b.1 = x at h1 h2 h3 h4 r1 r2 ⊢
  generalize a.2 + b.2 = y at h3 h4 r1 r2 ⊢
  generalize rootP (x * x + y * y) = r at r1 r2 ⊢
  refine ⟨?_, ?_, Int.ediv_nonneg (by omega) (by omega), Int.ediv_le_ediv (by omega) (by omega)⟩
  · exact (Int.le_ediv_iff_mul_le (by omega)).2 (by omega)
  · exact Int.ediv_le_of_le_mul (by omega) (by omega)
/-- The search, by a function that tells whether to go on behind the half, and whether it is the number. -/
def seekP (st : Int → Int × Int → Bool × Bool) : Nat → Int → Int × Int → Int → Int × Int → Int × (Int × Int)
  | 0, lo, a, _, _ => (lo, a)
  | f + 1, lo, a, hi, b => if (st ((lo + hi) / 2) (midP a b)).2 then ((lo + hi) / 2, midP a b) else if (st ((lo + hi) / 2) (midP a b)).1 then seekP st f ((lo + hi) / 2) (midP a b) hi b else seekP st f lo a ((lo + hi) / 2) (midP a b)
def oneW : Int × Int := (16777216, 0)
def halfW : Int × Int := (11863283, 11863283)
theorem one_ok : WayOk oneW := ⟨by decide, by decide, by decide, by decide⟩
theorem half_ok : WayOk halfW := ⟨by decide, by decide, by decide, by decide⟩
def searchP (st : Int → Int × Int → Bool × Bool) : Int × (Int × Int) := seekP st 10 0 oneW 1024 halfW
theorem root_half : rootP 140737488355328 = 11863283 := by decide +kernel
/-- Whether a number lies behind a direction. -/
def behindP (x y : Int) (_ : Int) (w : Int × Int) : Bool × Bool := (decide (w.2 * x ≤ w.1 * y), false)
def lowP (x y : Int) : Int := if x = y then 512 else ((searchP (behindP x y)).1 + 1) / 2
def quadP (x y : Int) : Int := if x < y then 1024 - lowP y x else lowP x y
def upP (x y : Int) : Int := if x < 0 then 2048 - quadP (-x) y else quadP x y
def phP (x y : Int) : Int := if y < 0 then -upP x (-y) else upP x y
def phaseP (x y : Int) : Int := if phP x y < 2048 then phP x y else -2048
theorem seekP_bd (st : Int → Int × Int → Bool × Bool) : ∀ (f : Nat) (lo hi : Int) (a b : Int × Int), lo ≤ hi → lo ≤ (seekP st f lo a hi b).1 ∧ (seekP st f lo a hi b).1 ≤ hi
  | 0, lo, hi, a, b, h => by simp only [seekP]; omega
  | f + 1, lo, hi, a, b, h => by
    simp only [seekP]
    split
    · dsimp only; omega
    · split
      · have := seekP_bd st f ((lo + hi) / 2) hi (midP a b) b (by omega); omega
      · have := seekP_bd st f lo ((lo + hi) / 2) a (midP a b) (by omega); omega
theorem lowP_bd (x y : Int) : 0 ≤ lowP x y ∧ lowP x y ≤ 512 := by
  unfold lowP searchP
  have := seekP_bd (behindP x y) 10 0 1024 oneW halfW (by decide)
  split <;> omega
theorem quadP_bd (x y : Int) : 0 ≤ quadP x y ∧ quadP x y ≤ 1024 := by
  unfold quadP
  have := lowP_bd x y
  have := lowP_bd y x
  split <;> omega
theorem upP_bd (x y : Int) : 0 ≤ upP x y ∧ upP x y ≤ 2048 := by
  unfold upP
  have := quadP_bd x y
  have := quadP_bd (-x) y
  split <;> omega
theorem phP_bd (x y : Int) : -2048 ≤ phP x y ∧ phP x y ≤ 2048 := by
  unfold phP
  have := upP_bd x y
  have := upP_bd x (-y)
  split <;> omega
theorem phaseP_bd (x y : Int) : -2048 ≤ phaseP x y ∧ phaseP x y ≤ 2047 := by
  unfold phaseP
  have := phP_bd x y
  split <;> omega
end Go.Proofs.Ytcmjlfhnibjofaa

/- Chapter 1: the program's search and phases. -/
namespace Go.Proofs.Ytcmjlfhnibjofaa
set_option linter.unusedVariables false
set_option linter.unusedSimpArgs false
open Go.RowKit
set_option maxHeartbeats 1000000 in
theorem middle_any (a b : Int × Int) (w : World) (ha : WayOk a) (hb : WayOk b) :
    Calls Try.prog 203 #[.agg #[.int .i64 a.1, .int .i64 a.2], .agg #[.int .i64 b.1, .int .i64 b.2]] w fun e w' => e = .returned (.agg #[.int .i64 (midP a b).1, .int .i64 (midP a b).2]) ∧ Below w.heap.size w w' := by
  obtain ⟨⟨h1, h2⟩, h3, h4⟩ := sum_ok ha hb
  obtain ⟨⟨n1, n2⟩, r1, r2⟩ := norm_bd h1 h2 h3 h4
  obtain ⟨a1, a2⟩ := a
  obtain ⟨b1, b2⟩ := b
  obtain ⟨ha1, ha2, ha3, ha4⟩ := ha
  obtain ⟨hb1, hb2, hb3, hb4⟩ := hb
  dsimp only at h1 h2 h3 h4 n1 n2 r1 r2 ha1 ha2 ha3 ha4 hb1 hb2 hb3 hb4 ⊢
  unfold midP
  dsimp only
  obtain ⟨s1, s2⟩ := sq_bd (a1 + b1) 33554432 (by omega) h2
  obtain ⟨s3, s4⟩ := sq_bd (a2 + b2) 33554432 (by omega) (by omega)
  have HR := Lib.hid (fun w => root_any ((a1 + b1) * (a1 + b1) + (a2 + b2) * (a2 + b2)) w n2 (by omega))
  generalize rootP ((a1 + b1) * (a1 + b1) + (a2 + b2) * (a2 + b2)) = r at r1 r2 HR ⊢
  have d1 : 0 ≤ (a1 + b1) * 16777216 / r := Int.ediv_nonneg (by omega) (by omega)
  have d2 : (a1 + b1) * 16777216 / r ≤ (a1 + b1) * 16777216 := Int.ediv_le_self _ (by omega)
  have d3 : 0 ≤ (a2 + b2) * 16777216 / r := Int.ediv_nonneg (by omega) (by omega)
  have d4 : (a2 + b2) * 16777216 / r ≤ (a2 + b2) * 16777216 := Int.ediv_le_self _ (by omega)
  go_enter Try.func203, Try.ntmps203
  go_wp2
  go_region
  go_wp2_with (first | (go_at_call 202; (with_reducible refine (HR.out _).mono ?_); rintro e w' ⟨rfl, rfl⟩))
  go_region
  go_wp2
  refine bodyPost_ret ?_ rfl ⟨rfl, (by (repeat' (first | with_reducible exact Below.refl _ _ | (with_reducible refine below_later_of ?_ ?_ _) | (with_reducible refine Below.alloc ?_ ?_ _) | (with_reducible refine Below.setCell ?_ ?_ _) | (with_reducible refine Below.drew ?_) | (simp; done) | (simp; omega) | omega)))⟩
  first | (simp [results, Try.results203, go_sem]; done) | simp [results, Try.results203, go_sem, ↓IntWalk.iteOmega]
/-- Where the two parts of a number lie. -/
def XyAt (W : World) (X Y : Nat) (x y : Int) : Prop := W.cell? ⟨X, 0, none⟩ = some (.int .i64 x) ∧ W.cell? ⟨Y, 0, none⟩ = some (.int .i64 y)
theorem XyAt.below {W W' : World} {X Y C : Nat} {x y : Int} (h : XyAt W X Y x y) (hX : X < C) (hY : Y < C) (hb : Below C W W') : XyAt W' X Y x y := ⟨(hb.cell (p := ⟨X, 0, none⟩) hX).trans h.1, (hb.cell (p := ⟨Y, 0, none⟩) hY).trans h.2⟩
theorem way_mul {a x : Int} (h1 : 0 ≤ a) (h2 : a ≤ 16777216) (h3 : 0 ≤ x) (h4 : x ≤ 100000000000) : 0 ≤ a * x ∧ a * x ≤ 1677721600000000000 := by
  refine ⟨Int.mul_nonneg h1 h3, ?_⟩
  have := Int.mul_le_mul h2 h4 h3 (by omega)
  omega
set_option maxHeartbeats 1000000 in
theorem phase1 (X Y : Nat) (x y m : Int) (a : Int × Int) (w : World) (ha : WayOk a) (hxy : XyAt w X Y x y) (hX : X < w.heap.size) (hY : Y < w.heap.size) (h1 : 0 ≤ x) (h2 : x ≤ 100000000000) (h3 : 0 ≤ y) (h4 : y ≤ 100000000000) :
    Calls Try.prog 184 #[.int .i64 m, .agg #[.int .i64 a.1, .int .i64 a.2], .pointer (some ⟨Y, 0, none⟩), .pointer (some ⟨X, 0, none⟩)] w fun e w' => e = .returned (.tuple #[.bool (behindP x y m a).1, .bool (behindP x y m a).2]) ∧ Below w.heap.size w w' := by
  obtain ⟨a1, a2⟩ := a
  obtain ⟨ha1, ha2, ha3, ha4⟩ := ha
  obtain ⟨c1, c2⟩ := hxy
  dsimp only at ha1 ha2 ha3 ha4 ⊢
  obtain ⟨m1, m2⟩ := way_mul (a := a1) (x := y) (by omega) ha2 h3 h4
  obtain ⟨m3, m4⟩ := way_mul (a := a2) (x := x) ha3 (by omega) h1 h2
  unfold behindP
  dsimp only
  go_enter Try.func184, Try.ntmps184
  go_wp2
  go_ret2
  exact ⟨rfl, (by (repeat' (first | with_reducible exact Below.refl _ _ | (with_reducible refine below_later_of ?_ ?_ _) | (with_reducible refine Below.alloc ?_ ?_ _) | (with_reducible refine Below.setCell ?_ ?_ _) | (with_reducible refine Below.drew ?_) | (simp; done) | (simp; omega) | omega)))⟩
end Go.Proofs.Ytcmjlfhnibjofaa

/- Chapter 1: the program's search, with the closure of phase. -/
namespace Go.Proofs.Ytcmjlfhnibjofaa
set_option linter.unusedVariables false
set_option linter.unusedSimpArgs false
open Go.RowKit
/-- The directions of a search, as they lie in memory. -/
structure SeSt (w : World) (a b : Int × Int) (wr : World) : Prop where
  a0 : wr.cell? ⟨w.heap.size + 1, 0, none⟩ = some (.int .i64 a.1)
  a1 : wr.cell? ⟨w.heap.size + 1, 1, none⟩ = some (.int .i64 a.2)
  b0 : wr.cell? ⟨w.heap.size + 2, 0, none⟩ = some (.int .i64 b.1)
  b1 : wr.cell? ⟨w.heap.size + 2, 1, none⟩ = some (.int .i64 b.2)
  fa0 : wr.frozen? ⟨w.heap.size + 1, 0, none⟩ = false
  fa1 : wr.frozen? ⟨w.heap.size + 1, 1, none⟩ = false
  fb0 : wr.frozen? ⟨w.heap.size + 2, 0, none⟩ = false
  fb1 : wr.frozen? ⟨w.heap.size + 2, 1, none⟩ = false
  r0 : wr.cell? ⟨w.heap.size, 0, none⟩ = some (.int .i64 0)
  r1 : wr.cell? ⟨w.heap.size, 1, none⟩ = some (.int .i64 0)
  g0 : wr.frozen? ⟨w.heap.size, 0, none⟩ = false
  g1 : wr.frozen? ⟨w.heap.size, 1, none⟩ = false
  bel : Below w.heap.size w wr
  lt : w.heap.size + 2 < wr.heap.size
theorem SeSt.below {w wr W : World} {a b : Int × Int} (h : SeSt w a b wr) (hb : Below wr.heap.size wr W) : SeSt w a b W := by
  have hlt := h.lt
  have hs := hb.size
  have q1 : ∀ j, W.cell? ⟨w.heap.size, j, none⟩ = wr.cell? ⟨w.heap.size, j, none⟩ := fun j => hb.cell (p := ⟨w.heap.size, j, none⟩) (show w.heap.size < wr.heap.size by omega)
  have q2 : ∀ j, W.cell? ⟨w.heap.size + 1, j, none⟩ = wr.cell? ⟨w.heap.size + 1, j, none⟩ := fun j => hb.cell (p := ⟨w.heap.size + 1, j, none⟩) (show w.heap.size + 1 < wr.heap.size by omega)
  have q3 : ∀ j, W.cell? ⟨w.heap.size + 2, j, none⟩ = wr.cell? ⟨w.heap.size + 2, j, none⟩ := fun j => hb.cell (p := ⟨w.heap.size + 2, j, none⟩) hlt
  have f1 : ∀ j, W.frozen? ⟨w.heap.size, j, none⟩ = wr.frozen? ⟨w.heap.size, j, none⟩ := fun j => hb.frozen (p := ⟨w.heap.size, j, none⟩) (show w.heap.size < wr.heap.size by omega)
  have f2 : ∀ j, W.frozen? ⟨w.heap.size + 1, j, none⟩ = wr.frozen? ⟨w.heap.size + 1, j, none⟩ := fun j => hb.frozen (p := ⟨w.heap.size + 1, j, none⟩) (show w.heap.size + 1 < wr.heap.size by omega)
  have f3 : ∀ j, W.frozen? ⟨w.heap.size + 2, j, none⟩ = wr.frozen? ⟨w.heap.size + 2, j, none⟩ := fun j => hb.frozen (p := ⟨w.heap.size + 2, j, none⟩) hlt
  exact ⟨(q2 0).trans h.a0, (q2 1).trans h.a1, (q3 0).trans h.b0, (q3 1).trans h.b1, (f2 0).trans h.fa0, (f2 1).trans h.fa1, (f3 0).trans h.fb0, (f3 1).trans h.fb1, (q1 0).trans h.r0, (q1 1).trans h.r1, (f1 0).trans h.g0, (f1 1).trans h.g1, h.bel.trans (hb.mono (by omega)), by omega⟩
theorem SeSt.putA {w wr : World} {a b : Int × Int} (h : SeSt w a b wr) (c : Int × Int) : SeSt w c b ((wr.setCell ⟨w.heap.size + 1, 0, none⟩ (.int .i64 c.1)).setCell ⟨w.heap.size + 1, 1, none⟩ (.int .i64 c.2)) := by
  obtain ⟨a0, a1, b0, b1, fa0, fa1, fb0, fb1, r0, r1, g0, g1, bel, lt⟩ := h
  refine ⟨?_, ?_, ?_, ?_, ?_, ?_, ?_, ?_, ?_, ?_, ?_, ?_, (bel.setCell (Nat.le_add_right _ 1) _).setCell (Nat.le_add_right _ 1) _, by simpa using lt⟩ <;> simp [go_sem, a0, a1, b0, b1, fa0, fa1, fb0, fb1, r0, r1, g0, g1]
theorem SeSt.putB {w wr : World} {a b : Int × Int} (h : SeSt w a b wr) (c : Int × Int) : SeSt w a c ((wr.setCell ⟨w.heap.size + 2, 0, none⟩ (.int .i64 c.1)).setCell ⟨w.heap.size + 2, 1, none⟩ (.int .i64 c.2)) := by
  obtain ⟨a0, a1, b0, b1, fa0, fa1, fb0, fb1, r0, r1, g0, g1, bel, lt⟩ := h
  refine ⟨?_, ?_, ?_, ?_, ?_, ?_, ?_, ?_, ?_, ?_, ?_, ?_, (bel.setCell (Nat.le_add_right _ 2) _).setCell (Nat.le_add_right _ 2) _, by simpa using lt⟩ <;> simp [go_sem, a0, a1, b0, b1, fa0, fa1, fb0, fb1, r0, r1, g0, g1]
theorem wp_worldS {P : Program} {c : Code} {Q : Exit → Act → World → Prop} {a : Act} {w : World} (F : World → Prop) (hf : F w) (h : ∀ W, F W → Code.wp P c Q a W) : Code.wp P c Q a w := h w hf
set_option maxRecDepth 20000 in
set_option maxHeartbeats 2000000 in
theorem search_phase (X Y : Nat) (x y : Int) (w : World) (hxy : XyAt w X Y x y) (hX : X < w.heap.size) (hY : Y < w.heap.size) (h1 : 0 ≤ x) (h2 : x ≤ 100000000000) (h3 : 0 ≤ y) (h4 : y ≤ 100000000000) :
    Calls Try.prog 183 #[.func (.func 184) #[] #[.pointer (some ⟨Y, 0, none⟩), .pointer (some ⟨X, 0, none⟩)]] w fun e w' => e = .returned (.tuple #[.int .i64 (searchP (behindP x y)).1, .agg #[.int .i64 (searchP (behindP x y)).2.1, .int .i64 (searchP (behindP x y)).2.2]]) ∧ Below w.heap.size w w' := by
  have HXY := Lib.hid hxy
  have HR := Lib.hid (show ∀ w, Calls Try.prog 202 #[.int .i64 140737488355328] w fun e w' => e = .returned (.int .i64 11863283) ∧ w = w' from fun w => by
    have := root_any 140737488355328 w (by decide) (by decide)
    rwa [root_half] at this)
  have HB := Lib.hid (show ∀ m a, (behindP x y m a).2 = false from fun _ _ => rfl)
  have HCL := Lib.hid (show ∀ W, Below w.heap.size w W → ∀ m a, WayOk a → _ from fun W hW m a ha => phase1 X Y x y m a W ha (hxy.below hX hY hW) (by have := hW.size; omega) (by have := hW.size; omega) h1 h2 h3 h4)
  generalize behindP x y = st at HB HCL ⊢
  clear hxy HXY
  go_enter Try.func183, Try.ntmps183
  go_wp2_with (first | (go_at_call 202; (with_reducible refine (HR.out _).mono ?_); rintro e w' ⟨rfl, rfl⟩))
  refine wp_worldS (fun W => SeSt w oneW halfW W) ⟨by simp [go_sem, oneW], by simp [go_sem, oneW], by simp [go_sem, halfW], by simp [go_sem, halfW], by simp [go_sem], by simp [go_sem], by simp [go_sem], by simp [go_sem], by simp [go_sem], by simp [go_sem], by simp [go_sem], by simp [go_sem], (by (repeat' (first | with_reducible exact Below.refl _ _ | (with_reducible refine below_later_of ?_ ?_ _) | (with_reducible refine Below.alloc ?_ ?_ _) | (with_reducible refine Below.setCell ?_ ?_ _) | (with_reducible refine Below.drew ?_) | (simp; done) | (simp; omega) | omega))), by simp⟩ ?_
  rintro W2 hst
  have HST := Lib.hid hst
  clear hst
  go_loopw [4, 5] (fun i j wr => ∃ (f : Nat) (l h : Int) (a b : Int × Int), i = .int .i64 l ∧ j = .int .i64 h ∧ h = l + 2 ^ f ∧ 0 ≤ l ∧ h ≤ 1024 ∧ WayOk a ∧ WayOk b ∧ SeSt w a b wr ∧ seekP st f l a h b = searchP st) (fun i j _ => (intOf j).toNat - (intOf i).toNat)
  case atStart => exact ⟨10, 0, 1024, oneW, halfW, rfl, rfl, rfl, by decide, by decide, one_ok, half_ok, HST.out, rfl⟩
  case round =>
    obtain ⟨f, l, h, a, b, rfl, rfl, hd, l0, hh, ha, hb, hst, hsk⟩ := hrel
    have HS := Lib.hid hst
    cases f with
    | zero =>
      have hdl : decide ((1 : Int) < h - l) = false := by simp at hd ⊢; omega
      simp only [seekP] at hsk
      have HK := Lib.hid hsk
      obtain ⟨a0, a1, b0, b1, fa0, fa1, fb0, fb1, r0, r1, g0, g1, bel, lt⟩ := hst
      clear hsk
      go_wp2
      go_region
      go_wp2
      refine bodyPost_ret ?_ rfl ⟨by rw [← HK.out], bel.trans (by (repeat' (first | with_reducible exact Below.refl _ _ | (with_reducible refine below_later_of ?_ ?_ _) | (with_reducible refine Below.alloc ?_ ?_ _) | (with_reducible refine Below.setCell ?_ ?_ _) | (with_reducible refine Below.drew ?_) | (simp; done) | (simp; omega) | omega)))⟩
      first | (simp [results, Try.results183, go_sem, r0, r1]; done) | simp [results, Try.results183, go_sem, r0, r1, ↓IntWalk.iteOmega]
    | succ f =>
      have hp : (0 : Int) < 2 ^ f := Int.pow_pos (by omega)
      have hpp : (2 : Int) ^ (f + 1) = 2 ^ f + 2 ^ f := by rw [Int.pow_succ]; omega
      rw [hpp] at hd
      obtain ⟨P, hP⟩ : ∃ P : Int, 2 ^ f = P := ⟨_, rfl⟩
      rw [hP] at hp hd
      obtain ⟨m, hm⟩ : ∃ m, (l + h) / 2 = m := ⟨_, rfl⟩
      have m1 : l < m := by omega
      have m2 : m < h := by omega
      have HME := Lib.hid (show m = l + P ∧ h = l + (P + P) by omega)
      have hdl : decide ((1 : Int) < h - l) = true := by simp; omega
      simp only [seekP] at hsk
      rw [HB.out, hm] at hsk
      have hmo := mid_ok ha hb
      have HM := Lib.hid (fun W => middle_any a b W ha hb)
      have HC := Lib.hid (show ∀ W, Below wr.heap.size wr W → _ from fun W hW => HCL.out W (hst.bel.trans (hW.mono hst.bel.size)) m (midP a b) hmo)
      rw [HB.out] at HC
      have HK := Lib.hid hsk
      have HPP := Lib.hid hP
      have HA := Lib.hid ha
      have HB2 := Lib.hid hb
      have HMO := Lib.hid hmo
      obtain ⟨c, hc⟩ : ∃ c, midP a b = c := ⟨_, rfl⟩
      obtain ⟨t, ht⟩ : ∃ t, (st m c).1 = t := ⟨_, rfl⟩
      rw [hc] at HM HC HK HMO
      rw [ht] at HC HK
      clear hsk hP hc ht hmo ha hb hd hp hpp
      rcases (show t = false ∨ t = true by cases t <;> simp) with rfl | rfl
      · obtain ⟨a0, a1, b0, b1, fa0, fa1, fb0, fb1, r0, r1, g0, g1, bel, lt⟩ := hst
        go_wp2_with (first | (go_at_call 203; (with_reducible refine (HM.out _).mono ?_); rintro e w' ⟨rfl, hb⟩; obtain ⟨p1, rfl⟩ := later_of_below hb; clear hb) | (go_at_call 184; (with_reducible refine (HC.out _ (by (repeat' (first | with_reducible exact Below.refl _ _ | (with_reducible refine below_later_of ?_ ?_ _) | (with_reducible refine Below.alloc ?_ ?_ _) | (with_reducible refine Below.setCell ?_ ?_ _) | (with_reducible refine Below.drew ?_) | (simp; done) | (simp; omega) | omega)))).mono ?_); rintro e w' ⟨rfl, hb⟩; obtain ⟨p2, rfl⟩ := later_of_below hb; clear hb))
        refine wp_worldS (fun W => SeSt w a b W ∧ W.cell? ⟨wr.heap.size + p1.os.size, 0, none⟩ = some (.int .i64 c.1) ∧ W.cell? ⟨wr.heap.size + p1.os.size, 1, none⟩ = some (.int .i64 c.2) ∧ w.heap.size + 2 < wr.heap.size + p1.os.size) ⟨HS.out.below (by (repeat' (first | with_reducible exact Below.refl _ _ | (with_reducible refine below_later_of ?_ ?_ _) | (with_reducible refine Below.alloc ?_ ?_ _) | (with_reducible refine Below.setCell ?_ ?_ _) | (with_reducible refine Below.drew ?_) | (simp; done) | (simp; omega) | omega))), by simp [go_sem], by simp [go_sem], by omega⟩ ?_
        rintro W3 ⟨hst3, c0, c1, hlt3⟩
        have HS3 := Lib.hid hst3
        clear a0 a1 b0 b1 fa0 fa1 fb0 fb1 r0 r1 g0 g1 bel lt
        obtain ⟨a0, a1, b0, b1, fa0, fa1, fb0, fb1, r0, r1, g0, g1, bel, lt⟩ := hst3
        go_region
        go_wp2
        go_roundw
        case rel => exact ⟨f, l, m, a, c, rfl, rfl, by have := HME.out; have := HPP.out; omega, l0, by omega, HA.out, HMO.out, (HS3.out.putB c).below (Below.drew (Below.refl _ _)), by simpa using HK.out⟩
        case measure => simp [intOf]; omega
      · obtain ⟨a0, a1, b0, b1, fa0, fa1, fb0, fb1, r0, r1, g0, g1, bel, lt⟩ := hst
        go_wp2_with (first | (go_at_call 203; (with_reducible refine (HM.out _).mono ?_); rintro e w' ⟨rfl, hb⟩; obtain ⟨p1, rfl⟩ := later_of_below hb; clear hb) | (go_at_call 184; (with_reducible refine (HC.out _ (by (repeat' (first | with_reducible exact Below.refl _ _ | (with_reducible refine below_later_of ?_ ?_ _) | (with_reducible refine Below.alloc ?_ ?_ _) | (with_reducible refine Below.setCell ?_ ?_ _) | (with_reducible refine Below.drew ?_) | (simp; done) | (simp; omega) | omega)))).mono ?_); rintro e w' ⟨rfl, hb⟩; obtain ⟨p2, rfl⟩ := later_of_below hb; clear hb))
        refine wp_worldS (fun W => SeSt w a b W ∧ W.cell? ⟨wr.heap.size + p1.os.size, 0, none⟩ = some (.int .i64 c.1) ∧ W.cell? ⟨wr.heap.size + p1.os.size, 1, none⟩ = some (.int .i64 c.2) ∧ w.heap.size + 2 < wr.heap.size + p1.os.size) ⟨HS.out.below (by (repeat' (first | with_reducible exact Below.refl _ _ | (with_reducible refine below_later_of ?_ ?_ _) | (with_reducible refine Below.alloc ?_ ?_ _) | (with_reducible refine Below.setCell ?_ ?_ _) | (with_reducible refine Below.drew ?_) | (simp; done) | (simp; omega) | omega))), by simp [go_sem], by simp [go_sem], by omega⟩ ?_
        rintro W3 ⟨hst3, c0, c1, hlt3⟩
        have HS3 := Lib.hid hst3
        clear a0 a1 b0 b1 fa0 fa1 fb0 fb1 r0 r1 g0 g1 bel lt
        obtain ⟨a0, a1, b0, b1, fa0, fa1, fb0, fb1, r0, r1, g0, g1, bel, lt⟩ := hst3
        go_region
        go_wp2
        go_roundw
        case rel => exact ⟨f, m, h, c, b, rfl, rfl, by have := HME.out; have := HPP.out; omega, by omega, hh, HMO.out, HB2.out, (HS3.out.putA c).below (Below.drew (Below.refl _ _)), by simpa using HK.out⟩
        case measure => simp [intOf]; omega
end Go.Proofs.Ytcmjlfhnibjofaa

/- Chapter 1: phase, phaseOf, PhaseOf. -/
namespace Go.Proofs.Ytcmjlfhnibjofaa
set_option linter.unusedVariables false
set_option linter.unusedSimpArgs false
open Go.RowKit
set_option maxHeartbeats 1000000 in
theorem phase_low (x y : Int) (w : World) (h0 : 0 ≤ x) (hx : x ≤ 100000000000) (h1 : 0 ≤ y) (h2 : y ≤ x) :
    Calls Try.prog 135 #[.int .i64 x, .int .i64 y] w fun e w' => e = .returned (.int .i64 (lowP x y)) ∧ Below w.heap.size w w' := by
  have d1 : decide (y < 0) = false := by simp; omega
  have d2 : decide (x < 0) = false := by simp; omega
  have d3 : decide (x < y) = false := by simp; omega
  by_cases he : x = y
  · have HF := Lib.hid (show (512 : Int) = lowP x y by unfold lowP; rw [if_pos he])
    have d4 : (x == y) = true := by simpa using he
    clear he
    go_enter Try.func135, Try.ntmps135
    go_wp2
    go_ret
    exact ⟨ret_intE HF.out, (by (repeat' (first | with_reducible exact Below.refl _ _ | (with_reducible refine below_later_of ?_ ?_ _) | (with_reducible refine Below.alloc ?_ ?_ _) | (with_reducible refine Below.setCell ?_ ?_ _) | (with_reducible refine Below.drew ?_) | (simp; done) | (simp; omega) | omega)))⟩
  · have HF := Lib.hid (show ((searchP (behindP x y)).1 + 1) / 2 = lowP x y by unfold lowP; rw [if_neg he])
    have d4 : (x == y) = false := by simpa using he
    have hbd := seekP_bd (behindP x y) 10 0 1024 oneW halfW (by decide)
    have hb1 : 0 ≤ (searchP (behindP x y)).1 := hbd.1
    have hb2 : (searchP (behindP x y)).1 ≤ 1024 := hbd.2
    have HSE := Lib.hid (show ∀ W : World, W.cell? ⟨w.heap.size, 0, none⟩ = some (.int .i64 x) → W.cell? ⟨w.heap.size + 1, 0, none⟩ = some (.int .i64 y) → w.heap.size + 1 < W.heap.size → _ from fun W c0 c1 hs => search_phase w.heap.size (w.heap.size + 1) x y W ⟨c0, c1⟩ (by omega) hs h0 hx h1 (by omega))
    clear he hbd
    go_enter Try.func135, Try.ntmps135
    go_wp2_with (first | (go_at_call 183; (with_reducible refine (HSE.out _ (by simp [go_sem]) (by simp [go_sem]) (by simp <;> omega)).mono ?_); rintro e w' ⟨rfl, hb⟩; obtain ⟨p1, rfl⟩ := later_of_below hb; clear hb))
    go_ret
    exact ⟨ret_intE HF.out, (by (repeat' (first | with_reducible exact Below.refl _ _ | (with_reducible refine below_later_of ?_ ?_ _) | (with_reducible refine Below.alloc ?_ ?_ _) | (with_reducible refine Below.setCell ?_ ?_ _) | (with_reducible refine Below.drew ?_) | (simp; done) | (simp; omega) | omega)))⟩
set_option maxHeartbeats 1000000 in
theorem phase_quad (x y : Int) (w : World) (h0 : 0 ≤ x) (hx : x ≤ 100000000000) (h1 : 0 ≤ y) (hy : y ≤ 100000000000) :
    Calls Try.prog 135 #[.int .i64 x, .int .i64 y] w fun e w' => e = .returned (.int .i64 (quadP x y)) ∧ Below w.heap.size w w' := by
  by_cases hc : x < y
  · have HQ := Lib.hid (fun w => phase_low y x w h1 hy h0 (by omega))
    have HF := Lib.hid (show 1024 - lowP y x = quadP x y by unfold quadP; rw [if_pos hc])
    obtain ⟨b1, b2⟩ := lowP_bd y x
    have d1 : decide (y < 0) = false := by simp; omega
    have d2 : decide (x < 0) = false := by simp; omega
    have d3 : decide (x < y) = true := by simp; omega
    generalize lowP y x = q at b1 b2 HQ HF
    clear hc
    go_enter Try.func135, Try.ntmps135
    go_wp2_with (first | (go_at_call 135; (with_reducible refine (HQ.out _).mono ?_); rintro e w' ⟨rfl, hb⟩; obtain ⟨p1, rfl⟩ := later_of_below hb; clear hb))
    go_ret
    exact ⟨ret_intE HF.out, (by (repeat' (first | with_reducible exact Below.refl _ _ | (with_reducible refine below_later_of ?_ ?_ _) | (with_reducible refine Below.alloc ?_ ?_ _) | (with_reducible refine Below.setCell ?_ ?_ _) | (with_reducible refine Below.drew ?_) | (simp; done) | (simp; omega) | omega)))⟩
  · have := phase_low x y w h0 hx h1 (by omega)
    unfold quadP
    rwa [if_neg hc]
set_option maxHeartbeats 1000000 in
theorem phase_up (x y : Int) (w : World) (h0 : -100000000000 ≤ x) (hx : x ≤ 100000000000) (h1 : 0 ≤ y) (hy : y ≤ 100000000000) :
    Calls Try.prog 135 #[.int .i64 x, .int .i64 y] w fun e w' => e = .returned (.int .i64 (upP x y)) ∧ Below w.heap.size w w' := by
  by_cases hc : x < 0
  · have HQ := Lib.hid (fun w => phase_quad (-x) y w (by omega) (by omega) h1 hy)
    have HF := Lib.hid (show 2048 - quadP (-x) y = upP x y by unfold upP; rw [if_pos hc])
    obtain ⟨b1, b2⟩ := quadP_bd (-x) y
    have d1 : decide (y < 0) = false := by simp; omega
    have d2 : decide (x < 0) = true := by simp; omega
    generalize quadP (-x) y = q at b1 b2 HQ HF
    clear hc
    go_enter Try.func135, Try.ntmps135
    go_wp2_with (first | (go_at_call 135; (with_reducible refine (HQ.out _).mono ?_); rintro e w' ⟨rfl, hb⟩; obtain ⟨p1, rfl⟩ := later_of_below hb; clear hb))
    go_ret
    exact ⟨ret_intE HF.out, (by (repeat' (first | with_reducible exact Below.refl _ _ | (with_reducible refine below_later_of ?_ ?_ _) | (with_reducible refine Below.alloc ?_ ?_ _) | (with_reducible refine Below.setCell ?_ ?_ _) | (with_reducible refine Below.drew ?_) | (simp; done) | (simp; omega) | omega)))⟩
  · have := phase_quad x y w (by omega) hx h1 hy
    unfold upP
    rwa [if_neg hc]
set_option maxHeartbeats 1000000 in
theorem phase_any (x y : Int) (w : World) (h0 : -100000000000 ≤ x) (hx : x ≤ 100000000000) (h1 : -100000000000 ≤ y) (hy : y ≤ 100000000000) :
    Calls Try.prog 135 #[.int .i64 x, .int .i64 y] w fun e w' => e = .returned (.int .i64 (phP x y)) ∧ Below w.heap.size w w' := by
  by_cases hc : y < 0
  · have HQ := Lib.hid (fun w => phase_up x (-y) w h0 hx (by omega) (by omega))
    have HF := Lib.hid (show -upP x (-y) = phP x y by unfold phP; rw [if_pos hc])
    obtain ⟨b1, b2⟩ := upP_bd x (-y)
    have d1 : decide (y < 0) = true := by simp; omega
    generalize upP x (-y) = q at b1 b2 HQ HF
    clear hc
    go_enter Try.func135, Try.ntmps135
    go_wp2_with (first | (go_at_call 135; (with_reducible refine (HQ.out _).mono ?_); rintro e w' ⟨rfl, hb⟩; obtain ⟨p1, rfl⟩ := later_of_below hb; clear hb))
    go_ret
    exact ⟨ret_intE HF.out, (by (repeat' (first | with_reducible exact Below.refl _ _ | (with_reducible refine below_later_of ?_ ?_ _) | (with_reducible refine Below.alloc ?_ ?_ _) | (with_reducible refine Below.setCell ?_ ?_ _) | (with_reducible refine Below.drew ?_) | (simp; done) | (simp; omega) | omega)))⟩
  · have := phase_up x y w h0 hx (by omega) hy
    unfold phP
    rwa [if_neg hc]
theorem flI_double {b : Nat} {n : Int} (h : FNum Ieee.double b n) (h1 : -9000000000000000000 ≤ n) (h2 : n ≤ 9000000000000000000) : FlI .f64 200 b n := fun w => by
  refine run_convert_float_int (P := Try.prog) w 200 3 .f64 .i64 b n (by kernel_rfl) Try.underlying3 ?_
  have : (FloatKind.f64.decode b).toInt .zero = some n := fnum_toInt h
  unfold floatToIntVal
  rw [this]
  dsimp only
  rw [if_pos]
  show (-9223372036854775808 : Int) ≤ _ ∧ _ ≤ (9223372036854775807 : Int)
  omega
set_option maxHeartbeats 1000000 in
theorem phaseOf_any (a b : Nat) (x y : Int) (w : World) (ha : FNum Ieee.double a x) (hb : FNum Ieee.double b y) (h0 : -100000000000 ≤ x) (hx : x ≤ 100000000000) (h1 : -100000000000 ≤ y) (hy : y ≤ 100000000000) :
    Calls Try.prog 74 #[.complex .f64 a b] w fun e w' => e = .returned (.int .i64 (phaseP x y)) ∧ Below w.heap.size w w' := by
  have fx := flI_double ha (by omega) (by omega)
  have fy := flI_double hb (by omega) (by omega)
  unfold FlI at fx fy
  have HQ := Lib.hid (fun w => phase_any x y w h0 hx h1 hy)
  obtain ⟨b1, b2⟩ := phP_bd x y
  by_cases hc : phP x y < 2048
  · have HF := Lib.hid (show phP x y = phaseP x y by unfold phaseP; rw [if_pos hc])
    have d1 : decide (phP x y < 2048) = true := by simpa using hc
    generalize phP x y = q at b1 b2 HQ HF d1
    clear hc
    go_enter Try.func74, Try.ntmps74
    go_wp2_with (first | (go_at_call 135; (with_reducible refine (HQ.out _).mono ?_); rintro e w' ⟨rfl, hb⟩; obtain ⟨p1, rfl⟩ := later_of_below hb; clear hb))
    go_ret
    exact ⟨ret_intE HF.out, (by (repeat' (first | with_reducible exact Below.refl _ _ | (with_reducible refine below_later_of ?_ ?_ _) | (with_reducible refine Below.alloc ?_ ?_ _) | (with_reducible refine Below.setCell ?_ ?_ _) | (with_reducible refine Below.drew ?_) | (simp; done) | (simp; omega) | omega)))⟩
  · have HF := Lib.hid (show -2048 = phaseP x y by unfold phaseP; rw [if_neg hc])
    have d1 : decide (phP x y < 2048) = false := by simpa using hc
    generalize phP x y = q at b1 b2 HQ d1
    clear hc
    go_enter Try.func74, Try.ntmps74
    go_wp2_with (first | (go_at_call 135; (with_reducible refine (HQ.out _).mono ?_); rintro e w' ⟨rfl, hb⟩; obtain ⟨p1, rfl⟩ := later_of_below hb; clear hb))
    go_ret
    exact ⟨ret_intE HF.out, (by (repeat' (first | with_reducible exact Below.refl _ _ | (with_reducible refine below_later_of ?_ ?_ _) | (with_reducible refine Below.alloc ?_ ?_ _) | (with_reducible refine Below.setCell ?_ ?_ _) | (with_reducible refine Below.drew ?_) | (simp; done) | (simp; omega) | omega)))⟩
theorem num_maxSum : FNum Ieee.double 4771362005757984768 100000000000 := ⟨false, 6553600000000000, -16, 100000000000, by decide, by unfold Mag; decide, by decide⟩
theorem zero_double : FNum Ieee.double 0 0 := ⟨false, 0, -1074, 0, by decide, by unfold Mag; rw [Nat.zero_mul, Nat.zero_mul], rfl⟩
/-- What PhaseOf answers: the phase, the error. -/
def phE (a b : Nat) : Int := if partD a b 100000000000 = 0 then (if intD a = 0 ∧ intD b = 0 then 31 else 0) else partD a b 100000000000
def phV (a b : Nat) : Int := if phE a b = 0 then phaseP (intD a) (intD b) else 0
set_option maxHeartbeats 1000000 in
theorem PhaseOf_any (a b : Nat) (w : World) (la : a < 2 ^ 64) (lb : b < 2 ^ 64) {v e0 : Int} (hv : phV a b = v) (he : phE a b = e0) :
    Calls Try.prog 89 #[.complex .f64 a b] w fun e w' => e = .returned (.tuple #[.int .i64 v, .int .i64 e0]) ∧ Below w.heap.size w w' := by
  have HP := Lib.hid (fun w => partErrD_any a b _ num_maxSum la lb w)
  by_cases hp : partD a b 100000000000 = 0
  · obtain ⟨⟨g1, g2, g3⟩, g4, g5, g6⟩ := partD_ok hp
    have z1 : (FloatKind.f64.format.order a 0 == some Ordering.eq) = decide (intD a = 0) := by
      rw [show FloatKind.f64.format.order a 0 = some (compare (intD a) 0) from order_num _ g1 zero_double, beq_eq_iff]
    have z2 : (FloatKind.f64.format.order b 0 == some Ordering.eq) = decide (intD b = 0) := by
      rw [show FloatKind.f64.format.order b 0 = some (compare (intD b) 0) from order_num _ g4 zero_double, beq_eq_iff]
    rw [hp] at HP
    have HQ := Lib.hid (fun w => phaseOf_any a b (intD a) (intD b) w g1 g4 g2 g3 g5 g6)
    by_cases h0 : intD a = 0 ∧ intD b = 0
    · obtain rfl : e0 = 31 := by rw [← he]; unfold phE; rw [if_pos hp, if_pos h0]
      obtain rfl : v = 0 := by rw [← hv]; unfold phV; rw [he, if_neg (by decide)]
      rw [h0.1] at z1
      rw [h0.2] at z2
      simp only [decide_true] at z1 z2
      clear hp h0 he hv HQ g1 g2 g3 g4 g5 g6
      go_enter Try.func89, Try.ntmps89
      go_wp2_with (first | (go_at_call 146; (with_reducible refine (HP.out _).mono ?_); rintro e w' ⟨rfl, hb⟩; obtain ⟨p2, rfl⟩ := later_of_below hb; clear hb))
      go_ret2
      exact ⟨rfl, (by (repeat' (first | with_reducible exact Below.refl _ _ | (with_reducible refine below_later_of ?_ ?_ _) | (with_reducible refine Below.alloc ?_ ?_ _) | (with_reducible refine Below.setCell ?_ ?_ _) | (with_reducible refine Below.drew ?_) | (simp; done) | (simp; omega) | omega)))⟩
    · obtain rfl : e0 = 0 := by rw [← he]; unfold phE; rw [if_pos hp, if_neg h0]
      obtain rfl : v = phaseP (intD a) (intD b) := by rw [← hv]; unfold phV; rw [he, if_pos rfl]
      have hz : ((FloatKind.f64.format.order a 0 == some Ordering.eq) && (FloatKind.f64.format.order b 0 == some Ordering.eq)) = false := by
        rw [z1, z2]; simpa using h0
      generalize phaseP (intD a) (intD b) = q at HQ ⊢
      clear hp h0 he hv z1 z2 g1 g2 g3 g4 g5 g6
      go_enter Try.func89, Try.ntmps89
      go_wp2_with (first | (go_at_call 146; (with_reducible refine (HP.out _).mono ?_); rintro e w' ⟨rfl, hb⟩; obtain ⟨p2, rfl⟩ := later_of_below hb; clear hb) | (go_at_call 74; (with_reducible refine (HQ.out _).mono ?_); rintro e w' ⟨rfl, hb⟩; obtain ⟨p1, rfl⟩ := later_of_below hb; clear hb))
      go_ret2
      exact ⟨rfl, (by (repeat' (first | with_reducible exact Below.refl _ _ | (with_reducible refine below_later_of ?_ ?_ _) | (with_reducible refine Below.alloc ?_ ?_ _) | (with_reducible refine Below.setCell ?_ ?_ _) | (with_reducible refine Below.drew ?_) | (simp; done) | (simp; omega) | omega)))⟩
  · obtain rfl : e0 = partD a b 100000000000 := by rw [← he]; unfold phE; rw [if_neg hp]
    obtain rfl : v = 0 := by rw [← hv]; unfold phV; rw [he, if_neg hp]
    have hne : (partD a b 100000000000 != 0) = true := by simpa using hp
    generalize partD a b 100000000000 = q at HP hne ⊢
    clear hp he hv
    go_enter Try.func89, Try.ntmps89
    go_wp2_with (first | (go_at_call 146; (with_reducible refine (HP.out _).mono ?_); rintro e w' ⟨rfl, hb⟩; obtain ⟨p2, rfl⟩ := later_of_below hb; clear hb))
    go_ret2
    exact ⟨rfl, (by (repeat' (first | with_reducible exact Below.refl _ _ | (with_reducible refine below_later_of ?_ ?_ _) | (with_reducible refine Below.alloc ?_ ?_ _) | (with_reducible refine Below.setCell ?_ ?_ _) | (with_reducible refine Below.drew ?_) | (simp; done) | (simp; omega) | omega)))⟩
end Go.Proofs.Ytcmjlfhnibjofaa
