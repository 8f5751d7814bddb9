import Derived.Test.YtakohhlmomgegaaDoorProg
import Derived.Test.YtakohhlmomgegaaDoorZL
import Derived.Test.YtakohhlmomgegaaDoorZU
import Derived.WalkKit
import Derived.Lib.Hide
import Derived.Below
import Derived.Maps.AppendAt
import Derived.Deep.AppendLies
import Derived.Deep.CutRange
import Derived.RegionTactic
import Derived.ChangeAlike
import Derived.BigRegion
import Derived.Deep.RegionHeld3
/- Chapter 1: powers modulo the prime, the roots, the inverses. -/
namespace Go.Proofs.YtakohhlmomgegaaDoor
set_option linter.unusedVariables false
set_option linter.unusedSimpArgs false
open Go.RowKit Ntt
theorem ret_intE {k : IntKind} {a b : Int} (h : a = b) : Ending.returned (.int k a) = .returned (.int k b) := by rw [h]
theorem pp_mul {a b : Int} (h1 : 0 ≤ a) (h2 : a < 998244353) (k1 : 0 ≤ b) (k2 : b < 998244353) : 0 ≤ a * b ∧ a * b ≤ 996491788296388609 := by
  refine ⟨Int.mul_nonneg h1 k1, ?_⟩
  have := Int.mul_le_mul (show a ≤ 998244353 by omega) (show b ≤ 998244353 by omega) k1 (by decide)
  omega
theorem powF_zero (f : Nat) (a out : Int) : powF f a 0 out = out := by cases f <;> simp [powF]
set_option maxHeartbeats 1000000 in
theorem power_any (a : Int) (n : Nat) (w : World) (h1 : 0 ≤ a) (h2 : a < 998244353) (hn : n < 2147483648) :
    Calls Tryd.prog 138 #[.int .i64 a, .int .i64 n] w fun e w' => e = .returned (.int .i64 (powM a n)) ∧ w = w' := by
  go_enter Tryd.func138, Tryd.ntmps138
  go_wp2
  go_loop [0, 1, 5] (fun x m o => ∃ (f m' : Nat) (x' o' : Int), x = .int .i64 x' ∧ m = .int .i64 m' ∧ o = .int .i64 o' ∧ m' < 2 ^ f ∧ m' < 2147483648 ∧ 0 ≤ x' ∧ x' < 998244353 ∧ 0 ≤ o' ∧ o' < 998244353 ∧ powF f x' m' o' = powM a n) (fun _ m _ => (intOf m).toNat)
  case atStart => exact ⟨31, n, a, 1, rfl, rfl, rfl, by simpa using hn, hn, h1, h2, by decide, by decide, rfl⟩
  case round =>
    obtain ⟨f, m, x, o, rfl, rfl, rfl, hf, hm, x1, x2, o1, o2, hp⟩ := hrel
    by_cases h0 : 0 < m
    · cases f with
      | zero => simp at hf; omega
      | succ f =>
        obtain ⟨m1, m2⟩ := pp_mul x1 x2 x1 x2
        obtain ⟨m3, m4⟩ := pp_mul o1 o2 x1 x2
        unfold powF at hp
        rw [if_neg (by omega)] at hp
        have hd : decide ((0 : Int) < (m : Int)) = true := by simp; omega
        have hf2 : m / 2 < 2 ^ f := by rw [Nat.pow_succ] at hf; omega
        have q1 := Int.emod_nonneg (x * x) (show (998244353 : Int) ≠ 0 by decide)
        have q2 := Int.emod_lt_of_pos (x * x) (show (0 : Int) < 998244353 by decide)
        have q3 := Int.emod_nonneg (o * x) (show (998244353 : Int) ≠ 0 by decide)
        have q4 := Int.emod_lt_of_pos (o * x) (show (0 : Int) < 998244353 by decide)
        have HF := Lib.hid hf2
        clear hf2 hf
        by_cases ho : m % 2 = 1
        · rw [if_pos ho] at hp
          have hb : ((m : Int) % 2 == 1) = true := by simp; omega
          have HP := Lib.hid hp
          clear hp ho
          go_wp2
          go_round
          case rel => exact ⟨f, m / 2, x * x % 998244353, o * x % 998244353, rfl, by first | rfl | simp, rfl, HF.out, by omega, q1, q2, q3, q4, HP.out⟩
          case measure => simp [intOf]; omega
        · rw [if_neg ho] at hp
          have hb : ((m : Int) % 2 == 1) = false := by simp; omega
          have HP := Lib.hid hp
          clear hp ho
          go_wp2
          go_round
          case rel => exact ⟨f, m / 2, x * x % 998244353, o, rfl, by first | rfl | simp, rfl, HF.out, by omega, q1, q2, o1, o2, HP.out⟩
          case measure => simp [intOf]; omega
    · obtain rfl : m = 0 := by omega
      rw [powF_zero] at hp
      have HP := Lib.hid hp
      clear hp
      go_wp2
      go_ret
      exact ⟨ret_intE HP.out, rfl⟩
end Go.Proofs.YtakohhlmomgegaaDoor

/- Chapter 1: lists that are transformed: their errors. -/
namespace Go.Proofs.YtakohhlmomgegaaDoor
set_option linter.unusedVariables false
set_option linter.unusedSimpArgs false
open Go.RowKit Ntt
/-- How many bits are 1, as Go's library finds it. -/
def onesE (n : Int) : Int :=
  let a := IntKind.u64.wrap (bits .and .u64 (n / 2) 6148914691236517205 + bits .and .u64 n 6148914691236517205)
  let b := IntKind.u64.wrap (bits .and .u64 (a / 4) 3689348814741910323 + bits .and .u64 a 3689348814741910323)
  let c := bits .and .u64 (IntKind.u64.wrap (b / 16 + b)) 1085102592571150095
  let d := IntKind.u64.wrap (c + c / 256)
  let e := IntKind.u64.wrap (d + d / 65536)
  let f := IntKind.u64.wrap (e + e / 4294967296)
  bits .and .i64 (wrap64 f) 127
set_option maxRecDepth 20000 in
set_option maxHeartbeats 1000000 in
theorem ones64 (n : Nat) (w : World) (hn : n ≤ 128) :
    Calls Tryd.prog 151 #[.int .u64 n] w fun e w' => e = .returned (.int .i64 (onesE n)) ∧ w = w' := by
  go_enter Tryd.func151, Tryd.ntmps151
  go_wp2
  go_ret
  exact ⟨ret_intE rfl, rfl⟩
theorem ones_one : ∀ n : Nat, n < 129 → (onesE n = 1 ↔ n ∈ [1, 2, 4, 8, 16, 32, 64, 128]) := by decide +kernel
/-- So many numbers may be transformed. -/
def twoB (n : Nat) : Bool := n ∈ [1, 2, 4, 8, 16, 32, 64, 128]
theorem ones_two {n : Nat} (hn : n ≤ 128) : (onesE n != 1) = !twoB n := by
  have := ones_one n (by omega)
  unfold twoB
  by_cases h : onesE n = 1
  · simp [h, this.1 h]
  · have h2 : ¬ n ∈ [1, 2, 4, 8, 16, 32, 64, 128] := fun h2 => h (this.2 h2)
    simp only [bne, beq_eq_false_iff_ne.2 h, decide_eq_false h2]
theorem ones_any (n : Nat) (w : World) (hn : n ≤ 128) :
    Calls Tryd.prog 137 #[.int .u64 n] w fun e w' => e = .returned (.int .i64 (onesE n)) ∧ w = w' := by
  go_enter Tryd.func137, Tryd.ntmps137
  go_wp2_with (first | (go_at_call 151; refine (ones64 n _ hn).mono ?_; rintro e w' ⟨rfl, rfl⟩))
  go_ret
  exact ⟨rfl, rfl⟩
set_option maxHeartbeats 400000 in
theorem rootOf_any (n : Nat) (w : World) (h0 : 0 < n) (hn : n ≤ 128) :
    Calls Tryd.prog 94 #[.int .i64 n] w fun e w' => e = .returned (.int .i64 (rootM n)) ∧ w = w' := by
  have hq : 998244352 / n < 2147483648 := by have := Nat.div_le_self 998244352 n; omega
  have HC := Lib.hid (show ∀ w, Calls Tryd.prog 138 #[.int .i64 3, .int .i64 (998244352 / (n : Int))] w fun e w' => e = .returned (.int .i64 (rootM n)) ∧ w = w' from fun w => by
    have := power_any 3 (998244352 / n) w (by decide) (by decide) hq
    rw [Int.natCast_ediv] at this
    exact this)
  clear hq
  go_enter Tryd.func94, Tryd.ntmps94
  go_wp2_with (first | (go_at_call 138; refine (HC.out _).mono ?_; rintro e w' ⟨rfl, rfl⟩))
  go_ret
  exact ⟨rfl, rfl⟩
theorem inverse_any (a : Int) (w : World) (h1 : 0 ≤ a) (h2 : a < 998244353) :
    Calls Tryd.prog 95 #[.int .i64 a] w fun e w' => e = .returned (.int .i64 (invM a)) ∧ w = w' := by
  have HC := Lib.hid (show ∀ w, Calls Tryd.prog 138 #[.int .i64 a, .int .i64 998244351] w fun e w' => e = .returned (.int .i64 (invM a)) ∧ w = w' from fun w => power_any a 998244351 w h1 h2 (by decide))
  go_enter Tryd.func95, Tryd.ntmps95
  go_wp2_with (first | (go_at_call 138; refine (HC.out _).mono ?_; rintro e w' ⟨rfl, rfl⟩))
  go_ret
  exact ⟨rfl, rfl⟩
def inE (lo hi n : Int) : Bool := decide (lo ≤ n) && decide (n ≤ hi)
theorem within_e (n lo hi : Int) (w : World) {c : Bool} (hc : inE lo hi n = c) :
    Calls Tryd.prog 99 #[.int .i64 n, .int .i64 lo, .int .i64 hi] w fun e w' => e = .returned (.bool c) ∧ w = w' := by
  subst hc
  unfold inE
  go_enter Tryd.func99, Tryd.ntmps99
  by_cases h1 : lo ≤ n
  · go_wp2
    go_ret
    exact ⟨by simp [h1], rfl⟩
  · have hd : decide (lo ≤ n) = false := by simpa using h1
    go_wp2
    go_ret
    exact ⟨by simp, rfl⟩
end Go.Proofs.YtakohhlmomgegaaDoor

/- Chapter 1: lists of integers; the errors of those that are transformed. -/
namespace Go.Proofs.YtakohhlmomgegaaDoor
set_option linter.unusedVariables false
set_option linter.unusedSimpArgs false
open Go.RowKit Ntt
def intAt (zs : List Int) (k : Nat) : Int := zs[k]?.getD 0
/-- The value is a slice of these integers. -/
def IntsV (w : World) (v : Value) (zs : List Int) : Prop :=
  zs.length ≤ 1000000000 ∧ ∃ a cap, v = .slice a zs.length cap ∧ (0 < zs.length → ∃ b off, a = some ⟨b, off, none⟩ ∧ b < w.heap.size ∧ ∀ k, k < zs.length → w.cell? ⟨b, off + k, none⟩ = some (.int .i64 (intAt zs k)))
theorem IntsV.below {w w' : World} {v : Value} {zs : List Int} (h : IntsV w v zs) (hw : Below w.heap.size w w') : IntsV w' v zs := by
  obtain ⟨h1, a, cap, h3, h4⟩ := h
  refine ⟨h1, a, cap, h3, fun hp => ?_⟩
  obtain ⟨b, off, h5, h6, h7⟩ := h4 hp
  exact ⟨b, off, h5, Nat.lt_of_lt_of_le h6 hw.size, fun k hk => (hw.cell (p := ⟨b, off + k, none⟩) h6).trans (h7 k hk)⟩
theorem intsV_own {w : World} {base n cap g : Nat} {zs : List Int} (h : w.ownsRow base 3 1 (.slice (some ⟨g, 0, none⟩) n cap) n (zs.map (.int .i64))) (hm : n ≤ 1000000000) : IntsV w (.slice (some ⟨g, 0, none⟩) n cap) zs := by
  have hl : zs.length = n := by have := h.1; simpa using this
  subst hl
  refine ⟨hm, _, _, rfl, fun hp => ⟨g, 0, rfl, (h.lt g rfl).2, fun k hk => ?_⟩⟩
  rw [Nat.zero_add, h.cellAt k (by omega)]
  unfold intAt
  simp [hk]
theorem intAt_ext {xs ys : List Int} (hl : xs.length = ys.length) (h : ∀ k, k < xs.length → intAt xs k = intAt ys k) : xs = ys := by
  apply List.ext_getElem hl
  intro k h1 h2
  have := h k h1
  unfold intAt at this
  simpa [h1, h2] using this
/-- The error of a list that is transformed. -/
def listE (zs : List Int) : Int := if twoB zs.length then (if zs.all (inE 0 998244352) then 0 else 2) else 10
theorem intAt_all {zs : List Int} {f : Int → Bool} : zs.all f = true ↔ ∀ k, k < zs.length → f (intAt zs k) = true := by
  rw [List.all_eq_true]
  constructor
  · intro h k hk
    unfold intAt
    rw [List.getElem?_eq_getElem hk]
    exact h _ (List.getElem_mem hk)
  · intro h z hz
    obtain ⟨k, hk, rfl⟩ := List.getElem_of_mem hz
    have := h k hk
    unfold intAt at this
    rwa [List.getElem?_eq_getElem hk] at this
set_option maxHeartbeats 1000000 in
theorem listErr_any (zs : List Int) (v : Value) (w : World) (hv : IntsV w v zs) {e0 : Int} (he : listE zs = e0) :
    Calls Tryd.prog 92 #[v] w fun e w' => e = .returned (.int .i64 e0) ∧ w = w' := by
  subst he
  obtain ⟨hl, a, cap, rfl, h4⟩ := hv
  by_cases hn : zs.length ≤ 128
  · have hd : decide ((128 : Int) < (zs.length : Int)) = false := by simp; omega
    have ht := ones_two hn
    rcases (show twoB zs.length = false ∨ twoB zs.length = true by cases twoB zs.length <;> simp) with h2 | h2
    · have HF := Lib.hid (show listE zs = 10 by unfold listE; rw [h2]; rfl)
      rw [h2] at ht
      have ho : (onesE zs.length != 1) = true := by rw [ht]; rfl
      clear ht h2 h4
      go_enter Tryd.func92, Tryd.ntmps92
      go_wp2_with (first | (go_at_call 137; refine (ones_any zs.length _ (by omega)).mono ?_; rintro e w' ⟨rfl, rfl⟩))
      go_ret
      exact ⟨ret_intE HF.out.symm, rfl⟩
    · rw [h2] at ht
      have ho : (onesE zs.length != 1) = false := by rw [ht]; rfl
      have hpos : 0 < zs.length := by
        rcases Nat.eq_zero_or_pos zs.length with h | h
        · rw [h] at h2; exact absurd h2 (by decide)
        · exact h
      obtain ⟨b, off, rfl, hbw, hc⟩ := h4 hpos
      have HC := Lib.hid hc
      have HA := Lib.hid (show zs.all (inE 0 998244352) = true → listE zs = 0 from fun h => by unfold listE; rw [h2, h]; rfl)
      have HB := Lib.hid (show zs.all (inE 0 998244352) = false → listE zs = 2 from fun h => by unfold listE; rw [h2, h]; rfl)
      clear ht h2 h4 hc
      go_enter Tryd.func92, Tryd.ntmps92
      go_wp2_with (first | (go_at_call 137; refine (ones_any zs.length _ (by omega)).mono ?_; rintro e w' ⟨rfl, rfl⟩))
      go_loop [18] (fun i => ∃ k : Nat, k ≤ zs.length ∧ i = .int .i64 k ∧ ∀ j, j < k → inE 0 998244352 (intAt zs j) = true) (fun i => zs.length - (intOf i).toNat)
      case atStart => exact ⟨0, Nat.zero_le _, rfl, fun j hj => by omega⟩
      case round =>
        obtain ⟨k, hk, rfl, hz⟩ := hrel
        have HZ := Lib.hid hz
        by_cases hlt : k < zs.length
        · have hck := HC.out k hlt
          have hdk : decide ((k : Int) < (zs.length : Int)) = true := by simp; omega
          rcases (show inE 0 998244352 (intAt zs k) = false ∨ inE 0 998244352 (intAt zs k) = true by cases inE 0 998244352 (intAt zs k) <;> simp) with hi | hi
          · have HW := Lib.hid hi
            have HF := Lib.hid (show listE zs = 2 from HB.out (by
              rw [← Bool.not_eq_true]
              intro h
              rw [intAt_all] at h
              rw [h k hlt] at hi
              cases hi))
            clear hz hi
            go_wp2_with (first | (go_at_call 99; (with_reducible refine (within_e _ _ _ _ HW.out).mono ?_); rintro e w' ⟨rfl, rfl⟩))
            go_ret
            exact ⟨ret_intE HF.out.symm, rfl⟩
          · have HW := Lib.hid hi
            clear hz hi
            go_wp2_with (first | (go_at_call 99; (with_reducible refine (within_e _ _ _ _ HW.out).mono ?_); rintro e w' ⟨rfl, rfl⟩))
            go_round
            case rel => exact ⟨k + 1, by omega, by go_num, fun j hj => if e : j = k then e ▸ HW.out else HZ.out j (by omega)⟩
            case measure => simp [intOf]; omega
        · obtain rfl : k = zs.length := by omega
          have hdk : decide ((zs.length : Int) < (zs.length : Int)) = false := by simp
          have HF := Lib.hid (show listE zs = 0 from HA.out (intAt_all.2 hz))
          clear hz
          go_wp2
          go_ret
          exact ⟨ret_intE HF.out.symm, rfl⟩
  · have hd : decide ((128 : Int) < (zs.length : Int)) = true := by simp; omega
    have HF := Lib.hid (show listE zs = 10 by
      unfold listE twoB
      rw [if_neg]
      simp
      omega)
    clear h4
    go_enter Tryd.func92, Tryd.ntmps92
    go_wp2
    go_ret
    exact ⟨ret_intE HF.out.symm, rfl⟩
end Go.Proofs.YtakohhlmomgegaaDoor

/- Chapter 1: the transform, by halves. -/
namespace Go.Proofs.YtakohhlmomgegaaDoor
set_option linter.unusedVariables false
set_option linter.unusedSimpArgs false
open Go.RowKit Ntt
theorem info3 : (Tryd.prog.info? 3).map (fun i => (i.zero, i.size, i.bytes)) = some (some (.int .i64 0), 1, 8) := by kernel_rfl
/-- Every second number, from p on. -/
def hv (a : Nat → Int) (p n : Nat) : List Value := (List.range n).map fun i => .int .i64 (a (2 * i + p))
theorem hv_succ (a : Nat → Int) (p n : Nat) : hv a p (n + 1) = hv a p n ++ [.int .i64 (a (2 * n + p))] := by unfold hv; rw [List.range_succ, List.map_append]; rfl
def Apart (u v : Value) : Prop := ∀ g, u.ownBlock = some g → v.ownBlock ≠ some g
theorem Apart.symm {u v : Value} (h : Apart u v) : Apart v u := fun g h1 h2 => h g h2 h1
theorem Apart.or {u v : Value} (h : Apart u v) : u.ownBlock = none ∨ u.ownBlock ≠ v.ownBlock := by
  cases hu : u.ownBlock with
  | none => exact Or.inl rfl
  | some g => exact Or.inr fun e => h g hu e.symm
/-- The two halves, as they lie in the array B, k numbers having come. -/
structure Halves (w : World) (B k : Nat) (a : Nat → Int) (v0 v1 : Value) (wr : World) : Prop where
  c0 : wr.cell? ⟨B, 0, none⟩ = some v0
  c1 : wr.cell? ⟨B, 1, none⟩ = some v1
  f0 : wr.frozen? ⟨B, 0, none⟩ = false
  f1 : wr.frozen? ⟨B, 1, none⟩ = false
  o0 : wr.ownsRow (B + 1) 3 1 v0 ((k + 1) / 2) (hv a 0 ((k + 1) / 2))
  o1 : wr.ownsRow (B + 1) 3 1 v1 (k / 2) (hv a 1 (k / 2))
  ap : Apart v0 v1
  bel : Below B w wr
  lt : B < wr.heap.size
theorem row_slice {w : World} {base : Nat} {e : TypeId} {size n : Nat} {v : Value} {xs : List Value} (h : w.ownsRow base e size v n xs) (hn : 0 < n) : ∃ g cap, v = .slice (some ⟨g, 0, none⟩) n cap := by
  obtain ⟨-, ⟨-, rfl⟩ | ⟨g, cap, cur, rfl, -⟩⟩ := h
  · omega
  · exact ⟨g, cap, rfl⟩
theorem wp_worldU {P : Program} {c : Code} {Q : Exit → Act → World → Prop} {a : Act} {w : World} (F : World → Prop) (hf : F w) (h : ∀ W, F W → Code.wp P c Q a W) : Code.wp P c Q a w := h w hf
theorem Halves.still {w wr w1 : World} {B k : Nat} {a : Nat → Int} {v0 v1 : Value} {o : Obj} {row : Option Nat} (h : Halves w B k a v0 v1 wr) (hg : (wr.alloc o).grownBy w1 row) (hr : ∀ g, row = some g → B + 1 ≤ g) :
    w1.cell? ⟨B, 0, none⟩ = some v0 ∧ w1.cell? ⟨B, 1, none⟩ = some v1 ∧ w1.frozen? ⟨B, 0, none⟩ = false ∧ w1.frozen? ⟨B, 1, none⟩ = false := by
  have hlt := h.lt
  have hb1 : Below (B + 1) wr w1 := (((Below.refl (B + 1) wr).alloc (by omega) o)).grown hg (by simp; omega) hr
  exact ⟨(hb1.cell (p := ⟨B, 0, none⟩) (Nat.lt_succ_self B)).trans h.c0, (hb1.cell (p := ⟨B, 1, none⟩) (Nat.lt_succ_self B)).trans h.c1, (hb1.frozen (p := ⟨B, 0, none⟩) (Nat.lt_succ_self B)).trans h.f0, (hb1.frozen (p := ⟨B, 1, none⟩) (Nat.lt_succ_self B)).trans h.f1⟩
theorem Halves.put0 {w wr w1 : World} {B k : Nat} {a : Nat → Int} {v0 v1 v' : Value} {o : Obj} (h : Halves w B k a v0 v1 wr) (hk : k % 2 = 0)
    (ho : w1.ownsRow (B + 1) 3 1 v' ((k + 1) / 2 + 1) (hv a 0 ((k + 1) / 2) ++ [.int .i64 (a k)])) (hg : (wr.alloc o).grownBy w1 v0.ownBlock)
    (hloc : v'.ownBlock = v0.ownBlock ∨ v'.ownBlock = some (wr.heap.size + 1)) : Halves w B (k + 1) a v' v1 (w1.setCell ⟨B, 0, none⟩ v') := by
  have hlt := h.lt
  have hb1 : Below (B + 1) wr w1 := (((Below.refl (B + 1) wr).alloc (by omega) o)).grown hg (by simp; omega) (fun g hg => (h.o0.lt g hg).1)
  have c0 := (hb1.cell (p := ⟨B, 0, none⟩) (Nat.lt_succ_self B)).trans h.c0
  have c1 := (hb1.cell (p := ⟨B, 1, none⟩) (Nat.lt_succ_self B)).trans h.c1
  have f0 := (hb1.frozen (p := ⟨B, 0, none⟩) (Nat.lt_succ_self B)).trans h.f0
  have f1 := (hb1.frozen (p := ⟨B, 1, none⟩) (Nat.lt_succ_self B)).trans h.f1
  have hsz := hb1.size
  refine ⟨by simp [go_sem, c0], by simp [go_sem, c1], by simp [go_sem, f0], by simp [go_sem, f1], ?_, ?_, ?_, ?_, by simp; omega⟩
  · have e : (k + 1 + 1) / 2 = (k + 1) / 2 + 1 := by omega
    rw [e, hv_succ, show 2 * ((k + 1) / 2) + 0 = k by omega]
    exact ownsRow_setCell_below ho (Nat.lt_succ_self B) _
  · rw [show (k + 1) / 2 = k / 2 by omega]
    exact ownsRow_setCell_below ((h.o1.alloc o).kept hg h.ap.symm.or) (Nat.lt_succ_self B) _
  · intro g h1 h2
    rcases hloc with e | e
    · exact h.ap g (e ▸ h1) h2
    · rw [h1] at e
      have h3 := (h.o1.lt g h2).2
      have h4 := Option.some.inj e
      omega
  · exact (h.bel.trans (hb1.mono (Nat.le_succ B))).setCell (p := ⟨B, 0, none⟩) (Nat.le_refl _) _
theorem Halves.put1 {w wr w1 : World} {B k : Nat} {a : Nat → Int} {v0 v1 v' : Value} {o : Obj} (h : Halves w B k a v0 v1 wr) (hk : k % 2 = 1)
    (ho : w1.ownsRow (B + 1) 3 1 v' (k / 2 + 1) (hv a 1 (k / 2) ++ [.int .i64 (a k)])) (hg : (wr.alloc o).grownBy w1 v1.ownBlock)
    (hloc : v'.ownBlock = v1.ownBlock ∨ v'.ownBlock = some (wr.heap.size + 1)) : Halves w B (k + 1) a v0 v' (w1.setCell ⟨B, 1, none⟩ v') := by
  have hlt := h.lt
  have hb1 : Below (B + 1) wr w1 := (((Below.refl (B + 1) wr).alloc (by omega) o)).grown hg (by simp; omega) (fun g hg => (h.o1.lt g hg).1)
  have c0 := (hb1.cell (p := ⟨B, 0, none⟩) (Nat.lt_succ_self B)).trans h.c0
  have c1 := (hb1.cell (p := ⟨B, 1, none⟩) (Nat.lt_succ_self B)).trans h.c1
  have f0 := (hb1.frozen (p := ⟨B, 0, none⟩) (Nat.lt_succ_self B)).trans h.f0
  have f1 := (hb1.frozen (p := ⟨B, 1, none⟩) (Nat.lt_succ_self B)).trans h.f1
  have hsz := hb1.size
  refine ⟨by simp [go_sem, c0], by simp [go_sem, c1], by simp [go_sem, f0], by simp [go_sem, f1], ?_, ?_, ?_, ?_, by simp; omega⟩
  · rw [show (k + 1 + 1) / 2 = (k + 1) / 2 by omega]
    exact ownsRow_setCell_below ((h.o0.alloc o).kept hg h.ap.or) (Nat.lt_succ_self B) _
  · have e : (k + 1) / 2 = k / 2 + 1 := by omega
    rw [e, hv_succ, show 2 * (k / 2) + 1 = k by omega]
    exact ownsRow_setCell_below ho (Nat.lt_succ_self B) _
  · intro g h1 h2
    rcases hloc with e | e
    · exact h.ap g h1 (e ▸ h2)
    · rw [h2] at e
      have h3 := (h.o0.lt g h1).2
      have h4 := Option.some.inj e
      omega
  · exact (h.bel.trans (hb1.mono (Nat.le_succ B))).setCell (p := ⟨B, 1, none⟩) (Nat.le_refl _) _
/-- Block g holds the first n numbers of f. -/
def IntsAtF (W : World) (g n : Nat) (f : Nat → Int) : Prop := g < W.heap.size ∧ ∀ k, k < n → W.cell? ⟨g, k, none⟩ = some (.int .i64 (f k))
theorem IntsAtF.below {W W' : World} {g n : Nat} {f : Nat → Int} (h : IntsAtF W g n f) (hb : Below W.heap.size W W') : IntsAtF W' g n f :=
  ⟨Nat.lt_of_lt_of_le h.1 hb.size, fun k hk => (hb.cell (p := ⟨g, k, none⟩) h.1).trans (h.2 k hk)⟩
def TransPost (m : Nat) (a : Nat → Int) (r : Int) (w : World) (e : Ending) (w' : World) : Prop :=
  ∃ g c, e = .returned (.slice (some ⟨g, 0, none⟩) (2 ^ m) c) ∧ w.heap.size ≤ g ∧ IntsAtF w' g (2 ^ m) (fft PP m a r) ∧ (∀ k, k < 2 ^ m → w'.frozen? ⟨g, k, none⟩ = false) ∧ Below w.heap.size w w'
def TransSpec (m : Nat) : Prop := ∀ (zs : List Int) (v : Value) (r : Int) (w : World), zs.length = 2 ^ m → IntsV w v zs → (∀ k, k < zs.length → 0 ≤ intAt zs k ∧ intAt zs k < 998244353) → 0 ≤ r → r < 998244353 → Calls Tryd.prog 93 #[v, .int .i64 r] w (TransPost m (intAt zs) r w)
theorem fft_same {p : Int} : ∀ (m : Nat) {a b : Nat → Int} (r : Int) (k : Nat), (∀ i, i < 2 ^ m → a i = b i) → fft p m a r k = fft p m b r k
  | 0, a, b, r, k, h => h 0 (by decide)
  | m + 1, a, b, r, k, h => by
    unfold fft
    rw [fft_same m _ _ (fun i hi => h (2 * i) (by rw [Nat.pow_succ]; omega)), fft_same m _ _ (fun i hi => h (2 * i + 1) (by rw [Nat.pow_succ]; omega))]
def halfL (zs : List Int) (p n : Nat) : List Int := (List.range n).map fun i => intAt zs (2 * i + p)
theorem halfL_len (zs : List Int) (p n : Nat) : (halfL zs p n).length = n := by simp [halfL]
theorem halfL_at (zs : List Int) (p : Nat) {n k : Nat} (hk : k < n) : intAt (halfL zs p n) k = intAt zs (2 * k + p) := by
  unfold halfL
  conv => lhs; unfold intAt
  rw [List.getElem?_map, List.getElem?_range hk]
  rfl
theorem halfL_hv (zs : List Int) (p n : Nat) : (halfL zs p n).map (.int .i64) = hv (intAt zs) p n := by unfold halfL hv; rw [List.map_map]; rfl
end Go.Proofs.YtakohhlmomgegaaDoor

/- Chapter 1: the transform of twice as many numbers. -/
namespace Go.Proofs.YtakohhlmomgegaaDoor
set_option linter.unusedVariables false
set_option linter.unusedSimpArgs false
open Go.RowKit Ntt
/-- The first k numbers of the transform, zeros behind. -/
def outsL (p : Int) (m : Nat) (a : Nat → Int) (r : Int) (n k : Nat) : List Value := (List.range n).map fun j => .int .i64 (if j < k then fft p (m + 1) a r j else 0)
theorem outs_zero (p : Int) (m : Nat) (a : Nat → Int) (r : Int) (n : Nat) : outsL p m a r n 0 = List.replicate n (.int .i64 0) := by
  unfold outsL
  apply List.ext_getElem (by simp)
  intro i h1 h2
  simp
theorem outs_set (p : Int) (m : Nat) (a : Nat → Int) (r : Int) {n k : Nat} (hk : k < n) : (outsL p m a r n k).set k (.int .i64 (fft p (m + 1) a r k)) = outsL p m a r n (k + 1) := by
  unfold outsL
  apply List.ext_getElem (by simp)
  intro i h1 h2
  simp only [List.getElem_set, List.getElem_map, List.getElem_range]
  by_cases e : k = i
  · subst e; rw [if_pos rfl, if_pos (by omega)]
  · rw [if_neg e]
    by_cases c : i < k
    · rw [if_pos c, if_pos (by omega)]
    · rw [if_neg c, if_neg (by omega)]
theorem pwr_bd {r : Int} (k : Nat) : 0 ≤ pwr PP r k ∧ pwr PP r k < 998244353 := by
  cases k with
  | zero => exact ⟨by simp [pwr], by simp [pwr]⟩
  | succ k => exact ⟨Int.emod_nonneg _ (by decide), Int.emod_lt_of_pos _ (by decide)⟩
theorem fft_bd (m : Nat) {a : Nat → Int} (r : Int) (k : Nat) (h : ∀ i, i < 2 ^ m → 0 ≤ a i ∧ a i < 998244353) : 0 ≤ fft PP m a r k ∧ fft PP m a r k < 998244353 := by
  cases m with
  | zero => exact h 0 (by decide)
  | succ m => exact ⟨Int.emod_nonneg _ (by decide), Int.emod_lt_of_pos _ (by decide)⟩
theorem IntsAtF.drew {W : World} {g n : Nat} {f : Nat → Int} (h : IntsAtF W g n f) : IntsAtF W.drew g n f := h
theorem IntsAtF.set {W : World} {g n B k : Nat} {f : Nat → Int} {v : Value} (h : IntsAtF W g n f) (hne : g ≠ B) : IntsAtF (W.setCell ⟨B, k, none⟩ v) g n f :=
  ⟨by simpa using h.1, fun i hi => by
    rw [World.cell?_setCell_other _ _ _ _ (by intro e2; simp at e2 <;> omega)]
    exact h.2 i hi⟩
set_option maxRecDepth 20000 in
set_option maxHeartbeats 4000000 in
theorem transform_two (m : Nat) (ih : TransSpec m) (zs : List Int) (b off cap : Nat) (r : Int) (w : World) (hz : zs.length = 2 ^ (m + 1)) (hl : zs.length ≤ 128) (hr : ∀ k, k < zs.length → 0 ≤ intAt zs k ∧ intAt zs k < 998244353) (r1 : 0 ≤ r) (r2 : r < 998244353) (hbw : b < w.heap.size) (hc : ∀ k, k < zs.length → w.cell? ⟨b, off + k, none⟩ = some (.int .i64 (intAt zs k))) :
    Calls Tryd.prog 93 #[.slice (some ⟨b, off, none⟩) zs.length cap, .int .i64 r] w (TransPost (m + 1) (intAt zs) r w) := by
  obtain ⟨i0, hi, hz0, hz1, hz2⟩ := info_parts info3
  have hn0 : zs.length = 2 ^ m + 2 ^ m := by rw [hz, Nat.pow_succ]; omega
  have hp0 : 0 < 2 ^ m := Nat.two_pow_pos m
  have h2 : 1 < zs.length := by omega
  have IH := Lib.hid ih
  have HR := Lib.hid hr
  have HZ := Lib.hid hz
  clear ih hr hz
  generalize hN : 2 ^ m = N at hn0 hp0
  have HN := Lib.hid hN
  have hn1 : zs.length ≤ N + N := by omega
  have hn2 : N + N ≤ zs.length := by omega
  clear hN hn0
  have HC := Lib.hid hc
  have hne : ((zs.length : Int) == 1) = false := by simp; omega
  clear hc
  go_enter Tryd.func93, Tryd.ntmps93
  go_wp2
  refine wp_worldU (fun W => Halves w w.heap.size 0 (intAt zs) (.slice none 0 0) (.slice none 0 0) W) ⟨by simp [go_sem], by simp [go_sem], by simp [go_sem], by simp [go_sem], World.ownsRow_nil _ _ _ _, World.ownsRow_nil _ _ _ _, fun g h => by simp [Value.ownBlock] at h, (by (repeat' (first | with_reducible exact Below.refl _ _ | (with_reducible refine below_later_of ?_ ?_ _) | (with_reducible refine Below.alloc ?_ ?_ _) | (with_reducible refine Below.setCell ?_ ?_ _) | (with_reducible refine Below.drew ?_) | (simp; done) | (simp; omega) | omega))), by simp⟩ ?_
  rintro W2 hh
  have HH2 := Lib.hid hh
  clear hh
  go_loopw [24] (fun i wr => ∃ (k : Nat) (v0 v1 : Value), k ≤ zs.length ∧ i = .int .i64 k ∧ Halves w w.heap.size k (intAt zs) v0 v1 wr) (fun i _ => zs.length - (intOf i).toNat)
  case atStart => exact ⟨0, _, _, Nat.zero_le _, rfl, HH2.out⟩
  case round =>
    obtain ⟨k, v0, v1, hk, rfl, hh⟩ := hrel
    have HH := Lib.hid hh
    by_cases hlt : k < zs.length
    · have hdk : decide ((k : Int) < (zs.length : Int)) = true := by simp; omega
      have hck := (hh.bel.cell (p := ⟨b, off + k, none⟩) hbw).trans (HC.out k hlt)
      have hlt2 := hh.lt
      by_cases hp : k % 2 = 0
      · have hm : (k : Int) % 2 = 0 := by omega
        have hc0 := hh.c0
        have hf0 := hh.f0
        clear hh hp
        go_wp2_with (first | (at_builtin; refine wpList_append_own_at _ rfl _ _ 53 rfl (w.heap.size + 1) 3 i0 (.int .i64 0) 1 8 Tryd.underlying53 hi hz0 hz1 hz2 rfl (by decide) _ _ _ rfl (HH.out.o0.alloc _) ⟨wr.heap.size, 0, none⟩ 1 1 [.int .i64 (intAt zs k)] rfl rfl ?c1 ?c2 ?c3 ?c4 ?c5 ?_))
        case c1 =>
          intro j u hj
          rcases j with _ | j
          · simp at hj; subst hj; (first | (simp [Addr.add, go_sem]; done) | simp [Addr.add, go_sem, ↓IntWalk.iteOmega])
          · simp at hj
        case c2 => intro u hu; simp at hu; subst hu; rfl
        case c3 => unfold maxLen; omega
        case c4 => omega
        case c5 => simp; omega
        intro v' w1 hown' hgrow _ hloc
        obtain ⟨g', cc', rfl⟩ := row_slice hown' (by omega)
        have HN := Lib.hid (HH.out.put0 (by omega) hown' hgrow hloc)
        obtain ⟨hcb, -, hfb, -⟩ := HH.out.still hgrow (fun g hg => (HH.out.o0.lt g hg).1)
        clear hown' hgrow hloc
        go_wp2
        go_roundw
        case rel => exact ⟨k + 1, _, v1, by omega, by go_num, HN.out⟩
        case measure => simp [intOf]; omega
      · have hm : (k : Int) % 2 = 1 := by omega
        have hc1 := hh.c1
        have hf1 := hh.f1
        clear hh hp
        go_wp2_with (first | (at_builtin; refine wpList_append_own_at _ rfl _ _ 53 rfl (w.heap.size + 1) 3 i0 (.int .i64 0) 1 8 Tryd.underlying53 hi hz0 hz1 hz2 rfl (by decide) _ _ _ rfl (HH.out.o1.alloc _) ⟨wr.heap.size, 0, none⟩ 1 1 [.int .i64 (intAt zs k)] rfl rfl ?c1 ?c2 ?c3 ?c4 ?c5 ?_))
        case c1 =>
          intro j u hj
          rcases j with _ | j
          · simp at hj; subst hj; (first | (simp [Addr.add, go_sem]; done) | simp [Addr.add, go_sem, ↓IntWalk.iteOmega])
          · simp at hj
        case c2 => intro u hu; simp at hu; subst hu; rfl
        case c3 => unfold maxLen; omega
        case c4 => omega
        case c5 => simp; omega
        intro v' w1 hown' hgrow _ hloc
        obtain ⟨g', cc', rfl⟩ := row_slice hown' (by omega)
        have HN := Lib.hid (HH.out.put1 (by omega) hown' hgrow hloc)
        obtain ⟨-, hcb, -, hfb⟩ := HH.out.still hgrow (fun g hg => (HH.out.o1.lt g hg).1)
        clear hown' hgrow hloc
        go_wp2
        go_roundw
        case rel => exact ⟨k + 1, v0, _, by omega, by go_num, HN.out⟩
        case measure => simp [intOf]; omega
    · obtain rfl : k = zs.length := by omega
      have hdk : decide ((zs.length : Int) < (zs.length : Int)) = false := by simp
      have hc0 := hh.c0
      have hc1 := hh.c1
      have o0 := hh.o0
      have o1 := hh.o1
      rw [show (zs.length + 1) / 2 = N by omega, ← halfL_hv] at o0
      rw [show zs.length / 2 = N by omega, ← halfL_hv] at o1
      obtain ⟨g0, e0, rfl⟩ := row_slice o0 hp0
      obtain ⟨g1, e1, rfl⟩ := row_slice o1 hp0
      have i0' := intsV_own o0 (by omega)
      have i1' := intsV_own o1 (by omega)
      obtain ⟨m1, m2⟩ := pp_mul r1 r2 r1 r2
      have q1 := Int.emod_nonneg (r * r) (show (998244353 : Int) ≠ 0 by decide)
      have q2 := Int.emod_lt_of_pos (r * r) (show (0 : Int) < 998244353 by decide)
      have hw : (IntKind.i64.wrap (r * r)).tmod 998244353 = r * r % 998244353 := by rw [IntWalk.i64_in _ (by omega), Int.tmod_eq_emod_of_nonneg m1]
      have hin : ∀ p, p < 2 → ∀ k, k < (halfL zs p N).length → 0 ≤ intAt (halfL zs p N) k ∧ intAt (halfL zs p N) k < 998244353 := fun p hp k hk => by
        rw [halfL_len] at hk
        rw [halfL_at _ _ hk]
        exact HR.out _ (by omega)
      have HC1 := Lib.hid (show ∀ w2, Below wr.heap.size wr w2 → Calls Tryd.prog 93 #[.slice (some ⟨g0, 0, none⟩) N e0, .int .i64 ((IntKind.i64.wrap (r * r)).tmod 998244353)] w2 (TransPost m (intAt (halfL zs 0 N)) (r * r % 998244353) w2) from fun w2 hb => by
        rw [hw]
        exact IH.out _ _ _ w2 (by rw [halfL_len, HN.out]) (i0'.below hb) (hin 0 (by omega)) q1 q2)
      have HC2 := Lib.hid (show ∀ w2, Below wr.heap.size wr w2 → Calls Tryd.prog 93 #[.slice (some ⟨g1, 0, none⟩) N e1, .int .i64 ((IntKind.i64.wrap (r * r)).tmod 998244353)] w2 (TransPost m (intAt (halfL zs 1 N)) (r * r % 998244353) w2) from fun w2 hb => by
        rw [hw]
        exact IH.out _ _ _ w2 (by rw [halfL_len, HN.out]) (i1'.below hb) (hin 1 (by omega)) q1 q2)
      have HBr := Lib.hid hh.bel
      have hltr := hh.lt
      clear hh o0 o1 i0' i1' hw hin
      go_wp2
      go_cut [9, 10] from 40 to 53 (fun X Y wx => ∃ ge ce go co, X = .slice (some ⟨ge, 0, none⟩) N ce ∧ Y = .slice (some ⟨go, 0, none⟩) N co ∧ IntsAtF wx ge N (fft PP m (intAt (halfL zs 0 N)) (r * r % 998244353)) ∧ IntsAtF wx go N (fft PP m (intAt (halfL zs 1 N)) (r * r % 998244353)) ∧ Below wr.heap.size wr wx)
      case first =>
        go_region_held3 (fun w' => w'.cell? ⟨w.heap.size, 0, none⟩ = some (.slice (some ⟨g0, 0, none⟩) N e0) ∧ w'.cell? ⟨w.heap.size, 1, none⟩ = some (.slice (some ⟨g1, 0, none⟩) N e1)) (first | exact ⟨hc0, hc1⟩ | ((first | (simp [go_sem, hc0, hc1]; done) | simp [go_sem, hc0, hc1, ↓IntWalk.iteOmega]); done)) (first | (go_at_call 93; (with_reducible refine (HC1.out _ (by (repeat' (first | with_reducible exact Below.refl _ _ | (with_reducible refine below_later_of ?_ ?_ _) | (with_reducible refine Below.alloc ?_ ?_ _) | (with_reducible refine Below.setCell ?_ ?_ _) | (with_reducible refine Below.drew ?_) | (simp; done) | (simp; omega) | omega)))).mono ?_); rintro e w' ⟨g, c, rfl, -, hg, -, hb⟩; rw [HN.out]; have HG0 := Lib.hid (HN.out ▸ hg); clear hg; obtain ⟨pp, rfl⟩ := later_of_below hb; clear hb) | (go_at_call 93; (with_reducible refine (HC2.out _ (by (repeat' (first | with_reducible exact Below.refl _ _ | (with_reducible refine below_later_of ?_ ?_ _) | (with_reducible refine Below.alloc ?_ ?_ _) | (with_reducible refine Below.setCell ?_ ?_ _) | (with_reducible refine Below.drew ?_) | (simp; done) | (simp; omega) | omega)))).mono ?_); rintro e w' ⟨g, c, rfl, -, hg, -, hb⟩; rw [HN.out]; have HG1 := Lib.hid (HN.out ▸ hg); clear hg; obtain ⟨pp, rfl⟩ := later_of_below hb; clear hb))
        all_goals
          go_wp2_with fail
          go_meet
          exact ⟨_, _, _, _, rfl, rfl, HG0.out.below (by (repeat' (first | with_reducible exact Below.refl _ _ | (with_reducible refine below_later_of ?_ ?_ _) | (with_reducible refine Below.alloc ?_ ?_ _) | (with_reducible refine Below.setCell ?_ ?_ _) | (with_reducible refine Below.drew ?_) | (simp; done) | (simp; omega) | omega))), HG1.out.below (by (repeat' (first | with_reducible exact Below.refl _ _ | (with_reducible refine below_later_of ?_ ?_ _) | (with_reducible refine Below.alloc ?_ ?_ _) | (with_reducible refine Below.setCell ?_ ?_ _) | (with_reducible refine Below.drew ?_) | (simp; done) | (simp; omega) | omega))), (by (repeat' (first | with_reducible exact Below.refl _ _ | (with_reducible refine below_later_of ?_ ?_ _) | (with_reducible refine Below.alloc ?_ ?_ _) | (with_reducible refine Below.setCell ?_ ?_ _) | (with_reducible refine Below.drew ?_) | (simp; done) | (simp; omega) | omega)))⟩
      case rest =>
        obtain ⟨ge, ce, go, co, rfl, rfl, he, ho, hb⟩ := hcut
        have hsc := hb.size
        have HE := Lib.hid he
        have HO := Lib.hid ho
        have HBc := Lib.hid (HBr.out.trans (hb.mono (by omega)))
        clear he ho hb
        obtain ⟨B, hB⟩ : ∃ B, B = wc.heap.size := ⟨_, rfl⟩
        have hBge : w.heap.size ≤ B := by omega
        have hgeB : ge < B := by rw [hB]; exact HE.out.1
        have hgoB : go < B := by rw [hB]; exact HO.out.1
        go_wp2_with (first | (at_make; refine wpList_make_full _ rfl _ _ 53 rfl wc.heap.size 3 i0 (.int .i64 0) 1 Tryd.underlying53 hi hz0 hz1 .i64 .i64 _ _ zs.length rfl rfl rfl rfl ?m2 ?m3 ?m4 ?_))
        case m2 => rw [hz2]; omega
        case m3 => unfold maxLen; omega
        case m4 => omega
        intro w1 hown hgrow
        have hb1 : Below wc.heap.size wc w1 := (Below.refl _ _).grown hgrow (Nat.le_refl _) (fun g hg => by cases hg)
        have hos : w1.ownsRow B 3 1 (.slice (some ⟨B, 0, none⟩) zs.length zs.length) zs.length (outsL PP m (intAt zs) r zs.length 0) := by
          rw [hB, outs_zero]; simpa [toList_madeCells_one] using hown
        have HE1 := Lib.hid (HE.out.below hb1)
        have HO1 := Lib.hid (HO.out.below hb1)
        have HB1 := Lib.hid (HBc.out.trans (hb1.mono (by omega)))
        rw [← hB]
        have HEQ := Lib.hid hB
        have hs1 := hb1.size
        have hs2 : B ≤ w1.heap.size := by omega
        clear hB
        have HOS := Lib.hid hos
        clear hown hgrow hb1 hos HE HO HBc hc0 hc1
        go_wp2
        go_loopw [12, 57] (fun p i wr => ∃ k : Nat, k ≤ zs.length ∧ i = .int .i64 k ∧ p = .int .i64 (pwr PP r k) ∧ wr.ownsRow B 3 1 (.slice (some ⟨B, 0, none⟩) zs.length zs.length) zs.length (outsL PP m (intAt zs) r zs.length k) ∧ IntsAtF wr ge N (fft PP m (intAt (halfL zs 0 N)) (r * r % 998244353)) ∧ IntsAtF wr go N (fft PP m (intAt (halfL zs 1 N)) (r * r % 998244353)) ∧ Below w.heap.size w wr) (fun _ i _ => zs.length - (intOf i).toNat)
        case atStart => exact ⟨0, Nat.zero_le _, rfl, rfl, HOS.out, HE1.out, HO1.out, HB1.out⟩
        case round =>
          obtain ⟨k, hk, rfl, rfl, hos, he, ho, hbx⟩ := hrel
          have HOS2 := Lib.hid hos
          have HE2 := Lib.hid he
          have HO2 := Lib.hid ho
          have HB2 := Lib.hid hbx
          by_cases hlt : k < zs.length
          · have hdk : decide ((k : Int) < (zs.length : Int)) = true := by simp; omega
            obtain ⟨j, hj⟩ : ∃ j, k % N = j := ⟨_, rfl⟩
            have hjN : j < N := by rw [← hj]; exact Nat.mod_lt _ hp0
            have hq : (zs.length : Int) / 2 = (N : Int) := by omega
            have hmod : (k : Int) % (N : Int) = (j : Int) := by rw [← Int.natCast_emod, hj]
            have ce := he.2 j hjN
            have co := ho.2 j hjN
            have cb := hos.cellAt k (by omega)
            have fb := hos.frozenAt k
            obtain ⟨pb1, pb2⟩ := pwr_bd (r := r) k
            obtain ⟨eb1, eb2⟩ := fft_bd m (a := intAt (halfL zs 0 N)) (r * r % 998244353) j (fun i hi => by rw [HN.out] at hi; rw [halfL_at _ _ hi]; exact HR.out _ (by omega))
            obtain ⟨ob1, ob2⟩ := fft_bd m (a := intAt (halfL zs 1 N)) (r * r % 998244353) j (fun i hi => by rw [HN.out] at hi; rw [halfL_at _ _ hi]; exact HR.out _ (by omega))
            have hval : (fft PP m (intAt (halfL zs 0 N)) (r * r % 998244353) j + pwr PP r k * fft PP m (intAt (halfL zs 1 N)) (r * r % 998244353) j) % 998244353 = fft PP (m + 1) (intAt zs) r k := by
              conv => rhs; unfold fft
              rw [HN.out, hj, fft_same m (a := fun i => intAt zs (2 * i)) (b := intAt (halfL zs 0 N)) _ _ (fun i hi => by rw [HN.out] at hi; exact (halfL_at zs 0 hi).symm), fft_same m (a := fun i => intAt zs (2 * i + 1)) (b := intAt (halfL zs 1 N)) _ _ (fun i hi => by rw [HN.out] at hi; exact (halfL_at zs 1 hi).symm)]
            have HV := Lib.hid hval
            have hpw : pwr PP r k * r % 998244353 = pwr PP r (k + 1) := rfl
            have HPW := Lib.hid hpw
            have hcs : (outsL PP m (intAt zs) r zs.length k)[k]? = some (.int .i64 0) := by unfold outsL; simp [hlt]
            rw [hcs] at cb
            clear hval hpw hcs
            generalize fft PP m (intAt (halfL zs 0 N)) (r * r % 998244353) j = ev at ce eb1 eb2 HV
            generalize fft PP m (intAt (halfL zs 1 N)) (r * r % 998244353) j = ov at co ob1 ob2 HV
            generalize pwr PP r k = pv at pb1 pb2 HV HPW ⊢
            obtain ⟨mm1, mm2⟩ := pp_mul pb1 pb2 ob1 ob2
            obtain ⟨mm3, mm4⟩ := pp_mul pb1 pb2 r1 r2
            have hlb : k < zs.length := hlt
            clear hos he ho hbx hj
            go_wp2
            go_region
            all_goals
              go_wp2
              go_roundw
              case rel => exact ⟨k + 1, by omega, by go_num, by rw [← HPW.out], by rw [HV.out, ← outs_set _ _ _ _ hlt]; exact (HOS2.out.drew.stored k _).1, HE2.out.drew.set (by omega), HO2.out.drew.set (by omega), HB2.out.trans (by (repeat' (first | with_reducible exact Below.refl _ _ | (with_reducible refine below_later_of ?_ ?_ _) | (with_reducible refine Below.alloc ?_ ?_ _) | (with_reducible refine Below.setCell ?_ ?_ _) | (with_reducible refine Below.drew ?_) | (simp; done) | (simp; omega) | omega)))⟩
              case measure => simp [intOf]; omega
          · obtain rfl : k = zs.length := by omega
            have hdk : decide ((zs.length : Int) < (zs.length : Int)) = false := by simp
            clear hos he ho hbx
            go_wp2
            go_ret
            refine ⟨B, zs.length, ?_, hBge, ⟨?_, fun k hk => ?_⟩, fun k hk => HOS2.out.frozenAt k, HB2.out⟩
            · rw [← HZ.out]; rfl
            · exact (HOS2.out.lt B rfl).2
            · rw [HOS2.out.cellAt k (by rw [HZ.out]; omega)]
              unfold outsL
              rw [← HZ.out] at hk
              simp [hk]
set_option maxHeartbeats 400000 in
theorem transform_zero : TransSpec 0 := fun zs v r w hz hv hr r1 r2 => by
  obtain ⟨hl, a, cap, rfl, h4⟩ := hv
  obtain ⟨b, off, rfl, hbw, hc⟩ := h4 (by rw [hz]; decide)
  have c0 := hc 0 (by rw [hz]; decide)
  rw [Nat.add_zero] at c0
  have hz1 : zs.length = 1 := hz
  have HP := Lib.hid (show ∀ g w', g = w.heap.size → w' = w.alloc (.cells #[.int .i64 (intAt zs 0)] 3) → TransPost 0 (intAt zs) r w (.returned (.slice (some ⟨g, 0, none⟩) 1 1)) w' from fun g w' hg hw => by
    subst hg hw
    refine ⟨w.heap.size, 1, rfl, Nat.le_refl _, ⟨by simp, fun k hk => ?_⟩, fun k hk => ?_, (Below.refl _ _).alloc (Nat.le_refl _) _⟩
    · obtain rfl : k = 0 := by simpa using hk
      exact World.cell?_alloc_new _ _ _ _
    · simp [go_sem])
  have hd : ((zs.length : Int) == 1) = true := by rw [hz1]; rfl
  have hlt : 0 < zs.length := by omega
  clear hc hz hz1 h4
  go_enter Tryd.func93, Tryd.ntmps93
  go_wp2
  go_ret
  exact HP.out _ _ rfl rfl
theorem transform_spec : ∀ m, m ≤ 7 → TransSpec m
  | 0, _ => transform_zero
  | m + 1, h => fun zs v r w hz hv hr r1 r2 => by
    have hp : 2 ^ (m + 1) ≤ 2 ^ 7 := Nat.pow_le_pow_right (by decide) h
    obtain ⟨hl, a, cap, rfl, h4⟩ := hv
    obtain ⟨b, off, rfl, hbw, hc⟩ := h4 (by rw [hz]; exact Nat.two_pow_pos _)
    exact transform_two m (transform_spec m (by omega)) zs b off cap r w hz (by omega) hr r1 r2 hbw hc
end Go.Proofs.YtakohhlmomgegaaDoor

/- Chapter 1: the list with a transform (back), Transform. -/
namespace Go.Proofs.YtakohhlmomgegaaDoor
set_option linter.unusedVariables false
set_option linter.unusedSimpArgs false
open Go.RowKit Ntt
/-- Block g holds the first n numbers of f, and may be written. -/
def OwnF (W : World) (g n : Nat) (f : Nat → Int) : Prop := IntsAtF W g n f ∧ ∀ k, k < n → W.frozen? ⟨g, k, none⟩ = false
theorem OwnF.set {W : World} {g n k : Nat} {f h : Nat → Int} {z : Int} (o : OwnF W g n f) (hk : k < n) (hh : ∀ j, j < n → h j = if j = k then z else f j) : OwnF (W.setCell ⟨g, k, none⟩ (.int .i64 z)) g n h := by
  obtain ⟨⟨h1, h2⟩, h3⟩ := o
  refine ⟨⟨by simpa using h1, fun j hj => ?_⟩, fun j hj => ?_⟩
  · rw [hh j hj]
    by_cases e : j = k
    · subst e
      rw [if_pos rfl]
      exact World.cell?_setCell_same _ _ _ (h2 j hj)
    · rw [if_neg e, World.cell?_setCell_other _ _ _ _ (by intro e2; simp at e2 <;> omega)]
      exact h2 j hj
  · have := h3 j hj
    simpa [go_sem] using this
theorem OwnF.below {W W' : World} {g n : Nat} {f : Nat → Int} (h : OwnF W g n f) (hb : Below W.heap.size W W') : OwnF W' g n f :=
  ⟨h.1.below hb, fun k hk => (hb.frozen (p := ⟨g, k, none⟩) h.1.1).trans (h.2 k hk)⟩
theorem OwnF.drew {W : World} {g n : Nat} {f : Nat → Int} (h : OwnF W g n f) : OwnF W.drew g n f := by
  refine ⟨h.1.drew, fun k hk => ?_⟩
  have := h.2 k hk
  simpa [go_sem] using this
theorem OwnF.same {W : World} {g n : Nat} {f h : Nat → Int} (o : OwnF W g n f) (hh : ∀ j, j < n → f j = h j) : OwnF W g n h :=
  ⟨⟨o.1.1, fun k hk => by rw [← hh k hk]; exact o.1.2 k hk⟩, o.2⟩
/-- The list with a transform, as the program finds it. -/
def backP (n m : Nat) (a : Nat → Int) (k : Nat) : Int := fft PP m a (invM (rootM n)) k * invM n % PP
def OwnPost (n : Nat) (f : Nat → Int) (w : World) (e : Ending) (w' : World) : Prop :=
  ∃ g c, e = .returned (.slice (some ⟨g, 0, none⟩) n c) ∧ w.heap.size ≤ g ∧ OwnF w' g n f ∧ Below w.heap.size w w'
set_option maxRecDepth 20000 in
set_option maxHeartbeats 1000000 in
theorem back_any (m : Nat) (hm : m ≤ 7) (zs : List Int) (v : Value) (w : World) (hz : zs.length = 2 ^ m) (hv : IntsV w v zs) (hr : ∀ k, k < zs.length → 0 ≤ intAt zs k ∧ intAt zs k < 998244353) :
    Calls Tryd.prog 96 #[v] w (OwnPost zs.length (backP zs.length m (intAt zs)) w) := by
  have hp : 2 ^ m ≤ 2 ^ 7 := Nat.pow_le_pow_right (by decide) hm
  have hp0 : 0 < zs.length := by rw [hz]; exact Nat.two_pow_pos m
  have hl : zs.length ≤ 128 := by omega
  obtain ⟨rb1, rb2⟩ := powM_bd 3 (998244352 / zs.length)
  obtain ⟨ib1, ib2⟩ := powM_bd (rootM zs.length) 998244351
  obtain ⟨nb1, nb2⟩ := powM_bd (zs.length : Int) 998244351
  have HI1 := Lib.hid (fun w => inverse_any (rootM zs.length) w rb1 rb2)
  have HI2 := Lib.hid (fun w => inverse_any (zs.length : Int) w (by omega) (by omega))
  have HTR := Lib.hid (show ∀ w2, Below w.heap.size w w2 → Calls Tryd.prog 93 #[v, .int .i64 (invM (rootM zs.length))] w2 (TransPost m (intAt zs) (invM (rootM zs.length)) w2) from fun w2 hb => transform_spec m hm zs v _ w2 hz (hv.below hb) hr ib1 ib2)
  have hfb := fun k => fft_bd m (a := intAt zs) (invM (rootM zs.length)) k (fun i hi => hr i (by omega))
  have HFB := Lib.hid hfb
  obtain ⟨hle, a, cap, rfl, -⟩ := hv
  have HZ := Lib.hid hz
  have hnb : 0 ≤ invM (zs.length : Int) ∧ invM (zs.length : Int) < 998244353 := ⟨nb1, nb2⟩
  obtain ⟨nb1, nb2⟩ := hnb
  clear hr hz rb1 rb2 ib1 ib2 hfb hp
  go_enter Tryd.func96, Tryd.ntmps96
  go_wp2_with (first | (go_at_call 94; refine (rootOf_any zs.length _ (by omega) (by omega)).mono ?_; rintro e w' ⟨rfl, rfl⟩) | (go_at_call 95; (with_reducible refine (HI1.out _).mono ?_); rintro e w' ⟨rfl, rfl⟩) | (go_at_call 95; (with_reducible refine (HI2.out _).mono ?_); rintro e w' ⟨rfl, rfl⟩) | (go_at_call 93; (with_reducible refine (HTR.out _ (by (repeat' (first | with_reducible exact Below.refl _ _ | (with_reducible refine below_later_of ?_ ?_ _) | (with_reducible refine Below.alloc ?_ ?_ _) | (with_reducible refine Below.setCell ?_ ?_ _) | (with_reducible refine Below.drew ?_) | (simp; done) | (simp; omega) | omega)))).mono ?_); rintro e w' ⟨g, c, rfl, hgb, hg, hf, hb⟩; rw [← HZ.out] at hg hf ⊢; have HG := Lib.hid (show OwnF w' g _ _ from ⟨hg, hf⟩); clear hg hf; have HB := Lib.hid hb; clear hb))
  have hfs : ∀ k, 0 ≤ fft PP m (intAt zs) (invM (rootM zs.length)) k ∧ fft PP m (intAt zs) (invM (rootM zs.length)) k < 998244353 := HFB.out
  go_loopw [17] (fun i wr => ∃ k : Nat, k ≤ zs.length ∧ i = .int .i64 k ∧ OwnF wr g zs.length (fun j => if j < k then backP zs.length m (intAt zs) j else fft PP m (intAt zs) (invM (rootM zs.length)) j) ∧ Below w.heap.size w wr) (fun i _ => zs.length - (intOf i).toNat)
  case atStart => exact ⟨0, Nat.zero_le _, rfl, HG.out.same (fun j _ => by simp), HB.out⟩
  case round =>
    obtain ⟨k, hk, rfl, ho, hbx⟩ := hrel
    have HO := Lib.hid ho
    have HBX := Lib.hid hbx
    by_cases hlt : k < zs.length
    · have hdk : decide ((k : Int) < (zs.length : Int)) = true := by simp; omega
      have ck := ho.1.2 k hlt
      simp only [Nat.lt_irrefl, if_false] at ck
      have fk := ho.2 k hlt
      obtain ⟨e1, e2⟩ := hfs k
      have HV := Lib.hid (show fft PP m (intAt zs) (invM (rootM zs.length)) k * invM zs.length % 998244353 = backP zs.length m (intAt zs) k from rfl)
      generalize fft PP m (intAt zs) (invM (rootM zs.length)) k = ev at ck e1 e2 HV
      obtain ⟨m1, m2⟩ := pp_mul e1 e2 nb1 nb2
      clear ho hbx hfs
      go_wp2
      go_roundw
      case rel => exact ⟨k + 1, by omega, by go_num, HO.out.set hlt (fun j hj => by
        by_cases e : j = k
        · subst e; rw [if_pos (by omega), if_pos rfl, HV.out]
        · rw [if_neg e]
          by_cases c : j < k
          · rw [if_pos c, if_pos (by omega)]
          · rw [if_neg c, if_neg (by omega)]), HBX.out.trans (by (repeat' (first | with_reducible exact Below.refl _ _ | (with_reducible refine below_later_of ?_ ?_ _) | (with_reducible refine Below.alloc ?_ ?_ _) | (with_reducible refine Below.setCell ?_ ?_ _) | (with_reducible refine Below.drew ?_) | (simp; done) | (simp; omega) | omega)))⟩
      case measure => simp [intOf]; omega
    · obtain rfl : k = zs.length := by omega
      have hdk : decide ((zs.length : Int) < (zs.length : Int)) = false := by simp
      clear ho hbx hfs
      go_wp2
      go_ret
      exact ⟨g, c, rfl, hgb, HO.out.same (fun j hj => if_pos hj), HBX.out⟩
/-- A list that is transformed: its length is a power of 2. -/
theorem two_pow {n : Nat} (h : twoB n = true) : ∃ m, m ≤ 7 ∧ n = 2 ^ m := by
  unfold twoB at h
  simp at h
  rcases h with rfl | rfl | rfl | rfl | rfl | rfl | rfl | rfl
  · exact ⟨0, by decide, rfl⟩
  · exact ⟨1, by decide, rfl⟩
  · exact ⟨2, by decide, rfl⟩
  · exact ⟨3, by decide, rfl⟩
  · exact ⟨4, by decide, rfl⟩
  · exact ⟨5, by decide, rfl⟩
  · exact ⟨6, by decide, rfl⟩
  · exact ⟨7, by decide, rfl⟩
theorem listE_ok {zs : List Int} (h : listE zs = 0) : (∃ m, m ≤ 7 ∧ zs.length = 2 ^ m) ∧ ∀ k, k < zs.length → 0 ≤ intAt zs k ∧ intAt zs k < 998244353 := by
  unfold listE at h
  split at h
  · rename_i h2
    split at h
    · rename_i h3
      refine ⟨two_pow h2, fun k hk => ?_⟩
      have := intAt_all.1 h3 k hk
      unfold inE at this
      simp at this
      omega
    · exact absurd h (by decide)
  · exact absurd h (by decide)
end Go.Proofs.YtakohhlmomgegaaDoor

/- Chapter 1: the first error; Transform, Correlate. -/
namespace Go.Proofs.YtakohhlmomgegaaDoor
set_option linter.unusedVariables false
set_option linter.unusedSimpArgs false
open Go.RowKit Ntt
def first2 (a b : Int) : Int := if a = 0 then b else a
set_option maxHeartbeats 400000 in
theorem first_two (x y : Int) (b : Nat) (w : World) (h0 : w.cell? ⟨b, 0, none⟩ = some (.int .i64 x)) (h1 : w.cell? ⟨b, 1, none⟩ = some (.int .i64 y)) :
    Calls Tryd.prog 77 #[.slice (some ⟨b, 0, none⟩) 2 2] w fun e w' => e = .returned (.int .i64 (first2 x y)) ∧ w = w' := by
  cases hx : (x != 0)
  · have hx' : x = 0 := by simpa using hx
    have HX := Lib.hid hx'
    clear hx'
    cases hy : (y != 0)
    · have hy' : y = 0 := by simpa using hy
      have HY := Lib.hid hy'
      clear hy'
      go_enter Tryd.func77, Tryd.ntmps77
      go_wp2
      refine wp_loop_rounds 3 ?_
      rw [rounds_succ]
      go_wp2
      rw [rounds_succ]
      go_wp2
      rw [rounds_succ]
      go_wp2
      go_ret
      exact ⟨ret_intE (by unfold first2; rw [if_pos HX.out, HY.out]), rfl⟩
    · go_enter Tryd.func77, Tryd.ntmps77
      go_wp2
      refine wp_loop_rounds 3 ?_
      rw [rounds_succ]
      go_wp2
      rw [rounds_succ]
      go_wp2
      go_ret
      exact ⟨ret_intE (by unfold first2; rw [if_pos HX.out]), rfl⟩
  · have hx' : ¬ x = 0 := by simpa using hx
    have HX := Lib.hid hx'
    clear hx'
    go_enter Tryd.func77, Tryd.ntmps77
    go_wp2
    refine wp_loop_rounds 3 ?_
    rw [rounds_succ]
    go_wp2
    go_ret
    exact ⟨ret_intE (by unfold first2; rw [if_neg HX.out]), rfl⟩
theorem first_e (x y : Int) (b : Nat) (w : World) {e0 : Int} (he : first2 x y = e0) (h0 : w.cell? ⟨b, 0, none⟩ = some (.int .i64 x)) (h1 : w.cell? ⟨b, 1, none⟩ = some (.int .i64 y)) :
    Calls Tryd.prog 77 #[.slice (some ⟨b, 0, none⟩) 2 2] w fun e w' => e = .returned (.int .i64 e0) ∧ w = w' := by
  subst he; exact first_two x y b w h0 h1
def OwnPost2 (n : Nat) (f : Nat → Int) (w : World) (e : Ending) (w' : World) : Prop :=
  ∃ g c, e = .returned (.tuple #[.slice (some ⟨g, 0, none⟩) n c, .int .i64 0]) ∧ w.heap.size ≤ g ∧ OwnF w' g n f ∧ Below w.heap.size w w'
set_option maxHeartbeats 1000000 in
theorem transform_ok (m : Nat) (hm : m ≤ 7) (zs : List Int) (v : Value) (w : World) (hz : zs.length = 2 ^ m) (hv : IntsV w v zs) (he : listE zs = 0) :
    Calls Tryd.prog 36 #[v] w (OwnPost2 zs.length (fft PP m (intAt zs) (rootM zs.length)) w) := by
  have hr := (listE_ok he).2
  have hp : 2 ^ m ≤ 2 ^ 7 := Nat.pow_le_pow_right (by decide) hm
  have hp0 : 0 < zs.length := by rw [hz]; exact Nat.two_pow_pos m
  have hl : zs.length ≤ 128 := by omega
  obtain ⟨rb1, rb2⟩ := powM_bd 3 (998244352 / zs.length)
  have HTR := Lib.hid (show ∀ w2, Below w.heap.size w w2 → Calls Tryd.prog 93 #[v, .int .i64 (rootM zs.length)] w2 (TransPost m (intAt zs) (rootM zs.length) w2) from fun w2 hb => transform_spec m hm zs v _ w2 hz (hv.below hb) hr rb1 rb2)
  have HV := Lib.hid hv
  have HE := Lib.hid he
  obtain ⟨hle, a, cap, rfl, -⟩ := hv
  have HZ := Lib.hid hz
  clear hr hz rb1 rb2 hp he
  go_enter Tryd.func36, Tryd.ntmps36
  go_wp2_with (first | (go_at_call 92; refine (listErr_any zs _ _ (HV.out.below (by (repeat' (first | with_reducible exact Below.refl _ _ | (with_reducible refine below_later_of ?_ ?_ _) | (with_reducible refine Below.alloc ?_ ?_ _) | (with_reducible refine Below.setCell ?_ ?_ _) | (with_reducible refine Below.drew ?_) | (simp; done) | (simp; omega) | omega)))) HE.out).mono ?_; rintro e w' ⟨rfl, rfl⟩) | (go_at_call 94; refine (rootOf_any zs.length _ (by omega) (by omega)).mono ?_; rintro e w' ⟨rfl, rfl⟩) | (go_at_call 93; (with_reducible refine (HTR.out _ (by (repeat' (first | with_reducible exact Below.refl _ _ | (with_reducible refine below_later_of ?_ ?_ _) | (with_reducible refine Below.alloc ?_ ?_ _) | (with_reducible refine Below.setCell ?_ ?_ _) | (with_reducible refine Below.drew ?_) | (simp; done) | (simp; omega) | omega)))).mono ?_); rintro e w' ⟨g, c, rfl, hgb, hg, hf, hb⟩; rw [← HZ.out] at hg hf ⊢; have HG := Lib.hid (show OwnF w' g _ _ from ⟨hg, hf⟩); clear hg hf; have HB := Lib.hid hb; clear hb))
  go_ret2
  exact ⟨g, c, rfl, hgb, HG.out, HB.out⟩
set_option maxHeartbeats 400000 in
theorem transform_bad (zs : List Int) (v : Value) (w : World) (hv : IntsV w v zs) {e0 : Int} (he : listE zs = e0) (h0 : e0 ≠ 0) :
    Calls Tryd.prog 36 #[v] w fun e w' => e = .returned (.tuple #[.slice none 0 0, .int .i64 e0]) ∧ w = w' := by
  have HV := Lib.hid hv
  have HE := Lib.hid he
  obtain ⟨hle, a, cap, rfl, -⟩ := hv
  have hne : (e0 != 0) = true := by simpa using h0
  clear he h0
  go_enter Tryd.func36, Tryd.ntmps36
  go_wp2_with (first | (go_at_call 92; refine (listErr_any zs _ _ (HV.out.below (by (repeat' (first | with_reducible exact Below.refl _ _ | (with_reducible refine below_later_of ?_ ?_ _) | (with_reducible refine Below.alloc ?_ ?_ _) | (with_reducible refine Below.setCell ?_ ?_ _) | (with_reducible refine Below.drew ?_) | (simp; done) | (simp; omega) | omega)))) HE.out).mono ?_; rintro e w' ⟨rfl, rfl⟩))
  go_ret2
  exact ⟨rfl, rfl⟩
end Go.Proofs.YtakohhlmomgegaaDoor

/- Chapter 1: Correlate. -/
namespace Go.Proofs.YtakohhlmomgegaaDoor
set_option linter.unusedVariables false
set_option linter.unusedSimpArgs false
open Go.RowKit Ntt
theorem intAt_map {n : Nat} (f : Nat → Int) {k : Nat} (hk : k < n) : intAt ((List.range n).map f) k = f k := by
  unfold intAt
  rw [List.getElem?_map, List.getElem?_range hk]
  rfl
theorem intsV_of {W : World} {g n c : Nat} {f : Nat → Int} (h : OwnF W g n f) (hn : n ≤ 1000000000) : IntsV W (.slice (some ⟨g, 0, none⟩) n c) ((List.range n).map f) := by
  have hl : ((List.range n).map f).length = n := by simp
  refine ⟨by omega, _, c, by rw [hl], fun _ => ⟨g, 0, rfl, h.1.1, fun k hk => ?_⟩⟩
  rw [hl] at hk
  rw [Nat.zero_add, intAt_map f hk]
  exact h.1.2 k hk
/-- The correlation, as the program finds it, is the correlation. -/
theorem corr_plain {m : Nat} (hm : m ≤ 7) {n : Nat} (hn : n = 2 ^ m) (a b z : Nat → Int) (hz : ∀ j, j < n → z j = fft PP m a (rootM n) j * fft PP m b (invM (rootM n)) j % PP) (s : Nat) :
    backP n m z s = corr n a b s % PP := by
  subst hn
  have R := roots m hm
  have S := R.swap
  have h1 : Cg PP (fft PP m z (invM (rootM (2 ^ m))) s) (dft (2 ^ m) (fun k => dft (2 ^ m) a (rootM (2 ^ m)) k * dft (2 ^ m) b (invM (rootM (2 ^ m))) k) (invM (rootM (2 ^ m))) s) :=
    (fft_cg m z s S.one).trans (dft_list (fun j hj => by
      rw [hz j hj]
      exact (Cg.emod _).trans ((fft_cg m a j R.one).mul (fft_cg m b j S.one))) _ _)
  have h2 := (h1.mul (Cg.refl (p := PP) (invM ((2 ^ m : Nat) : Int))))
  rw [Int.mul_comm (dft _ _ _ _)] at h2
  have h3 := h2.trans (corr_dft R (parts m hm) a b s)
  unfold backP
  exact h3.emod_eq
set_option maxHeartbeats 1000000 in
theorem correlate_bad (zs ys : List Int) (v u : Value) (w : World) (hv : IntsV w v zs) (hu : IntsV w u ys) {e0 : Int} (he : first2 (listE zs) (listE ys) = e0) (h0 : e0 ≠ 0) :
    Calls Tryd.prog 31 #[v, u] w fun e w' => e = .returned (.tuple #[.slice none 0 0, .int .i64 e0]) ∧ Below w.heap.size w w' := by
  have HL1 := Lib.hid (show ∀ w2, Below w.heap.size w w2 → _ from fun w2 hb => listErr_any zs v w2 (hv.below hb) rfl)
  have HL2 := Lib.hid (show ∀ w2, Below w.heap.size w w2 → _ from fun w2 hb => listErr_any ys u w2 (hu.below hb) rfl)
  have HF := Lib.hid he
  obtain ⟨hle, a, cap, rfl, -⟩ := hv
  obtain ⟨hle2, a2, cap2, rfl, -⟩ := hu
  have hne : (e0 != 0) = true := by simpa using h0
  clear he h0
  go_enter Tryd.func31, Tryd.ntmps31
  go_wp2_with (first | (go_at_call 92; (with_reducible refine (HL1.out _ (by (repeat' (first | with_reducible exact Below.refl _ _ | (with_reducible refine below_later_of ?_ ?_ _) | (with_reducible refine Below.alloc ?_ ?_ _) | (with_reducible refine Below.setCell ?_ ?_ _) | (with_reducible refine Below.drew ?_) | (simp; done) | (simp; omega) | omega)))).mono ?_); rintro e w' ⟨rfl, rfl⟩) | (go_at_call 92; (with_reducible refine (HL2.out _ (by (repeat' (first | with_reducible exact Below.refl _ _ | (with_reducible refine below_later_of ?_ ?_ _) | (with_reducible refine Below.alloc ?_ ?_ _) | (with_reducible refine Below.setCell ?_ ?_ _) | (with_reducible refine Below.drew ?_) | (simp; done) | (simp; omega) | omega)))).mono ?_); rintro e w' ⟨rfl, rfl⟩) | (go_at_call 77; refine (first_e _ _ _ _ HF.out (by (first | (simp [go_sem]; done) | simp [go_sem, ↓IntWalk.iteOmega])) (by (first | (simp [go_sem]; done) | simp [go_sem, ↓IntWalk.iteOmega]))).mono ?_; rintro e w' ⟨rfl, rfl⟩))
  go_ret2
  exact ⟨rfl, (by (repeat' (first | with_reducible exact Below.refl _ _ | (with_reducible refine below_later_of ?_ ?_ _) | (with_reducible refine Below.alloc ?_ ?_ _) | (with_reducible refine Below.setCell ?_ ?_ _) | (with_reducible refine Below.drew ?_) | (simp; done) | (simp; omega) | omega)))⟩
set_option maxHeartbeats 1000000 in
theorem correlate_clash (zs ys : List Int) (v u : Value) (w : World) (hv : IntsV w v zs) (hu : IntsV w u ys) (he : first2 (listE zs) (listE ys) = 0) (h0 : ys.length ≠ zs.length) :
    Calls Tryd.prog 31 #[v, u] w fun e w' => e = .returned (.tuple #[.slice none 0 0, .int .i64 13]) ∧ Below w.heap.size w w' := by
  have HL1 := Lib.hid (show ∀ w2, Below w.heap.size w w2 → _ from fun w2 hb => listErr_any zs v w2 (hv.below hb) rfl)
  have HL2 := Lib.hid (show ∀ w2, Below w.heap.size w w2 → _ from fun w2 hb => listErr_any ys u w2 (hu.below hb) rfl)
  have HF := Lib.hid he
  obtain ⟨hle, a, cap, rfl, -⟩ := hv
  obtain ⟨hle2, a2, cap2, rfl, -⟩ := hu
  have hne : ((ys.length : Int) != (zs.length : Int)) = true := by simp; omega
  clear he h0
  go_enter Tryd.func31, Tryd.ntmps31
  go_wp2_with (first | (go_at_call 92; (with_reducible refine (HL1.out _ (by (repeat' (first | with_reducible exact Below.refl _ _ | (with_reducible refine below_later_of ?_ ?_ _) | (with_reducible refine Below.alloc ?_ ?_ _) | (with_reducible refine Below.setCell ?_ ?_ _) | (with_reducible refine Below.drew ?_) | (simp; done) | (simp; omega) | omega)))).mono ?_); rintro e w' ⟨rfl, rfl⟩) | (go_at_call 92; (with_reducible refine (HL2.out _ (by (repeat' (first | with_reducible exact Below.refl _ _ | (with_reducible refine below_later_of ?_ ?_ _) | (with_reducible refine Below.alloc ?_ ?_ _) | (with_reducible refine Below.setCell ?_ ?_ _) | (with_reducible refine Below.drew ?_) | (simp; done) | (simp; omega) | omega)))).mono ?_); rintro e w' ⟨rfl, rfl⟩) | (go_at_call 77; refine (first_e _ _ _ _ HF.out (by (first | (simp [go_sem]; done) | simp [go_sem, ↓IntWalk.iteOmega])) (by (first | (simp [go_sem]; done) | simp [go_sem, ↓IntWalk.iteOmega]))).mono ?_; rintro e w' ⟨rfl, rfl⟩))
  go_ret2
  exact ⟨rfl, (by (repeat' (first | with_reducible exact Below.refl _ _ | (with_reducible refine below_later_of ?_ ?_ _) | (with_reducible refine Below.alloc ?_ ?_ _) | (with_reducible refine Below.setCell ?_ ?_ _) | (with_reducible refine Below.drew ?_) | (simp; done) | (simp; omega) | omega)))⟩
end Go.Proofs.YtakohhlmomgegaaDoor

/- Chapter 1: Correlate, of right lists. -/
namespace Go.Proofs.YtakohhlmomgegaaDoor
set_option linter.unusedVariables false
set_option linter.unusedSimpArgs false
open Go.RowKit Ntt
theorem OwnF.other {W : World} {g h n k : Nat} {f : Nat → Int} {z : Value} (o : OwnF W h n f) (hne : h ≠ g) : OwnF (W.setCell ⟨g, k, none⟩ z) h n f := by
  obtain ⟨⟨h1, h2⟩, h3⟩ := o
  refine ⟨⟨by simpa using h1, fun j hj => ?_⟩, fun j hj => ?_⟩
  · rw [World.cell?_setCell_other _ _ _ _ (by intro e2; simp at e2 <;> omega)]
    exact h2 j hj
  · have := h3 j hj
    simpa [go_sem] using this
theorem wp_worldV {P : Program} {c : Code} {Q : Exit → Act → World → Prop} {a : Act} {w : World} (F : World → Prop) (hf : F w) (h : ∀ W, F W → Code.wp P c Q a W) : Code.wp P c Q a w := h w hf
set_option maxRecDepth 20000 in
set_option maxHeartbeats 2000000 in
theorem correlate_ok (m : Nat) (hm : m ≤ 7) (zs ys : List Int) (v u : Value) (w : World) (hz : zs.length = 2 ^ m) (hy : ys.length = zs.length) (hv : IntsV w v zs) (hu : IntsV w u ys) (he : listE zs = 0) (he2 : listE ys = 0) :
    Calls Tryd.prog 31 #[v, u] w (OwnPost2 zs.length (fun s => corr zs.length (intAt zs) (intAt ys) s % PP) w) := by
  have hr := (listE_ok he).2
  have hr2 := (listE_ok he2).2
  have hp : 2 ^ m ≤ 2 ^ 7 := Nat.pow_le_pow_right (by decide) hm
  have hp0 : 0 < zs.length := by rw [hz]; exact Nat.two_pow_pos m
  have hl : zs.length ≤ 128 := by omega
  obtain ⟨rb1, rb2⟩ := powM_bd 3 (998244352 / zs.length)
  obtain ⟨ib1, ib2⟩ := powM_bd (rootM zs.length) 998244351
  have HL1 := Lib.hid (show ∀ w2, Below w.heap.size w w2 → _ from fun w2 hb => listErr_any zs v w2 (hv.below hb) he)
  have HL2 := Lib.hid (show ∀ w2, Below w.heap.size w w2 → _ from fun w2 hb => listErr_any ys u w2 (hu.below hb) he2)
  have HRO := Lib.hid (fun w => rootOf_any zs.length w hp0 hl)
  have HI1 := Lib.hid (fun w => inverse_any (rootM zs.length) w rb1 rb2)
  have HT1 := Lib.hid (show ∀ w2, Below w.heap.size w w2 → Calls Tryd.prog 93 #[v, .int .i64 (rootM zs.length)] w2 (TransPost m (intAt zs) (rootM zs.length) w2) from fun w2 hb => transform_spec m hm zs v _ w2 hz (hv.below hb) hr rb1 rb2)
  have HT2 := Lib.hid (show ∀ w2, Below w.heap.size w w2 → Calls Tryd.prog 93 #[u, .int .i64 (invM (rootM zs.length))] w2 (TransPost m (intAt ys) (invM (rootM zs.length)) w2) from fun w2 hb => transform_spec m hm ys u _ w2 (by rw [hy, hz]) (hu.below hb) hr2 ib1 ib2)
  have HFX := Lib.hid (fun k => fft_bd m (a := intAt zs) (rootM zs.length) k (fun i hi => hr i (by omega)))
  have HFY := Lib.hid (fun k => fft_bd m (a := intAt ys) (invM (rootM zs.length)) k (fun i hi => hr2 i (by omega)))
  have HBK := Lib.hid (show ∀ (W2 : World) (g c : Nat), OwnF W2 g zs.length (fun j => fft PP m (intAt zs) (rootM zs.length) j * fft PP m (intAt ys) (invM (rootM zs.length)) j % PP) → Calls Tryd.prog 96 #[.slice (some ⟨g, 0, none⟩) zs.length c] W2 (OwnPost zs.length (fun s => corr zs.length (intAt zs) (intAt ys) s % PP) W2) from fun W2 g c ho => by
    have hlen : ((List.range zs.length).map (fun j => fft PP m (intAt zs) (rootM zs.length) j * fft PP m (intAt ys) (invM (rootM zs.length)) j % PP)).length = zs.length := by simp
    have := back_any m hm _ (.slice (some ⟨g, 0, none⟩) zs.length c) W2 (by rw [hlen, hz]) (intsV_of ho (by omega)) (fun k hk => by rw [hlen] at hk; rw [intAt_map _ hk]; exact ⟨Int.emod_nonneg _ (by decide), Int.emod_lt_of_pos _ (by decide)⟩)
    rw [hlen] at this
    refine this.mono ?_
    rintro e w' ⟨g', c', he, hg', ho', hb'⟩
    exact ⟨g', c', he, hg', ho'.same (fun s _ => corr_plain hm hz _ _ _ (fun j hj => by rw [intAt_map _ hj]) s), hb'⟩)
  obtain ⟨hle, a, cap, rfl, -⟩ := hv
  obtain ⟨hle2, a2, cap2, rfl, -⟩ := hu
  have HZ := Lib.hid hz
  have hne : ((ys.length : Int) != (zs.length : Int)) = false := by rw [hy]; simp
  clear hr hr2 hz hy hp rb1 rb2 ib1 ib2 he he2
  go_enter Tryd.func31, Tryd.ntmps31
  go_wp2_with (first | (go_at_call 92; (with_reducible refine (HL1.out _ (by (repeat' (first | with_reducible exact Below.refl _ _ | (with_reducible refine below_later_of ?_ ?_ _) | (with_reducible refine Below.alloc ?_ ?_ _) | (with_reducible refine Below.setCell ?_ ?_ _) | (with_reducible refine Below.drew ?_) | (simp; done) | (simp; omega) | omega)))).mono ?_); rintro e w' ⟨rfl, rfl⟩) | (go_at_call 92; (with_reducible refine (HL2.out _ (by (repeat' (first | with_reducible exact Below.refl _ _ | (with_reducible refine below_later_of ?_ ?_ _) | (with_reducible refine Below.alloc ?_ ?_ _) | (with_reducible refine Below.setCell ?_ ?_ _) | (with_reducible refine Below.drew ?_) | (simp; done) | (simp; omega) | omega)))).mono ?_); rintro e w' ⟨rfl, rfl⟩) | (go_at_call 77; refine (first_e 0 0 _ _ rfl (by (first | (simp [go_sem]; done) | simp [go_sem, ↓IntWalk.iteOmega])) (by (first | (simp [go_sem]; done) | simp [go_sem, ↓IntWalk.iteOmega]))).mono ?_; rintro e w' ⟨rfl, rfl⟩) | (go_at_call 94; (with_reducible refine (HRO.out _).mono ?_); rintro e w' ⟨rfl, rfl⟩) | (go_at_call 95; (with_reducible refine (HI1.out _).mono ?_); rintro e w' ⟨rfl, rfl⟩) | (go_at_call 93; (with_reducible refine (HT1.out _ (by (repeat' (first | with_reducible exact Below.refl _ _ | (with_reducible refine below_later_of ?_ ?_ _) | (with_reducible refine Below.alloc ?_ ?_ _) | (with_reducible refine Below.setCell ?_ ?_ _) | (with_reducible refine Below.drew ?_) | (simp; done) | (simp; omega) | omega)))).mono ?_); rintro e w' ⟨g, c, rfl, hgb, hg, hf, hb⟩; rw [← HZ.out] at hg hf ⊢; have HG := Lib.hid (show OwnF w' g _ _ from ⟨hg, hf⟩); clear hg hf; obtain ⟨p1, rfl⟩ := later_of_below hb; clear hb) | (go_at_call 93; (with_reducible refine (HT2.out _ (by (repeat' (first | with_reducible exact Below.refl _ _ | (with_reducible refine below_later_of ?_ ?_ _) | (with_reducible refine Below.alloc ?_ ?_ _) | (with_reducible refine Below.setCell ?_ ?_ _) | (with_reducible refine Below.drew ?_) | (simp; done) | (simp; omega) | omega)))).mono ?_); rintro e w' ⟨h, d, rfl, hhb, hg, hf, hb⟩; rw [← HZ.out] at hg hf ⊢; have HH := Lib.hid (show OwnF w' h _ _ from ⟨hg, hf⟩); clear hg hf; obtain ⟨p2, rfl⟩ := later_of_below hb; clear hb))
  have hgh : g < h := Nat.lt_of_lt_of_le HG.out.1.1 hhb
  have hwg : w.heap.size ≤ g := by simp at hgb; omega
  have X1 := HFX.out
  have Y1 := HFY.out
  refine wp_worldV (fun W => OwnF W g zs.length (fft PP m (intAt zs) (rootM zs.length)) ∧ OwnF W h zs.length (fft PP m (intAt ys) (invM (rootM zs.length))) ∧ Below w.heap.size w W) ⟨HG.out.below (by (repeat' (first | with_reducible exact Below.refl _ _ | (with_reducible refine below_later_of ?_ ?_ _) | (with_reducible refine Below.alloc ?_ ?_ _) | (with_reducible refine Below.setCell ?_ ?_ _) | (with_reducible refine Below.drew ?_) | (simp; done) | (simp; omega) | omega))), HH.out, (by (repeat' (first | with_reducible exact Below.refl _ _ | (with_reducible refine below_later_of ?_ ?_ _) | (with_reducible refine Below.alloc ?_ ?_ _) | (with_reducible refine Below.setCell ?_ ?_ _) | (with_reducible refine Below.drew ?_) | (simp; done) | (simp; omega) | omega)))⟩ ?_
  clear HG HH hgb hhb
  rintro W2 ⟨hg2, hh2, hb2⟩
  have HG2 := Lib.hid hg2
  have HH2 := Lib.hid hh2
  have HB2 := Lib.hid hb2
  clear hg2 hh2 hb2
  go_loopw [37] (fun i wr => ∃ k : Nat, k ≤ zs.length ∧ i = .int .i64 k ∧ OwnF wr g zs.length (fun j => if j < k then fft PP m (intAt zs) (rootM zs.length) j * fft PP m (intAt ys) (invM (rootM zs.length)) j % PP else fft PP m (intAt zs) (rootM zs.length) j) ∧ OwnF wr h zs.length (fft PP m (intAt ys) (invM (rootM zs.length))) ∧ Below w.heap.size w wr) (fun i _ => zs.length - (intOf i).toNat)
  case atStart => exact ⟨0, Nat.zero_le _, rfl, HG2.out.same (fun j _ => by simp), HH2.out, HB2.out⟩
  case round =>
    obtain ⟨k, hk, rfl, ho, hoh, hbx⟩ := hrel
    have HO := Lib.hid ho
    have HOH := Lib.hid hoh
    have HBX := Lib.hid hbx
    by_cases hlt : k < zs.length
    · have hdk : decide ((k : Int) < (zs.length : Int)) = true := by simp; omega
      have ck := ho.1.2 k hlt
      simp only [Nat.lt_irrefl, if_false] at ck
      have fk := ho.2 k hlt
      have ch := hoh.1.2 k hlt
      obtain ⟨e1, e2⟩ := X1 k
      obtain ⟨f1, f2⟩ := Y1 k
      have HV := Lib.hid (show fft PP m (intAt zs) (rootM zs.length) k * fft PP m (intAt ys) (invM (rootM zs.length)) k % 998244353 = fft PP m (intAt zs) (rootM zs.length) k * fft PP m (intAt ys) (invM (rootM zs.length)) k % PP from rfl)
      generalize hxv : fft PP m (intAt zs) (rootM zs.length) k = xv at ck e1 e2 HV
      generalize hyv : fft PP m (intAt ys) (invM (rootM zs.length)) k = yv at ch f1 f2 HV
      have HXV := Lib.hid hxv
      have HYV := Lib.hid hyv
      obtain ⟨m1, m2⟩ := pp_mul e1 e2 f1 f2
      clear ho hoh hbx X1 Y1 hxv hyv
      go_wp2
      go_region
      all_goals
        go_wp2
        go_roundw
        case rel => exact ⟨k + 1, by omega, by go_num, HO.out.drew.set hlt (fun j hj => by
          by_cases e : j = k
          · subst e; rw [if_pos (by omega), if_pos rfl, HXV.out, HYV.out]
          · rw [if_neg e]
            by_cases c : j < k
            · rw [if_pos c, if_pos (by omega)]
            · rw [if_neg c, if_neg (by omega)]), HOH.out.drew.other (by omega), HBX.out.trans (by (repeat' (first | with_reducible exact Below.refl _ _ | (with_reducible refine below_later_of ?_ ?_ _) | (with_reducible refine Below.alloc ?_ ?_ _) | (with_reducible refine Below.setCell ?_ ?_ _) | (with_reducible refine Below.drew ?_) | (simp; done) | (simp; omega) | omega)))⟩
        case measure => simp [intOf]; omega
    · obtain rfl : k = zs.length := by omega
      have hdk : decide ((zs.length : Int) < (zs.length : Int)) = false := by simp
      have HZ2 := Lib.hid (ho.same (fun j hj => if_pos hj))
      have hsx := hbx.size
      clear ho hoh hbx X1 Y1
      go_wp2_with (first | (go_at_call 96; (with_reducible refine (HBK.out _ _ _ HZ2.out).mono ?_); rintro e w' ⟨g', c', rfl, hg', ho', hb'⟩; have HR := Lib.hid ho'; have HRB := Lib.hid hb'; clear ho' hb'))
      go_ret2
      exact ⟨g', c', rfl, by omega, HR.out, HBX.out.trans (HRB.out.mono hsx)⟩
end Go.Proofs.YtakohhlmomgegaaDoor
