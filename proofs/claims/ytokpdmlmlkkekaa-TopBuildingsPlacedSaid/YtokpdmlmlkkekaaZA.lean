import Derived.Test.YtokpdmlmlkkekaaRows
import Derived.WalkKit
import Derived.WalkSpells
import Derived.WalkLawsBesides
import Derived.Lib.Hide
import Derived.Test.YtokpdmlmlkkekaaZL
import Derived.Deep.LoopGhost
import Derived.Deep.RegionHeld3
namespace Go.Proofs.Ytokpdmlmlkkekaa
set_option linter.unusedVariables false
open Go.RowKit

set_option maxHeartbeats 400000 in
theorem within_any (n lo hi : Int) (w : World) :
    Calls Try.prog 91 #[.int .i64 n, .int .i64 lo, .int .i64 hi] w fun e w' => e = .returned (.bool (inR lo hi n)) ∧ w = w' := by
  unfold inR
  go_enter Try.func91, Try.ntmps91
  by_cases h1 : lo ≤ n
  · go_wp2
    go_ret
    exact ⟨by simp [h1], rfl⟩
  · have h2 : decide (lo ≤ n) = false := by simpa using h1
    go_wp2
    go_ret
    exact ⟨by simp, rfl⟩

set_option maxHeartbeats 400000 in
theorem off_any (t : Trk) (x : Int) (w : World) (h1 : -100000000 ≤ t.sx) (h2 : t.sx ≤ 100000000) (h3 : -1000000000 ≤ x) (h4 : x ≤ 1000000000) :
    Calls Try.prog 94 #[.agg #[.int .i64 t.sx, .int .i64 t.sy, .int .i64 t.sz, .int .i64 t.step, .int .i64 t.lines, .int .i64 t.near, .int .i64 t.bin, .int .i64 t.bins, .bool t.east], .int .i64 x] w
      fun e w' => e = .returned (.int .i64 (offP t x)) ∧ Below w.heap.size w w' := by
  unfold offP
  cases he : t.east
  · go_enter Try.func94, Try.ntmps94
    go_wp2
    go_ret
    exact ⟨by simp, (Below.refl _ _).alloc (Nat.le_refl _) _⟩
  · go_enter Try.func94, Try.ntmps94
    go_wp2
    go_ret
    exact ⟨by simp, (Below.refl _ _).alloc (Nat.le_refl _) _⟩

set_option maxHeartbeats 400000 in
theorem depth_any (t : Trk) (x : Int) (w : World) (h1 : -100000000 ≤ t.sz) (h2 : t.sz ≤ 100000000) (h3 : -1000000000 ≤ x) (h4 : x ≤ 1000000000) :
    Calls Try.prog 80 #[.agg #[.int .i64 t.sx, .int .i64 t.sy, .int .i64 t.sz, .int .i64 t.step, .int .i64 t.lines, .int .i64 t.near, .int .i64 t.bin, .int .i64 t.bins, .bool t.east], .int .i64 x] w
      fun e w' => e = .returned (.int .i64 (depthP t x)) ∧ Below w.heap.size w w' := by
  unfold depthP
  go_enter Try.func80, Try.ntmps80
  go_wp2
  go_ret
  exact ⟨rfl, (Below.refl _ _).alloc (Nat.le_refl _) _⟩


set_option maxHeartbeats 1000000 in
theorem square_any (t : Trk) (x y z : Int) (w : World) (h1 : -100000000 ≤ t.sx) (h2 : t.sx ≤ 100000000) (h3 : -100000000 ≤ x) (h4 : x ≤ 100000000)
     (k1 : -100000000 ≤ t.sz) (k2 : t.sz ≤ 100000000) (k3 : -100000000 ≤ z) (k4 : z ≤ 100000000) :
    Calls Try.prog 92 #[.agg #[.int .i64 t.sx, .int .i64 t.sy, .int .i64 t.sz, .int .i64 t.step, .int .i64 t.lines, .int .i64 t.near, .int .i64 t.bin, .int .i64 t.bins, .bool t.east], .agg #[.int .i64 x, .int .i64 y, .int .i64 z]] w
      fun e w' => e = .returned (.int .i64 (offP t x * offP t x + depthP t z * depthP t z)) ∧ Below w.heap.size w w' := by
  have b1 := sq_bd (offP t x) 200000000 (by unfold offP; split <;> omega) (by unfold offP; split <;> omega)
  have b2 := sq_bd (depthP t z) 200000000 (by unfold depthP; omega) (by unfold depthP; omega)
  simp only [Int.reduceMul] at b1 b2
  obtain ⟨b11, b12⟩ := b1
  obtain ⟨b21, b22⟩ := b2
  go_enter Try.func92, Try.ntmps92
  go_wp2
  refine wp_region_calm (by kernel_rfl) (by kernel_rfl) ?_
  repeat (go_big_quiet_step (first | (go_at_call 94; exact calm_of (off_any t _ _ (by omega) (by omega) (by omega) (by omega))) | (go_at_call 80; exact calm_of (depth_any t _ _ (by omega) (by omega) (by omega) (by omega)))))
  refine wpQuiet_nil ?_
  rintro _ ⟨p1, rfl⟩
  go_wp2
  go_ret
  exact ⟨rfl, (by (repeat' (first | with_reducible exact Below.refl _ _ | (with_reducible refine below_later_of ?_ ?_ _) | (with_reducible refine Below.alloc ?_ ?_ _) | (with_reducible refine Below.setCell ?_ ?_ _) | (with_reducible refine Below.drew ?_) | (simp; done) | (simp; omega) | omega)))⟩

end Go.Proofs.Ytokpdmlmlkkekaa

namespace Go.Proofs.Ytokpdmlmlkkekaa
set_option linter.unusedVariables false
open Go.RowKit

set_option maxHeartbeats 400000 in
theorem floor_pos (n b : Int) (w : World) (hb : 1 ≤ b) (hb2 : b ≤ 9223372036854775807) (h1 : -9223372036854775807 ≤ n) (h2 : n ≤ 9223372036854775807) :
    Calls Try.prog 133 #[.int .i64 n, .int .i64 b] w fun e w' => e = .returned (.int .i64 (n / b)) ∧ w = w' := by
  have hf := floor_of_tdiv n b hb
  have hq : n.tdiv b ≤ 9223372036854775807 ∧ -9223372036854775807 ≤ n.tdiv b := by
    have := Int.natAbs_tdiv_le_natAbs n b
    omega
  obtain ⟨q1, q2⟩ := hq
  by_cases hm : n.tmod b < 0
  · rw [if_pos hm] at hf
    have hq3 : -9223372036854775808 ≤ n.tdiv b - 1 := by omega
    have HF := Lib.hid hf
    clear hf
    have hn : n < 0 := by
      rcases Int.lt_or_le n 0 with h | h
      · exact h
      · exact absurd (Int.tmod_nonneg b h) (by omega)
    go_enter Try.func133, Try.ntmps133
    go_wp2
    go_ret
    exact ⟨ret_int HF.out, rfl⟩
  · rw [if_neg hm] at hf
    have HF := Lib.hid hf
    clear hf
    by_cases hn : 0 ≤ n
    · have h0 : 0 ≤ n % b := Int.emod_nonneg n (by omega)
      go_enter Try.func133, Try.ntmps133
      go_wp2
      go_ret
      exact ⟨ret_int HF.out, rfl⟩
    · go_enter Try.func133, Try.ntmps133
      go_wp2
      go_ret
      exact ⟨ret_int HF.out, rfl⟩

set_option maxHeartbeats 400000 in
theorem floor_neg (n b : Int) (w : World) (hb : 1 ≤ b) (hb2 : b ≤ 9223372036854775807) (h1 : -9223372036854775807 ≤ n) (h2 : n ≤ 9223372036854775807) :
    Calls Try.prog 133 #[.int .i64 (-n), .int .i64 (-b)] w fun e w' => e = .returned (.int .i64 (n / b)) ∧ w = w' := by
  have hf := floor_of_tdiv n b hb
  have hq : n.tdiv b ≤ 9223372036854775807 ∧ -9223372036854775807 ≤ n.tdiv b := by
    have := Int.natAbs_tdiv_le_natAbs n b
    omega
  obtain ⟨q1, q2⟩ := hq
  have hb3 : 0 < b := by omega
  by_cases hm : n.tmod b < 0
  · rw [if_pos hm] at hf
    have hq3 : -9223372036854775808 ≤ n.tdiv b - 1 := by omega
    have HF := Lib.hid hf
    clear hf
    have hn : n < 0 := by
      rcases Int.lt_or_le n 0 with h | h
      · exact h
      · exact absurd (Int.tmod_nonneg b h) (by omega)
    go_enter Try.func133, Try.ntmps133
    go_wp2
    go_ret
    exact ⟨ret_int HF.out, rfl⟩
  · rw [if_neg hm] at hf
    have HF := Lib.hid hf
    clear hf
    by_cases hn : 0 ≤ n
    · have h0 : 0 ≤ n % b := Int.emod_nonneg n (by omega)
      go_enter Try.func133, Try.ntmps133
      go_wp2
      go_ret
      exact ⟨ret_int HF.out, rfl⟩
    · go_enter Try.func133, Try.ntmps133
      go_wp2
      go_ret
      exact ⟨ret_int HF.out, rfl⟩

theorem floor_any (n b : Int) (w : World) (hb : b ≠ 0) (hb1 : -9223372036854775807 ≤ b) (hb2 : b ≤ 9223372036854775807) (h1 : -9223372036854775807 ≤ n) (h2 : n ≤ 9223372036854775807) :
    Calls Try.prog 133 #[.int .i64 n, .int .i64 b] w fun e w' => e = .returned (.int .i64 (floorP n b)) ∧ w = w' := by
  by_cases hp : b < 0
  · have e : floorP n b = (-n) / (-b) := by unfold floorP; rw [if_pos hp]
    rw [e]
    have := floor_neg (-n) (-b) w (by omega) (by omega) (by omega) (by omega)
    rwa [Int.neg_neg, Int.neg_neg] at this
  · have e : floorP n b = n / b := by unfold floorP; rw [if_neg hp]
    rw [e]
    exact floor_pos n b w (by omega) hb2 h1 h2

set_option maxHeartbeats 400000 in
theorem all_any (lo hi : Int) (b : Nat) (zs : List Int) (w : World) (hz : zs.length ≤ 100) (hc : ∀ k, k < zs.length → w.cell? ⟨b, k, none⟩ = some (.int .i64 (zs[k]?.getD 0))) :
    Calls Try.prog 96 #[.int .i64 lo, .int .i64 hi, .slice (some ⟨b, 0, none⟩) zs.length zs.length] w fun e w' => e = .returned (.bool (zs.all (inR lo hi))) ∧ w = w' := by
  have HC := Lib.hid hc
  clear hc
  go_enter Try.func96, Try.ntmps96
  go_wp2
  go_loop [11] (fun i => ∃ k : Nat, k ≤ zs.length ∧ i = .int .i64 k ∧ (zs.take k).all (inR lo hi) = true) (fun i => zs.length - (intOf i).toNat)
  case atStart => exact ⟨0, Nat.zero_le _, rfl, rfl⟩
  case round =>
    obtain ⟨k, hk, rfl, hall⟩ := hrel
    have HA := Lib.hid hall
    clear hall
    by_cases hlt : k < zs.length
    · have hcell := HC.out k hlt
      have htk : (zs.take (k + 1)).all (inR lo hi) = ((zs.take k).all (inR lo hi) && inR lo hi (zs[k]?.getD 0)) := by
        rw [List.take_succ_eq_append_getElem hlt, List.all_append, List.getElem?_eq_getElem hlt]; simp
      have hmem : zs[k]?.getD 0 ∈ zs := by rw [List.getElem?_eq_getElem hlt]; simp
      generalize zs[k]?.getD 0 = z at hcell htk hmem
      have HT := Lib.hid htk
      have HM := Lib.hid hmem
      clear htk hmem
      cases hin : inR lo hi z
      · go_wp2_with (go_at_call 91; refine (within_any _ _ _ _).mono ?_; rintro e w' ⟨rfl, rfl⟩)
        go_ret
        refine ⟨ret_bool ?_, rfl⟩
        symm
        rw [Bool.eq_false_iff]
        intro hh
        have := List.all_eq_true.1 hh z HM.out
        rw [hin] at this
        cases this
      · go_wp2_with (go_at_call 91; refine (within_any _ _ _ _).mono ?_; rintro e w' ⟨rfl, rfl⟩)
        go_round
        case rel => exact ⟨k + 1, by omega, by go_num, by rw [HT.out, HA.out, hin]; rfl⟩
        case measure => simp [intOf]; omega
    · go_wp2
      go_ret
      refine ⟨ret_bool ?_, rfl⟩
      rw [← HA.out, List.take_of_length_le (by omega)]

theorem all1 (lo hi x : Int) (b : Nat) (w : World) (c : Bool) (hc : inR lo hi x = c) (h0 : w.cell? ⟨b, 0, none⟩ = some (.int .i64 x)) :
    Calls Try.prog 96 #[.int .i64 lo, .int .i64 hi, .slice (some ⟨b, 0, none⟩) 1 1] w fun e w' => e = .returned (.bool c) ∧ w = w' :=
  (all_any lo hi b [x] w (by simp) (fun k hk => by
    match k, hk with
    | 0, _ => exact h0)).mono fun e w' ⟨he, hw⟩ => ⟨by rw [he, ← hc]; simp, hw⟩
theorem all2 (lo hi x y : Int) (b : Nat) (w : World) (c : Bool) (hc : (inR lo hi x && inR lo hi y) = c) (h0 : w.cell? ⟨b, 0, none⟩ = some (.int .i64 x)) (h1 : w.cell? ⟨b, 1, none⟩ = some (.int .i64 y)) :
    Calls Try.prog 96 #[.int .i64 lo, .int .i64 hi, .slice (some ⟨b, 0, none⟩) 2 2] w fun e w' => e = .returned (.bool c) ∧ w = w' :=
  (all_any lo hi b [x, y] w (by simp) (fun k hk => by
    match k, hk with
    | 0, _ => exact h0
    | 1, _ => exact h1)).mono fun e w' ⟨he, hw⟩ => ⟨by rw [he, ← hc]; simp, hw⟩
theorem all3 (lo hi x y z : Int) (b : Nat) (w : World) (c : Bool) (hc : (inR lo hi x && (inR lo hi y && inR lo hi z)) = c) (h0 : w.cell? ⟨b, 0, none⟩ = some (.int .i64 x)) (h1 : w.cell? ⟨b, 1, none⟩ = some (.int .i64 y)) (h2 : w.cell? ⟨b, 2, none⟩ = some (.int .i64 z)) :
    Calls Try.prog 96 #[.int .i64 lo, .int .i64 hi, .slice (some ⟨b, 0, none⟩) 3 3] w fun e w' => e = .returned (.bool c) ∧ w = w' :=
  (all_any lo hi b [x, y, z] w (by simp) (fun k hk => by
    match k, hk with
    | 0, _ => exact h0
    | 1, _ => exact h1
    | 2, _ => exact h2)).mono fun e w' ⟨he, hw⟩ => ⟨by rw [he, ← hc]; simp, hw⟩
theorem all4 (lo hi x y z u : Int) (b : Nat) (w : World) (c : Bool) (hc : (inR lo hi x && (inR lo hi y && (inR lo hi z && inR lo hi u))) = c) (h0 : w.cell? ⟨b, 0, none⟩ = some (.int .i64 x)) (h1 : w.cell? ⟨b, 1, none⟩ = some (.int .i64 y)) (h2 : w.cell? ⟨b, 2, none⟩ = some (.int .i64 z)) (h3 : w.cell? ⟨b, 3, none⟩ = some (.int .i64 u)) :
    Calls Try.prog 96 #[.int .i64 lo, .int .i64 hi, .slice (some ⟨b, 0, none⟩) 4 4] w fun e w' => e = .returned (.bool c) ∧ w = w' :=
  (all_any lo hi b [x, y, z, u] w (by simp) (fun k hk => by
    match k, hk with
    | 0, _ => exact h0
    | 1, _ => exact h1
    | 2, _ => exact h2
    | 3, _ => exact h3)).mono fun e w' ⟨he, hw⟩ => ⟨by rw [he, ← hc]; simp, hw⟩

set_option maxHeartbeats 400000 in
theorem first_two (x y : Int) (b : Nat) (w : World) (h0 : w.cell? ⟨b, 0, none⟩ = some (.int .i64 x)) (h1 : w.cell? ⟨b, 1, none⟩ = some (.int .i64 y)) :
    Calls Try.prog 109 #[.slice (some ⟨b, 0, none⟩) 2 2] w fun e w' => e = .returned (.int .i64 (first2 x y)) ∧ w = w' := by
  cases hx : (x != 0)
  · have hx' : x = 0 := by simpa using hx
    have HX := Lib.hid hx'
    clear hx'
    cases hy : (y != 0)
    · have hy' : y = 0 := by simpa using hy
      have HY := Lib.hid hy'
      clear hy'
      go_enter Try.func109, Try.ntmps109
      go_wp2
      refine wp_loop_rounds 3 ?_
      rw [rounds_succ]
      go_wp2
      rw [rounds_succ]
      go_wp2
      rw [rounds_succ]
      go_wp2
      go_ret
      exact ⟨ret_int (by unfold first2; rw [if_pos HX.out, HY.out]), rfl⟩
    · go_enter Try.func109, Try.ntmps109
      go_wp2
      refine wp_loop_rounds 3 ?_
      rw [rounds_succ]
      go_wp2
      rw [rounds_succ]
      go_wp2
      go_ret
      exact ⟨ret_int (by unfold first2; rw [if_pos HX.out]), rfl⟩
  · have hx' : ¬ x = 0 := by simpa using hx
    have HX := Lib.hid hx'
    clear hx'
    go_enter Try.func109, Try.ntmps109
    go_wp2
    refine wp_loop_rounds 3 ?_
    rw [rounds_succ]
    go_wp2
    go_ret
    exact ⟨ret_int (by unfold first2; rw [if_neg HX.out]), rfl⟩

set_option maxHeartbeats 400000 in
theorem checkPlace_any (x y z : Int) (w : World) :
    Calls Try.prog 95 #[.agg #[.int .i64 x, .int .i64 y, .int .i64 z]] w fun e w' => e = .returned (.int .i64 (checkPlaceP x y z)) ∧ Below w.heap.size w w' := by
  cases hp : placeB x y z
  · have HP := Lib.hid hp
    clear hp
    go_enter Try.func95, Try.ntmps95
    go_wp2_with (go_at_call 96; refine (all3 _ _ x y z _ _ _ HP.out (by go_simp) (by go_simp) (by go_simp)).mono ?_; rintro e w' ⟨rfl, rfl⟩)
    go_ret
    exact ⟨ret_int (by unfold checkPlaceP; rw [HP.out]; rfl), (by (repeat' (first | with_reducible exact Below.refl _ _ | (with_reducible refine below_later_of ?_ ?_ _) | (with_reducible refine Below.alloc ?_ ?_ _) | (with_reducible refine Below.setCell ?_ ?_ _) | (with_reducible refine Below.drew ?_) | (simp; done) | (simp; omega) | omega)))⟩
  · have HP := Lib.hid hp
    clear hp
    go_enter Try.func95, Try.ntmps95
    go_wp2_with (go_at_call 96; refine (all3 _ _ x y z _ _ _ HP.out (by go_simp) (by go_simp) (by go_simp)).mono ?_; rintro e w' ⟨rfl, rfl⟩)
    go_ret
    exact ⟨ret_int (by unfold checkPlaceP; rw [HP.out]; rfl), (by (repeat' (first | with_reducible exact Below.refl _ _ | (with_reducible refine below_later_of ?_ ?_ _) | (with_reducible refine Below.alloc ?_ ?_ _) | (with_reducible refine Below.setCell ?_ ?_ _) | (with_reducible refine Below.drew ?_) | (simp; done) | (simp; omega) | omega)))⟩
end Go.Proofs.Ytokpdmlmlkkekaa

namespace Go.Proofs.Ytokpdmlmlkkekaa
set_option linter.unusedVariables false
open Go.RowKit

theorem run_sqrt (b r : Nat) (h : Ieee.double.sqrt b = some r) (w : World) : (callFunc 150 #[.float .f64 b]).run Try.prog w = .ok (.value (.float .f64 r)) w := by
  rw [run_callFunc_extern (e := Extern.MathSqrt.sqrt) Try.func150 (by kernel_rfl) (by kernel_rfl) (by kernel_rfl) (by kernel_rfl)]
  have : Extern.MathSqrt.sqrt #[.float .f64 b] = pure (.float .f64 r) := by
    have h' : FloatKind.f64.format.sqrt b = some r := h
    change (match FloatKind.f64.format.sqrt b with
      | some r => pure (.float .f64 r)
      | none => do pure (.float .f64 (← choose (.nanBits .f64 b b))) : Sem Value) = _
    rw [h']
  rw [this]
  rfl

set_option maxHeartbeats 400000 in
theorem sqrt_any (b r : Nat) (w : World) (h : Ieee.double.sqrt b = some r) :
    Calls Try.prog 139 #[.float .f64 b] w fun e w' => e = .returned (.float .f64 r) ∧ w = w' := by
  have hs := run_sqrt b r h
  clear h
  go_enter Try.func139, Try.ntmps139
  go_wp2
  go_ret
  exact ⟨rfl, rfl⟩

set_option maxHeartbeats 400000 in
theorem root_any (n : Int) (w : World) (h0 : 0 ≤ n) (h1 : n ≤ 500000000000000000) :
    Calls Try.prog 82 #[.int .i64 n] w fun e w' => e = .returned (.int .i64 (rootP n)) ∧ w = w' := by
  obtain ⟨b, hb, r0, hr, hr0, hr1⟩ := sqrt_bound n h0 (by omega)
  have hcv := fun wx => run_convert_float_int (P := Try.prog) wx 165 3 .f64 .i64 b r0 (by kernel_rfl) Try.underlying3 hr
  generalize hfb : floatOfInt .f64 n = fb at hb
  have hci : ∀ wx, (convert 3 165 (.int .i64 n)).run Try.prog wx = .ok (.float .f64 fb) wx := fun wx => by
    rw [run_convert_int_float (P := Try.prog) wx 3 165 .i64 .f64 n (by kernel_rfl) Try.underlying165, hfb]
  clear hr hfb
  have HB := Lib.hid hb
  clear hb
  go_enter Try.func82, Try.ntmps82
  go_wp2_with (go_at_call 139; refine (sqrt_any _ _ _ HB.out).mono ?_; rintro e w' ⟨rfl, rfl⟩)
  clear HB hci hcv
  go_loop [3] (fun r => ∃ k : Int, 0 ≤ k ∧ k ≤ 2147483648 ∧ r = .int .i64 k) (fun r => (intOf r).toNat)
  case atStart => exact ⟨r0, hr0, hr1, rfl⟩
  case round =>
    clear hr0 hr1
    obtain ⟨k, hk0, hk1, rfl⟩ := hrel
    obtain ⟨b1, b2⟩ := sq_bd k 2147483648 (by omega) hk1
    simp only [Int.reduceMul] at b2
    by_cases hgt : n < k * k
    · have hk : 1 ≤ k := by
        rcases Int.lt_or_le 0 k with h | h
        · omega
        · have : k = 0 := by omega
          subst this; omega
      go_wp2
      go_round
      case rel => exact ⟨k - 1, by omega, by omega, rfl⟩
      case measure => simp [intOf]; omega
    · have hle : k * k ≤ n := by omega
      clear hgt
      go_wp2
      go_loop [3] (fun r => ∃ k : Int, 0 ≤ k ∧ k ≤ 2147483648 ∧ k * k ≤ n ∧ r = .int .i64 k) (fun r => (2147483648 - intOf r).toNat)
      case atStart => exact ⟨k, hk0, hk1, hle, rfl⟩
      case round =>
        clear hk0 hk1 b1 b2 hle
        obtain ⟨k, hk0, hk1, hle, rfl⟩ := hrel
        obtain ⟨b1, b2⟩ := sq_bd (k + 1) 2147483649 (by omega) (by omega)
        simp only [Int.reduceMul] at b2
        by_cases hup : (k + 1) * (k + 1) ≤ n
        · have hk2 : k + 1 ≤ 2147483648 := by
            rcases Int.lt_or_le k 2147483648 with h | h
            · omega
            · have : k = 2147483648 := by omega
              subst this; omega
          go_wp2
          go_round
          case rel => exact ⟨k + 1, by omega, by omega, hup, rfl⟩
          case measure => simp [intOf]; omega
        · go_wp2
          go_ret
          exact ⟨ret_int (rootP_unique n k hk0 hle (by omega) (by omega)).symm, rfl⟩

set_option maxHeartbeats 400000 in
theorem rootUp_any (n : Int) (w : World) (h0 : 0 ≤ n) (h1 : n ≤ 500000000000000000) :
    Calls Try.prog 81 #[.int .i64 n] w fun e w' => e = .returned (.int .i64 (rootUpP n)) ∧ w = w' := by
  obtain ⟨r0, r1, r2⟩ := rootP_spec n h0 (by omega)
  have r3 := rootP_le n h0 (by omega)
  obtain ⟨b1, b2⟩ := sq_bd (rootP n) 2147483648 (by omega) (by omega)
  simp only [Int.reduceMul] at b2
  by_cases hlt : rootP n * rootP n < n
  · go_enter Try.func81, Try.ntmps81
    go_wp2_with (go_at_call 82; refine (root_any _ _ (by omega) (by omega)).mono ?_; rintro e w' ⟨rfl, rfl⟩)
    go_ret
    exact ⟨ret_int (by unfold rootUpP; rw [if_pos hlt]), rfl⟩
  · go_enter Try.func81, Try.ntmps81
    go_wp2_with (go_at_call 82; refine (root_any _ _ (by omega) (by omega)).mono ?_; rintro e w' ⟨rfl, rfl⟩)
    go_ret
    exact ⟨ret_int (by unfold rootUpP; rw [if_neg (by omega)]), rfl⟩
end Go.Proofs.Ytokpdmlmlkkekaa

namespace Go.Proofs.Ytokpdmlmlkkekaa
set_option linter.unusedVariables false
open Go.RowKit

set_option maxHeartbeats 2000000 in
theorem checkTrack_any (t : Trk) (w : World) :
    Calls Try.prog 26 #[.agg #[.int .i64 t.sx, .int .i64 t.sy, .int .i64 t.sz, .int .i64 t.step, .int .i64 t.lines, .int .i64 t.near, .int .i64 t.bin, .int .i64 t.bins, .bool t.east]] w fun e w' => e = .returned (.int .i64 (checkTrackP t)) ∧ Below w.heap.size w w' := by
  cases hp : placeB t.sx t.sy t.sz
  · have hc : checkPlaceP t.sx t.sy t.sz = 2 := by unfold checkPlaceP; rw [hp]; rfl
    go_enter Try.func26, Try.ntmps26
    go_wp2_with (go_at_call 95; refine (checkPlace_any _ _ _ _).mono ?_; rintro e w' ⟨rfl, hb⟩; obtain ⟨pp, rfl⟩ := later_of_below hb; clear hb)
    go_ret
    exact ⟨ret_int (by unfold checkTrackP; rw [hp]; rfl), (by (repeat' (first | with_reducible exact Below.refl _ _ | (with_reducible refine below_later_of ?_ ?_ _) | (with_reducible refine Below.alloc ?_ ?_ _) | (with_reducible refine Below.setCell ?_ ?_ _) | (with_reducible refine Below.drew ?_) | (simp; done) | (simp; omega) | omega)))⟩
  · have hc : checkPlaceP t.sx t.sy t.sz = 0 := by unfold checkPlaceP; rw [hp]; rfl
    cases hz : (t.step == 0)
    · have hz' : ¬ t.step = 0 := by simpa using hz
      have HZ := Lib.hid hz'
      clear hz'
      cases h1 : inR (-1000) 1000 t.step
      · have HF := Lib.hid (show checkTrackP t = 2 by unfold checkTrackP; rw [hp, if_pos rfl, if_neg HZ.out, h1]; rfl)
        have H1 := Lib.hid h1
        clear h1
        (go_enter Try.func26, Try.ntmps26; go_wp2_with (first | (go_at_call 95; refine (checkPlace_any _ _ _ _).mono ?_; rintro e w' ⟨rfl, hb⟩; obtain ⟨pp, rfl⟩ := later_of_below hb; clear hb) | (go_at_call 96; first | ((with_reducible refine (all1 (-1000) 1000 t.step _ _ _ H1.out (by go_simp)).mono ?_); rintro e w' ⟨rfl, rfl⟩) | ((with_reducible refine (all1 1 10000 t.lines _ _ _ H2.out (by go_simp)).mono ?_); rintro e w' ⟨rfl, rfl⟩) | ((with_reducible refine (all1 0 100000000 t.near _ _ _ H3.out (by go_simp)).mono ?_); rintro e w' ⟨rfl, rfl⟩) | ((with_reducible refine (all1 1 1000 t.bin _ _ _ H4.out (by go_simp)).mono ?_); rintro e w' ⟨rfl, rfl⟩) | ((with_reducible refine (all1 1 100000 t.bins _ _ _ H5.out (by go_simp)).mono ?_); rintro e w' ⟨rfl, rfl⟩))); go_ret; exact ⟨ret_int HF.out.symm, (by (repeat' (first | with_reducible exact Below.refl _ _ | (with_reducible refine below_later_of ?_ ?_ _) | (with_reducible refine Below.alloc ?_ ?_ _) | (with_reducible refine Below.setCell ?_ ?_ _) | (with_reducible refine Below.drew ?_) | (simp; done) | (simp; omega) | omega)))⟩)
      · cases h2 : inR 1 10000 t.lines
        · have HF := Lib.hid (show checkTrackP t = 2 by unfold checkTrackP; rw [hp, if_pos rfl, if_neg HZ.out, h1, h2]; rfl)
          have H1 := Lib.hid h1
          have H2 := Lib.hid h2
          clear h1 h2
          (go_enter Try.func26, Try.ntmps26; go_wp2_with (first | (go_at_call 95; refine (checkPlace_any _ _ _ _).mono ?_; rintro e w' ⟨rfl, hb⟩; obtain ⟨pp, rfl⟩ := later_of_below hb; clear hb) | (go_at_call 96; first | ((with_reducible refine (all1 (-1000) 1000 t.step _ _ _ H1.out (by go_simp)).mono ?_); rintro e w' ⟨rfl, rfl⟩) | ((with_reducible refine (all1 1 10000 t.lines _ _ _ H2.out (by go_simp)).mono ?_); rintro e w' ⟨rfl, rfl⟩) | ((with_reducible refine (all1 0 100000000 t.near _ _ _ H3.out (by go_simp)).mono ?_); rintro e w' ⟨rfl, rfl⟩) | ((with_reducible refine (all1 1 1000 t.bin _ _ _ H4.out (by go_simp)).mono ?_); rintro e w' ⟨rfl, rfl⟩) | ((with_reducible refine (all1 1 100000 t.bins _ _ _ H5.out (by go_simp)).mono ?_); rintro e w' ⟨rfl, rfl⟩))); go_ret; exact ⟨ret_int HF.out.symm, (by (repeat' (first | with_reducible exact Below.refl _ _ | (with_reducible refine below_later_of ?_ ?_ _) | (with_reducible refine Below.alloc ?_ ?_ _) | (with_reducible refine Below.setCell ?_ ?_ _) | (with_reducible refine Below.drew ?_) | (simp; done) | (simp; omega) | omega)))⟩)
        · cases h3 : inR 0 100000000 t.near
          · have HF := Lib.hid (show checkTrackP t = 2 by unfold checkTrackP; rw [hp, if_pos rfl, if_neg HZ.out, h1, h2, h3]; rfl)
            have H1 := Lib.hid h1
            have H2 := Lib.hid h2
            have H3 := Lib.hid h3
            clear h1 h2 h3
            (go_enter Try.func26, Try.ntmps26; go_wp2_with (first | (go_at_call 95; refine (checkPlace_any _ _ _ _).mono ?_; rintro e w' ⟨rfl, hb⟩; obtain ⟨pp, rfl⟩ := later_of_below hb; clear hb) | (go_at_call 96; first | ((with_reducible refine (all1 (-1000) 1000 t.step _ _ _ H1.out (by go_simp)).mono ?_); rintro e w' ⟨rfl, rfl⟩) | ((with_reducible refine (all1 1 10000 t.lines _ _ _ H2.out (by go_simp)).mono ?_); rintro e w' ⟨rfl, rfl⟩) | ((with_reducible refine (all1 0 100000000 t.near _ _ _ H3.out (by go_simp)).mono ?_); rintro e w' ⟨rfl, rfl⟩) | ((with_reducible refine (all1 1 1000 t.bin _ _ _ H4.out (by go_simp)).mono ?_); rintro e w' ⟨rfl, rfl⟩) | ((with_reducible refine (all1 1 100000 t.bins _ _ _ H5.out (by go_simp)).mono ?_); rintro e w' ⟨rfl, rfl⟩))); go_ret; exact ⟨ret_int HF.out.symm, (by (repeat' (first | with_reducible exact Below.refl _ _ | (with_reducible refine below_later_of ?_ ?_ _) | (with_reducible refine Below.alloc ?_ ?_ _) | (with_reducible refine Below.setCell ?_ ?_ _) | (with_reducible refine Below.drew ?_) | (simp; done) | (simp; omega) | omega)))⟩)
          · cases h4 : inR 1 1000 t.bin
            · have HF := Lib.hid (show checkTrackP t = 2 by unfold checkTrackP; rw [hp, if_pos rfl, if_neg HZ.out, h1, h2, h3, h4]; rfl)
              have H1 := Lib.hid h1
              have H2 := Lib.hid h2
              have H3 := Lib.hid h3
              have H4 := Lib.hid h4
              clear h1 h2 h3 h4
              (go_enter Try.func26, Try.ntmps26; go_wp2_with (first | (go_at_call 95; refine (checkPlace_any _ _ _ _).mono ?_; rintro e w' ⟨rfl, hb⟩; obtain ⟨pp, rfl⟩ := later_of_below hb; clear hb) | (go_at_call 96; first | ((with_reducible refine (all1 (-1000) 1000 t.step _ _ _ H1.out (by go_simp)).mono ?_); rintro e w' ⟨rfl, rfl⟩) | ((with_reducible refine (all1 1 10000 t.lines _ _ _ H2.out (by go_simp)).mono ?_); rintro e w' ⟨rfl, rfl⟩) | ((with_reducible refine (all1 0 100000000 t.near _ _ _ H3.out (by go_simp)).mono ?_); rintro e w' ⟨rfl, rfl⟩) | ((with_reducible refine (all1 1 1000 t.bin _ _ _ H4.out (by go_simp)).mono ?_); rintro e w' ⟨rfl, rfl⟩) | ((with_reducible refine (all1 1 100000 t.bins _ _ _ H5.out (by go_simp)).mono ?_); rintro e w' ⟨rfl, rfl⟩))); go_ret; exact ⟨ret_int HF.out.symm, (by (repeat' (first | with_reducible exact Below.refl _ _ | (with_reducible refine below_later_of ?_ ?_ _) | (with_reducible refine Below.alloc ?_ ?_ _) | (with_reducible refine Below.setCell ?_ ?_ _) | (with_reducible refine Below.drew ?_) | (simp; done) | (simp; omega) | omega)))⟩)
            · cases h5 : inR 1 100000 t.bins
              · have HF := Lib.hid (show checkTrackP t = 2 by unfold checkTrackP; rw [hp, if_pos rfl, if_neg HZ.out, h1, h2, h3, h4, h5]; rfl)
                have H1 := Lib.hid h1
                have H2 := Lib.hid h2
                have H3 := Lib.hid h3
                have H4 := Lib.hid h4
                have H5 := Lib.hid h5
                clear h1 h2 h3 h4 h5
                (go_enter Try.func26, Try.ntmps26; go_wp2_with (first | (go_at_call 95; refine (checkPlace_any _ _ _ _).mono ?_; rintro e w' ⟨rfl, hb⟩; obtain ⟨pp, rfl⟩ := later_of_below hb; clear hb) | (go_at_call 96; first | ((with_reducible refine (all1 (-1000) 1000 t.step _ _ _ H1.out (by go_simp)).mono ?_); rintro e w' ⟨rfl, rfl⟩) | ((with_reducible refine (all1 1 10000 t.lines _ _ _ H2.out (by go_simp)).mono ?_); rintro e w' ⟨rfl, rfl⟩) | ((with_reducible refine (all1 0 100000000 t.near _ _ _ H3.out (by go_simp)).mono ?_); rintro e w' ⟨rfl, rfl⟩) | ((with_reducible refine (all1 1 1000 t.bin _ _ _ H4.out (by go_simp)).mono ?_); rintro e w' ⟨rfl, rfl⟩) | ((with_reducible refine (all1 1 100000 t.bins _ _ _ H5.out (by go_simp)).mono ?_); rintro e w' ⟨rfl, rfl⟩))); go_ret; exact ⟨ret_int HF.out.symm, (by (repeat' (first | with_reducible exact Below.refl _ _ | (with_reducible refine below_later_of ?_ ?_ _) | (with_reducible refine Below.alloc ?_ ?_ _) | (with_reducible refine Below.setCell ?_ ?_ _) | (with_reducible refine Below.drew ?_) | (simp; done) | (simp; omega) | omega)))⟩)
              · have HF := Lib.hid (show checkTrackP t = 0 by unfold checkTrackP; rw [hp, if_pos rfl, if_neg HZ.out, h1, h2, h3, h4, h5]; rfl)
                have H1 := Lib.hid h1
                have H2 := Lib.hid h2
                have H3 := Lib.hid h3
                have H4 := Lib.hid h4
                have H5 := Lib.hid h5
                clear h1 h2 h3 h4 h5
                (go_enter Try.func26, Try.ntmps26; go_wp2_with (first | (go_at_call 95; refine (checkPlace_any _ _ _ _).mono ?_; rintro e w' ⟨rfl, hb⟩; obtain ⟨pp, rfl⟩ := later_of_below hb; clear hb) | (go_at_call 96; first | ((with_reducible refine (all1 (-1000) 1000 t.step _ _ _ H1.out (by go_simp)).mono ?_); rintro e w' ⟨rfl, rfl⟩) | ((with_reducible refine (all1 1 10000 t.lines _ _ _ H2.out (by go_simp)).mono ?_); rintro e w' ⟨rfl, rfl⟩) | ((with_reducible refine (all1 0 100000000 t.near _ _ _ H3.out (by go_simp)).mono ?_); rintro e w' ⟨rfl, rfl⟩) | ((with_reducible refine (all1 1 1000 t.bin _ _ _ H4.out (by go_simp)).mono ?_); rintro e w' ⟨rfl, rfl⟩) | ((with_reducible refine (all1 1 100000 t.bins _ _ _ H5.out (by go_simp)).mono ?_); rintro e w' ⟨rfl, rfl⟩))); go_ret; exact ⟨ret_int HF.out.symm, (by (repeat' (first | with_reducible exact Below.refl _ _ | (with_reducible refine below_later_of ?_ ?_ _) | (with_reducible refine Below.alloc ?_ ?_ _) | (with_reducible refine Below.setCell ?_ ?_ _) | (with_reducible refine Below.drew ?_) | (simp; done) | (simp; omega) | omega)))⟩)
    · go_enter Try.func26, Try.ntmps26
      go_wp2_with (go_at_call 95; refine (checkPlace_any _ _ _ _).mono ?_; rintro e w' ⟨rfl, hb⟩; obtain ⟨pp, rfl⟩ := later_of_below hb; clear hb)
      go_ret
      exact ⟨ret_int (by unfold checkTrackP; rw [hp, if_pos rfl, if_pos (by simpa using hz)]), (by (repeat' (first | with_reducible exact Below.refl _ _ | (with_reducible refine below_later_of ?_ ?_ _) | (with_reducible refine Below.alloc ?_ ?_ _) | (with_reducible refine Below.setCell ?_ ?_ _) | (with_reducible refine Below.drew ?_) | (simp; done) | (simp; omega) | omega)))⟩

set_option maxHeartbeats 400000 in
theorem line_any (t : Trk) (y : Int) (w : World) (o : t.Ok) (h3 : -1000000000 ≤ y) (h4 : y ≤ 1000000000) :
    Calls Try.prog 90 #[.agg #[.int .i64 t.sx, .int .i64 t.sy, .int .i64 t.sz, .int .i64 t.step, .int .i64 t.lines, .int .i64 t.near, .int .i64 t.bin, .int .i64 t.bins, .bool t.east], .int .i64 y] w fun e w' => e = .returned (.int .i64 (lineP t y)) ∧ Below w.heap.size w w' := by
  obtain ⟨h_sx1, h_sx2, h_sy1, h_sy2, h_sz1, h_sz2, h_st0, h_st1, h_st2, -, -, -, -, -, -, -, -⟩ := o
  go_enter Try.func90, Try.ntmps90
  go_wp2_with (go_at_call 133; refine (floor_any _ _ _ (by omega) (by omega) (by omega) (by omega) (by omega)).mono ?_; rintro e w' ⟨rfl, rfl⟩)
  go_ret
  exact ⟨rfl, (by (repeat' (first | with_reducible exact Below.refl _ _ | (with_reducible refine below_later_of ?_ ?_ _) | (with_reducible refine Below.alloc ?_ ?_ _) | (with_reducible refine Below.setCell ?_ ?_ _) | (with_reducible refine Below.drew ?_) | (simp; done) | (simp; omega) | omega)))⟩

end Go.Proofs.Ytokpdmlmlkkekaa

namespace Go.Proofs.Ytokpdmlmlkkekaa
set_option linter.unusedVariables false
open Go.RowKit

set_option maxHeartbeats 1000000 in
theorem pixel_any (t : Trk) (x y z : Int) (w : World) (o : t.Ok) (hx : placeB x y z = true) :
    Calls Try.prog 93 #[.agg #[.int .i64 t.sx, .int .i64 t.sy, .int .i64 t.sz, .int .i64 t.step, .int .i64 t.lines, .int .i64 t.near, .int .i64 t.bin, .int .i64 t.bins, .bool t.east], .agg #[.int .i64 x, .int .i64 y, .int .i64 z]] w
      fun e w' => e = .returned (.agg #[.int .i64 (lineP t y), .int .i64 (binP t (rootP (squareP t x z)))]) ∧ Below w.heap.size w w' := by
  have O := Lib.hid o
  obtain ⟨h_sx1, h_sx2, h_sy1, h_sy2, h_sz1, h_sz2, -, -, -, -, -, h_ne1, h_ne2, h_bi1, h_bi2, -, -⟩ := o
  rw [placeB_iff] at hx
  obtain ⟨⟨x1, x2⟩, ⟨y1, y2⟩, z1, z2⟩ := hx
  obtain ⟨s1, s2⟩ := squareP_bd t x z h_sx1 h_sx2 h_sz1 h_sz2 x1 x2 z1 z2
  unfold squareP at s1 s2 ⊢
  have r1 := rootP_spec _ s1 (by omega)
  have r2 := rootP_le _ s1 (by omega)
  obtain ⟨r0, -, -⟩ := r1
  go_enter Try.func93, Try.ntmps93
  go_wp2
  refine wp_region_calm_tail 17 (by kernel_rfl) (by kernel_rfl) ?_
  simp only [List.take_succ_cons, List.take_zero, List.drop_succ_cons, List.drop_zero]
  repeat (go_big_quiet_step (first | (go_at_call 90; exact calm_of (line_any t _ _ O.out (by omega) (by omega))) | (go_at_call 92; exact calm_of (square_any t _ _ _ _ (by omega) (by omega) (by omega) (by omega) (by omega) (by omega) (by omega) (by omega))) | (go_at_call 82; exact calm_same (root_any _ _ (by omega) (by omega))) | (go_at_call 133; exact calm_same (floor_any _ _ _ (by omega) (by omega) (by omega) (by omega) (by omega)))))
  refine wpQuiet_nil ?_
  rintro _ ⟨p1, rfl⟩
  go_wp2
  refine bodyPost_ret ?_ rfl ⟨rfl, (by (repeat' (first | with_reducible exact Below.refl _ _ | (with_reducible refine below_later_of ?_ ?_ _) | (with_reducible refine Below.alloc ?_ ?_ _) | (with_reducible refine Below.setCell ?_ ?_ _) | (with_reducible refine Below.drew ?_) | (simp; done) | (simp; omega) | omega)))⟩
  first | (simp [results, Try.results93, go_sem, binP]; done) | simp [results, Try.results93, go_sem, binP, ↓IntWalk.iteOmega]
end Go.Proofs.Ytokpdmlmlkkekaa

namespace Go.Proofs.Ytokpdmlmlkkekaa
set_option linter.unusedVariables false
open Go.RowKit
set_option maxHeartbeats 1000000 in
theorem seen_any (t : Trk) (x y z : Int) (w : World) :
    Calls Try.prog 89 #[.agg #[.int .i64 t.sx, .int .i64 t.sy, .int .i64 t.sz, .int .i64 t.step, .int .i64 t.lines, .int .i64 t.near, .int .i64 t.bin, .int .i64 t.bins, .bool t.east], .agg #[.int .i64 x, .int .i64 y, .int .i64 z]] w
      fun e w' => e = .returned (.tuple #[.agg #[.int .i64 t.sx, .int .i64 t.sy, .int .i64 t.sz, .int .i64 t.step, .int .i64 t.lines, .int .i64 t.near, .int .i64 t.bin, .int .i64 t.bins, .bool t.east], .int .i64 (first2 (checkTrackP t) (checkPlaceP x y z))]) ∧ Below w.heap.size w w' := by
  go_enter Try.func89, Try.ntmps89
  go_wp2
  go_region_held3 (fun w' => w'.cell? ⟨w.heap.size, 0, none⟩ = some (.int .i64 t.sx) ∧ w'.cell? ⟨w.heap.size, 1, none⟩ = some (.int .i64 t.sy) ∧ w'.cell? ⟨w.heap.size, 2, none⟩ = some (.int .i64 t.sz) ∧ w'.cell? ⟨w.heap.size, 3, none⟩ = some (.int .i64 t.step) ∧ w'.cell? ⟨w.heap.size, 4, none⟩ = some (.int .i64 t.lines) ∧ w'.cell? ⟨w.heap.size, 5, none⟩ = some (.int .i64 t.near) ∧ w'.cell? ⟨w.heap.size, 6, none⟩ = some (.int .i64 t.bin) ∧ w'.cell? ⟨w.heap.size, 7, none⟩ = some (.int .i64 t.bins) ∧ w'.cell? ⟨w.heap.size, 8, none⟩ = some (.bool t.east) ∧ w'.cell? ⟨w.heap.size + 1, 0, none⟩ = some (.int .i64 x) ∧ w'.cell? ⟨w.heap.size + 1, 1, none⟩ = some (.int .i64 y) ∧ w'.cell? ⟨w.heap.size + 1, 2, none⟩ = some (.int .i64 z)) (first | ((first | (simp [go_sem]; done) | simp [go_sem, ↓IntWalk.iteOmega]); done)) (first | (go_at_call 26; refine (checkTrack_any t _).mono ?_; rintro e w' ⟨rfl, hb⟩; obtain ⟨pp, rfl⟩ := later_of_below hb; clear hb) | (go_at_call 95; refine (checkPlace_any _ _ _ _).mono ?_; rintro e w' ⟨rfl, hb⟩; obtain ⟨pp, rfl⟩ := later_of_below hb; clear hb) | (go_at_call 109; refine (first_two (checkTrackP t) (checkPlaceP x y z) _ _ (by (first | (simp [go_sem]; done) | simp [go_sem, ↓IntWalk.iteOmega])) (by (first | (simp [go_sem]; done) | simp [go_sem, ↓IntWalk.iteOmega]))).mono ?_; rintro e w' ⟨rfl, rfl⟩))
  go_wp2
  refine bodyPost_ret ?_ rfl ⟨rfl, (by (repeat' (first | with_reducible exact Below.refl _ _ | (with_reducible refine below_later_of ?_ ?_ _) | (with_reducible refine Below.alloc ?_ ?_ _) | (with_reducible refine Below.setCell ?_ ?_ _) | (with_reducible refine Below.drew ?_) | (simp; done) | (simp; omega) | omega)))⟩
  first | (simp [results, Try.results89, go_sem]; done) | simp [results, Try.results89, go_sem, ↓IntWalk.iteOmega]
end Go.Proofs.Ytokpdmlmlkkekaa

namespace Go.Proofs.Ytokpdmlmlkkekaa
set_option linter.unusedVariables false
open Go.RowKit
theorem seen_e (t : Trk) (x y z : Int) (w : World) {e0 : Int} (h : seenP t x y z = e0) :
    Calls Try.prog 89 #[.agg #[.int .i64 t.sx, .int .i64 t.sy, .int .i64 t.sz, .int .i64 t.step, .int .i64 t.lines, .int .i64 t.near, .int .i64 t.bin, .int .i64 t.bins, .bool t.east], .agg #[.int .i64 x, .int .i64 y, .int .i64 z]] w
      fun e w' => e = .returned (.tuple #[.agg #[.int .i64 t.sx, .int .i64 t.sy, .int .i64 t.sz, .int .i64 t.step, .int .i64 t.lines, .int .i64 t.near, .int .i64 t.bin, .int .i64 t.bins, .bool t.east], .int .i64 e0]) ∧ Below w.heap.size w w' := by
  subst h; exact seen_any t x y z w
theorem within_c (n lo hi : Int) (w : World) {c : Bool} (h : inR lo hi n = c) :
    Calls Try.prog 91 #[.int .i64 n, .int .i64 lo, .int .i64 hi] w fun e w' => e = .returned (.bool c) ∧ w = w' := by
  subst h; exact within_any n lo hi w
set_option maxHeartbeats 1000000 in
theorem lineOf_any (t : Trk) (x y z : Int) (w : World) :
    Calls Try.prog 23 #[.agg #[.int .i64 t.sx, .int .i64 t.sy, .int .i64 t.sz, .int .i64 t.step, .int .i64 t.lines, .int .i64 t.near, .int .i64 t.bin, .int .i64 t.bins, .bool t.east], .agg #[.int .i64 x, .int .i64 y, .int .i64 z]] w
      fun e w' => e = .returned (.tuple #[.int .i64 (lineOfP t x y z).1, .int .i64 (lineOfP t x y z).2]) ∧ Below w.heap.size w w' := by
  by_cases h : seenP t x y z = 0
  · have HE := Lib.hid h
    obtain ⟨o, hp⟩ := seenP_ok h
    have O := Lib.hid o
    obtain ⟨h_sx1, h_sx2, h_sy1, h_sy2, h_sz1, h_sz2, -, -, -, l1, l2, h_ne1, h_ne2, h_bi1, h_bi2, -, -⟩ := o
    rw [placeB_iff] at hp
    obtain ⟨⟨x1, x2⟩, ⟨y1, y2⟩, z1, z2⟩ := hp
    cases h1 : inR 0 (t.lines - 1) (lineP t y)
    · have HF : lineOfP t x y z = (0, 12) := by unfold lineOfP; rw [if_pos h, h1]; rfl
      rw [HF]
      have H1 := Lib.hid h1
      clear h h1 HF
      go_enter Try.func23, Try.ntmps23
      go_wp2_with (first | (go_at_call 89; refine (seen_e t x y z _ HE.out).mono ?_; rintro e w' ⟨rfl, hb⟩; obtain ⟨pp, rfl⟩ := later_of_below hb; clear hb) | (go_at_call 90; refine (line_any t _ _ O.out (by omega) (by omega)).mono ?_; rintro e w' ⟨rfl, hb⟩; obtain ⟨pp, rfl⟩ := later_of_below hb; clear hb) | (go_at_call 91; (with_reducible refine (within_c _ _ _ _ H1.out).mono ?_); rintro e w' ⟨rfl, rfl⟩))
      refine bodyPost_ret ?_ rfl ⟨rfl, (by (repeat' (first | with_reducible exact Below.refl _ _ | (with_reducible refine below_later_of ?_ ?_ _) | (with_reducible refine Below.alloc ?_ ?_ _) | (with_reducible refine Below.setCell ?_ ?_ _) | (with_reducible refine Below.drew ?_) | (simp; done) | (simp; omega) | omega)))⟩
      first | (simp [results, Try.results23, go_sem]; done) | simp [results, Try.results23, go_sem, ↓IntWalk.iteOmega]
    · have HF : lineOfP t x y z = (lineP t y, 0) := by unfold lineOfP; rw [if_pos h, h1]; rfl
      rw [HF]
      have H1 := Lib.hid h1
      clear h h1 HF
      go_enter Try.func23, Try.ntmps23
      go_wp2_with (first | (go_at_call 89; refine (seen_e t x y z _ HE.out).mono ?_; rintro e w' ⟨rfl, hb⟩; obtain ⟨pp, rfl⟩ := later_of_below hb; clear hb) | (go_at_call 90; refine (line_any t _ _ O.out (by omega) (by omega)).mono ?_; rintro e w' ⟨rfl, hb⟩; obtain ⟨pp, rfl⟩ := later_of_below hb; clear hb) | (go_at_call 91; (with_reducible refine (within_c _ _ _ _ H1.out).mono ?_); rintro e w' ⟨rfl, rfl⟩))
      refine bodyPost_ret ?_ rfl ⟨rfl, (by (repeat' (first | with_reducible exact Below.refl _ _ | (with_reducible refine below_later_of ?_ ?_ _) | (with_reducible refine Below.alloc ?_ ?_ _) | (with_reducible refine Below.setCell ?_ ?_ _) | (with_reducible refine Below.drew ?_) | (simp; done) | (simp; omega) | omega)))⟩
      first | (simp [results, Try.results23, go_sem]; done) | simp [results, Try.results23, go_sem, ↓IntWalk.iteOmega]
  · obtain ⟨e0, he⟩ : ∃ e0, seenP t x y z = e0 := ⟨_, rfl⟩
    have HF : lineOfP t x y z = (0, e0) := by unfold lineOfP; rw [if_neg h, he]
    rw [HF]
    rw [he] at h
    have HE := Lib.hid he
    clear HF he
    go_enter Try.func23, Try.ntmps23
    go_wp2_with (first | (go_at_call 89; refine (seen_e t x y z _ HE.out).mono ?_; rintro e w' ⟨rfl, hb⟩; obtain ⟨pp, rfl⟩ := later_of_below hb; clear hb))
    refine bodyPost_ret ?_ rfl ⟨rfl, (by (repeat' (first | with_reducible exact Below.refl _ _ | (with_reducible refine below_later_of ?_ ?_ _) | (with_reducible refine Below.alloc ?_ ?_ _) | (with_reducible refine Below.setCell ?_ ?_ _) | (with_reducible refine Below.drew ?_) | (simp; done) | (simp; omega) | omega)))⟩
    first | (simp [results, Try.results23, go_sem]; done) | simp [results, Try.results23, go_sem, ↓IntWalk.iteOmega]
set_option maxHeartbeats 1000000 in
theorem slantOf_any (t : Trk) (x y z : Int) (w : World) :
    Calls Try.prog 24 #[.agg #[.int .i64 t.sx, .int .i64 t.sy, .int .i64 t.sz, .int .i64 t.step, .int .i64 t.lines, .int .i64 t.near, .int .i64 t.bin, .int .i64 t.bins, .bool t.east], .agg #[.int .i64 x, .int .i64 y, .int .i64 z]] w
      fun e w' => e = .returned (.tuple #[.agg #[.int .i64 (slantOfP t x y z).1, .int .i64 (slantOfP t x y z).2.1], .int .i64 (slantOfP t x y z).2.2]) ∧ Below w.heap.size w w' := by
  by_cases h : seenP t x y z = 0
  · have HE := Lib.hid h
    obtain ⟨o, hp⟩ := seenP_ok h
    obtain ⟨h_sx1, h_sx2, h_sy1, h_sy2, h_sz1, h_sz2, -, -, -, -, -, -, -, -, -, -, -⟩ := o
    rw [placeB_iff] at hp
    obtain ⟨⟨x1, x2⟩, ⟨y1, y2⟩, z1, z2⟩ := hp
    have HF : slantOfP t x y z = (rootP (squareP t x z), rootUpP (squareP t x z), 0) := by unfold slantOfP; rw [if_pos h]
    rw [HF]
    obtain ⟨s1, s2⟩ := squareP_bd t x z h_sx1 h_sx2 h_sz1 h_sz2 x1 x2 z1 z2
    unfold squareP at s1 s2 ⊢
    clear HF h
    go_enter Try.func24, Try.ntmps24
    go_wp2_with (first | (go_at_call 89; refine (seen_e t x y z _ HE.out).mono ?_; rintro e w' ⟨rfl, hb⟩; obtain ⟨pp, rfl⟩ := later_of_below hb; clear hb) | (go_at_call 92; refine (square_any t _ _ _ _ (by omega) (by omega) (by omega) (by omega) (by omega) (by omega) (by omega) (by omega)).mono ?_; rintro e w' ⟨rfl, hb⟩; obtain ⟨pp, rfl⟩ := later_of_below hb; clear hb) | (go_at_call 82; refine (root_any _ _ (by omega) (by omega)).mono ?_; rintro e w' ⟨rfl, rfl⟩) | (go_at_call 81; refine (rootUp_any _ _ (by omega) (by omega)).mono ?_; rintro e w' ⟨rfl, rfl⟩))
    refine bodyPost_ret ?_ rfl ⟨rfl, (by (repeat' (first | with_reducible exact Below.refl _ _ | (with_reducible refine below_later_of ?_ ?_ _) | (with_reducible refine Below.alloc ?_ ?_ _) | (with_reducible refine Below.setCell ?_ ?_ _) | (with_reducible refine Below.drew ?_) | (simp; done) | (simp; omega) | omega)))⟩
    first | (simp [results, Try.results24, go_sem]; done) | simp [results, Try.results24, go_sem, ↓IntWalk.iteOmega]
  · obtain ⟨e0, he⟩ : ∃ e0, seenP t x y z = e0 := ⟨_, rfl⟩
    have HF : slantOfP t x y z = (0, 0, e0) := by unfold slantOfP; rw [if_neg h, he]
    rw [HF]
    rw [he] at h
    have HE := Lib.hid he
    clear HF he
    go_enter Try.func24, Try.ntmps24
    go_wp2_with (first | (go_at_call 89; refine (seen_e t x y z _ HE.out).mono ?_; rintro e w' ⟨rfl, hb⟩; obtain ⟨pp, rfl⟩ := later_of_below hb; clear hb))
    refine bodyPost_ret ?_ rfl ⟨rfl, (by (repeat' (first | with_reducible exact Below.refl _ _ | (with_reducible refine below_later_of ?_ ?_ _) | (with_reducible refine Below.alloc ?_ ?_ _) | (with_reducible refine Below.setCell ?_ ?_ _) | (with_reducible refine Below.drew ?_) | (simp; done) | (simp; omega) | omega)))⟩
    first | (simp [results, Try.results24, go_sem]; done) | simp [results, Try.results24, go_sem, ↓IntWalk.iteOmega]
set_option maxHeartbeats 2000000 in
theorem pixelOf_any (t : Trk) (x y z : Int) (w : World) :
    Calls Try.prog 25 #[.agg #[.int .i64 t.sx, .int .i64 t.sy, .int .i64 t.sz, .int .i64 t.step, .int .i64 t.lines, .int .i64 t.near, .int .i64 t.bin, .int .i64 t.bins, .bool t.east], .agg #[.int .i64 x, .int .i64 y, .int .i64 z]] w
      fun e w' => e = .returned (.tuple #[.agg #[.int .i64 (pixelOfP t x y z).1, .int .i64 (pixelOfP t x y z).2.1], .int .i64 (pixelOfP t x y z).2.2]) ∧ Below w.heap.size w w' := by
  by_cases h : seenP t x y z = 0
  · have HE := Lib.hid h
    obtain ⟨o, hp⟩ := seenP_ok h
    have O := Lib.hid o
    have HP := Lib.hid hp
    obtain ⟨h_sx1, h_sx2, h_sy1, h_sy2, h_sz1, h_sz2, -, -, -, l1, l2, h_ne1, h_ne2, h_bi1, h_bi2, n1, n2⟩ := o
    rw [placeB_iff] at hp
    obtain ⟨⟨x1, x2⟩, ⟨y1, y2⟩, z1, z2⟩ := hp
    by_cases ho : offP t x ≤ 0
    · have HF : pixelOfP t x y z = (0, 0, 15) := by unfold pixelOfP; rw [if_pos h, if_pos ho]
      rw [HF]
      clear HF h
      (go_enter Try.func25, Try.ntmps25; go_wp2_with (first | (go_at_call 89; refine (seen_e t x y z _ HE.out).mono ?_; rintro e w' ⟨rfl, hb⟩; obtain ⟨pp, rfl⟩ := later_of_below hb; clear hb) | (go_at_call 93; refine (pixel_any t x y z _ O.out HP.out).mono ?_; rintro e w' ⟨rfl, hb⟩; obtain ⟨pp, rfl⟩ := later_of_below hb; clear hb) | (go_at_call 94; refine (off_any t _ _ (by omega) (by omega) (by omega) (by omega)).mono ?_; rintro e w' ⟨rfl, hb⟩; obtain ⟨pp, rfl⟩ := later_of_below hb; clear hb) | (go_at_call 80; refine (depth_any t _ _ (by omega) (by omega) (by omega) (by omega)).mono ?_; rintro e w' ⟨rfl, hb⟩; obtain ⟨pp, rfl⟩ := later_of_below hb; clear hb) | (go_at_call 91; (with_reducible refine (within_c _ _ _ _ H1.out).mono ?_); rintro e w' ⟨rfl, rfl⟩) | (go_at_call 91; (with_reducible refine (within_c _ _ _ _ H2.out).mono ?_); rintro e w' ⟨rfl, rfl⟩)))
      refine bodyPost_ret ?_ rfl ⟨rfl, (by (repeat' (first | with_reducible exact Below.refl _ _ | (with_reducible refine below_later_of ?_ ?_ _) | (with_reducible refine Below.alloc ?_ ?_ _) | (with_reducible refine Below.setCell ?_ ?_ _) | (with_reducible refine Below.drew ?_) | (simp; done) | (simp; omega) | omega)))⟩
      first | (simp [results, Try.results25, go_sem]; done) | simp [results, Try.results25, go_sem, ↓IntWalk.iteOmega]
    · by_cases hd : depthP t z < 1
      · have HF : pixelOfP t x y z = (0, 0, 26) := by unfold pixelOfP; rw [if_pos h, if_neg ho, if_pos hd]
        rw [HF]
        clear HF h
        (go_enter Try.func25, Try.ntmps25; go_wp2_with (first | (go_at_call 89; refine (seen_e t x y z _ HE.out).mono ?_; rintro e w' ⟨rfl, hb⟩; obtain ⟨pp, rfl⟩ := later_of_below hb; clear hb) | (go_at_call 93; refine (pixel_any t x y z _ O.out HP.out).mono ?_; rintro e w' ⟨rfl, hb⟩; obtain ⟨pp, rfl⟩ := later_of_below hb; clear hb) | (go_at_call 94; refine (off_any t _ _ (by omega) (by omega) (by omega) (by omega)).mono ?_; rintro e w' ⟨rfl, hb⟩; obtain ⟨pp, rfl⟩ := later_of_below hb; clear hb) | (go_at_call 80; refine (depth_any t _ _ (by omega) (by omega) (by omega) (by omega)).mono ?_; rintro e w' ⟨rfl, hb⟩; obtain ⟨pp, rfl⟩ := later_of_below hb; clear hb) | (go_at_call 91; (with_reducible refine (within_c _ _ _ _ H1.out).mono ?_); rintro e w' ⟨rfl, rfl⟩) | (go_at_call 91; (with_reducible refine (within_c _ _ _ _ H2.out).mono ?_); rintro e w' ⟨rfl, rfl⟩)))
        refine bodyPost_ret ?_ rfl ⟨rfl, (by (repeat' (first | with_reducible exact Below.refl _ _ | (with_reducible refine below_later_of ?_ ?_ _) | (with_reducible refine Below.alloc ?_ ?_ _) | (with_reducible refine Below.setCell ?_ ?_ _) | (with_reducible refine Below.drew ?_) | (simp; done) | (simp; omega) | omega)))⟩
        first | (simp [results, Try.results25, go_sem]; done) | simp [results, Try.results25, go_sem, ↓IntWalk.iteOmega]
      · obtain ⟨a, ha⟩ : ∃ a, lineP t y = a := ⟨_, rfl⟩
        obtain ⟨b, hb⟩ : ∃ b, binP t (rootP (squareP t x z)) = b := ⟨_, rfl⟩
        have PX : ∀ w, Calls Try.prog 93 #[.agg #[.int .i64 t.sx, .int .i64 t.sy, .int .i64 t.sz, .int .i64 t.step, .int .i64 t.lines, .int .i64 t.near, .int .i64 t.bin, .int .i64 t.bins, .bool t.east], .agg #[.int .i64 x, .int .i64 y, .int .i64 z]] w fun e w' => e = .returned (.agg #[.int .i64 a, .int .i64 b]) ∧ Below w.heap.size w w' := by
          subst ha hb; exact fun w => pixel_any t x y z w O.out HP.out
        cases h1 : inR 0 (t.lines - 1) a
        · have HF : pixelOfP t x y z = (0, 0, 12) := by unfold pixelOfP; rw [if_pos h, if_neg ho, if_neg hd, ha, h1]; rfl
          rw [HF]
          have H1 := Lib.hid h1
          clear HF h h1 ha hb
          go_enter Try.func25, Try.ntmps25
          go_wp2_with (first | (go_at_call 89; refine (seen_e t x y z _ HE.out).mono ?_; rintro e w' ⟨rfl, hb⟩; obtain ⟨pp, rfl⟩ := later_of_below hb; clear hb) | (go_at_call 93; refine (PX _).mono ?_; rintro e w' ⟨rfl, hb⟩; obtain ⟨pp, rfl⟩ := later_of_below hb; clear hb) | (go_at_call 94; refine (off_any t _ _ (by omega) (by omega) (by omega) (by omega)).mono ?_; rintro e w' ⟨rfl, hb⟩; obtain ⟨pp, rfl⟩ := later_of_below hb; clear hb) | (go_at_call 80; refine (depth_any t _ _ (by omega) (by omega) (by omega) (by omega)).mono ?_; rintro e w' ⟨rfl, hb⟩; obtain ⟨pp, rfl⟩ := later_of_below hb; clear hb) | (go_at_call 91; (with_reducible refine (within_c _ _ _ _ H1.out).mono ?_); rintro e w' ⟨rfl, rfl⟩))
          refine bodyPost_ret ?_ rfl ⟨rfl, (by (repeat' (first | with_reducible exact Below.refl _ _ | (with_reducible refine below_later_of ?_ ?_ _) | (with_reducible refine Below.alloc ?_ ?_ _) | (with_reducible refine Below.setCell ?_ ?_ _) | (with_reducible refine Below.drew ?_) | (simp; done) | (simp; omega) | omega)))⟩
          first | (simp [results, Try.results25, go_sem]; done) | simp [results, Try.results25, go_sem, ↓IntWalk.iteOmega]
        · cases h2 : inR 0 (t.bins - 1) b
          · have HF : pixelOfP t x y z = (0, 0, 12) := by unfold pixelOfP; rw [if_pos h, if_neg ho, if_neg hd, ha, hb, h1, h2]; rfl
            rw [HF]
            have H1 := Lib.hid h1
            have H2 := Lib.hid h2
            clear HF h h1 h2 ha hb
            go_enter Try.func25, Try.ntmps25
            go_wp2_with (first | (go_at_call 89; refine (seen_e t x y z _ HE.out).mono ?_; rintro e w' ⟨rfl, hb⟩; obtain ⟨pp, rfl⟩ := later_of_below hb; clear hb) | (go_at_call 93; refine (PX _).mono ?_; rintro e w' ⟨rfl, hb⟩; obtain ⟨pp, rfl⟩ := later_of_below hb; clear hb) | (go_at_call 94; refine (off_any t _ _ (by omega) (by omega) (by omega) (by omega)).mono ?_; rintro e w' ⟨rfl, hb⟩; obtain ⟨pp, rfl⟩ := later_of_below hb; clear hb) | (go_at_call 80; refine (depth_any t _ _ (by omega) (by omega) (by omega) (by omega)).mono ?_; rintro e w' ⟨rfl, hb⟩; obtain ⟨pp, rfl⟩ := later_of_below hb; clear hb) | (go_at_call 91; (with_reducible refine (within_c _ _ _ _ H1.out).mono ?_); rintro e w' ⟨rfl, rfl⟩) | (go_at_call 91; (with_reducible refine (within_c _ _ _ _ H2.out).mono ?_); rintro e w' ⟨rfl, rfl⟩))
            refine bodyPost_ret ?_ rfl ⟨rfl, (by (repeat' (first | with_reducible exact Below.refl _ _ | (with_reducible refine below_later_of ?_ ?_ _) | (with_reducible refine Below.alloc ?_ ?_ _) | (with_reducible refine Below.setCell ?_ ?_ _) | (with_reducible refine Below.drew ?_) | (simp; done) | (simp; omega) | omega)))⟩
            first | (simp [results, Try.results25, go_sem]; done) | simp [results, Try.results25, go_sem, ↓IntWalk.iteOmega]
          · have HF : pixelOfP t x y z = (a, b, 0) := by unfold pixelOfP; rw [if_pos h, if_neg ho, if_neg hd, ha, hb, h1, h2]; rfl
            rw [HF]
            have H1 := Lib.hid h1
            have H2 := Lib.hid h2
            clear HF h h1 h2 ha hb
            go_enter Try.func25, Try.ntmps25
            go_wp2_with (first | (go_at_call 89; refine (seen_e t x y z _ HE.out).mono ?_; rintro e w' ⟨rfl, hb⟩; obtain ⟨pp, rfl⟩ := later_of_below hb; clear hb) | (go_at_call 93; refine (PX _).mono ?_; rintro e w' ⟨rfl, hb⟩; obtain ⟨pp, rfl⟩ := later_of_below hb; clear hb) | (go_at_call 94; refine (off_any t _ _ (by omega) (by omega) (by omega) (by omega)).mono ?_; rintro e w' ⟨rfl, hb⟩; obtain ⟨pp, rfl⟩ := later_of_below hb; clear hb) | (go_at_call 80; refine (depth_any t _ _ (by omega) (by omega) (by omega) (by omega)).mono ?_; rintro e w' ⟨rfl, hb⟩; obtain ⟨pp, rfl⟩ := later_of_below hb; clear hb) | (go_at_call 91; (with_reducible refine (within_c _ _ _ _ H1.out).mono ?_); rintro e w' ⟨rfl, rfl⟩) | (go_at_call 91; (with_reducible refine (within_c _ _ _ _ H2.out).mono ?_); rintro e w' ⟨rfl, rfl⟩))
            refine bodyPost_ret ?_ rfl ⟨rfl, (by (repeat' (first | with_reducible exact Below.refl _ _ | (with_reducible refine below_later_of ?_ ?_ _) | (with_reducible refine Below.alloc ?_ ?_ _) | (with_reducible refine Below.setCell ?_ ?_ _) | (with_reducible refine Below.drew ?_) | (simp; done) | (simp; omega) | omega)))⟩
            first | (simp [results, Try.results25, go_sem]; done) | simp [results, Try.results25, go_sem, ↓IntWalk.iteOmega]
  · obtain ⟨e0, he⟩ : ∃ e0, seenP t x y z = e0 := ⟨_, rfl⟩
    have HF : pixelOfP t x y z = (0, 0, e0) := by unfold pixelOfP; rw [if_neg h, he]
    rw [HF]
    rw [he] at h
    have HE := Lib.hid he
    clear HF he
    go_enter Try.func25, Try.ntmps25
    go_wp2_with (first | (go_at_call 89; refine (seen_e t x y z _ HE.out).mono ?_; rintro e w' ⟨rfl, hb⟩; obtain ⟨pp, rfl⟩ := later_of_below hb; clear hb))
    refine bodyPost_ret ?_ rfl ⟨rfl, (by (repeat' (first | with_reducible exact Below.refl _ _ | (with_reducible refine below_later_of ?_ ?_ _) | (with_reducible refine Below.alloc ?_ ?_ _) | (with_reducible refine Below.setCell ?_ ?_ _) | (with_reducible refine Below.drew ?_) | (simp; done) | (simp; omega) | omega)))⟩
    first | (simp [results, Try.results25, go_sem]; done) | simp [results, Try.results25, go_sem, ↓IntWalk.iteOmega]
end Go.Proofs.Ytokpdmlmlkkekaa

namespace Go.Proofs.Ytokpdmlmlkkekaa
set_option linter.unusedVariables false
open Go.RowKit
set_option maxHeartbeats 2000000 in
theorem checkPixel_any (t : Trk) (q : Pix) (w : World) (l1 : 1 ≤ t.lines) (l2 : t.lines ≤ 10000) (n1 : 1 ≤ t.bins) (n2 : t.bins ≤ 100000) :
    Calls Try.prog 79 #[.agg #[.int .i64 t.sx, .int .i64 t.sy, .int .i64 t.sz, .int .i64 t.step, .int .i64 t.lines, .int .i64 t.near, .int .i64 t.bin, .int .i64 t.bins, .bool t.east], .agg #[.int .i64 q.line, .int .i64 q.bin, .int .i64 q.lo, .int .i64 q.hi]] w fun e w' => e = .returned (.int .i64 (checkPixelP t q)) ∧ Below w.heap.size w w' := by
  cases h1 : inR 0 (t.lines - 1) q.line
  · have HF := Lib.hid (show checkPixelP t q = 2 by unfold checkPixelP; rw [h1]; rfl)
    have H1 := Lib.hid h1
    clear h1
    go_enter Try.func79, Try.ntmps79
    go_wp2_with (first | (go_at_call 96; (with_reducible refine (all1 0 (t.lines - 1) q.line _ _ _ H1.out (by (first | (simp [go_sem]; done) | simp [go_sem, ↓IntWalk.iteOmega]))).mono ?_); rintro e w' ⟨rfl, rfl⟩))
    go_ret
    exact ⟨ret_int HF.out.symm, (by (repeat' (first | with_reducible exact Below.refl _ _ | (with_reducible refine below_later_of ?_ ?_ _) | (with_reducible refine Below.alloc ?_ ?_ _) | (with_reducible refine Below.setCell ?_ ?_ _) | (with_reducible refine Below.drew ?_) | (simp; done) | (simp; omega) | omega)))⟩
  · cases h2 : inR 0 (t.bins - 1) q.bin
    · have HF := Lib.hid (show checkPixelP t q = 2 by unfold checkPixelP; rw [h1, h2]; rfl)
      have H1 := Lib.hid h1
      have H2 := Lib.hid h2
      clear h1 h2
      go_enter Try.func79, Try.ntmps79
      go_wp2_with (first | (go_at_call 96; (with_reducible refine (all1 0 (t.lines - 1) q.line _ _ _ H1.out (by (first | (simp [go_sem]; done) | simp [go_sem, ↓IntWalk.iteOmega]))).mono ?_); rintro e w' ⟨rfl, rfl⟩) | (go_at_call 96; (with_reducible refine (all1 0 (t.bins - 1) q.bin _ _ _ H2.out (by (first | (simp [go_sem]; done) | simp [go_sem, ↓IntWalk.iteOmega]))).mono ?_); rintro e w' ⟨rfl, rfl⟩))
      go_ret
      exact ⟨ret_int HF.out.symm, (by (repeat' (first | with_reducible exact Below.refl _ _ | (with_reducible refine below_later_of ?_ ?_ _) | (with_reducible refine Below.alloc ?_ ?_ _) | (with_reducible refine Below.setCell ?_ ?_ _) | (with_reducible refine Below.drew ?_) | (simp; done) | (simp; omega) | omega)))⟩
    · cases h3 : heightsB q.lo q.hi
      · have HF := Lib.hid (show checkPixelP t q = 2 by unfold checkPixelP; rw [h1, h2, h3]; rfl)
        have H1 := Lib.hid h1
        have H2 := Lib.hid h2
        unfold heightsB at h3
        have H3 := Lib.hid h3
        clear h1 h2 h3
        go_enter Try.func79, Try.ntmps79
        go_wp2_with (first | (go_at_call 96; (with_reducible refine (all1 0 (t.lines - 1) q.line _ _ _ H1.out (by (first | (simp [go_sem]; done) | simp [go_sem, ↓IntWalk.iteOmega]))).mono ?_); rintro e w' ⟨rfl, rfl⟩) | (go_at_call 96; (with_reducible refine (all1 0 (t.bins - 1) q.bin _ _ _ H2.out (by (first | (simp [go_sem]; done) | simp [go_sem, ↓IntWalk.iteOmega]))).mono ?_); rintro e w' ⟨rfl, rfl⟩) | (go_at_call 96; (with_reducible refine (all2 (-100000) 100000 q.lo q.hi _ _ _ H3.out (by (first | (simp [go_sem]; done) | simp [go_sem, ↓IntWalk.iteOmega])) (by (first | (simp [go_sem]; done) | simp [go_sem, ↓IntWalk.iteOmega]))).mono ?_); rintro e w' ⟨rfl, rfl⟩))
        go_ret
        exact ⟨ret_int HF.out.symm, (by (repeat' (first | with_reducible exact Below.refl _ _ | (with_reducible refine below_later_of ?_ ?_ _) | (with_reducible refine Below.alloc ?_ ?_ _) | (with_reducible refine Below.setCell ?_ ?_ _) | (with_reducible refine Below.drew ?_) | (simp; done) | (simp; omega) | omega)))⟩
      · have HF := Lib.hid (show checkPixelP t q = if q.hi < q.lo then 9 else if t.sz ≤ q.hi then 26 else 0 by unfold checkPixelP; rw [h1, h2, h3]; rfl)
        have H1 := Lib.hid h1
        have H2 := Lib.hid h2
        unfold heightsB at h3
        have H3 := Lib.hid h3
        clear h1 h2 h3
        by_cases h4 : q.hi < q.lo
        · have HF' := Lib.hid (show checkPixelP t q = 9 by rw [HF.out, if_pos h4])
          clear HF
          go_enter Try.func79, Try.ntmps79
          go_wp2_with (first | (go_at_call 96; (with_reducible refine (all1 0 (t.lines - 1) q.line _ _ _ H1.out (by (first | (simp [go_sem]; done) | simp [go_sem, ↓IntWalk.iteOmega]))).mono ?_); rintro e w' ⟨rfl, rfl⟩) | (go_at_call 96; (with_reducible refine (all1 0 (t.bins - 1) q.bin _ _ _ H2.out (by (first | (simp [go_sem]; done) | simp [go_sem, ↓IntWalk.iteOmega]))).mono ?_); rintro e w' ⟨rfl, rfl⟩) | (go_at_call 96; (with_reducible refine (all2 (-100000) 100000 q.lo q.hi _ _ _ H3.out (by (first | (simp [go_sem]; done) | simp [go_sem, ↓IntWalk.iteOmega])) (by (first | (simp [go_sem]; done) | simp [go_sem, ↓IntWalk.iteOmega]))).mono ?_); rintro e w' ⟨rfl, rfl⟩))
          go_ret
          exact ⟨ret_int HF'.out.symm, (by (repeat' (first | with_reducible exact Below.refl _ _ | (with_reducible refine below_later_of ?_ ?_ _) | (with_reducible refine Below.alloc ?_ ?_ _) | (with_reducible refine Below.setCell ?_ ?_ _) | (with_reducible refine Below.drew ?_) | (simp; done) | (simp; omega) | omega)))⟩
        · by_cases h5 : t.sz ≤ q.hi
          · have HF' := Lib.hid (show checkPixelP t q = 26 by rw [HF.out, if_neg h4, if_pos h5])
            clear HF
            go_enter Try.func79, Try.ntmps79
            go_wp2_with (first | (go_at_call 96; (with_reducible refine (all1 0 (t.lines - 1) q.line _ _ _ H1.out (by (first | (simp [go_sem]; done) | simp [go_sem, ↓IntWalk.iteOmega]))).mono ?_); rintro e w' ⟨rfl, rfl⟩) | (go_at_call 96; (with_reducible refine (all1 0 (t.bins - 1) q.bin _ _ _ H2.out (by (first | (simp [go_sem]; done) | simp [go_sem, ↓IntWalk.iteOmega]))).mono ?_); rintro e w' ⟨rfl, rfl⟩) | (go_at_call 96; (with_reducible refine (all2 (-100000) 100000 q.lo q.hi _ _ _ H3.out (by (first | (simp [go_sem]; done) | simp [go_sem, ↓IntWalk.iteOmega])) (by (first | (simp [go_sem]; done) | simp [go_sem, ↓IntWalk.iteOmega]))).mono ?_); rintro e w' ⟨rfl, rfl⟩))
            go_ret
            exact ⟨ret_int HF'.out.symm, (by (repeat' (first | with_reducible exact Below.refl _ _ | (with_reducible refine below_later_of ?_ ?_ _) | (with_reducible refine Below.alloc ?_ ?_ _) | (with_reducible refine Below.setCell ?_ ?_ _) | (with_reducible refine Below.drew ?_) | (simp; done) | (simp; omega) | omega)))⟩
          · have HF' := Lib.hid (show checkPixelP t q = 0 by rw [HF.out, if_neg h4, if_neg h5])
            clear HF
            go_enter Try.func79, Try.ntmps79
            go_wp2_with (first | (go_at_call 96; (with_reducible refine (all1 0 (t.lines - 1) q.line _ _ _ H1.out (by (first | (simp [go_sem]; done) | simp [go_sem, ↓IntWalk.iteOmega]))).mono ?_); rintro e w' ⟨rfl, rfl⟩) | (go_at_call 96; (with_reducible refine (all1 0 (t.bins - 1) q.bin _ _ _ H2.out (by (first | (simp [go_sem]; done) | simp [go_sem, ↓IntWalk.iteOmega]))).mono ?_); rintro e w' ⟨rfl, rfl⟩) | (go_at_call 96; (with_reducible refine (all2 (-100000) 100000 q.lo q.hi _ _ _ H3.out (by (first | (simp [go_sem]; done) | simp [go_sem, ↓IntWalk.iteOmega])) (by (first | (simp [go_sem]; done) | simp [go_sem, ↓IntWalk.iteOmega]))).mono ?_); rintro e w' ⟨rfl, rfl⟩))
            go_ret
            exact ⟨ret_int HF'.out.symm, (by (repeat' (first | with_reducible exact Below.refl _ _ | (with_reducible refine below_later_of ?_ ?_ _) | (with_reducible refine Below.alloc ?_ ?_ _) | (with_reducible refine Below.setCell ?_ ?_ _) | (with_reducible refine Below.drew ?_) | (simp; done) | (simp; omega) | omega)))⟩
set_option maxHeartbeats 1000000 in
theorem columns_any (t : Trk) (lo hi : Int) (w : World) (h1 : -100000000 ≤ t.sx) (h2 : t.sx ≤ 100000000) (a1 : -5000000000 ≤ lo) (a2 : lo ≤ 5000000000) (b1 : -5000000000 ≤ hi) (b2 : hi ≤ 5000000000) :
    Calls Try.prog 83 #[.agg #[.int .i64 t.sx, .int .i64 t.sy, .int .i64 t.sz, .int .i64 t.step, .int .i64 t.lines, .int .i64 t.near, .int .i64 t.bin, .int .i64 t.bins, .bool t.east], .agg #[.int .i64 lo, .int .i64 hi]] w fun e w' => e = .returned (.agg #[.int .i64 (columnsP t lo hi).1, .int .i64 (columnsP t lo hi).2]) ∧ Below w.heap.size w w' := by
  cases he : t.east
  · have HF : columnsP t lo hi = (t.sx - hi, t.sx - lo) := by unfold columnsP; rw [he]; rfl
    rw [HF]
    go_enter Try.func83, Try.ntmps83
    go_wp2
    refine bodyPost_ret ?_ rfl ⟨rfl, (by (repeat' (first | with_reducible exact Below.refl _ _ | (with_reducible refine below_later_of ?_ ?_ _) | (with_reducible refine Below.alloc ?_ ?_ _) | (with_reducible refine Below.setCell ?_ ?_ _) | (with_reducible refine Below.drew ?_) | (simp; done) | (simp; omega) | omega)))⟩
    first | (simp [results, Try.results83, go_sem]; done) | simp [results, Try.results83, go_sem, ↓IntWalk.iteOmega]
  · have HF : columnsP t lo hi = (t.sx + lo, t.sx + hi) := by unfold columnsP; rw [he]; rfl
    rw [HF]
    go_enter Try.func83, Try.ntmps83
    go_wp2
    refine bodyPost_ret ?_ rfl ⟨rfl, (by (repeat' (first | with_reducible exact Below.refl _ _ | (with_reducible refine below_later_of ?_ ?_ _) | (with_reducible refine Below.alloc ?_ ?_ _) | (with_reducible refine Below.setCell ?_ ?_ _) | (with_reducible refine Below.drew ?_) | (simp; done) | (simp; omega) | omega)))⟩
    first | (simp [results, Try.results83, go_sem]; done) | simp [results, Try.results83, go_sem, ↓IntWalk.iteOmega]
set_option maxHeartbeats 1000000 in
theorem rows_any (t : Trk) (n : Int) (w : World) (o : t.Ok) (h0 : 0 ≤ n) (h1 : n ≤ 9999) :
    Calls Try.prog 84 #[.agg #[.int .i64 t.sx, .int .i64 t.sy, .int .i64 t.sz, .int .i64 t.step, .int .i64 t.lines, .int .i64 t.near, .int .i64 t.bin, .int .i64 t.bins, .bool t.east], .int .i64 n] w fun e w' => e = .returned (.agg #[.int .i64 (rowsP t n).1, .int .i64 (rowsP t n).2]) ∧ Below w.heap.size w w' := by
  obtain ⟨m1, m2⟩ := rows_bd o h0 (show n ≤ 10000 by omega)
  obtain ⟨k1, k2⟩ := rows_bd o (show 0 ≤ n + 1 by omega) (show n + 1 ≤ 10000 by omega)
  obtain ⟨-, -, h_sy1, h_sy2, -, -, -, -, -, -, -, -, -, -, -, -, -⟩ := o
  by_cases hs : t.step < 0
  · have HF : rowsP t n = (t.sy + (n + 1) * t.step + 1, t.sy + n * t.step) := by unfold rowsP; rw [if_pos hs]
    rw [HF]
    go_enter Try.func84, Try.ntmps84
    go_wp2
    refine wp_region_calm (by kernel_rfl) (by kernel_rfl) ?_
    repeat (go_big_quiet_step (fail))
    refine wpQuiet_nil ?_
    rintro _ ⟨p1, rfl⟩
    go_wp2
    refine bodyPost_ret ?_ rfl ⟨rfl, (by (repeat' (first | with_reducible exact Below.refl _ _ | (with_reducible refine below_later_of ?_ ?_ _) | (with_reducible refine Below.alloc ?_ ?_ _) | (with_reducible refine Below.setCell ?_ ?_ _) | (with_reducible refine Below.drew ?_) | (simp; done) | (simp; omega) | omega)))⟩
    first | (simp [results, Try.results84, go_sem]; done) | simp [results, Try.results84, go_sem, ↓IntWalk.iteOmega]
  · have HF : rowsP t n = (t.sy + n * t.step, t.sy + (n + 1) * t.step - 1) := by unfold rowsP; rw [if_neg hs]
    rw [HF]
    go_enter Try.func84, Try.ntmps84
    go_wp2
    refine wp_region_calm (by kernel_rfl) (by kernel_rfl) ?_
    repeat (go_big_quiet_step (fail))
    refine wpQuiet_nil ?_
    rintro _ ⟨p1, rfl⟩
    go_wp2
    refine bodyPost_ret ?_ rfl ⟨rfl, (by (repeat' (first | with_reducible exact Below.refl _ _ | (with_reducible refine below_later_of ?_ ?_ _) | (with_reducible refine Below.alloc ?_ ?_ _) | (with_reducible refine Below.setCell ?_ ?_ _) | (with_reducible refine Below.drew ?_) | (simp; done) | (simp; omega) | omega)))⟩
    first | (simp [results, Try.results84, go_sem]; done) | simp [results, Try.results84, go_sem, ↓IntWalk.iteOmega]
end Go.Proofs.Ytokpdmlmlkkekaa

namespace Go.Proofs.Ytokpdmlmlkkekaa
set_option linter.unusedVariables false
open Go.RowKit
theorem checkTrack_e (t : Trk) (w : World) {e0 : Int} (h : checkTrackP t = e0) :
    Calls Try.prog 26 #[.agg #[.int .i64 t.sx, .int .i64 t.sy, .int .i64 t.sz, .int .i64 t.step, .int .i64 t.lines, .int .i64 t.near, .int .i64 t.bin, .int .i64 t.bins, .bool t.east]] w fun e w' => e = .returned (.int .i64 e0) ∧ Below w.heap.size w w' := by subst h; exact checkTrack_any t w
theorem checkPixel_e (t : Trk) (q : Pix) (w : World) {e0 : Int} (h : checkPixelP t q = e0) (l1 : 1 ≤ t.lines) (l2 : t.lines ≤ 10000) (n1 : 1 ≤ t.bins) (n2 : t.bins ≤ 100000) :
    Calls Try.prog 79 #[.agg #[.int .i64 t.sx, .int .i64 t.sy, .int .i64 t.sz, .int .i64 t.step, .int .i64 t.lines, .int .i64 t.near, .int .i64 t.bin, .int .i64 t.bins, .bool t.east], .agg #[.int .i64 q.line, .int .i64 q.bin, .int .i64 q.lo, .int .i64 q.hi]] w fun e w' => e = .returned (.int .i64 e0) ∧ Below w.heap.size w w' := by subst h; exact checkPixel_any t q w l1 l2 n1 n2
set_option maxHeartbeats 4000000 in
theorem boxOf_any (t : Trk) (q : Pix) (w : World) :
    Calls Try.prog 19 #[.agg #[.int .i64 t.sx, .int .i64 t.sy, .int .i64 t.sz, .int .i64 t.step, .int .i64 t.lines, .int .i64 t.near, .int .i64 t.bin, .int .i64 t.bins, .bool t.east], .agg #[.int .i64 q.line, .int .i64 q.bin, .int .i64 q.lo, .int .i64 q.hi]] w fun e w' => e = .returned (.tuple #[.agg #[.int .i64 (boxOfP t q).x1, .int .i64 (boxOfP t q).x2, .int .i64 (boxOfP t q).y1, .int .i64 (boxOfP t q).y2], .int .i64 (boxOfP t q).err]) ∧ Below w.heap.size w w' := by
  by_cases h : checkTrackP t = 0
  · have HE := Lib.hid h
    have o := checkTrackP_ok h
    have O := Lib.hid o
    obtain ⟨h_sx1, h_sx2, h_sy1, h_sy2, h_sz1, h_sz2, -, -, -, l1, l2, h_ne1, h_ne2, h_bi1, h_bi2, n1, n2⟩ := o
    by_cases hq : checkPixelP t q = 0
    · have HQ := Lib.hid hq
      have p := checkPixelP_ok hq
      have BB := box_bd O.out p
      obtain ⟨b1, b2, b3, b4, b5, b6, b7, b8, b9, b10⟩ := BB
      obtain ⟨q1, q2, q3, q4, q5, q6, q7, q8, q9, q10⟩ := p
      have e1 : leastP t q = (t.near + t.bin * q.bin) * (t.near + t.bin * q.bin) - depthP t q.lo * depthP t q.lo := rfl
      have e2 : mostP t q = (t.near + t.bin * q.bin + t.bin) * (t.near + t.bin * q.bin + t.bin) - 1 - depthP t q.hi * depthP t q.hi := rfl
      by_cases hm : mostP t q < 0
      · have HF : boxOfP t q = ⟨0, 0, 0, 0, 12⟩ := by unfold boxOfP; rw [if_pos h, if_pos hq, if_pos hm]
        rw [HF]
        rw [e2] at hm
        clear HF h hq e1 e2
        go_enter Try.func19, Try.ntmps19
        go_wp2_with (first | (go_at_call 26; refine (checkTrack_e t _ HE.out).mono ?_; rintro e w' ⟨rfl, hb⟩; obtain ⟨pp, rfl⟩ := later_of_below hb; clear hb) | (go_at_call 79; refine (checkPixel_e t q _ HQ.out (by omega) (by omega) (by omega) (by omega)).mono ?_; rintro e w' ⟨rfl, hb⟩; obtain ⟨pp, rfl⟩ := later_of_below hb; clear hb))
        refine wp_region_calm (by kernel_rfl) (by kernel_rfl) ?_
        repeat (go_big_quiet_step (first | (go_at_call 80; exact calm_of (depth_any t _ _ (by omega) (by omega) (by omega) (by omega)))))
        refine wpQuiet_nil ?_
        rintro _ ⟨p1, rfl⟩
        go_wp2
        refine wp_region_calm (by kernel_rfl) (by kernel_rfl) ?_
        repeat (go_big_quiet_step (fail))
        refine wpQuiet_nil ?_
        rintro _ ⟨p2, rfl⟩
        go_wp2
        refine bodyPost_ret ?_ rfl ⟨rfl, (by (repeat' (first | with_reducible exact Below.refl _ _ | (with_reducible refine below_later_of ?_ ?_ _) | (with_reducible refine Below.alloc ?_ ?_ _) | (with_reducible refine Below.setCell ?_ ?_ _) | (with_reducible refine Below.drew ?_) | (simp; done) | (simp; omega) | omega)))⟩
        first | (simp [results, Try.results19, go_sem]; done) | simp [results, Try.results19, go_sem, ↓IntWalk.iteOmega]
      · have r2 := rootP_spec (mostP t q) (by omega) (by omega)
        have r3 := rootP_le (mostP t q) (by omega) (by omega)
        have r4 := rootUpP_bd (max 1 (leastP t q)) (by omega) (by omega)
        obtain ⟨u, hu⟩ : ∃ u, rootUpP (max 1 (leastP t q)) = u := ⟨_, rfl⟩
        obtain ⟨v, hv⟩ : ∃ v, rootP (mostP t q) = v := ⟨_, rfl⟩
        have HU : ∀ w, Calls Try.prog 81 #[.int .i64 (max 1 ((t.near + t.bin * q.bin) * (t.near + t.bin * q.bin) - depthP t q.lo * depthP t q.lo))] w fun e w' => e = .returned (.int .i64 u) ∧ w = w' := by
          intro w; rw [← hu]; exact rootUp_any _ _ (by omega) (by omega)
        have HV : ∀ w, Calls Try.prog 82 #[.int .i64 ((t.near + t.bin * q.bin + t.bin) * (t.near + t.bin * q.bin + t.bin) - 1 - depthP t q.hi * depthP t q.hi)] w fun e w' => e = .returned (.int .i64 v) ∧ w = w' := by
          intro w; rw [← hv]; exact root_any _ _ (by omega) (by omega)
        rw [hv] at r2 r3
        rw [hu] at r4
        obtain ⟨r20, -, -⟩ := r2
        obtain ⟨r40, r41⟩ := r4
        by_cases hx : v < u
        · have HF : boxOfP t q = ⟨0, 0, 0, 0, 12⟩ := by unfold boxOfP; rw [if_pos h, if_pos hq, if_neg hm, hu, hv, if_pos hx]
          rw [HF]
          rw [e2] at hm
          clear HF h hq e1 e2 hu hv
          go_enter Try.func19, Try.ntmps19
          go_wp2_with (first | (go_at_call 26; refine (checkTrack_e t _ HE.out).mono ?_; rintro e w' ⟨rfl, hb⟩; obtain ⟨pp, rfl⟩ := later_of_below hb; clear hb) | (go_at_call 79; refine (checkPixel_e t q _ HQ.out (by omega) (by omega) (by omega) (by omega)).mono ?_; rintro e w' ⟨rfl, hb⟩; obtain ⟨pp, rfl⟩ := later_of_below hb; clear hb))
          refine wp_region_calm (by kernel_rfl) (by kernel_rfl) ?_
          repeat (go_big_quiet_step (first | (go_at_call 80; exact calm_of (depth_any t _ _ (by omega) (by omega) (by omega) (by omega)))))
          refine wpQuiet_nil ?_
          rintro _ ⟨p1, rfl⟩
          go_wp2
          refine wp_region_calm (by kernel_rfl) (by kernel_rfl) ?_
          repeat (go_big_quiet_step (fail))
          refine wpQuiet_nil ?_
          rintro _ ⟨p2, rfl⟩
          go_wp2_with (first | (go_at_call 81; refine (HU _).mono ?_; rintro e w' ⟨rfl, rfl⟩) | (go_at_call 82; refine (HV _).mono ?_; rintro e w' ⟨rfl, rfl⟩))
          refine bodyPost_ret ?_ rfl ⟨rfl, (by (repeat' (first | with_reducible exact Below.refl _ _ | (with_reducible refine below_later_of ?_ ?_ _) | (with_reducible refine Below.alloc ?_ ?_ _) | (with_reducible refine Below.setCell ?_ ?_ _) | (with_reducible refine Below.drew ?_) | (simp; done) | (simp; omega) | omega)))⟩
          first | (simp [results, Try.results19, go_sem]; done) | simp [results, Try.results19, go_sem, ↓IntWalk.iteOmega]
        · have HF : boxOfP t q = ⟨(columnsP t u v).1, (columnsP t u v).2, (rowsP t q.line).1, (rowsP t q.line).2, 0⟩ := by
            unfold boxOfP; rw [if_pos h, if_pos hq, if_neg hm, hu, hv, if_neg hx]
          rw [HF]
          rw [e2] at hm
          clear HF h hq e1 e2 hu hv
          go_enter Try.func19, Try.ntmps19
          go_wp2_with (first | (go_at_call 26; refine (checkTrack_e t _ HE.out).mono ?_; rintro e w' ⟨rfl, hb⟩; obtain ⟨pp, rfl⟩ := later_of_below hb; clear hb) | (go_at_call 79; refine (checkPixel_e t q _ HQ.out (by omega) (by omega) (by omega) (by omega)).mono ?_; rintro e w' ⟨rfl, hb⟩; obtain ⟨pp, rfl⟩ := later_of_below hb; clear hb))
          refine wp_region_calm (by kernel_rfl) (by kernel_rfl) ?_
          repeat (go_big_quiet_step (first | (go_at_call 80; exact calm_of (depth_any t _ _ (by omega) (by omega) (by omega) (by omega)))))
          refine wpQuiet_nil ?_
          rintro _ ⟨p1, rfl⟩
          go_wp2
          refine wp_region_calm (by kernel_rfl) (by kernel_rfl) ?_
          repeat (go_big_quiet_step (fail))
          refine wpQuiet_nil ?_
          rintro _ ⟨p2, rfl⟩
          go_wp2_with (first | (go_at_call 81; refine (HU _).mono ?_; rintro e w' ⟨rfl, rfl⟩) | (go_at_call 82; refine (HV _).mono ?_; rintro e w' ⟨rfl, rfl⟩))
          refine wp_region_calm_tail 8 (by kernel_rfl) (by kernel_rfl) ?_
          simp only [List.take_succ_cons, List.take_zero, List.drop_succ_cons, List.drop_zero]
          repeat (go_big_quiet_step (first | (go_at_call 83; exact calm_of (columns_any t _ _ _ (by omega) (by omega) (by omega) (by omega) (by omega) (by omega))) | (go_at_call 84; exact calm_of (rows_any t _ _ O.out (by omega) (by omega)))))
          refine wpQuiet_nil ?_
          rintro _ ⟨p3, rfl⟩
          go_wp2
          refine bodyPost_ret ?_ rfl ⟨rfl, (by (repeat' (first | with_reducible exact Below.refl _ _ | (with_reducible refine below_later_of ?_ ?_ _) | (with_reducible refine Below.alloc ?_ ?_ _) | (with_reducible refine Below.setCell ?_ ?_ _) | (with_reducible refine Below.drew ?_) | (simp; done) | (simp; omega) | omega)))⟩
          first | (simp [results, Try.results19, go_sem]; done) | simp [results, Try.results19, go_sem, ↓IntWalk.iteOmega]
    · obtain ⟨e0, he⟩ : ∃ e0, checkPixelP t q = e0 := ⟨_, rfl⟩
      have HF : boxOfP t q = ⟨0, 0, 0, 0, e0⟩ := by unfold boxOfP; rw [if_pos h, if_neg hq, he]
      rw [HF]
      rw [he] at hq
      have HQ := Lib.hid he
      clear HF he h
      go_enter Try.func19, Try.ntmps19
      go_wp2_with (first | (go_at_call 26; refine (checkTrack_e t _ HE.out).mono ?_; rintro e w' ⟨rfl, hb⟩; obtain ⟨pp, rfl⟩ := later_of_below hb; clear hb) | (go_at_call 79; refine (checkPixel_e t q _ HQ.out (by omega) (by omega) (by omega) (by omega)).mono ?_; rintro e w' ⟨rfl, hb⟩; obtain ⟨pp, rfl⟩ := later_of_below hb; clear hb))
      refine bodyPost_ret ?_ rfl ⟨rfl, (by (repeat' (first | with_reducible exact Below.refl _ _ | (with_reducible refine below_later_of ?_ ?_ _) | (with_reducible refine Below.alloc ?_ ?_ _) | (with_reducible refine Below.setCell ?_ ?_ _) | (with_reducible refine Below.drew ?_) | (simp; done) | (simp; omega) | omega)))⟩
      first | (simp [results, Try.results19, go_sem]; done) | simp [results, Try.results19, go_sem, ↓IntWalk.iteOmega]
  · obtain ⟨e0, he⟩ : ∃ e0, checkTrackP t = e0 := ⟨_, rfl⟩
    have HF : boxOfP t q = ⟨0, 0, 0, 0, e0⟩ := by unfold boxOfP; rw [if_neg h, he]
    rw [HF]
    rw [he] at h
    have HE := Lib.hid he
    clear HF he
    go_enter Try.func19, Try.ntmps19
    go_wp2_with (first | (go_at_call 26; refine (checkTrack_e t _ HE.out).mono ?_; rintro e w' ⟨rfl, hb⟩; obtain ⟨pp, rfl⟩ := later_of_below hb; clear hb))
    refine bodyPost_ret ?_ rfl ⟨rfl, (by (repeat' (first | with_reducible exact Below.refl _ _ | (with_reducible refine below_later_of ?_ ?_ _) | (with_reducible refine Below.alloc ?_ ?_ _) | (with_reducible refine Below.setCell ?_ ?_ _) | (with_reducible refine Below.drew ?_) | (simp; done) | (simp; omega) | omega)))⟩
    first | (simp [results, Try.results19, go_sem]; done) | simp [results, Try.results19, go_sem, ↓IntWalk.iteOmega]
end Go.Proofs.Ytokpdmlmlkkekaa
