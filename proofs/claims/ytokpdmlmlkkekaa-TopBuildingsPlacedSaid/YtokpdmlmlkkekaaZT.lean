import Derived.Test.YtokpdmlmlkkekaaZA
import Derived.Test.YtokpdmlmlkkekaaZR
import Derived.Deep.RegionHeld3
import Derived.Test.YtokpdmlmlkkekaaZK
import Derived.OwnWalk
/- Boxes: their errors. -/
namespace Go.Proofs.Ytokpdmlmlkkekaa
set_option linter.unusedVariables false
open Go.RowKit
/-- A box: ranges of X and Y. -/
structure Bx where
  x1 : Int
  x2 : Int
  y1 : Int
  y2 : Int
def bxB (b : Bx) : Bool := inR (-100000000) 100000000 b.x1 && (inR (-100000000) 100000000 b.x2 && (inR (-100000000) 100000000 b.y1 && inR (-100000000) 100000000 b.y2))
def boxErrP (b : Bx) : Int := if bxB b then (if b.x2 < b.x1 then 9 else if b.y2 < b.y1 then 9 else 0) else 2
set_option maxHeartbeats 1000000 in
theorem check_any (b : Bx) (w : World) {e0 : Int} (he : boxErrP b = e0) :
    Calls Try.prog 132 #[.agg #[.int .i64 b.x1, .int .i64 b.x2, .int .i64 b.y1, .int .i64 b.y2]] w fun e w' => e = .returned (.int .i64 e0) ∧ Below w.heap.size w w' := by
  subst he
  rcases (show bxB b = false ∨ bxB b = true by cases bxB b <;> simp) with h | h
  · have HF := Lib.hid (show boxErrP b = 2 by unfold boxErrP; rw [h]; rfl)
    unfold bxB at h
    have HA := Lib.hid h
    clear h
    go_enter Try.func132, Try.ntmps132
    go_wp2
    go_region
    all_goals (go_wp2_with (first | (go_at_call 96; refine (all4 _ _ b.x1 b.x2 b.y1 b.y2 _ _ _ HA.out (by (first | (simp [go_sem]; done) | simp [go_sem, ↓IntWalk.iteOmega])) (by (first | (simp [go_sem]; done) | simp [go_sem, ↓IntWalk.iteOmega])) (by (first | (simp [go_sem]; done) | simp [go_sem, ↓IntWalk.iteOmega])) (by (first | (simp [go_sem]; done) | simp [go_sem, ↓IntWalk.iteOmega]))).mono ?_; rintro e w' ⟨rfl, rfl⟩)))
    all_goals (go_ret; exact ⟨ret_int HF.out.symm, (by (repeat' (first | with_reducible exact Below.refl _ _ | (with_reducible refine below_later_of ?_ ?_ _) | (with_reducible refine Below.alloc ?_ ?_ _) | (with_reducible refine Below.setCell ?_ ?_ _) | (with_reducible refine Below.drew ?_) | (simp; done) | (simp; omega) | omega)))⟩)
  · have HF := Lib.hid (show boxErrP b = (if b.x2 < b.x1 then 9 else if b.y2 < b.y1 then 9 else 0) by unfold boxErrP; rw [h]; rfl)
    unfold bxB at h
    have HA := Lib.hid h
    clear h
    by_cases h1 : b.x2 < b.x1
    · have HG := Lib.hid (show boxErrP b = 9 by rw [HF.out, if_pos h1])
      clear HF
      go_enter Try.func132, Try.ntmps132
      go_wp2
      go_region
      all_goals (go_wp2_with (first | (go_at_call 96; refine (all4 _ _ b.x1 b.x2 b.y1 b.y2 _ _ _ HA.out (by (first | (simp [go_sem]; done) | simp [go_sem, ↓IntWalk.iteOmega])) (by (first | (simp [go_sem]; done) | simp [go_sem, ↓IntWalk.iteOmega])) (by (first | (simp [go_sem]; done) | simp [go_sem, ↓IntWalk.iteOmega])) (by (first | (simp [go_sem]; done) | simp [go_sem, ↓IntWalk.iteOmega]))).mono ?_; rintro e w' ⟨rfl, rfl⟩)))
      all_goals (go_ret; exact ⟨ret_int HG.out.symm, (by (repeat' (first | with_reducible exact Below.refl _ _ | (with_reducible refine below_later_of ?_ ?_ _) | (with_reducible refine Below.alloc ?_ ?_ _) | (with_reducible refine Below.setCell ?_ ?_ _) | (with_reducible refine Below.drew ?_) | (simp; done) | (simp; omega) | omega)))⟩)
    · by_cases h2 : b.y2 < b.y1
      · have HG := Lib.hid (show boxErrP b = 9 by rw [HF.out, if_neg h1, if_pos h2])
        clear HF
        go_enter Try.func132, Try.ntmps132
        go_wp2
        go_region
        all_goals (go_wp2_with (first | (go_at_call 96; refine (all4 _ _ b.x1 b.x2 b.y1 b.y2 _ _ _ HA.out (by (first | (simp [go_sem]; done) | simp [go_sem, ↓IntWalk.iteOmega])) (by (first | (simp [go_sem]; done) | simp [go_sem, ↓IntWalk.iteOmega])) (by (first | (simp [go_sem]; done) | simp [go_sem, ↓IntWalk.iteOmega])) (by (first | (simp [go_sem]; done) | simp [go_sem, ↓IntWalk.iteOmega]))).mono ?_; rintro e w' ⟨rfl, rfl⟩)))
        all_goals (go_ret; exact ⟨ret_int HG.out.symm, (by (repeat' (first | with_reducible exact Below.refl _ _ | (with_reducible refine below_later_of ?_ ?_ _) | (with_reducible refine Below.alloc ?_ ?_ _) | (with_reducible refine Below.setCell ?_ ?_ _) | (with_reducible refine Below.drew ?_) | (simp; done) | (simp; omega) | omega)))⟩)
      · have HG := Lib.hid (show boxErrP b = 0 by rw [HF.out, if_neg h1, if_neg h2])
        clear HF
        go_enter Try.func132, Try.ntmps132
        go_wp2
        go_region
        all_goals (go_wp2_with (first | (go_at_call 96; refine (all4 _ _ b.x1 b.x2 b.y1 b.y2 _ _ _ HA.out (by (first | (simp [go_sem]; done) | simp [go_sem, ↓IntWalk.iteOmega])) (by (first | (simp [go_sem]; done) | simp [go_sem, ↓IntWalk.iteOmega])) (by (first | (simp [go_sem]; done) | simp [go_sem, ↓IntWalk.iteOmega])) (by (first | (simp [go_sem]; done) | simp [go_sem, ↓IntWalk.iteOmega]))).mono ?_; rintro e w' ⟨rfl, rfl⟩)))
        all_goals (go_ret; exact ⟨ret_int HG.out.symm, (by (repeat' (first | with_reducible exact Below.refl _ _ | (with_reducible refine below_later_of ?_ ?_ _) | (with_reducible refine Below.alloc ?_ ?_ _) | (with_reducible refine Below.setCell ?_ ?_ _) | (with_reducible refine Below.drew ?_) | (simp; done) | (simp; omega) | omega)))⟩)
end Go.Proofs.Ytokpdmlmlkkekaa

/- Boxes: the reference's error, and a number of a range. -/
namespace Go.Proofs.Ytokpdmlmlkkekaa
set_option linter.unusedVariables false
open Go.RowKit
set_option maxHeartbeats 1000000 in
theorem rBoxErr (b : Bx) (w : World) {e0 : Int} (he : boxErrP b = e0) :
    Calls Try.prog 63 #[.agg #[.int .i64 b.x1, .int .i64 b.x2, .int .i64 b.y1, .int .i64 b.y2]] w fun e w' => e = .returned (.int .i64 e0) ∧ Below w.heap.size w w' := by
  subst he
  rcases (show inR (-100000000) 100000000 b.x1 = false ∨ inR (-100000000) 100000000 b.x1 = true by cases inR (-100000000) 100000000 b.x1 <;> simp) with h1 | h1
  · have HF := Lib.hid (show boxErrP b = 2 by unfold boxErrP bxB; rw [h1]; rfl)
    have H1 := Lib.hid h1
    clear h1
    go_enter Try.func63, Try.ntmps63
    go_wp2
    refine wp_loop_rounds 3 ?_
    rw [rounds_succ]
    go_wp2_with (first | (go_at_call 112; (with_reducible refine (rIsPlace1 b.x1 _ H1.out).mono ?_); rintro e w' ⟨rfl, rfl⟩))
    (go_ret; exact ⟨ret_int HF.out.symm, (by (repeat' (first | with_reducible exact Below.refl _ _ | (with_reducible refine below_later_of ?_ ?_ _) | (with_reducible refine Below.alloc ?_ ?_ _) | (with_reducible refine Below.setCell ?_ ?_ _) | (with_reducible refine Below.drew ?_) | (simp; done) | (simp; omega) | omega)))⟩)
  rcases (show inR (-100000000) 100000000 b.x2 = false ∨ inR (-100000000) 100000000 b.x2 = true by cases inR (-100000000) 100000000 b.x2 <;> simp) with h2 | h2
  · have HF := Lib.hid (show boxErrP b = 2 by unfold boxErrP bxB; rw [h1, h2]; rfl)
    have H1 := Lib.hid h1
    have H2 := Lib.hid h2
    clear h1 h2
    go_enter Try.func63, Try.ntmps63
    go_wp2
    refine wp_loop_rounds 3 ?_
    rw [rounds_succ]
    go_wp2_with (first | (go_at_call 112; (with_reducible refine (rIsPlace1 b.x1 _ H1.out).mono ?_); rintro e w' ⟨rfl, rfl⟩) | (go_at_call 112; (with_reducible refine (rIsPlace1 b.x2 _ H2.out).mono ?_); rintro e w' ⟨rfl, rfl⟩))
    (go_ret; exact ⟨ret_int HF.out.symm, (by (repeat' (first | with_reducible exact Below.refl _ _ | (with_reducible refine below_later_of ?_ ?_ _) | (with_reducible refine Below.alloc ?_ ?_ _) | (with_reducible refine Below.setCell ?_ ?_ _) | (with_reducible refine Below.drew ?_) | (simp; done) | (simp; omega) | omega)))⟩)
  rcases (show inR (-100000000) 100000000 b.y1 = false ∨ inR (-100000000) 100000000 b.y1 = true by cases inR (-100000000) 100000000 b.y1 <;> simp) with h3 | h3
  · have HF := Lib.hid (show boxErrP b = 2 by unfold boxErrP bxB; rw [h1, h2, h3]; rfl)
    have H1 := Lib.hid h1
    have H2 := Lib.hid h2
    have H3 := Lib.hid h3
    clear h1 h2 h3
    go_enter Try.func63, Try.ntmps63
    go_wp2
    refine wp_loop_rounds 3 ?_
    rw [rounds_succ]
    go_wp2_with (first | (go_at_call 112; (with_reducible refine (rIsPlace1 b.x1 _ H1.out).mono ?_); rintro e w' ⟨rfl, rfl⟩) | (go_at_call 112; (with_reducible refine (rIsPlace1 b.x2 _ H2.out).mono ?_); rintro e w' ⟨rfl, rfl⟩))
    rw [rounds_succ]
    go_wp2_with (first | (go_at_call 112; (with_reducible refine (rIsPlace1 b.y1 _ H3.out).mono ?_); rintro e w' ⟨rfl, rfl⟩))
    (go_ret; exact ⟨ret_int HF.out.symm, (by (repeat' (first | with_reducible exact Below.refl _ _ | (with_reducible refine below_later_of ?_ ?_ _) | (with_reducible refine Below.alloc ?_ ?_ _) | (with_reducible refine Below.setCell ?_ ?_ _) | (with_reducible refine Below.drew ?_) | (simp; done) | (simp; omega) | omega)))⟩)
  rcases (show inR (-100000000) 100000000 b.y2 = false ∨ inR (-100000000) 100000000 b.y2 = true by cases inR (-100000000) 100000000 b.y2 <;> simp) with h4 | h4
  · have HF := Lib.hid (show boxErrP b = 2 by unfold boxErrP bxB; rw [h1, h2, h3, h4]; rfl)
    have H1 := Lib.hid h1
    have H2 := Lib.hid h2
    have H3 := Lib.hid h3
    have H4 := Lib.hid h4
    clear h1 h2 h3 h4
    go_enter Try.func63, Try.ntmps63
    go_wp2
    refine wp_loop_rounds 3 ?_
    rw [rounds_succ]
    go_wp2_with (first | (go_at_call 112; (with_reducible refine (rIsPlace1 b.x1 _ H1.out).mono ?_); rintro e w' ⟨rfl, rfl⟩) | (go_at_call 112; (with_reducible refine (rIsPlace1 b.x2 _ H2.out).mono ?_); rintro e w' ⟨rfl, rfl⟩))
    rw [rounds_succ]
    go_wp2_with (first | (go_at_call 112; (with_reducible refine (rIsPlace1 b.y1 _ H3.out).mono ?_); rintro e w' ⟨rfl, rfl⟩) | (go_at_call 112; (with_reducible refine (rIsPlace1 b.y2 _ H4.out).mono ?_); rintro e w' ⟨rfl, rfl⟩))
    (go_ret; exact ⟨ret_int HF.out.symm, (by (repeat' (first | with_reducible exact Below.refl _ _ | (with_reducible refine below_later_of ?_ ?_ _) | (with_reducible refine Below.alloc ?_ ?_ _) | (with_reducible refine Below.setCell ?_ ?_ _) | (with_reducible refine Below.drew ?_) | (simp; done) | (simp; omega) | omega)))⟩)
  have HQ := Lib.hid (show boxErrP b = (if b.x2 < b.x1 then 9 else if b.y2 < b.y1 then 9 else 0) by unfold boxErrP bxB; rw [h1, h2, h3, h4]; rfl)
  have H1 := Lib.hid h1
  have H2 := Lib.hid h2
  have H3 := Lib.hid h3
  have H4 := Lib.hid h4
  clear h1 h2 h3 h4
  by_cases k1 : b.x2 < b.x1
  · have HF := Lib.hid (show boxErrP b = 9 by rw [HQ.out, if_pos k1])
    clear HQ
    go_enter Try.func63, Try.ntmps63
    go_wp2
    refine wp_loop_rounds 3 ?_
    rw [rounds_succ]
    go_wp2_with (first | (go_at_call 112; (with_reducible refine (rIsPlace1 b.x1 _ H1.out).mono ?_); rintro e w' ⟨rfl, rfl⟩) | (go_at_call 112; (with_reducible refine (rIsPlace1 b.x2 _ H2.out).mono ?_); rintro e w' ⟨rfl, rfl⟩))
    rw [rounds_succ]
    go_wp2_with (first | (go_at_call 112; (with_reducible refine (rIsPlace1 b.y1 _ H3.out).mono ?_); rintro e w' ⟨rfl, rfl⟩) | (go_at_call 112; (with_reducible refine (rIsPlace1 b.y2 _ H4.out).mono ?_); rintro e w' ⟨rfl, rfl⟩))
    rw [rounds_succ]
    go_wp2
    (go_ret; exact ⟨ret_int HF.out.symm, (by (repeat' (first | with_reducible exact Below.refl _ _ | (with_reducible refine below_later_of ?_ ?_ _) | (with_reducible refine Below.alloc ?_ ?_ _) | (with_reducible refine Below.setCell ?_ ?_ _) | (with_reducible refine Below.drew ?_) | (simp; done) | (simp; omega) | omega)))⟩)
  · by_cases k2 : b.y2 < b.y1
    · have HF := Lib.hid (show boxErrP b = 9 by rw [HQ.out, if_neg k1, if_pos k2])
      clear HQ
      go_enter Try.func63, Try.ntmps63
      go_wp2
      refine wp_loop_rounds 3 ?_
      rw [rounds_succ]
      go_wp2_with (first | (go_at_call 112; (with_reducible refine (rIsPlace1 b.x1 _ H1.out).mono ?_); rintro e w' ⟨rfl, rfl⟩) | (go_at_call 112; (with_reducible refine (rIsPlace1 b.x2 _ H2.out).mono ?_); rintro e w' ⟨rfl, rfl⟩))
      rw [rounds_succ]
      go_wp2_with (first | (go_at_call 112; (with_reducible refine (rIsPlace1 b.y1 _ H3.out).mono ?_); rintro e w' ⟨rfl, rfl⟩) | (go_at_call 112; (with_reducible refine (rIsPlace1 b.y2 _ H4.out).mono ?_); rintro e w' ⟨rfl, rfl⟩))
      rw [rounds_succ]
      go_wp2
      (go_ret; exact ⟨ret_int HF.out.symm, (by (repeat' (first | with_reducible exact Below.refl _ _ | (with_reducible refine below_later_of ?_ ?_ _) | (with_reducible refine Below.alloc ?_ ?_ _) | (with_reducible refine Below.setCell ?_ ?_ _) | (with_reducible refine Below.drew ?_) | (simp; done) | (simp; omega) | omega)))⟩)
    · have HF := Lib.hid (show boxErrP b = 0 by rw [HQ.out, if_neg k1, if_neg k2])
      clear HQ
      go_enter Try.func63, Try.ntmps63
      go_wp2
      refine wp_loop_rounds 3 ?_
      rw [rounds_succ]
      go_wp2_with (first | (go_at_call 112; (with_reducible refine (rIsPlace1 b.x1 _ H1.out).mono ?_); rintro e w' ⟨rfl, rfl⟩) | (go_at_call 112; (with_reducible refine (rIsPlace1 b.x2 _ H2.out).mono ?_); rintro e w' ⟨rfl, rfl⟩))
      rw [rounds_succ]
      go_wp2_with (first | (go_at_call 112; (with_reducible refine (rIsPlace1 b.y1 _ H3.out).mono ?_); rintro e w' ⟨rfl, rfl⟩) | (go_at_call 112; (with_reducible refine (rIsPlace1 b.y2 _ H4.out).mono ?_); rintro e w' ⟨rfl, rfl⟩))
      rw [rounds_succ]
      go_wp2
      (go_ret; exact ⟨ret_int HF.out.symm, (by (repeat' (first | with_reducible exact Below.refl _ _ | (with_reducible refine below_later_of ?_ ?_ _) | (with_reducible refine Below.alloc ?_ ?_ _) | (with_reducible refine Below.setCell ?_ ?_ _) | (with_reducible refine Below.drew ?_) | (simp; done) | (simp; omega) | omega)))⟩)
/-- A number of a right range. -/
def insideP (lo hi n : Int) : Int := lo + n % (hi - lo + 1)
set_option maxHeartbeats 1000000 in
theorem lInside (lo hi n : Int) (w : World) (h1 : -200000000 ≤ lo) (h2 : lo ≤ hi) (h3 : hi ≤ 200000000) (n1 : -9223372036854775808 ≤ n) (n2 : n ≤ 9223372036854775807) :
    Calls Try.prog 65 #[.agg #[.int .i64 lo, .int .i64 hi], .int .i64 n] w fun e w' => e = .returned (.int .i64 (insideP lo hi n)) ∧ Below w.heap.size w w' := by
  have hm1 := Int.emod_nonneg n (show hi - lo + 1 ≠ 0 by omega)
  have hm2 := Int.emod_lt_of_pos n (show 0 < hi - lo + 1 by omega)
  unfold insideP
  go_enter Try.func65, Try.ntmps65
  go_wp2
  refine wp_region_calm (by kernel_rfl) (by kernel_rfl) ?_
  repeat (go_big_quiet_step (first | (go_at_call 56; exact calm_same (bMod _ _ _ (by omega) (by omega) (by omega) (by omega)))))
  refine wpQuiet_nil ?_
  rintro _ ⟨p1, rfl⟩
  go_wp2
  go_ret
  exact ⟨rfl, (by (repeat' (first | with_reducible exact Below.refl _ _ | (with_reducible refine below_later_of ?_ ?_ _) | (with_reducible refine Below.alloc ?_ ?_ _) | (with_reducible refine Below.setCell ?_ ?_ _) | (with_reducible refine Below.drew ?_) | (simp; done) | (simp; omega) | omega)))⟩
end Go.Proofs.Ytokpdmlmlkkekaa

/- The tiles of a box: the reference. -/
namespace Go.Proofs.Ytokpdmlmlkkekaa
set_option linter.unusedVariables false
open Go.RowKit
/-- How many tiles there are in each direction. -/
def nxP (b : Bx) (s : Int) : Int := b.x2 / s - b.x1 / s + 1
def nyP (b : Bx) (s : Int) : Int := b.y2 / s - b.y1 / s + 1
def tilesErrP (b : Bx) (s : Int) : Int := if inR 1 100000000 s then (if 400 < nxP b s * nyP b s then 8 else 0) else 2
def tilesUpto (l bo : Int) (ny : Nat) : Nat → List Value
  | 0 => []
  | k + 1 => tilesUpto l bo ny k ++ [.int .i64 (l + (k / ny : Nat)), .int .i64 (bo + (k % ny : Nat))]
theorem tilesUpto_at {l bo : Int} {ny i j : Nat} (hj : j < ny) : tilesUpto l bo ny (i * ny + j + 1) = tilesUpto l bo ny (i * ny + j) ++ [.int .i64 (l + i), .int .i64 (bo + j)] := by
  rw [tilesUpto, Nat.mul_comm i ny, Nat.mul_add_div (by omega), Nat.div_eq_of_lt hj, Nat.mul_add_mod, Nat.mod_eq_of_lt hj, Nat.add_zero]
theorem info44 : (Try.prog.info? 44).map (fun i => (i.zero, i.size, i.bytes)) = some (some (.agg #[.int .i64 0, .int .i64 0]), 2, 16) := by kernel_rfl
theorem div_bd {n s : Int} (h1 : -100000000 ≤ n) (h2 : n ≤ 100000000) (hs : 1 ≤ s) : -100000000 ≤ n / s ∧ n / s ≤ 100000000 := by
  constructor
  · exact (Int.le_ediv_iff_mul_le (by omega)).2 (by
      have : 100000000 * 1 ≤ 100000000 * s := Int.mul_le_mul_of_nonneg_left hs (by omega)
      rw [Int.neg_mul]; omega)
  · rcases Int.le_total 0 n with h | h
    · exact Int.le_trans (Int.ediv_le_self _ h) h2
    · have := Int.ediv_le_ediv (c := s) (by omega) h
      rw [Int.zero_ediv] at this; omega
theorem div_mono {a b s : Int} (h : a ≤ b) (hs : 1 ≤ s) : a / s ≤ b / s := Int.ediv_le_ediv (by omega) h
/-- A right box, as bounds. -/
structure Bx.Ok (b : Bx) : Prop where
  x1a : -100000000 ≤ b.x1
  x1b : b.x1 ≤ 100000000
  x2a : -100000000 ≤ b.x2
  x2b : b.x2 ≤ 100000000
  y1a : -100000000 ≤ b.y1
  y1b : b.y1 ≤ 100000000
  y2a : -100000000 ≤ b.y2
  y2b : b.y2 ≤ 100000000
  xo : b.x1 ≤ b.x2
  yo : b.y1 ≤ b.y2
theorem boxErrP_ok {b : Bx} (h : boxErrP b = 0) : b.Ok := by
  unfold boxErrP at h
  split at h
  · rename_i hb
    simp only [bxB, Bool.and_eq_true, inR_iff] at hb
    split at h
    · omega
    · split at h
      · omega
      · constructor <;> omega
  · omega
set_option maxRecDepth 20000 in
set_option maxHeartbeats 1000000 in
theorem rTiles_bad (b : Bx) (s : Int) (w : World) (o : b.Ok) (he : tilesErrP b s ≠ 0) :
    Calls Try.prog 64 #[.agg #[.int .i64 b.x1, .int .i64 b.x2, .int .i64 b.y1, .int .i64 b.y2], .int .i64 s] w fun e w' => e = .returned (.tuple #[.slice none 0 0, .int .i64 (tilesErrP b s)]) ∧ Below w.heap.size w w' := by
  cases h1 : inR 1 100000000 s
  · have HF : tilesErrP b s = 2 := by unfold tilesErrP; rw [h1]; rfl
    rw [HF]
    have H1 := Lib.hid h1
    clear h1 HF he
    go_enter Try.func64, Try.ntmps64
    go_wp2_with (first | (go_at_call 36; (with_reducible refine (bWithin _ _ _ _ H1.out).mono ?_); rintro e w' ⟨rfl, rfl⟩))
    go_ret2
    exact ⟨rfl, (by (repeat' (first | with_reducible exact Below.refl _ _ | (with_reducible refine below_later_of ?_ ?_ _) | (with_reducible refine Below.alloc ?_ ?_ _) | (with_reducible refine Below.setCell ?_ ?_ _) | (with_reducible refine Below.drew ?_) | (simp; done) | (simp; omega) | omega)))⟩
  · have hn : 400 < nxP b s * nyP b s := by
      unfold tilesErrP at he
      rw [h1, if_pos rfl] at he
      split at he
      · assumption
      · contradiction
    have HF : tilesErrP b s = 8 := by unfold tilesErrP; rw [h1, if_pos rfl, if_pos hn]
    rw [HF]
    obtain ⟨s1, s2⟩ := inR_iff.1 h1
    have H1 := Lib.hid h1
    obtain ⟨x1a, x1b, x2a, x2b, y1a, y1b, y2a, y2b, xo, yo⟩ := o
    obtain ⟨l1, l2⟩ := div_bd x1a x1b s1
    obtain ⟨r1, r2⟩ := div_bd x2a x2b s1
    obtain ⟨t1, t2⟩ := div_bd y1a y1b s1
    obtain ⟨u1, u2⟩ := div_bd y2a y2b s1
    have m1 := div_mono xo s1
    have m2 := div_mono yo s1
    obtain ⟨q1, q2⟩ := mul_bd (a := nxP b s) (b := nyP b s) (A := 200000001) (B := 200000001) (by unfold nxP; omega) (by unfold nxP; omega) (by unfold nyP; omega) (by unfold nyP; omega)
    unfold nxP nyP at hn q1 q2
    clear h1 HF he
    go_enter Try.func64, Try.ntmps64
    go_wp2_with (first | (go_at_call 36; (with_reducible refine (bWithin _ _ _ _ H1.out).mono ?_); rintro e w' ⟨rfl, rfl⟩))
    refine wp_region_calm (by kernel_rfl) (by kernel_rfl) ?_
    repeat (go_big_quiet_step (first | (go_at_call 57; exact calm_same (bFloor _ _ _ (by omega) (by omega) (by omega) (by omega)))))
    refine wpQuiet_nil ?_
    rintro _ ⟨p1, rfl⟩
    go_wp2
    go_ret2
    exact ⟨rfl, (by (repeat' (first | with_reducible exact Below.refl _ _ | (with_reducible refine below_later_of ?_ ?_ _) | (with_reducible refine Below.alloc ?_ ?_ _) | (with_reducible refine Below.setCell ?_ ?_ _) | (with_reducible refine Below.drew ?_) | (simp; done) | (simp; omega) | omega)))⟩
set_option maxRecDepth 20000 in
set_option maxHeartbeats 4000000 in
theorem rTiles_ok (b : Bx) (s : Int) (w : World) (o : b.Ok) (he : tilesErrP b s = 0) (nx ny : Nat) (hnx : (nx : Int) = nxP b s) (hny : (ny : Int) = nyP b s) :
    Calls Try.prog 64 #[.agg #[.int .i64 b.x1, .int .i64 b.x2, .int .i64 b.y1, .int .i64 b.y2], .int .i64 s] w fun e w' => ∃ v, e = .returned (.tuple #[v, .int .i64 0]) ∧ w'.ownsRow w.heap.size 44 2 v (nx * ny) (tilesUpto (b.x1 / s) (b.y1 / s) ny (nx * ny)) ∧ Below w.heap.size w w' := by
  obtain ⟨i0, hi, hz0, hz1, hz2⟩ := info_parts info44
  have h1 : inR 1 100000000 s = true := by
    unfold tilesErrP at he
    split at he
    · assumption
    · exact absurd he (by decide)
  have hn : nxP b s * nyP b s ≤ 400 := by
    unfold tilesErrP at he
    rw [h1, if_pos rfl] at he
    split at he
    · exact absurd he (by decide)
    · omega
  obtain ⟨s1, s2⟩ := inR_iff.1 h1
  have H1 := Lib.hid h1
  obtain ⟨x1a, x1b, x2a, x2b, y1a, y1b, y2a, y2b, xo, yo⟩ := o
  obtain ⟨l1, l2⟩ := div_bd x1a x1b s1
  obtain ⟨r1, r2⟩ := div_bd x2a x2b s1
  obtain ⟨t1, t2⟩ := div_bd y1a y1b s1
  obtain ⟨u1, u2⟩ := div_bd y2a y2b s1
  have m1 := div_mono xo s1
  have m2 := div_mono yo s1
  obtain ⟨q1, q2⟩ := mul_bd (a := nxP b s) (b := nyP b s) (A := 200000001) (B := 200000001) (by unfold nxP; omega) (by unfold nxP; omega) (by unfold nyP; omega) (by unfold nyP; omega)
  have hnn : nx * ny ≤ 400 := by
    refine Int.ofNat_le.1 ?_
    rw [Int.natCast_mul, hnx, hny]; exact hn
  have HNN := Lib.hid hnn
  clear hnn
  unfold nxP at hn q1 q2 hnx
  unfold nyP at hn q1 q2 hny
  clear h1 he
  go_enter Try.func64, Try.ntmps64
  go_wp2_with (first | (go_at_call 36; (with_reducible refine (bWithin _ _ _ _ H1.out).mono ?_); rintro e w' ⟨rfl, rfl⟩))
  refine wp_region_calm (by kernel_rfl) (by kernel_rfl) ?_
  repeat (go_big_quiet_step (first | (go_at_call 57; exact calm_same (bFloor _ _ _ (by omega) (by omega) (by omega) (by omega)))))
  refine wpQuiet_nil ?_
  rintro _ ⟨p1, rfl⟩
  have HX0 := Lib.hid (show Below w.heap.size w (later (w.alloc (.cells #[.int .i64 b.x1, .int .i64 b.x2, .int .i64 b.y1, .int .i64 b.y2] 31)) p1) from (by (repeat' (first | with_reducible exact Below.refl _ _ | (with_reducible refine below_later_of ?_ ?_ _) | (with_reducible refine Below.alloc ?_ ?_ _) | (with_reducible refine Below.setCell ?_ ?_ _) | (with_reducible refine Below.drew ?_) | (simp; done) | (simp; omega) | omega))))
  generalize hql : b.x1 / s = l at *
  generalize b.x2 / s = r at *
  generalize hqb : b.y1 / s = bo at *
  generalize b.y2 / s = tp at *
  have HQL := Lib.hid hql
  have HQB := Lib.hid hqb
  clear hql hqb
  go_wp2
  go_loopw [10, 11] (fun v x wr => ∃ i : Nat, i ≤ nx ∧ x = .int .i64 (l + i) ∧ wr.ownsRow w.heap.size 44 2 v (i * ny) (tilesUpto l bo ny (i * ny)) ∧ Below w.heap.size w wr)
    (fun _ x _ => (r + 1 - intOf x).toNat)
  case atStart => exact ⟨0, Nat.zero_le _, by simp, by rw [Nat.zero_mul]; exact World.ownsRow_nil _ _ _ _, HX0.out⟩
  case round =>
    obtain ⟨i, hi1, rfl, hown, hnx1⟩ := hrel
    obtain ⟨wo, hwo⟩ : ∃ wo : World, wo = wr := ⟨_, rfl⟩
    subst hwo
    have HX := Lib.hid hnx1
    have HO0 := Lib.hid hown
    clear hnx1 hown
    by_cases hlt : i < nx
    · have hdl : decide (l + (i : Int) ≤ r) = true := by simp; omega
      go_wp2
      go_loopw [10, 12] (fun v y wr => ∃ j : Nat, j ≤ ny ∧ y = .int .i64 (bo + j) ∧ wr.ownsRow w.heap.size 44 2 v (i * ny + j) (tilesUpto l bo ny (i * ny + j)) ∧ Below w.heap.size w wr)
        (fun _ y _ => (tp + 1 - intOf y).toNat)
      case atStart => exact ⟨0, Nat.zero_le _, by simp, HO0.out, HX.out⟩
      case round =>
        obtain ⟨j, hj1, rfl, hown, hnx1⟩ := hrel
        have HXI := Lib.hid hnx1
        have HO := Lib.hid hown
        have hszi := hnx1.size
        clear hnx1 hown
        by_cases hlj : j < ny
        · have HSN := Lib.hid (tilesUpto_at (l := l) (bo := bo) (ny := ny) (i := i) (j := j) hlj)
          have hbd : i * ny + j < 400 := by
            have : (i + 1) * ny ≤ nx * ny := Nat.mul_le_mul_right _ hlt
            have := HNN.out
            rw [Nat.add_mul, Nat.one_mul] at *
            omega
          go_wp2_with (at_builtin; refine wpList_append_own _ rfl _ _ 99 rfl w.heap.size 44 i0 (.agg #[.int .i64 0, .int .i64 0]) 2 16 Try.underlying99 hi hz0 hz1 hz2 rfl (by decide) _ _ _ rfl (HO.out.alloc _) ⟨wr.heap.size, 0, none⟩ 1 1 [.int .i64 (l + i), .int .i64 (bo + j)] (by first | rfl | (simp; rfl)) rfl ?c1 ?c2 ?c3 ?c4 ?c5 ?_)
          case c1 => exact cells_new _ [_, _] _
          case c2 => intro u hu; simp at hu; rcases hu with rfl | rfl <;> rfl
          case c3 => unfold maxLen; omega
          case c4 => omega
          case c5 => simp; omega
          intro v' w1 hown' hgrow _
          have HX1 := Lib.hid (show Below w.heap.size w w1 from (show Below w.heap.size w _ from HXI.out.alloc (by omega) _).grown hgrow (by simp; omega) (fun g hg => (HO.out.lt g hg).1))
          have HO1 := Lib.hid hown'
          clear hown' hgrow
          go_wp2
          go_roundw
          case rel => exact ⟨j + 1, by omega, by go_num, by rw [← Nat.add_assoc, HSN.out]; exact HO1.out, HX1.out⟩
          case measure => simp [intOf]; omega
        · obtain rfl : j = ny := by omega
          go_wp2
          go_roundw
          case rel => exact ⟨i + 1, by omega, by go_num, by rw [Nat.add_mul, Nat.one_mul]; exact HO.out, HXI.out⟩
          case measure => simp [intOf]; omega
    · obtain rfl : i = nx := by omega
      go_wp2
      go_ret2
      first | exact ⟨_, rfl, HO0.out, HX.out⟩ | (rw [HQL.out, HQB.out]; exact ⟨_, rfl, HO0.out, HX.out⟩)
end Go.Proofs.Ytokpdmlmlkkekaa
