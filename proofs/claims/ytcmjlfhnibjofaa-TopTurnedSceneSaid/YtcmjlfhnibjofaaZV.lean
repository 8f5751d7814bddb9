import Derived.Test.YtcmjlfhnibjofaaZO
import Derived.Test.YtcmjlfhnibjofaaU65
/- Chapter 1: the program's search, with the closure of Direction; Direction. -/
namespace Go.Proofs.Ytcmjlfhnibjofaa
set_option linter.unusedVariables false
set_option linter.unusedSimpArgs false
open Go.RowKit
/-- Whether a number lies behind another one, and whether it is this one. -/
def dirB (m : Int) (n : Int) (_ : Int × Int) : Bool × Bool := (decide (n < m), (m == n))
/-- What Direction returns. -/
def dirP (m : Int) : Int × Int := if m = 0 then oneW else if m = 1024 then halfW else (searchP (dirB m)).2
end Go.Proofs.Ytcmjlfhnibjofaa

/- Chapter 1: the reference's roots and directions. -/
namespace Go.Proofs.Ytcmjlfhnibjofaa
set_option linter.unusedVariables false
set_option linter.unusedSimpArgs false
open Go.RowKit
theorem sq_le {s : Int} (h0 : 0 ≤ s) (h1 : s ≤ 2147483648) : 0 ≤ s * s ∧ s * s ≤ 4611686018427387904 := by
  obtain ⟨a, b⟩ := sq_bd s 2147483648 (by omega) h1
  exact ⟨a, by omega⟩
/-- The reference's direction. -/
def rseek (m : Int) : Nat → Int → Int × Int → Int → Int × Int → Int × Int
  | 0, _, _, _, b => b
  | f + 1, lo, a, hi, b => if (lo + hi) / 2 = m then midP a b else if (lo + hi) / 2 < m then rseek m f ((lo + hi) / 2) (midP a b) hi b else rseek m f lo a ((lo + hi) / 2) (midP a b)
def rdirP (m : Int) : Int × Int := if m = 0 then oneW else rseek m 10 0 oneW 1024 halfW
theorem seek_same (m : Int) : ∀ (f : Nat) (lo hi : Int) (a b : Int × Int), hi = lo + 2 ^ f → lo < m → m < hi → (seekP (dirB m) f lo a hi b).2 = rseek m f lo a hi b
  | 0, lo, hi, a, b, h, h1, h2 => by simp at h; omega
  | f + 1, lo, hi, a, b, h, h1, h2 => by
    have hp : (0 : Int) < 2 ^ f := Int.pow_pos (by omega)
    rw [Int.pow_succ] at h
    have d1 : (dirB m ((lo + hi) / 2) (midP a b)).1 = decide ((lo + hi) / 2 < m) := rfl
    have d2 : (dirB m ((lo + hi) / 2) (midP a b)).2 = (m == (lo + hi) / 2) := rfl
    simp only [seekP, rseek]
    by_cases e : (lo + hi) / 2 = m
    · rw [if_pos (by rw [d2, e]; simp), if_pos e]
    · have e' : ¬ (dirB m ((lo + hi) / 2) (midP a b)).2 = true := by rw [d2]; simp; omega
      rw [if_neg e', if_neg e]
      by_cases c : (lo + hi) / 2 < m
      · rw [if_pos (by rw [d1]; simpa using c), if_pos c]
        exact seek_same m f _ _ _ _ (by omega) c h2
      · rw [if_neg (by rw [d1]; simpa using c), if_neg c]
        exact seek_same m f _ _ _ _ (by omega) h1 (by omega)
theorem rseek_last : ∀ (f : Nat) (lo hi : Int) (a b : Int × Int), hi = lo + 2 ^ f → rseek hi f lo a hi b = b
  | 0, lo, hi, a, b, h => rfl
  | f + 1, lo, hi, a, b, h => by
    have hp : (0 : Int) < 2 ^ f := Int.pow_pos (by omega)
    rw [Int.pow_succ] at h
    simp only [rseek]
    rw [if_neg (by omega), if_pos (by omega)]
    exact rseek_last f _ _ _ _ (by omega)
theorem dir_same (m : Int) (h0 : 0 ≤ m) (h1 : m ≤ 1024) : dirP m = rdirP m := by
  unfold dirP rdirP
  by_cases e : m = 0
  · rw [if_pos e, if_pos e]
  · rw [if_neg e, if_neg e]
    by_cases c : m = 1024
    · subst c
      rw [if_pos rfl]
      exact (rseek_last 10 0 1024 oneW halfW (by decide)).symm
    · rw [if_neg c]
      unfold searchP
      exact seek_same m 10 0 1024 oneW halfW (by decide) (by omega) (by omega)
def dirOk (m : Nat) : Bool :=
  let d := rdirP m
  let n := rdirP (m + 1)
  decide (1 ≤ d.1) && decide (d.1 ≤ 16777216) && decide (0 ≤ d.2) && decide (d.2 ≤ 16777216) && decide (281474842492944 ≤ d.1 * d.1 + d.2 * d.2) && decide (d.1 * d.1 + d.2 * d.2 ≤ 281475010265089) && (decide (m = 1024) || decide (d.2 * n.1 < d.1 * n.2))
theorem dirs_ok : (List.range 1025).all dirOk = true := by decide +kernel
theorem dir_facts (m : Int) (h0 : 0 ≤ m) (h1 : m ≤ 1024) : (1 ≤ (dirP m).1 ∧ (dirP m).1 ≤ 16777216) ∧ (0 ≤ (dirP m).2 ∧ (dirP m).2 ≤ 16777216) ∧ (281474842492944 ≤ (dirP m).1 * (dirP m).1 + (dirP m).2 * (dirP m).2 ∧ (dirP m).1 * (dirP m).1 + (dirP m).2 * (dirP m).2 ≤ 281475010265089) ∧ (m ≠ 1024 → (dirP m).2 * (dirP (m + 1)).1 < (dirP m).1 * (dirP (m + 1)).2) := by
  obtain ⟨k, rfl⟩ := Int.eq_ofNat_of_zero_le h0
  have h := List.all_eq_true.1 dirs_ok k (List.mem_range.2 (by omega))
  unfold dirOk at h
  simp only [Bool.and_eq_true, Bool.or_eq_true, decide_eq_true_eq] at h
  obtain ⟨⟨⟨⟨⟨⟨a1, a2⟩, a3⟩, a4⟩, a5⟩, a6⟩, a7⟩ := h
  rw [← dir_same k h0 h1] at a1 a2 a3 a4 a5 a6 a7
  refine ⟨⟨a1, a2⟩, ⟨a3, a4⟩, ⟨a5, a6⟩, fun hne => ?_⟩
  rcases a7 with a7 | a7
  · exact absurd (by rw [a7]; rfl) hne
  · rwa [← dir_same ((k : Int) + 1) (by omega) (by omega)] at a7
end Go.Proofs.Ytcmjlfhnibjofaa

/- Chapter 1: the reference's phases. -/
namespace Go.Proofs.Ytcmjlfhnibjofaa
set_option linter.unusedVariables false
set_option linter.unusedSimpArgs false
open Go.RowKit
/-- The directions of the reference's search for a phase. -/
structure FsSt (w : World) (A : Nat) (a b : Int × Int) (wr : World) : Prop where
  a0 : wr.cell? ⟨A, 0, none⟩ = some (.int .i64 a.1)
  a1 : wr.cell? ⟨A, 1, none⟩ = some (.int .i64 a.2)
  b0 : wr.cell? ⟨A + 1, 0, none⟩ = some (.int .i64 b.1)
  b1 : wr.cell? ⟨A + 1, 1, none⟩ = some (.int .i64 b.2)
  fa0 : wr.frozen? ⟨A, 0, none⟩ = false
  fa1 : wr.frozen? ⟨A, 1, none⟩ = false
  fb0 : wr.frozen? ⟨A + 1, 0, none⟩ = false
  fb1 : wr.frozen? ⟨A + 1, 1, none⟩ = false
  bel : Below w.heap.size w wr
  wa : w.heap.size ≤ A
  lt : A + 1 < wr.heap.size
theorem FsSt.below {w wr W : World} {A : Nat} {a b : Int × Int} (h : FsSt w A a b wr) (hb : Below wr.heap.size wr W) : FsSt w A a b W := by
  have hlt := h.lt
  have hwa := h.wa
  have hs := hb.size
  have q2 : ∀ j, W.cell? ⟨A, j, none⟩ = wr.cell? ⟨A, j, none⟩ := fun j => hb.cell (p := ⟨A, j, none⟩) (show A < wr.heap.size by omega)
  have q3 : ∀ j, W.cell? ⟨A + 1, j, none⟩ = wr.cell? ⟨A + 1, j, none⟩ := fun j => hb.cell (p := ⟨A + 1, j, none⟩) hlt
  have f2 : ∀ j, W.frozen? ⟨A, j, none⟩ = wr.frozen? ⟨A, j, none⟩ := fun j => hb.frozen (p := ⟨A, j, none⟩) (show A < wr.heap.size by omega)
  have f3 : ∀ j, W.frozen? ⟨A + 1, j, none⟩ = wr.frozen? ⟨A + 1, j, none⟩ := fun j => hb.frozen (p := ⟨A + 1, j, none⟩) hlt
  exact ⟨(q2 0).trans h.a0, (q2 1).trans h.a1, (q3 0).trans h.b0, (q3 1).trans h.b1, (f2 0).trans h.fa0, (f2 1).trans h.fa1, (f3 0).trans h.fb0, (f3 1).trans h.fb1, h.bel.trans (hb.mono (by omega)), hwa, by omega⟩
theorem FsSt.putA {w wr : World} {A : Nat} {a b : Int × Int} (h : FsSt w A a b wr) (c : Int × Int) : FsSt w A c b ((wr.setCell ⟨A, 0, none⟩ (.int .i64 c.1)).setCell ⟨A, 1, none⟩ (.int .i64 c.2)) := by
  obtain ⟨a0, a1, b0, b1, fa0, fa1, fb0, fb1, bel, wa, lt⟩ := h
  refine ⟨?_, ?_, ?_, ?_, ?_, ?_, ?_, ?_, (bel.setCell (p := ⟨A, 0, none⟩) wa _).setCell (p := ⟨A, 1, none⟩) wa _, wa, by simpa using lt⟩ <;> simp [go_sem, a0, a1, b0, b1, fa0, fa1, fb0, fb1]
theorem FsSt.putB {w wr : World} {A : Nat} {a b : Int × Int} (h : FsSt w A a b wr) (c : Int × Int) : FsSt w A a c ((wr.setCell ⟨A + 1, 0, none⟩ (.int .i64 c.1)).setCell ⟨A + 1, 1, none⟩ (.int .i64 c.2)) := by
  obtain ⟨a0, a1, b0, b1, fa0, fa1, fb0, fb1, bel, wa, lt⟩ := h
  refine ⟨?_, ?_, ?_, ?_, ?_, ?_, ?_, ?_, (bel.setCell (p := ⟨A + 1, 0, none⟩) (show w.heap.size ≤ A + 1 by omega) _).setCell (p := ⟨A + 1, 1, none⟩) (show w.heap.size ≤ A + 1 by omega) _, wa, by simpa using lt⟩ <;> simp [go_sem, a0, a1, b0, b1, fa0, fa1, fb0, fb1]
end Go.Proofs.Ytcmjlfhnibjofaa

/- Chapter 1: the reference's Phase, PhaseOf. -/
namespace Go.Proofs.Ytcmjlfhnibjofaa
set_option linter.unusedVariables false
set_option linter.unusedSimpArgs false
open Go.RowKit
def wrapP (n : Int) : Int := (n % 4096 + 2048) % 4096 - 2048
set_option maxHeartbeats 400000 in
theorem bWrap (n : Int) (w : World) (h1 : -9223372036854775808 ≤ n) (h2 : n ≤ 9223372036854775807) {v : Int} (hv : wrapP n = v) : Calls Try.prog 20 #[.int .i64 n] w fun e w' => e = .returned (.int .i64 v) ∧ w = w' := by
  have HM1 := Lib.hid (fun w => bMod n 4096 w (by decide) (by decide) h1 h2)
  have a1 := Int.emod_nonneg n (show (4096 : Int) ≠ 0 by decide)
  have a2 := Int.emod_lt_of_pos n (show (0 : Int) < 4096 by decide)
  have HM2 := Lib.hid (fun w => bMod (n % 4096 + 2048) 4096 w (by decide) (by decide) (by omega) (by omega))
  have HF := Lib.hid (show (n % 4096 + 2048) % 4096 - 2048 = v from hv)
  have b1 := Int.emod_nonneg (n % 4096 + 2048) (show (4096 : Int) ≠ 0 by decide)
  have b2 := Int.emod_lt_of_pos (n % 4096 + 2048) (show (0 : Int) < 4096 by decide)
  generalize n % 4096 = q at *
  generalize (q + 2048) % 4096 = p at *
  clear hv
  go_enter Try.func20, Try.ntmps20
  go_wp2_with (first | (go_at_call 35; (with_reducible refine (HM1.out _).mono ?_); rintro e w' ⟨rfl, rfl⟩) | (go_at_call 35; (with_reducible refine (HM2.out _).mono ?_); rintro e w' ⟨rfl, rfl⟩))
  go_ret
  exact ⟨ret_intE HF.out, rfl⟩
def upW (x y : Int) : Int := if upP x y < 2048 then upP x y else -2048
end Go.Proofs.Ytcmjlfhnibjofaa
