/- Chapter 1: the closure of Shifted. -/
import Derived.Test.YtakohhlmomgegaaDoorZN
import Derived.Test.YtakohhlmomgegaaDoorZH
namespace Go.Proofs.YtakohhlmomgegaaDoor
set_option linter.unusedVariables false
set_option linter.unusedSimpArgs false
open Go.RowKit Ntt
/-- The parts of the sample that comes to line l, sample s, of an image that is shifted by p lines and q samples. -/
def shX (f : Nat → Nat × Nat) (L S : Nat) (p q : Int) (l s : Nat) : Int × Int :=
  if inE 0 ((L : Int) - 1) ((l : Int) - p) && inE 0 ((S : Int) - 1) ((s : Int) - q) then (xB f (((l : Int) - p) * S + ((s : Int) - q)).toNat, yB f (((l : Int) - p) * S + ((s : Int) - q)).toNat) else (0, 0)
set_option maxHeartbeats 1000000 in
theorem shifted1 (A B b off n cap : Nat) (L S : Nat) (p q : Int) (f : Nat → Nat × Nat) (l s : Nat) (w : World) (hA : ImgBlk w A L S (some ⟨b, off, none⟩) n cap) (hAw : A < w.heap.size) (hBw : B < w.heap.size) (hbw : b < w.heap.size) (b0 : w.cell? ⟨B, 0, none⟩ = some (.int .i64 p)) (b1 : w.cell? ⟨B, 1, none⟩ = some (.int .i64 q)) (hf : SamplesAt w b off n f)
    (h1 : 1 ≤ S) (h2 : S ≤ 64) (hL1 : 1 ≤ L) (hL2 : L ≤ 64) (hn : n = L * S) (hl : l ≤ 64) (hs : s ≤ 64) (hp : -64 ≤ p ∧ p ≤ 64) (hq : -64 ≤ q ∧ q ≤ 64) (hsf : SmallS n f (xB f) (yB f) 2047) :
    Calls Tryd.prog 118 #[.int .i64 l, .int .i64 s, .pointer (some ⟨B, 0, none⟩), .pointer (some ⟨A, 0, none⟩)] w fun e w' => e = .returned (.tuple #[.int .i64 (shX f L S p q l s).1, .int .i64 (shX f L S p q l s).2]) ∧ Below w.heap.size w w' := by
  obtain ⟨a0, a1, a2⟩ := hA
  obtain ⟨p1, p2⟩ := hp
  obtain ⟨q1, q2⟩ := hq
  obtain ⟨x, hx⟩ : ∃ x : Int, (l : Int) - p = x := ⟨_, rfl⟩
  obtain ⟨y, hy⟩ : ∃ y : Int, (s : Int) - q = y := ⟨_, rfl⟩
  have hx1 : -128 ≤ x := by omega
  have hx2 : x ≤ 128 := by omega
  have hy1 : -128 ≤ y := by omega
  have hy2 : y ≤ 128 := by omega
  have HE := Lib.hid (show shX f L S p q l s = if inE 0 ((L : Int) - 1) x && inE 0 ((S : Int) - 1) y then (xB f (x * S + y).toNat, yB f (x * S + y).toNat) else (0, 0) by unfold shX; rw [hx, hy])
  generalize shX f L S p q l s = r at HE ⊢
  rcases (show inE 0 ((L : Int) - 1) x = false ∨ inE 0 ((L : Int) - 1) x = true by cases inE 0 ((L : Int) - 1) x <;> simp) with i1 | i1
  · have H1 := Lib.hid i1
    obtain rfl : r = (0, 0) := by rw [HE.out, i1]; rfl
    clear i1 hf hsf hn
    go_enter Tryd.func118, Tryd.ntmps118
    go_wp2
    refine wp_region_calm (by kernel_rfl) (by kernel_rfl) ?_
    repeat (go_big_quiet_step (fail))
    refine wpQuiet_nil ?_
    rintro _ ⟨pq, rfl⟩
    go_wp2_with (first | (go_at_call 99; (with_reducible refine (within_e _ _ _ _ H1.out).mono ?_); rintro e w' ⟨rfl, rfl⟩))
    go_ret2
    exact ⟨rfl, (by (repeat' (first | with_reducible exact Below.refl _ _ | (with_reducible refine below_later_of ?_ ?_ _) | (with_reducible refine Below.alloc ?_ ?_ _) | (with_reducible refine Below.setCell ?_ ?_ _) | (with_reducible refine Below.drew ?_) | (simp; done) | (simp; omega) | omega)))⟩
  rcases (show inE 0 ((S : Int) - 1) y = false ∨ inE 0 ((S : Int) - 1) y = true by cases inE 0 ((S : Int) - 1) y <;> simp) with i2 | i2
  · have H1 := Lib.hid i1
    have H2 := Lib.hid i2
    obtain rfl : r = (0, 0) := by rw [HE.out, i1, i2]; rfl
    clear i1 i2 hf hsf hn
    go_enter Tryd.func118, Tryd.ntmps118
    go_wp2
    refine wp_region_calm (by kernel_rfl) (by kernel_rfl) ?_
    repeat (go_big_quiet_step (fail))
    refine wpQuiet_nil ?_
    rintro _ ⟨pq, rfl⟩
    go_wp2_with (first | (go_at_call 99; (with_reducible refine (within_e _ _ _ _ H1.out).mono ?_); rintro e w' ⟨rfl, rfl⟩) | (go_at_call 99; (with_reducible refine (within_e _ _ _ _ H2.out).mono ?_); rintro e w' ⟨rfl, rfl⟩))
    go_ret2
    exact ⟨rfl, (by (repeat' (first | with_reducible exact Below.refl _ _ | (with_reducible refine below_later_of ?_ ?_ _) | (with_reducible refine Below.alloc ?_ ?_ _) | (with_reducible refine Below.setCell ?_ ?_ _) | (with_reducible refine Below.drew ?_) | (simp; done) | (simp; omega) | omega)))⟩
  · have H1 := Lib.hid i1
    have H2 := Lib.hid i2
    obtain ⟨t1, t2⟩ := inE_iff.1 i1
    obtain ⟨t3, t4⟩ := inE_iff.1 i2
    obtain ⟨X, rfl⟩ := Int.eq_ofNat_of_zero_le t1
    obtain ⟨Y, rfl⟩ := Int.eq_ofNat_of_zero_le t3
    obtain ⟨i, hi⟩ : ∃ i, X * S + Y = i := ⟨_, rfl⟩
    have hii : (X : Int) * (S : Int) + (Y : Int) = (i : Int) := by rw [← hi, Int.natCast_add, Int.natCast_mul]
    have hin : i < n := by
      have h3 : (X + 1) * S ≤ L * S := Nat.mul_le_mul_right _ (by omega)
      rw [Nat.add_mul, Nat.one_mul] at h3
      omega
    obtain rfl : r = (xB f i, yB f i) := by rw [HE.out, i1, i2, hii]; rfl
    have ci := hf i hin
    obtain ⟨⟨u1, u2, u3, u4⟩, ⟨u5, u6⟩, u7, u8⟩ := hsf i hin
    have HP1 := Lib.hid (fun w => parts_any (f i).1 (f i).2 _ _ w (flI_single u1 (by omega) (by omega)) (flI_single u2 (by omega) (by omega)))
    obtain ⟨r1, r2⟩ : (0 : Int) ≤ (X : Int) * (S : Int) ∧ (X : Int) * (S : Int) ≤ 4096 := ⟨Int.mul_nonneg (by omega) (by omega), by
      have := Int.mul_le_mul (show (X : Int) ≤ 64 by omega) (show (S : Int) ≤ 64 by omega) (by omega) (by decide)
      omega⟩
    generalize xB f i = x1 at u5 u6 HP1 ⊢
    generalize yB f i = y1 at u7 u8 HP1 ⊢
    clear i1 i2 hf hsf hn u1 u2 u3 u4 HE
    go_enter Tryd.func118, Tryd.ntmps118
    go_wp2
    refine wp_region_calm (by kernel_rfl) (by kernel_rfl) ?_
    repeat (go_big_quiet_step (fail))
    refine wpQuiet_nil ?_
    rintro _ ⟨pq, rfl⟩
    go_wp2_with (first | (go_at_call 99; (with_reducible refine (within_e _ _ _ _ H1.out).mono ?_); rintro e w' ⟨rfl, rfl⟩) | (go_at_call 99; (with_reducible refine (within_e _ _ _ _ H2.out).mono ?_); rintro e w' ⟨rfl, rfl⟩) | (go_at_call 110; (with_reducible refine (HP1.out _).mono ?_); rintro e w' ⟨rfl, rfl⟩))
    go_ret2
    exact ⟨rfl, (by (repeat' (first | with_reducible exact Below.refl _ _ | (with_reducible refine below_later_of ?_ ?_ _) | (with_reducible refine Below.alloc ?_ ?_ _) | (with_reducible refine Below.setCell ?_ ?_ _) | (with_reducible refine Below.drew ?_) | (simp; done) | (simp; omega) | omega)))⟩
end Go.Proofs.YtakohhlmomgegaaDoor
