/- Chapter 1: the reference's checks of fields and codes. -/
import Derived.Test.YtfiioadmpjmmgaaGreatDoorU77
namespace Go.Proofs.YtfiioadmpjmmgaaGreatDoor
set_option linter.unusedVariables false
set_option linter.unusedSimpArgs false
open Go.RowKit Ieee Ntt
set_option maxRecDepth 20000 in
set_option maxHeartbeats 1000000 in
theorem rCheckField (L S : Int) (n cap : Nat) (f : Nat → Nat × Nat) (a : Option Addr) (w : World) (hl : n ≤ 100000) (hd : FldAt w L S n f a) {i0 : Nat} {e0 : Int} (he : fldE L S n f = (i0, e0)) :
    Calls Tryz.prog 16 #[.agg #[.int .i64 L, .int .i64 S, .slice a n cap]] w fun e w' => e = .returned (.tuple #[.int .i64 i0, .int .i64 e0]) ∧ Below w.heap.size w w' := by
  obtain ⟨z, hz⟩ : ∃ z, sizeE L S n = z := ⟨_, rfl⟩
  have HS := Lib.hid (fun w => rSizeErr L S n w hz)
  by_cases h0 : z = 0
  · subst h0
    obtain ⟨b, off, rfl, hbw, hf⟩ := hd hz
    have HE := Lib.hid (show firstE n (gD f 1000000000) = (i0, e0) by rw [← he]; unfold fldE; rw [if_pos hz])
    have HF := Lib.hid hf
    clear hz hd he hf
    go_enter Tryz.func16, Tryz.ntmps16
    go_wp2_with (first | (go_at_call 77; (with_reducible refine (HS.out _).mono ?_); rintro e w' ⟨rfl, rfl⟩))
    refine wp_worldK (fun W => W.cell? ⟨w.heap.size, 2, none⟩ = some (.slice (some ⟨b, off, none⟩) n cap) ∧ w.heap.size < W.heap.size ∧ Below w.heap.size w W) ⟨by simp [go_sem], by simp, (by (repeat' (first | with_reducible exact Below.refl _ _ | (with_reducible refine below_later_of ?_ ?_ _) | (with_reducible refine Below.alloc ?_ ?_ _) | (with_reducible refine Below.setCell ?_ ?_ _) | (with_reducible refine Below.drew ?_) | (simp; done) | (simp; omega) | omega)))⟩ ?_
    rintro W2 ⟨p2, hlt2, hb2⟩
    have P2 := Lib.hid p2
    have HB2 := Lib.hid hb2
    clear p2 hb2
    go_loopw [5] (fun i wr => ∃ k : Nat, k ≤ n ∧ i = .int .i64 k ∧ (∀ j, j < k → gD f 1000000000 j = 0) ∧ Below W2.heap.size W2 wr) (fun i _ => n - (intOf i).toNat)
    case atStart => exact ⟨0, Nat.zero_le _, rfl, fun j hj => absurd hj (Nat.not_lt_zero _), Below.refl _ _⟩
    case round =>
      obtain ⟨k, hk, rfl, hz, hb⟩ := hrel
      have HZ := Lib.hid hz
      have HB := Lib.hid hb
      have c2 := (hb.cell (p := ⟨w.heap.size, 2, none⟩) hlt2).trans P2.out
      have hsz := hb.size
      by_cases hlt : k < n
      · have hdk : decide ((k : Int) < (n : Int)) = true := by simp; omega
        have hbb := HB2.out.trans (hb.mono HB2.out.size)
        have ck := (hbb.cell (p := ⟨b, off + k, none⟩) hbw).trans (HF.out k hlt)
        have nb1 : w.heap.size < wr.heap.size := by omega
        have nb2 : b < wr.heap.size := by omega
        clear hz hb hbb
        rcases Decidable.em (gD f 1000000000 k = 0) with h0 | h0
        · have HP := Lib.hid (show ∀ W, Calls Tryz.prog 78 #[.float .f64 (f k).1, .float .f64 (f k).2, .int .i64 1000000000] W fun e w' => e = .returned (.int .i64 0) ∧ Below W.heap.size W w' from fun W => by
            have := rPartErr (f k).1 (f k).2 1000000000 W (by decide) (by decide)
            rwa [show partD (f k).1 (f k).2 1000000000 = 0 from h0] at this)
          have H0 := Lib.hid h0
          clear h0
          go_wp2
          refine wp_region_calm (by kernel_rfl) (by kernel_rfl) ?_
          repeat (go_big_quiet_step (first | (go_at_call 78; exact calm_of (HP.out _))))
          refine wpQuiet_nil ?_
          rintro _ ⟨pq, rfl⟩
          go_wp2
          go_roundw
          case rel => exact ⟨k + 1, by omega, by go_num, fun j hj => by rcases Nat.lt_succ_iff_lt_or_eq.1 hj with h | rfl; exact HZ.out j h; exact H0.out, HB.out.trans (by (repeat' (first | with_reducible exact Below.refl _ _ | (with_reducible refine below_later_of ?_ ?_ _) | (with_reducible refine Below.alloc ?_ ?_ _) | (with_reducible refine Below.setCell ?_ ?_ _) | (with_reducible refine Below.drew ?_) | (simp; done) | (simp; omega) | omega)))⟩
          case measure => simp [intOf]; omega
        · have hE := (firstE_hit hlt HZ.out h0).symm.trans HE.out
          obtain ⟨rfl, rfl⟩ := Prod.mk.inj hE
          have HP := Lib.hid (show ∀ W, Calls Tryz.prog 78 #[.float .f64 (f k).1, .float .f64 (f k).2, .int .i64 1000000000] W fun e w' => e = .returned (.int .i64 (gD f 1000000000 k)) ∧ Below W.heap.size W w' from fun W => rPartErr (f k).1 (f k).2 1000000000 W (by decide) (by decide))
          have hne : (gD f 1000000000 k != 0) = true := by simpa using h0
          clear h0 hE HE
          obtain ⟨z, hz0⟩ : ∃ z, gD f 1000000000 k = z := ⟨_, rfl⟩
          rw [hz0] at hne HP
          have HZ0 := Lib.hid hz0
          clear hz0
          go_wp2
          refine wp_region_calm (by kernel_rfl) (by kernel_rfl) ?_
          repeat (go_big_quiet_step (first | (go_at_call 78; exact calm_of (HP.out _))))
          refine wpQuiet_nil ?_
          rintro _ ⟨pq, rfl⟩
          go_wp2
          go_ret2
          exact ⟨by rw [HZ0.out]; rfl, HB2.out.trans ((HB.out.trans (by (repeat' (first | with_reducible exact Below.refl _ _ | (with_reducible refine below_later_of ?_ ?_ _) | (with_reducible refine Below.alloc ?_ ?_ _) | (with_reducible refine Below.setCell ?_ ?_ _) | (with_reducible refine Below.drew ?_) | (simp; done) | (simp; omega) | omega)))).mono HB2.out.size)⟩
      · obtain rfl : k = n := by omega
        have hdk : decide ((k : Int) < (k : Int)) = false := by simp
        clear hz hb
        have hE := (firstE_ok HZ.out).symm.trans HE.out
        obtain ⟨rfl, rfl⟩ := Prod.mk.inj hE
        clear hE HE
        go_wp2
        go_ret2
        exact ⟨rfl, HB2.out.trans (HB.out.mono HB2.out.size)⟩
  · have he' : (0, z) = (i0, e0) := by rw [← he]; unfold fldE; rw [hz, if_neg h0]
    obtain ⟨rfl, rfl⟩ := Prod.mk.inj he'
    have hne : (z != 0) = true := by simpa using h0
    clear hz hd he he' h0
    go_enter Tryz.func16, Tryz.ntmps16
    go_wp2_with (first | (go_at_call 77; (with_reducible refine (HS.out _).mono ?_); rintro e w' ⟨rfl, rfl⟩))
    go_ret2
    exact ⟨rfl, (by (repeat' (first | with_reducible exact Below.refl _ _ | (with_reducible refine below_later_of ?_ ?_ _) | (with_reducible refine Below.alloc ?_ ?_ _) | (with_reducible refine Below.setCell ?_ ?_ _) | (with_reducible refine Below.drew ?_) | (simp; done) | (simp; omega) | omega)))⟩

theorem anyC_succ (k : Nat) (f : Nat → Nat × Nat) : anyC (k + 1) f = (anyC k f || nzC (f k).1 (f k).2) := by
  unfold anyC
  rw [List.range_succ, List.any_append]
  simp
end Go.Proofs.YtfiioadmpjmmgaaGreatDoor
