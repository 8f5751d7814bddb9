/- Chapter 1: base.SameSamples. -/
import Derived.Test.YtakohhlmomgegaaDoorZK
import Derived.Test.YtakohhlmomgegaaDoorZP
namespace Go.Proofs.YtakohhlmomgegaaDoor
set_option linter.unusedVariables false
set_option linter.unusedSimpArgs false
open Go.RowKit Ntt
theorem hrun_bits32 (b : Nat) (w : World) : (callFunc 142 #[.float .f32 b]).run Tryd.prog w = .ok (.value (.int .u32 b)) w := by
  rw [run_callFunc_extern (e := Extern.MathFloatBits.float32bits) Tryd.func142 (by kernel_rfl) (by kernel_rfl) (by kernel_rfl) (by kernel_rfl)]
  rfl
/-- The value is a slice of these samples. -/
def SamV (w : World) (v : Value) (n : Nat) (f : Nat → Nat × Nat) : Prop :=
  n ≤ 100000 ∧ ∃ a cap, v = .slice a n cap ∧ (0 < n → ∃ b off, a = some ⟨b, off, none⟩ ∧ b < w.heap.size ∧ SamplesAt w b off n f)
set_option maxHeartbeats 2000000 in
theorem sameSamples_any (n m : Nat) (f g : Nat → Nat × Nat) (v u : Value) (w : World) (hx : SamV w v n f) (hy : SamV w u m g) {c : Bool} (hc : c = true ↔ SameF n m f g) :
    Calls Tryd.prog 119 #[v, u] w fun e w' => e = .returned (.bool c) ∧ Below w.heap.size w w' := by
  obtain ⟨x1, a, cap, rfl, x4⟩ := hx
  obtain ⟨y1, a', cap', rfl, y4⟩ := hy
  have HC := Lib.hid hc
  clear hc
  by_cases hl : n = m
  · subst hl
    have hl' : ((n : Int) != (n : Int)) = false := bne_self_eq_false _
    by_cases h0 : 0 < n
    · obtain ⟨b, off, rfl, hbw, hcx⟩ := x4 h0
      obtain ⟨b', off', rfl, hbw', hcy⟩ := y4 h0
      have HCX := Lib.hid hcx
      have HCY := Lib.hid hcy
      clear x4 y4 hcx hcy
      go_enter Tryd.func119, Tryd.ntmps119
      go_wp2
      go_loopw [5] (fun i wr => ∃ k : Nat, k ≤ n ∧ i = .int .i64 k ∧ Below w.heap.size w wr ∧ ∀ j, j < k → f j = g j) (fun i _ => n - (intOf i).toNat)
      case atStart => exact ⟨0, Nat.zero_le _, rfl, Below.refl _ _, fun j hj => by omega⟩
      case round =>
        obtain ⟨k, hk, rfl, hnx, hz⟩ := hrel
        have HX := Lib.hid hnx
        have HZ := Lib.hid hz
        have hsz := hnx.size
        by_cases hlt : k < n
        · have cx := (hnx.cell (p := ⟨b, off + k, none⟩) hbw).trans (HCX.out k hlt)
          have cy := (hnx.cell (p := ⟨b', off' + k, none⟩) hbw').trans (HCY.out k hlt)
          have hbr : b < wr.heap.size := by omega
          have hbr' : b' < wr.heap.size := by omega
          have hdk : decide ((k : Int) < (n : Int)) = true := by simp; omega
          have hk0 : (0 : Int) ≤ (k : Int) := by omega
          have hk1 : (k : Int) < (n : Int) := by omega
          obtain ⟨p, hp⟩ : ∃ p, f k = p := ⟨_, rfl⟩
          obtain ⟨q, hq⟩ : ∃ q, g k = q := ⟨_, rfl⟩
          rw [hp] at cx
          rw [hq] at cy
          have HP := Lib.hid hp
          have HQ := Lib.hid hq
          obtain ⟨p1, p2⟩ := p
          obtain ⟨q1, q2⟩ := q
          dsimp only at cx cy
          clear hnx hz hp hq
          have r1 := fun w => hrun_bits32 p1 w
          have r2 := fun w => hrun_bits32 p2 w
          have r3 := fun w => hrun_bits32 q1 w
          have r4 := fun w => hrun_bits32 q2 w
          by_cases he : p1 = q1
          · subst he
            have d1 : ((p1 : Int) != (p1 : Int)) = false := bne_self_eq_false _
            by_cases he2 : p2 = q2
            · subst he2
              have d2 : ((p2 : Int) != (p2 : Int)) = false := bne_self_eq_false _
              go_wp2
              refine wp_region_calm (by kernel_rfl) (by kernel_rfl) ?_
              repeat (go_big_quiet_step (fail))
              refine wpQuiet_nil ?_
              rintro _ ⟨pp, rfl⟩
              go_wp2
              go_roundw
              case rel => exact ⟨k + 1, by omega, by go_num, HX.out.trans (below_mono_of hsz (by (repeat' (first | with_reducible exact Below.refl _ _ | (with_reducible refine below_later_of ?_ ?_ _) | (with_reducible refine Below.alloc ?_ ?_ _) | (with_reducible refine Below.setCell ?_ ?_ _) | (with_reducible refine Below.drew ?_) | (simp; done) | (simp; omega) | omega)))), fun j hj => if e : j = k then (by rw [e, HP.out, HQ.out]) else HZ.out j (by omega)⟩
              case measure => simp [intOf]; omega
            · have d2 : ((p2 : Int) != (q2 : Int)) = true := by rw [bne_iff_ne]; omega
              have HF := Lib.hid (show false = c by
                symm
                rw [Bool.eq_false_iff]
                intro h
                have := (HC.out.1 h).2 k hlt
                rw [HP.out, HQ.out] at this
                cases this
                exact he2 rfl)
              clear he2
              go_wp2
              refine wp_region_calm (by kernel_rfl) (by kernel_rfl) ?_
              repeat (go_big_quiet_step (fail))
              refine wpQuiet_nil ?_
              rintro _ ⟨pp, rfl⟩
              go_wp2
              go_ret
              exact ⟨ret_bool HF.out, HX.out.trans (below_mono_of hsz (by (repeat' (first | with_reducible exact Below.refl _ _ | (with_reducible refine below_later_of ?_ ?_ _) | (with_reducible refine Below.alloc ?_ ?_ _) | (with_reducible refine Below.setCell ?_ ?_ _) | (with_reducible refine Below.drew ?_) | (simp; done) | (simp; omega) | omega))))⟩
          · have d1 : ((p1 : Int) != (q1 : Int)) = true := by rw [bne_iff_ne]; omega
            have HF := Lib.hid (show false = c by
              symm
              rw [Bool.eq_false_iff]
              intro h
              have := (HC.out.1 h).2 k hlt
              rw [HP.out, HQ.out] at this
              cases this
              exact he rfl)
            clear he
            go_wp2
            refine wp_region_calm (by kernel_rfl) (by kernel_rfl) ?_
            repeat (go_big_quiet_step (fail))
            refine wpQuiet_nil ?_
            rintro _ ⟨pp, rfl⟩
            go_wp2
            go_ret
            exact ⟨ret_bool HF.out, HX.out.trans (below_mono_of hsz (by (repeat' (first | with_reducible exact Below.refl _ _ | (with_reducible refine below_later_of ?_ ?_ _) | (with_reducible refine Below.alloc ?_ ?_ _) | (with_reducible refine Below.setCell ?_ ?_ _) | (with_reducible refine Below.drew ?_) | (simp; done) | (simp; omega) | omega))))⟩
        · obtain rfl : k = n := by omega
          have HF := Lib.hid (show true = c from (HC.out.2 ⟨rfl, HZ.out⟩).symm)
          have hdk : decide ((k : Int) < (k : Int)) = false := by simp
          clear hnx hz
          go_wp2
          go_ret
          exact ⟨ret_bool HF.out, HX.out⟩
    · obtain rfl : n = 0 := by omega
      have HF := Lib.hid (show true = c from (HC.out.2 ⟨rfl, fun k hk => absurd hk (Nat.not_lt_zero _)⟩).symm)
      clear x4 y4 h0 hl' x1 y1
      go_enter Tryd.func119, Tryd.ntmps119
      go_wp2
      refine wp_loop_rounds 1 ?_
      rw [rounds_succ]
      go_wp2
      go_ret
      exact ⟨ret_bool HF.out, Below.refl _ _⟩
  · have hl' : ((n : Int) != (m : Int)) = true := by rw [bne_iff_ne]; omega
    have HF := Lib.hid (show false = c by
      symm
      rw [Bool.eq_false_iff]
      intro h
      exact hl (HC.out.1 h).1)
    clear x4 y4 hl
    go_enter Tryd.func119, Tryd.ntmps119
    go_wp2
    go_ret
    exact ⟨ret_bool HF.out, Below.refl _ _⟩
end Go.Proofs.YtakohhlmomgegaaDoor
