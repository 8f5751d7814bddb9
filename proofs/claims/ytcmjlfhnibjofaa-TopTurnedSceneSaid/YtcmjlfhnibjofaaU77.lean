/- Chapter 1: the reference's checks of images, fields and codes. -/
import Derived.Test.YtcmjlfhnibjofaaU74
import Derived.Test.YtcmjlfhnibjofaaZM
namespace Go.Proofs.Ytcmjlfhnibjofaa
set_option linter.unusedVariables false
set_option linter.unusedSimpArgs false
open Go.RowKit Ieee Ntt
set_option maxHeartbeats 1000000 in
theorem rSizeErr (l s n : Int) (w : World) {e0 : Int} (he : sizeE l s n = e0) :
    Calls Try.prog 90 #[.int .i64 l, .int .i64 s, .int .i64 n] w fun e w' => e = .returned (.int .i64 e0) ∧ w = w' := by
  subst he
  rcases (show inE 1 64 l = false ∨ inE 1 64 l = true by cases inE 1 64 l <;> simp) with h1 | h1
  · have HF := Lib.hid (show sizeE l s n = 2 by unfold sizeE; rw [h1]; rfl)
    have H1 := Lib.hid h1
    clear h1
    go_enter Try.func90, Try.ntmps90
    go_wp2_with (first | (go_at_call 11; (with_reducible refine (bWithin l _ _ _ H1.out).mono ?_); rintro e w' ⟨rfl, rfl⟩))
    go_ret
    exact ⟨ret_intE HF.out.symm, rfl⟩
  · rcases (show inE 1 64 s = false ∨ inE 1 64 s = true by cases inE 1 64 s <;> simp) with h2 | h2
    · have HF := Lib.hid (show sizeE l s n = 2 by unfold sizeE; rw [h1, h2]; rfl)
      have H1 := Lib.hid h1
      have H2 := Lib.hid h2
      clear h1 h2
      go_enter Try.func90, Try.ntmps90
      go_wp2_with (first | (go_at_call 11; (with_reducible refine (bWithin l _ _ _ H1.out).mono ?_); rintro e w' ⟨rfl, rfl⟩) | (go_at_call 11; (with_reducible refine (bWithin s _ _ _ H2.out).mono ?_); rintro e w' ⟨rfl, rfl⟩))
      go_ret
      exact ⟨ret_intE HF.out.symm, rfl⟩
    · obtain ⟨a1, a2⟩ := inE_iff.1 h1
      obtain ⟨b1, b2⟩ := inE_iff.1 h2
      obtain ⟨m1, m2⟩ : 0 ≤ l * s ∧ l * s ≤ 4096 := ⟨Int.mul_nonneg (by omega) (by omega), by
        have := Int.mul_le_mul a2 b2 (by omega) (by decide)
        omega⟩
      have H1 := Lib.hid h1
      have H2 := Lib.hid h2
      by_cases hn : n = l * s
      · have HF := Lib.hid (show sizeE l s n = 0 by unfold sizeE; rw [h1, h2, if_pos (show (true && true) = true from rfl), if_pos hn])
        have hb : (n != l * s) = false := by simpa using hn
        clear h1 h2 hn
        go_enter Try.func90, Try.ntmps90
        go_wp2_with (first | (go_at_call 11; (with_reducible refine (bWithin l _ _ _ H1.out).mono ?_); rintro e w' ⟨rfl, rfl⟩) | (go_at_call 11; (with_reducible refine (bWithin s _ _ _ H2.out).mono ?_); rintro e w' ⟨rfl, rfl⟩))
        go_ret
        exact ⟨ret_intE HF.out.symm, rfl⟩
      · have HF := Lib.hid (show sizeE l s n = 10 by unfold sizeE; rw [h1, h2, if_pos (show (true && true) = true from rfl), if_neg hn])
        have hb : (n != l * s) = true := by simpa using hn
        clear h1 h2 hn
        go_enter Try.func90, Try.ntmps90
        go_wp2_with (first | (go_at_call 11; (with_reducible refine (bWithin l _ _ _ H1.out).mono ?_); rintro e w' ⟨rfl, rfl⟩) | (go_at_call 11; (with_reducible refine (bWithin s _ _ _ H2.out).mono ?_); rintro e w' ⟨rfl, rfl⟩))
        go_ret
        exact ⟨ret_intE HF.out.symm, rfl⟩

theorem conv_wide (b : Nat) (w : World) : ∃ r w', (convert 121 200 (.float .f32 b)).run Try.prog w = .ok (.float .f64 r) w' ∧ WideOf b r ∧ Below w.heap.size w w' := by
  obtain ⟨r, w', h1, h2, h3⟩ := wide_step b w
  exact ⟨r, w', (show (convert 121 200 (.float .f32 b)).run Try.prog w = (Conv.floatToFloat .f32 b .f64).run Try.prog w by kernel_rfl).trans h1, h2, h3⟩
set_option maxHeartbeats 1000000 in
theorem rSampleErr (a b : Nat) (m : Int) (w : World) (h0 : 0 ≤ m) (h1 : m ≤ 1000000000000) : Calls Try.prog 91 #[.complex .f32 a b, .int .i64 m] w fun e w' => e = .returned (.int .i64 (partE a b m)) ∧ Below w.heap.size w w' := by
  obtain ⟨re, w1, c1, r1, b1⟩ := conv_wide a w
  obtain ⟨im, w2, c2, r2, b2⟩ := conv_wide b w1
  have HC1 := Lib.hid (show ((convert 121 200 (.float .f32 a)) >>= fun v => (Pure.pure (.value v) : Sem Next)).run Try.prog w = .ok (.value (.float .f64 re)) w1 by rw [Sem.run_bind, c1]; rfl)
  have HC2 := Lib.hid (show ((convert 121 200 (.float .f32 b)) >>= fun v => (Pure.pure (.value v) : Sem Next)).run Try.prog w1 = .ok (.value (.float .f64 im)) w2 by rw [Sem.run_bind, c2]; rfl)
  have HPE := Lib.hid (fun w => rPartErr re im m w h0 h1)
  rw [partD_wide r1 r2] at HPE
  have HB := Lib.hid (b1.trans (b2.mono b1.size))
  have hs := (b1.trans (b2.mono b1.size)).size
  clear c1 c2 r1 r2 b1 b2
  go_enter Try.func91, Try.ntmps91
  go_wp2_with (first | ((with_reducible refine wpList_runw (o := ⟨some 7, _, _, _, _, _⟩) (.float .f64 re) w1 ?_ ?_ ?_); (focus rfl); (focus (refine Eq.trans ?_ HC1.out; kernel_rfl))) | ((with_reducible refine wpList_runw (o := ⟨some 10, _, _, _, _, _⟩) (.float .f64 im) w2 ?_ ?_ ?_); (focus rfl); (focus (refine Eq.trans ?_ HC2.out; kernel_rfl))) | (go_at_call 147; (with_reducible refine (HPE.out _).mono ?_); rintro e w' ⟨rfl, hb⟩; have HB3 := Lib.hid hb; clear hb))
  go_ret
  exact ⟨rfl, HB.out.trans (HB3.out.mono hs)⟩
theorem wp_worldK {P : Program} {c : Code} {Q : Exit → Act → World → Prop} {a : Act} {w : World} (F : World → Prop) (hf : F w) (h : ∀ W, F W → Code.wp P c Q a W) : Code.wp P c Q a w := h w hf
set_option maxRecDepth 20000 in
set_option maxHeartbeats 1000000 in
theorem rCheckImage (L S : Int) (n cap : Nat) (f : Nat → Nat × Nat) (a : Option Addr) (w : World) (hl : n ≤ 100000) (hd : DataAt w L S n f a) {i0 : Nat} {e0 : Int} (he : imgE L S n f = (i0, e0)) :
    Calls Try.prog 34 #[.agg #[.int .i64 L, .int .i64 S, .slice a n cap]] w fun e w' => e = .returned (.tuple #[.int .i64 i0, .int .i64 e0]) ∧ Below w.heap.size w w' := by
  obtain ⟨z, hz⟩ : ∃ z, sizeE L S n = z := ⟨_, rfl⟩
  have HS := Lib.hid (fun w => rSizeErr L S n w hz)
  by_cases h0 : z = 0
  · subst h0
    obtain ⟨b, off, rfl, hbw, hf⟩ := hd hz
    have HE := Lib.hid (show firstE n (gE f 2047) = (i0, e0) by rw [← he]; unfold imgE; rw [if_pos hz])
    have HF := Lib.hid hf
    clear hz hd he hf
    go_enter Try.func34, Try.ntmps34
    go_wp2_with (first | (go_at_call 90; (with_reducible refine (HS.out _).mono ?_); rintro e w' ⟨rfl, rfl⟩))
    refine wp_worldK (fun W => W.cell? ⟨w.heap.size, 2, none⟩ = some (.slice (some ⟨b, off, none⟩) n cap) ∧ w.heap.size < W.heap.size ∧ Below w.heap.size w W) ⟨by simp [go_sem], by simp, (by (repeat' (first | with_reducible exact Below.refl _ _ | (with_reducible refine below_later_of ?_ ?_ _) | (with_reducible refine Below.alloc ?_ ?_ _) | (with_reducible refine Below.setCell ?_ ?_ _) | (with_reducible refine Below.drew ?_) | (simp; done) | (simp; omega) | omega)))⟩ ?_
    rintro W2 ⟨p2, hlt2, hb2⟩
    have P2 := Lib.hid p2
    have HB2 := Lib.hid hb2
    clear p2 hb2
    go_loopw [5] (fun i wr => ∃ k : Nat, k ≤ n ∧ i = .int .i64 k ∧ (∀ j, j < k → gE f 2047 j = 0) ∧ Below W2.heap.size W2 wr) (fun i _ => n - (intOf i).toNat)
    case atStart => exact ⟨0, Nat.zero_le _, rfl, fun j hj => absurd hj (Nat.not_lt_zero _), Below.refl _ _⟩
    case round =>
      obtain ⟨k, hk, rfl, hz, hb⟩ := hrel
      have HZ := Lib.hid hz
      have HB := Lib.hid hb
      have c2 := (hb.cell (p := ⟨w.heap.size, 2, none⟩) hlt2).trans P2.out
      have hsz := hb.size
      by_cases hlt : k < n
      · have hdk : decide ((k : Int) < (n : Int)) = true := by simp; omega
        have hbb := HB2.out.trans (hb.mono HB2.out.size)
        have ck := (hbb.cell (p := ⟨b, off + k, none⟩) hbw).trans (HF.out k hlt)
        clear hz hb hbb
        rcases Decidable.em (gE f 2047 k = 0) with h0 | h0
        · have HP := Lib.hid (show ∀ W, Calls Try.prog 91 #[.complex .f32 (f k).1 (f k).2, .int .i64 2047] W fun e w' => e = .returned (.int .i64 0) ∧ Below W.heap.size W w' from fun W => by
            have := rSampleErr (f k).1 (f k).2 2047 W (by decide) (by decide)
            rwa [show partE (f k).1 (f k).2 2047 = 0 from h0] at this)
          have H0 := Lib.hid h0
          clear h0
          go_wp2_with (first | (go_at_call 91; (with_reducible refine (HP.out _).mono ?_); rintro e w' ⟨rfl, hb⟩; obtain ⟨pp, rfl⟩ := later_of_below hb; clear hb))
          go_roundw
          case rel => exact ⟨k + 1, by omega, by go_num, fun j hj => by rcases Nat.lt_succ_iff_lt_or_eq.1 hj with h | rfl; exact HZ.out j h; exact H0.out, HB.out.trans (by (repeat' (first | with_reducible exact Below.refl _ _ | (with_reducible refine below_later_of ?_ ?_ _) | (with_reducible refine Below.alloc ?_ ?_ _) | (with_reducible refine Below.setCell ?_ ?_ _) | (with_reducible refine Below.drew ?_) | (simp; done) | (simp; omega) | omega)))⟩
          case measure => simp [intOf]; omega
        · have hE := (firstE_hit hlt HZ.out h0).symm.trans HE.out
          obtain ⟨rfl, rfl⟩ := Prod.mk.inj hE
          have HP := Lib.hid (show ∀ W, Calls Try.prog 91 #[.complex .f32 (f k).1 (f k).2, .int .i64 2047] W fun e w' => e = .returned (.int .i64 (gE f 2047 k)) ∧ Below W.heap.size W w' from fun W => rSampleErr (f k).1 (f k).2 2047 W (by decide) (by decide))
          have hne : (gE f 2047 k != 0) = true := by simpa using h0
          clear h0 hE HE
          obtain ⟨z, hz0⟩ : ∃ z, gE f 2047 k = z := ⟨_, rfl⟩
          rw [hz0] at hne HP
          have HZ0 := Lib.hid hz0
          clear hz0
          go_wp2_with (first | (go_at_call 91; (with_reducible refine (HP.out _).mono ?_); rintro e w' ⟨rfl, hb⟩; obtain ⟨pp, rfl⟩ := later_of_below hb; clear hb))
          go_ret2
          exact ⟨by rw [HZ0.out]; rfl, HB2.out.trans ((HB.out.trans (by (repeat' (first | with_reducible exact Below.refl _ _ | (with_reducible refine below_later_of ?_ ?_ _) | (with_reducible refine Below.alloc ?_ ?_ _) | (with_reducible refine Below.setCell ?_ ?_ _) | (with_reducible refine Below.drew ?_) | (simp; done) | (simp; omega) | omega)))).mono HB2.out.size)⟩
      · obtain rfl : k = n := by omega
        have hdk : decide ((k : Int) < (k : Int)) = false := by simp
        clear hz hb
        have hE := (firstE_ok HZ.out).symm.trans HE.out
        obtain ⟨rfl, rfl⟩ := Prod.mk.inj hE
        clear hE HE
        go_wp2
        go_ret2
        exact ⟨rfl, HB2.out.trans (HB.out.mono HB2.out.size)⟩
  · have he' : (0, z) = (i0, e0) := by rw [← he]; unfold imgE; rw [hz, if_neg h0]
    obtain ⟨rfl, rfl⟩ := Prod.mk.inj he'
    have hne : (z != 0) = true := by simpa using h0
    clear hz hd he he' h0
    go_enter Try.func34, Try.ntmps34
    go_wp2_with (first | (go_at_call 90; (with_reducible refine (HS.out _).mono ?_); rintro e w' ⟨rfl, rfl⟩))
    go_ret2
    exact ⟨rfl, (by (repeat' (first | with_reducible exact Below.refl _ _ | (with_reducible refine below_later_of ?_ ?_ _) | (with_reducible refine Below.alloc ?_ ?_ _) | (with_reducible refine Below.setCell ?_ ?_ _) | (with_reducible refine Below.drew ?_) | (simp; done) | (simp; omega) | omega)))⟩
end Go.Proofs.Ytcmjlfhnibjofaa
