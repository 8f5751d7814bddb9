import Derived.Test.YtcmjlfhnibjofaaZN
import Derived.Test.YtcmjlfhnibjofaaZH
import Derived.Test.YtcmjlfhnibjofaaZP
import Derived.Test.YtcmjlfhnibjofaaU80
/- Chapter 1: the closure of Shifted. -/
namespace Go.Proofs.Ytcmjlfhnibjofaa
set_option linter.unusedVariables false
set_option linter.unusedSimpArgs false
open Go.RowKit Ntt
/-- The parts of the sample that comes to line l, sample s, of an image that is shifted by p lines and q samples. -/
def shX (f : Nat → Nat × Nat) (L S : Nat) (p q : Int) (l s : Nat) : Int × Int :=
  if inE 0 ((L : Int) - 1) ((l : Int) - p) && inE 0 ((S : Int) - 1) ((s : Int) - q) then (xB f (((l : Int) - p) * S + ((s : Int) - q)).toNat, yB f (((l : Int) - p) * S + ((s : Int) - q)).toNat) else (0, 0)
set_option maxHeartbeats 1000000 in
theorem shifted1 (A B b off n cap : Nat) (L S : Nat) (p q : Int) (f : Nat → Nat × Nat) (l s : Nat) (w : World) (hA : ImgBlk w A L S (some ⟨b, off, none⟩) n cap) (hAw : A < w.heap.size) (hBw : B < w.heap.size) (hbw : b < w.heap.size) (b0 : w.cell? ⟨B, 0, none⟩ = some (.int .i64 p)) (b1 : w.cell? ⟨B, 1, none⟩ = some (.int .i64 q)) (hf : SamplesAt w b off n f)
    (h1 : 1 ≤ S) (h2 : S ≤ 64) (hL1 : 1 ≤ L) (hL2 : L ≤ 64) (hn : n = L * S) (hl : l ≤ 64) (hs : s ≤ 64) (hp : -64 ≤ p ∧ p ≤ 64) (hq : -64 ≤ q ∧ q ≤ 64) (hsf : SmallS n f (xB f) (yB f) 2047) :
    Calls Try.prog 77 #[.int .i64 l, .int .i64 s, .pointer (some ⟨B, 0, none⟩), .pointer (some ⟨A, 0, none⟩)] w fun e w' => e = .returned (.tuple #[.int .i64 (shX f L S p q l s).1, .int .i64 (shX f L S p q l s).2]) ∧ Below w.heap.size w w' := by
  obtain ⟨a0, a1, a2⟩ := hA
  obtain ⟨p1, p2⟩ := hp
  obtain ⟨q1, q2⟩ := hq
  obtain ⟨x, hx⟩ : ∃ x : Int, (l : Int) - p = x := ⟨_, rfl⟩
  obtain ⟨y, hy⟩ : ∃ y : Int, (s : Int) - q = y := ⟨_, rfl⟩
  have hx1 : -128 ≤ x := by omega
  have hx2 : x ≤ 128 := by omega
  have hy1 : -128 ≤ y := by omega
  have hy2 : y ≤ 128 := by omega
  have HE := Lib.hid (show shX f L S p q l s = if inE 0 ((L : Int) - 1) x && inE 0 ((S : Int) - 1) y then (xB f (x * S + y).toNat, yB f (x * S + y).toNat) else (0, 0) by unfold shX; rw [hx, hy])
  generalize shX f L S p q l s = r at HE ⊢
  rcases (show inE 0 ((L : Int) - 1) x = false ∨ inE 0 ((L : Int) - 1) x = true by cases inE 0 ((L : Int) - 1) x <;> simp) with i1 | i1
  · have H1 := Lib.hid i1
    obtain rfl : r = (0, 0) := by rw [HE.out, i1]; rfl
    clear i1 hf hsf hn
    go_enter Try.func77, Try.ntmps77
    go_wp2
    refine wp_region_calm (by kernel_rfl) (by kernel_rfl) ?_
    repeat (go_big_quiet_step (fail))
    refine wpQuiet_nil ?_
    rintro _ ⟨pq, rfl⟩
    go_wp2_with (first | (go_at_call 75; (with_reducible refine (within_e _ _ _ _ H1.out).mono ?_); rintro e w' ⟨rfl, rfl⟩))
    go_ret2
    exact ⟨rfl, (by (repeat' (first | with_reducible exact Below.refl _ _ | (with_reducible refine below_later_of ?_ ?_ _) | (with_reducible refine Below.alloc ?_ ?_ _) | (with_reducible refine Below.setCell ?_ ?_ _) | (with_reducible refine Below.drew ?_) | (simp; done) | (simp; omega) | omega)))⟩
  rcases (show inE 0 ((S : Int) - 1) y = false ∨ inE 0 ((S : Int) - 1) y = true by cases inE 0 ((S : Int) - 1) y <;> simp) with i2 | i2
  · have H1 := Lib.hid i1
    have H2 := Lib.hid i2
    obtain rfl : r = (0, 0) := by rw [HE.out, i1, i2]; rfl
    clear i1 i2 hf hsf hn
    go_enter Try.func77, Try.ntmps77
    go_wp2
    refine wp_region_calm (by kernel_rfl) (by kernel_rfl) ?_
    repeat (go_big_quiet_step (fail))
    refine wpQuiet_nil ?_
    rintro _ ⟨pq, rfl⟩
    go_wp2_with (first | (go_at_call 75; (with_reducible refine (within_e _ _ _ _ H1.out).mono ?_); rintro e w' ⟨rfl, rfl⟩) | (go_at_call 75; (with_reducible refine (within_e _ _ _ _ H2.out).mono ?_); rintro e w' ⟨rfl, rfl⟩))
    go_ret2
    exact ⟨rfl, (by (repeat' (first | with_reducible exact Below.refl _ _ | (with_reducible refine below_later_of ?_ ?_ _) | (with_reducible refine Below.alloc ?_ ?_ _) | (with_reducible refine Below.setCell ?_ ?_ _) | (with_reducible refine Below.drew ?_) | (simp; done) | (simp; omega) | omega)))⟩
  · have H1 := Lib.hid i1
    have H2 := Lib.hid i2
    obtain ⟨t1, t2⟩ := inE_iff.1 i1
    obtain ⟨t3, t4⟩ := inE_iff.1 i2
    obtain ⟨X, rfl⟩ := Int.eq_ofNat_of_zero_le t1
    obtain ⟨Y, rfl⟩ := Int.eq_ofNat_of_zero_le t3
    obtain ⟨i, hi⟩ : ∃ i, X * S + Y = i := ⟨_, rfl⟩
    have hii : (X : Int) * (S : Int) + (Y : Int) = (i : Int) := by rw [← hi, Int.natCast_add, Int.natCast_mul]
    have hin : i < n := by
      have h3 : (X + 1) * S ≤ L * S := Nat.mul_le_mul_right _ (by omega)
      rw [Nat.add_mul, Nat.one_mul] at h3
      omega
    obtain rfl : r = (xB f i, yB f i) := by rw [HE.out, i1, i2, hii]; rfl
    have ci := hf i hin
    obtain ⟨⟨u1, u2, u3, u4⟩, ⟨u5, u6⟩, u7, u8⟩ := hsf i hin
    have HP1 := Lib.hid (fun w => parts_any (f i).1 (f i).2 _ _ w (flI_single u1 (by omega) (by omega)) (flI_single u2 (by omega) (by omega)))
    obtain ⟨r1, r2⟩ : (0 : Int) ≤ (X : Int) * (S : Int) ∧ (X : Int) * (S : Int) ≤ 4096 := ⟨Int.mul_nonneg (by omega) (by omega), by
      have := Int.mul_le_mul (show (X : Int) ≤ 64 by omega) (show (S : Int) ≤ 64 by omega) (by omega) (by decide)
      omega⟩
    generalize xB f i = x1 at u5 u6 HP1 ⊢
    generalize yB f i = y1 at u7 u8 HP1 ⊢
    clear i1 i2 hf hsf hn u1 u2 u3 u4 HE
    go_enter Try.func77, Try.ntmps77
    go_wp2
    refine wp_region_calm (by kernel_rfl) (by kernel_rfl) ?_
    repeat (go_big_quiet_step (fail))
    refine wpQuiet_nil ?_
    rintro _ ⟨pq, rfl⟩
    go_wp2_with (first | (go_at_call 75; (with_reducible refine (within_e _ _ _ _ H1.out).mono ?_); rintro e w' ⟨rfl, rfl⟩) | (go_at_call 75; (with_reducible refine (within_e _ _ _ _ H2.out).mono ?_); rintro e w' ⟨rfl, rfl⟩) | (go_at_call 78; (with_reducible refine (HP1.out _).mono ?_); rintro e w' ⟨rfl, rfl⟩))
    go_ret2
    exact ⟨rfl, (by (repeat' (first | with_reducible exact Below.refl _ _ | (with_reducible refine below_later_of ?_ ?_ _) | (with_reducible refine Below.alloc ?_ ?_ _) | (with_reducible refine Below.setCell ?_ ?_ _) | (with_reducible refine Below.drew ?_) | (simp; done) | (simp; omega) | omega)))⟩
end Go.Proofs.Ytcmjlfhnibjofaa

/- Chapter 1: imageOf with the closure of Shifted. -/
namespace Go.Proofs.Ytcmjlfhnibjofaa
set_option linter.unusedVariables false
set_option linter.unusedSimpArgs false
open Go.RowKit Ntt
/-- The samples of a shifted image. -/
def shB (f : Nat → Nat × Nat) (L S : Nat) (p q : Int) (i : Nat) : Nat × Nat := smpI (shX f L S p q (i / S) (i % S)).1 (shX f L S p q (i / S) (i % S)).2
theorem ImSt.later {w wr W : World} {L S : Int} {D : List (Nat × Nat)} {v : Value} (h : ImSt w L S D v wr) (hb : Below wr.heap.size wr W) : ImSt w L S D v W := by
  have hlt := h.lt
  have hs := hb.size
  have q : ∀ j, W.cell? ⟨w.heap.size + 1, j, none⟩ = wr.cell? ⟨w.heap.size + 1, j, none⟩ := fun j => hb.cell (p := ⟨w.heap.size + 1, j, none⟩) (show w.heap.size + 1 < wr.heap.size by omega)
  have q2 : ∀ j, W.frozen? ⟨w.heap.size + 1, j, none⟩ = wr.frozen? ⟨w.heap.size + 1, j, none⟩ := fun j => hb.frozen (p := ⟨w.heap.size + 1, j, none⟩) (show w.heap.size + 1 < wr.heap.size by omega)
  have r : ∀ j, W.cell? ⟨w.heap.size, j, none⟩ = wr.cell? ⟨w.heap.size, j, none⟩ := fun j => hb.cell (p := ⟨w.heap.size, j, none⟩) (show w.heap.size < wr.heap.size by omega)
  have r2 : ∀ j, W.frozen? ⟨w.heap.size, j, none⟩ = wr.frozen? ⟨w.heap.size, j, none⟩ := fun j => hb.frozen (p := ⟨w.heap.size, j, none⟩) (show w.heap.size < wr.heap.size by omega)
  exact ⟨(q 0).trans h.c0, (q 1).trans h.c1, (q 2).trans h.c2, (q2 2).trans h.f2, (r 0).trans h.r0, (r 1).trans h.r1, (r 2).trans h.r2, (r2 0).trans h.g0, (r2 1).trans h.g1, (r2 2).trans h.g2,
    h.own.kept (row := none) ⟨hb.os, hb.tape, hb.output, hb.size, fun k hk _ => hb.block k hk⟩ (Classical.em _), h.bel.trans (hb.mono (by omega)), by omega⟩
set_option maxRecDepth 20000 in
set_option maxHeartbeats 4000000 in
theorem imageOf_shift (L S A B : Nat) (b off n cap : Nat) (p q : Int) (f : Nat → Nat × Nat) (w : World) (hL1 : 1 ≤ L) (hL : L ≤ 64) (hS1 : 1 ≤ S) (hS : S ≤ 64) (hn : n = L * S)
    (hA : A < w.heap.size) (hB : B < w.heap.size) (hbw : b < w.heap.size) (hia : ImgBlk w A L S (some ⟨b, off, none⟩) n cap) (b0 : w.cell? ⟨B, 0, none⟩ = some (.int .i64 p)) (b1 : w.cell? ⟨B, 1, none⟩ = some (.int .i64 q)) (hf : SamplesAt w b off n f)
    (hp : -64 ≤ p ∧ p ≤ 64) (hq : -64 ≤ q ∧ q ≤ 64) (hsf : SmallS n f (xB f) (yB f) 2047) :
    Calls Try.prog 76 #[.int .i64 L, .int .i64 S, .func (.func 77) #[] #[.pointer (some ⟨B, 0, none⟩), .pointer (some ⟨A, 0, none⟩)]] w (ImPost L S n (shB f L S p q) w) := by
  obtain ⟨i0, hi0, hz0, hz1, hz2⟩ := info_parts infoC32
  have HIA := Lib.hid hia
  have HF := Lib.hid hf
  have HSF := Lib.hid hsf
  have HN := Lib.hid hn
  have HP := Lib.hid hp
  have HQ := Lib.hid hq
  have HK0 := Lib.hid b0
  have HK1 := Lib.hid b1
  clear hia hf hsf hn hp hq b0 b1
  go_enter Try.func76, Try.ntmps76
  go_wp2
  refine wp_worldI (fun W => ImSt w L S [] (.slice none 0 0) W) ⟨by simp [go_sem], by simp [go_sem], by simp [go_sem], by simp [go_sem], by simp [go_sem], by simp [go_sem], by simp [go_sem], by simp [go_sem], by simp [go_sem], by simp [go_sem], World.ownsRow_nil _ _ _ _, (by (repeat' (first | with_reducible exact Below.refl _ _ | (with_reducible refine below_later_of ?_ ?_ _) | (with_reducible refine Below.alloc ?_ ?_ _) | (with_reducible refine Below.setCell ?_ ?_ _) | (with_reducible refine Below.drew ?_) | (simp; done) | (simp; omega) | omega))), by simp⟩ ?_
  rintro W2 hst
  have HST := Lib.hid hst
  clear hst
  go_loopw [16] (fun i wr => ∃ (l : Nat) (v : Value), l ≤ L ∧ i = .int .i64 l ∧ ImSt w L S (firstL (shB f L S p q) (l * S)) v wr) (fun i _ => L - (intOf i).toNat)
  case atStart => exact ⟨0, _, Nat.zero_le _, rfl, by rw [Nat.zero_mul]; exact HST.out⟩
  case round =>
    obtain ⟨l, v, hl, rfl, hst⟩ := hrel
    have HS1 := Lib.hid hst
    clear hst
    by_cases hlt : l < L
    · have hdl : decide ((l : Int) < (L : Int)) = true := by simp; omega
      go_wp2
      go_loopw [20] (fun i wr => ∃ (s : Nat) (v : Value), s ≤ S ∧ i = .int .i64 s ∧ ImSt w L S (firstL (shB f L S p q) (l * S + s)) v wr) (fun i _ => S - (intOf i).toNat)
      case atStart => exact ⟨0, v, Nat.zero_le _, rfl, HS1.out⟩
      case round =>
        obtain ⟨s, v, hs, rfl, hst⟩ := hrel
        have HS2 := Lib.hid hst
        by_cases hst2 : s < S
        · have hds : decide ((s : Int) < (S : Int)) = true := by simp; omega
          obtain ⟨i, hi⟩ : ∃ i, l * S + s = i := ⟨_, rfl⟩
          have hin : i < n := by
            have h1 : (l + 1) * S ≤ L * S := Nat.mul_le_mul_right _ hlt
            rw [Nat.add_mul, Nat.one_mul] at h1
            have := HN.out
            omega
          have hlen : (firstL (shB f L S p q) i).length ≤ 10000 := by
            rw [firstL_len]
            have h1 : l * S ≤ 64 * 64 := Nat.mul_le_mul (by omega) hS
            omega
          have HI := Lib.hid hi
          rw [hi] at HS2
          have hb0 := (hst.bel.cell (p := ⟨B, 0, none⟩) hB).trans HK0.out
          have hb1 := (hst.bel.cell (p := ⟨B, 1, none⟩) hB).trans HK1.out
          have hws := hst.bel.size
          have HCL := Lib.hid (shifted1 A B b off n cap L S p q f l s wr (HIA.out.below hA hst.bel) (by omega) (by omega) (by omega) hb0 hb1 (HF.out.below hbw hst.bel) hS1 hS hL1 hL HN.out (by omega) (by omega) HP.out HQ.out HSF.out)
          have HV := Lib.hid (show ((shB f L S p q i).1, (shB f L S p q i).2) = smpI (shX f L S p q l s).1 (shX f L S p q l s).2 by
            unfold shB
            rw [← hi, Nat.mul_comm l S, Nat.mul_add_div (by omega), Nat.div_eq_of_lt hst2, Nat.mul_add_mod, Nat.mod_eq_of_lt hst2, Nat.add_zero])
          have k1 := fun w => conv_f32 (shX f L S p q l s).1 w
          have k2 := fun w => conv_f32 (shX f L S p q l s).2 w
          generalize (shX f L S p q l s).1 = x at HCL HV k1
          generalize (shX f L S p q l s).2 = y at HCL HV k2
          clear hb0 hb1
          have hlt2 := hst.lt
          obtain ⟨re, hre⟩ : ∃ re, floatOfInt .f32 x = re := ⟨_, rfl⟩
          obtain ⟨im, him⟩ : ∃ im, floatOfInt .f32 y = im := ⟨_, rfl⟩
          rw [hre] at k1
          rw [him] at k2
          have HV2 := Lib.hid (show ((shB f L S p q i).1, (shB f L S p q i).2) = (re, im) by rw [HV.out, ← hre, ← him]; rfl)
          clear hst hre him HV hi
          go_wp2_with (first | (go_at_call 77; (with_reducible refine (HCL.out).mono ?_); rintro e wv ⟨rfl, hb⟩; have HS3 := Lib.hid (HS2.out.later hb); have hc3 := HS3.out.c2; have hf3 := HS3.out.f2; have hlt3 := HS3.out.lt; clear hb) | (at_builtin; refine wpList_append_own _ rfl _ _ 31 rfl (w.heap.size + 2) 90 i0 (.complex .f32 0 0) 1 8 Try.underlying31 hi0 hz0 hz1 hz2 rfl (by decide) _ _ _ rfl (HS3.out.own.alloc _) ⟨wv.heap.size, 0, none⟩ 1 1 [.complex .f32 re im] rfl rfl ?d1 ?d2 ?d3 ?d4 ?d5 ?_))
          case d1 =>
            intro i u hu
            rcases i with _ | i
            · simp at hu; subst hu; simp [Addr.add, go_sem]
            · simp at hu
          case d2 => first | rfl | (intro u hu; simp at hu; subst hu; rfl)
          case d3 => unfold maxLen; omega
          case d4 => omega
          case d5 => first | omega | (simp; omega)
          intro v' w1 hown' hgrow _
          obtain ⟨g', cc', rfl⟩ := row_slice hown' (by omega)
          have HN2 := Lib.hid (HS3.out.put2 (re := re) (im := im) hown' hgrow)
          obtain ⟨hcb, hfb⟩ := HS3.out.still hgrow
          clear hown' hgrow hlen
          go_wp2
          go_roundw
          case rel => exact ⟨s + 1, _, by omega, by go_num, by rw [← Nat.add_assoc, HI.out, firstL_succ, HV2.out]; exact HN2.out⟩
          case measure => simp [intOf]; omega
        · obtain rfl : s = S := by omega
          have hds : decide ((s : Int) < (s : Int)) = false := by simp
          clear hst
          go_wp2
          go_roundw
          case rel => exact ⟨l + 1, v, by omega, by go_num, by rw [Nat.add_mul, Nat.one_mul]; exact HS2.out⟩
          case measure => simp [intOf]; omega
    · obtain rfl : l = L := by omega
      have hdl : decide ((l : Int) < (l : Int)) = false := by simp
      have hst := HS1.out
      have hown := hst.own
      rw [firstL_len, ← HN.out] at hown
      obtain ⟨a', c', rfl⟩ := own_slice hown
      obtain ⟨e0, e1, e2, -, r0, r1, r2, g0, g1, g2, -, hbel, -⟩ := hst
      have HOW := Lib.hid hown
      have HBE := Lib.hid hbel
      clear hown hbel
      go_wp2
      refine bodyPost_ret ?_ rfl ⟨a', c', rfl, fun h => ?_, own_cap HOW.out, HBE.out.trans (by (repeat' (first | with_reducible exact Below.refl _ _ | (with_reducible refine below_later_of ?_ ?_ _) | (with_reducible refine Below.alloc ?_ ?_ _) | (with_reducible refine Below.setCell ?_ ?_ _) | (with_reducible refine Below.drew ?_) | (simp; done) | (simp; omega) | omega)))⟩
      · first | (simp [results, Try.results76, go_sem, r0, r1, r2]; done) | simp [results, Try.results76, go_sem, r0, r1, r2, ↓IntWalk.iteOmega]
      · exact samples_firstL (ownsRow_setCell_below (ownsRow_setCell_below (ownsRow_setCell_below HOW.out (by simp) _) (by simp) _) (by simp) _) h (Nat.le_add_right _ 2)
end Go.Proofs.Ytcmjlfhnibjofaa

/- Chapter 1: Shifted. -/
namespace Go.Proofs.Ytcmjlfhnibjofaa
set_option linter.unusedVariables false
set_option linter.unusedSimpArgs false
open Go.RowKit Ntt
/-- The error of a shift. -/
def shfE (L S : Int) (n : Nat) (f : Nat → Nat × Nat) (p q : Int) : Int := if (imgE L S n f).2 = 0 then (if inE (-64) 64 p && inE (-64) 64 q then 0 else 2) else (imgE L S n f).2
set_option maxHeartbeats 1000000 in
theorem shifted_bad (L S : Int) (n cap : Nat) (f : Nat → Nat × Nat) (a : Option Addr) (p q : Int) (w : World) (hn : n ≤ 100000) (hd : DataAt w L S n f a) {e0 : Int} (he : shfE L S n f p q = e0) (h0 : e0 ≠ 0) :
    Calls Try.prog 29 #[.agg #[.int .i64 L, .int .i64 S, .slice a n cap], .agg #[.int .i64 p, .int .i64 q]] w fun e w' => e = .returned (.tuple #[.agg #[.int .i64 0, .int .i64 0, .slice none 0 0], .int .i64 e0]) ∧ Below w.heap.size w w' := by
  have HIM := Lib.hid (show ∀ W, Below w.heap.size w W → _ from fun W hW => imageErr_any L S n cap f a W hn (hd.below hW) rfl)
  unfold shfE at he
  generalize (imgE L S n f).2 = z at HIM he
  clear hd
  by_cases hz : z = 0
  · subst hz
    rw [if_pos rfl] at he
    rcases (show inE (-64) 64 p = false ∨ inE (-64) 64 p = true by cases inE (-64) 64 p <;> simp) with i1 | i1
    · have H1 := Lib.hid i1
      obtain rfl : e0 = 2 := by rw [i1] at he; exact he.symm
      clear he i1 h0
      go_enter Try.func29, Try.ntmps29
      go_wp2_with (first | (go_at_call 72; (with_reducible refine (HIM.out _ (by (repeat' (first | with_reducible exact Below.refl _ _ | (with_reducible refine below_later_of ?_ ?_ _) | (with_reducible refine Below.alloc ?_ ?_ _) | (with_reducible refine Below.setCell ?_ ?_ _) | (with_reducible refine Below.drew ?_) | (simp; done) | (simp; omega) | omega)))).mono ?_); rintro e w' ⟨rfl, hb⟩; obtain ⟨pq, rfl⟩ := later_of_below hb; clear hb) | (go_at_call 75; (with_reducible refine (within_e _ _ _ _ H1.out).mono ?_); rintro e w' ⟨rfl, rfl⟩))
      refine bodyPost_ret ?_ rfl ⟨rfl, (by (repeat' (first | with_reducible exact Below.refl _ _ | (with_reducible refine below_later_of ?_ ?_ _) | (with_reducible refine Below.alloc ?_ ?_ _) | (with_reducible refine Below.setCell ?_ ?_ _) | (with_reducible refine Below.drew ?_) | (simp; done) | (simp; omega) | omega)))⟩
      (first | (simp [results, Try.results29, go_sem]; done) | simp [results, Try.results29, go_sem, ↓IntWalk.iteOmega])
    · rcases (show inE (-64) 64 q = false ∨ inE (-64) 64 q = true by cases inE (-64) 64 q <;> simp) with i2 | i2
      · have H1 := Lib.hid i1
        have H2 := Lib.hid i2
        obtain rfl : e0 = 2 := by rw [i1, i2] at he; exact he.symm
        clear he i1 i2 h0
        go_enter Try.func29, Try.ntmps29
        go_wp2_with (first | (go_at_call 72; (with_reducible refine (HIM.out _ (by (repeat' (first | with_reducible exact Below.refl _ _ | (with_reducible refine below_later_of ?_ ?_ _) | (with_reducible refine Below.alloc ?_ ?_ _) | (with_reducible refine Below.setCell ?_ ?_ _) | (with_reducible refine Below.drew ?_) | (simp; done) | (simp; omega) | omega)))).mono ?_); rintro e w' ⟨rfl, hb⟩; obtain ⟨pq, rfl⟩ := later_of_below hb; clear hb) | (go_at_call 75; (with_reducible refine (within_e _ _ _ _ H1.out).mono ?_); rintro e w' ⟨rfl, rfl⟩) | (go_at_call 75; (with_reducible refine (within_e _ _ _ _ H2.out).mono ?_); rintro e w' ⟨rfl, rfl⟩))
        refine bodyPost_ret ?_ rfl ⟨rfl, (by (repeat' (first | with_reducible exact Below.refl _ _ | (with_reducible refine below_later_of ?_ ?_ _) | (with_reducible refine Below.alloc ?_ ?_ _) | (with_reducible refine Below.setCell ?_ ?_ _) | (with_reducible refine Below.drew ?_) | (simp; done) | (simp; omega) | omega)))⟩
        (first | (simp [results, Try.results29, go_sem]; done) | simp [results, Try.results29, go_sem, ↓IntWalk.iteOmega])
      · rw [i1, i2] at he
        exact absurd he.symm h0
  · rw [if_neg hz] at he
    subst he
    have hne : (z != 0) = true := by simpa using hz
    clear hz h0
    go_enter Try.func29, Try.ntmps29
    go_wp2_with (first | (go_at_call 72; (with_reducible refine (HIM.out _ (by (repeat' (first | with_reducible exact Below.refl _ _ | (with_reducible refine below_later_of ?_ ?_ _) | (with_reducible refine Below.alloc ?_ ?_ _) | (with_reducible refine Below.setCell ?_ ?_ _) | (with_reducible refine Below.drew ?_) | (simp; done) | (simp; omega) | omega)))).mono ?_); rintro e w' ⟨rfl, hb⟩; obtain ⟨pq, rfl⟩ := later_of_below hb; clear hb))
    refine bodyPost_ret ?_ rfl ⟨rfl, (by (repeat' (first | with_reducible exact Below.refl _ _ | (with_reducible refine below_later_of ?_ ?_ _) | (with_reducible refine Below.alloc ?_ ?_ _) | (with_reducible refine Below.setCell ?_ ?_ _) | (with_reducible refine Below.drew ?_) | (simp; done) | (simp; omega) | omega)))⟩
    (first | (simp [results, Try.results29, go_sem]; done) | simp [results, Try.results29, go_sem, ↓IntWalk.iteOmega])
end Go.Proofs.Ytcmjlfhnibjofaa

/- Chapter 1: Shifted of a right image. -/
namespace Go.Proofs.Ytcmjlfhnibjofaa
set_option linter.unusedVariables false
set_option linter.unusedSimpArgs false
open Go.RowKit Ntt
set_option maxHeartbeats 2000000 in
theorem shifted_ok (L S : Nat) (b off n cap : Nat) (f : Nat → Nat × Nat) (p q : Int) (w : World) (hL1 : 1 ≤ L) (hL : L ≤ 64) (hS1 : 1 ≤ S) (hS : S ≤ 64) (hn : n = L * S) (hbw : b < w.heap.size) (hf : SamplesAt w b off n f) (hg : ∀ k, k < n → gE f 2047 k = 0) (hp : inE (-64) 64 p = true) (hq : inE (-64) 64 q = true) :
    Calls Try.prog 29 #[.agg #[.int .i64 L, .int .i64 S, .slice (some ⟨b, off, none⟩) n cap], .agg #[.int .i64 p, .int .i64 q]] w fun e w' =>
      ∃ a c, e = .returned (.tuple #[.agg #[.int .i64 L, .int .i64 S, .slice a n c], .int .i64 0]) ∧ OwnC w' w.heap.size n (shB f L S p q) a ∧ n ≤ c ∧ Below w.heap.size w w' := by
  have hl : n ≤ 4096 := by
    rw [hn]
    exact Nat.mul_le_mul hL hS
  have hz : (imgE L S n f).2 = 0 := by
    unfold imgE
    rw [if_pos (by unfold sizeE inE; rw [if_pos (by simp; omega), if_pos (by rw [hn, Int.natCast_mul])]), firstE_ok hg]
  have HIM := Lib.hid (show ∀ W, Below w.heap.size w W → _ from fun W hW => imageErr_any L S n cap f (some ⟨b, off, none⟩) W (by omega) (DataAt.below (fun _ => ⟨b, off, rfl, hbw, hf⟩) hW) hz)
  have HIO := Lib.hid (show ∀ W, Below w.heap.size w W → w.heap.size + 1 < W.heap.size → W.cell? ⟨w.heap.size, 0, none⟩ = some (.int .i64 L) → W.cell? ⟨w.heap.size, 1, none⟩ = some (.int .i64 S) → W.cell? ⟨w.heap.size, 2, none⟩ = some (.slice (some ⟨b, off, none⟩) n cap) → W.cell? ⟨w.heap.size + 1, 0, none⟩ = some (.int .i64 p) → W.cell? ⟨w.heap.size + 1, 1, none⟩ = some (.int .i64 q) →
      Calls Try.prog 76 #[.int .i64 L, .int .i64 S, .func (.func 77) #[] #[.pointer (some ⟨w.heap.size + 1, 0, none⟩), .pointer (some ⟨w.heap.size, 0, none⟩)]] W fun e w' => ∃ a c, e = .returned (.agg #[.int .i64 L, .int .i64 S, .slice a n c]) ∧ OwnC w' W.heap.size n (shB f L S p q) a ∧ n ≤ c ∧ Below W.heap.size W w' from
    fun W hW hs x0 x1 x2 y0 y1 => imageOf_shift L S w.heap.size (w.heap.size + 1) b off n cap p q f W hL1 hL hS1 hS hn (by omega) hs (by omega) ⟨x0, x1, x2⟩ y0 y1 (hf.below hbw hW) (inE_iff.1 hp) (inE_iff.1 hq) (smallS_of (by decide) hg))
  have H1 := Lib.hid hp
  have H2 := Lib.hid hq
  clear hf hg hz hp hq hn
  go_enter Try.func29, Try.ntmps29
  go_wp2_with (first | (go_at_call 72; (with_reducible refine (HIM.out _ (by (repeat' (first | with_reducible exact Below.refl _ _ | (with_reducible refine below_later_of ?_ ?_ _) | (with_reducible refine Below.alloc ?_ ?_ _) | (with_reducible refine Below.setCell ?_ ?_ _) | (with_reducible refine Below.drew ?_) | (simp; done) | (simp; omega) | omega)))).mono ?_); rintro e w' ⟨rfl, hb⟩; obtain ⟨pq, rfl⟩ := later_of_below hb; clear hb) | (go_at_call 75; (with_reducible refine (within_e _ _ _ _ H1.out).mono ?_); rintro e w' ⟨rfl, rfl⟩) | (go_at_call 75; (with_reducible refine (within_e _ _ _ _ H2.out).mono ?_); rintro e w' ⟨rfl, rfl⟩) | (go_at_call 76; (with_reducible refine (HIO.out _ (by (repeat' (first | with_reducible exact Below.refl _ _ | (with_reducible refine below_later_of ?_ ?_ _) | (with_reducible refine Below.alloc ?_ ?_ _) | (with_reducible refine Below.setCell ?_ ?_ _) | (with_reducible refine Below.drew ?_) | (simp; done) | (simp; omega) | omega))) (by simp <;> omega) (by (first | (simp [go_sem]; done) | simp [go_sem, ↓IntWalk.iteOmega])) (by (first | (simp [go_sem]; done) | simp [go_sem, ↓IntWalk.iteOmega])) (by (first | (simp [go_sem]; done) | simp [go_sem, ↓IntWalk.iteOmega])) (by (first | (simp [go_sem]; done) | simp [go_sem, ↓IntWalk.iteOmega])) (by (first | (simp [go_sem]; done) | simp [go_sem, ↓IntWalk.iteOmega]))).mono ?_); rintro e w' ⟨a', c', rfl, ho, hc, hb⟩; have HOW := Lib.hid ho; clear ho; obtain ⟨p2, rfl⟩ := later_of_below hb; clear hb))
  refine bodyPost_ret ?_ rfl ⟨a', c', rfl, OwnC.mono (OwnC.set (OwnC.set (OwnC.set HOW.out ?_ _) ?_ _) ?_ _) ?_, hc, (by (repeat' (first | with_reducible exact Below.refl _ _ | (with_reducible refine below_later_of ?_ ?_ _) | (with_reducible refine Below.alloc ?_ ?_ _) | (with_reducible refine Below.setCell ?_ ?_ _) | (with_reducible refine Below.drew ?_) | (simp; done) | (simp; omega) | omega)))⟩
  · first | (simp [results, Try.results29, go_sem]; done) | simp [results, Try.results29, go_sem, ↓IntWalk.iteOmega]
  all_goals first | omega | (simp <;> omega)
end Go.Proofs.Ytcmjlfhnibjofaa
