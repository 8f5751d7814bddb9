/- Chapter 1: imageOf with the closure of Shifted. -/
import Derived.Test.YtakohhlmomgegaaDoorU94
namespace Go.Proofs.YtakohhlmomgegaaDoor
set_option linter.unusedVariables false
set_option linter.unusedSimpArgs false
open Go.RowKit Ntt
/-- The samples of a shifted image. -/
def shB (f : Nat → Nat × Nat) (L S : Nat) (p q : Int) (i : Nat) : Nat × Nat := smpI (shX f L S p q (i / S) (i % S)).1 (shX f L S p q (i / S) (i % S)).2
theorem ImSt.later {w wr W : World} {L S : Int} {D : List (Nat × Nat)} {v : Value} (h : ImSt w L S D v wr) (hb : Below wr.heap.size wr W) : ImSt w L S D v W := by
  have hlt := h.lt
  have hs := hb.size
  have q : ∀ j, W.cell? ⟨w.heap.size + 1, j, none⟩ = wr.cell? ⟨w.heap.size + 1, j, none⟩ := fun j => hb.cell (p := ⟨w.heap.size + 1, j, none⟩) (show w.heap.size + 1 < wr.heap.size by omega)
  have q2 : ∀ j, W.frozen? ⟨w.heap.size + 1, j, none⟩ = wr.frozen? ⟨w.heap.size + 1, j, none⟩ := fun j => hb.frozen (p := ⟨w.heap.size + 1, j, none⟩) (show w.heap.size + 1 < wr.heap.size by omega)
  have r : ∀ j, W.cell? ⟨w.heap.size, j, none⟩ = wr.cell? ⟨w.heap.size, j, none⟩ := fun j => hb.cell (p := ⟨w.heap.size, j, none⟩) (show w.heap.size < wr.heap.size by omega)
  have r2 : ∀ j, W.frozen? ⟨w.heap.size, j, none⟩ = wr.frozen? ⟨w.heap.size, j, none⟩ := fun j => hb.frozen (p := ⟨w.heap.size, j, none⟩) (show w.heap.size < wr.heap.size by omega)
  exact ⟨(q 0).trans h.c0, (q 1).trans h.c1, (q 2).trans h.c2, (q2 2).trans h.f2, (r 0).trans h.r0, (r 1).trans h.r1, (r 2).trans h.r2, (r2 0).trans h.g0, (r2 1).trans h.g1, (r2 2).trans h.g2,
    h.own.kept (row := none) ⟨hb.os, hb.tape, hb.output, hb.size, fun k hk _ => hb.block k hk⟩ (Classical.em _), h.bel.trans (hb.mono (by omega)), by omega⟩
set_option maxRecDepth 20000 in
set_option maxHeartbeats 4000000 in
theorem imageOf_shift (L S A B : Nat) (b off n cap : Nat) (p q : Int) (f : Nat → Nat × Nat) (w : World) (hL1 : 1 ≤ L) (hL : L ≤ 64) (hS1 : 1 ≤ S) (hS : S ≤ 64) (hn : n = L * S)
    (hA : A < w.heap.size) (hB : B < w.heap.size) (hbw : b < w.heap.size) (hia : ImgBlk w A L S (some ⟨b, off, none⟩) n cap) (b0 : w.cell? ⟨B, 0, none⟩ = some (.int .i64 p)) (b1 : w.cell? ⟨B, 1, none⟩ = some (.int .i64 q)) (hf : SamplesAt w b off n f)
    (hp : -64 ≤ p ∧ p ≤ 64) (hq : -64 ≤ q ∧ q ≤ 64) (hsf : SmallS n f (xB f) (yB f) 2047) :
    Calls Tryd.prog 108 #[.int .i64 L, .int .i64 S, .func (.func 118) #[] #[.pointer (some ⟨B, 0, none⟩), .pointer (some ⟨A, 0, none⟩)]] w (ImPost L S n (shB f L S p q) w) := by
  obtain ⟨i0, hi0, hz0, hz1, hz2⟩ := info_parts infoC32
  have HIA := Lib.hid hia
  have HF := Lib.hid hf
  have HSF := Lib.hid hsf
  have HN := Lib.hid hn
  have HP := Lib.hid hp
  have HQ := Lib.hid hq
  have HK0 := Lib.hid b0
  have HK1 := Lib.hid b1
  clear hia hf hsf hn hp hq b0 b1
  go_enter Tryd.func108, Tryd.ntmps108
  go_wp2
  refine wp_worldI (fun W => ImSt w L S [] (.slice none 0 0) W) ⟨by simp [go_sem], by simp [go_sem], by simp [go_sem], by simp [go_sem], by simp [go_sem], by simp [go_sem], by simp [go_sem], by simp [go_sem], by simp [go_sem], by simp [go_sem], World.ownsRow_nil _ _ _ _, (by (repeat' (first | with_reducible exact Below.refl _ _ | (with_reducible refine below_later_of ?_ ?_ _) | (with_reducible refine Below.alloc ?_ ?_ _) | (with_reducible refine Below.setCell ?_ ?_ _) | (with_reducible refine Below.drew ?_) | (simp; done) | (simp; omega) | omega))), by simp⟩ ?_
  rintro W2 hst
  have HST := Lib.hid hst
  clear hst
  go_loopw [16] (fun i wr => ∃ (l : Nat) (v : Value), l ≤ L ∧ i = .int .i64 l ∧ ImSt w L S (firstL (shB f L S p q) (l * S)) v wr) (fun i _ => L - (intOf i).toNat)
  case atStart => exact ⟨0, _, Nat.zero_le _, rfl, by rw [Nat.zero_mul]; exact HST.out⟩
  case round =>
    obtain ⟨l, v, hl, rfl, hst⟩ := hrel
    have HS1 := Lib.hid hst
    clear hst
    by_cases hlt : l < L
    · have hdl : decide ((l : Int) < (L : Int)) = true := by simp; omega
      go_wp2
      go_loopw [20] (fun i wr => ∃ (s : Nat) (v : Value), s ≤ S ∧ i = .int .i64 s ∧ ImSt w L S (firstL (shB f L S p q) (l * S + s)) v wr) (fun i _ => S - (intOf i).toNat)
      case atStart => exact ⟨0, v, Nat.zero_le _, rfl, HS1.out⟩
      case round =>
        obtain ⟨s, v, hs, rfl, hst⟩ := hrel
        have HS2 := Lib.hid hst
        by_cases hst2 : s < S
        · have hds : decide ((s : Int) < (S : Int)) = true := by simp; omega
          obtain ⟨i, hi⟩ : ∃ i, l * S + s = i := ⟨_, rfl⟩
          have hin : i < n := by
            have h1 : (l + 1) * S ≤ L * S := Nat.mul_le_mul_right _ hlt
            rw [Nat.add_mul, Nat.one_mul] at h1
            have := HN.out
            omega
          have hlen : (firstL (shB f L S p q) i).length ≤ 10000 := by
            rw [firstL_len]
            have h1 : l * S ≤ 64 * 64 := Nat.mul_le_mul (by omega) hS
            omega
          have HI := Lib.hid hi
          rw [hi] at HS2
          have hb0 := (hst.bel.cell (p := ⟨B, 0, none⟩) hB).trans HK0.out
          have hb1 := (hst.bel.cell (p := ⟨B, 1, none⟩) hB).trans HK1.out
          have hws := hst.bel.size
          have HCL := Lib.hid (shifted1 A B b off n cap L S p q f l s wr (HIA.out.below hA hst.bel) (by omega) (by omega) (by omega) hb0 hb1 (HF.out.below hbw hst.bel) hS1 hS hL1 hL HN.out (by omega) (by omega) HP.out HQ.out HSF.out)
          have HV := Lib.hid (show ((shB f L S p q i).1, (shB f L S p q i).2) = smpI (shX f L S p q l s).1 (shX f L S p q l s).2 by
            unfold shB
            rw [← hi, Nat.mul_comm l S, Nat.mul_add_div (by omega), Nat.div_eq_of_lt hst2, Nat.mul_add_mod, Nat.mod_eq_of_lt hst2, Nat.add_zero])
          have k1 := fun w => conv_f32 (shX f L S p q l s).1 w
          have k2 := fun w => conv_f32 (shX f L S p q l s).2 w
          generalize (shX f L S p q l s).1 = x at HCL HV k1
          generalize (shX f L S p q l s).2 = y at HCL HV k2
          clear hb0 hb1
          have hlt2 := hst.lt
          obtain ⟨re, hre⟩ : ∃ re, floatOfInt .f32 x = re := ⟨_, rfl⟩
          obtain ⟨im, him⟩ : ∃ im, floatOfInt .f32 y = im := ⟨_, rfl⟩
          rw [hre] at k1
          rw [him] at k2
          have HV2 := Lib.hid (show ((shB f L S p q i).1, (shB f L S p q i).2) = (re, im) by rw [HV.out, ← hre, ← him]; rfl)
          clear hst hre him HV hi
          go_wp2_with (first | (go_at_call 118; (with_reducible refine (HCL.out).mono ?_); rintro e wv ⟨rfl, hb⟩; have HS3 := Lib.hid (HS2.out.later hb); have hc3 := HS3.out.c2; have hf3 := HS3.out.f2; have hlt3 := HS3.out.lt; clear hb) | (at_builtin; refine wpList_append_own _ rfl _ _ 30 rfl (w.heap.size + 2) 63 i0 (.complex .f32 0 0) 1 8 Tryd.underlying30 hi0 hz0 hz1 hz2 rfl (by decide) _ _ _ rfl (HS3.out.own.alloc _) ⟨wv.heap.size, 0, none⟩ 1 1 [.complex .f32 re im] rfl rfl ?d1 ?d2 ?d3 ?d4 ?d5 ?_))
          case d1 =>
            intro i u hu
            rcases i with _ | i
            · simp at hu; subst hu; simp [Addr.add, go_sem]
            · simp at hu
          case d2 => first | rfl | (intro u hu; simp at hu; subst hu; rfl)
          case d3 => unfold maxLen; omega
          case d4 => omega
          case d5 => first | omega | (simp; omega)
          intro v' w1 hown' hgrow _
          obtain ⟨g', cc', rfl⟩ := row_slice hown' (by omega)
          have HN2 := Lib.hid (HS3.out.put2 (re := re) (im := im) hown' hgrow)
          obtain ⟨hcb, hfb⟩ := HS3.out.still hgrow
          clear hown' hgrow hlen
          go_wp2
          go_roundw
          case rel => exact ⟨s + 1, _, by omega, by go_num, by rw [← Nat.add_assoc, HI.out, firstL_succ, HV2.out]; exact HN2.out⟩
          case measure => simp [intOf]; omega
        · obtain rfl : s = S := by omega
          have hds : decide ((s : Int) < (s : Int)) = false := by simp
          clear hst
          go_wp2
          go_roundw
          case rel => exact ⟨l + 1, v, by omega, by go_num, by rw [Nat.add_mul, Nat.one_mul]; exact HS2.out⟩
          case measure => simp [intOf]; omega
    · obtain rfl : l = L := by omega
      have hdl : decide ((l : Int) < (l : Int)) = false := by simp
      have hst := HS1.out
      have hown := hst.own
      rw [firstL_len, ← HN.out] at hown
      obtain ⟨a', c', rfl⟩ := own_slice hown
      obtain ⟨e0, e1, e2, -, r0, r1, r2, g0, g1, g2, -, hbel, -⟩ := hst
      have HOW := Lib.hid hown
      have HBE := Lib.hid hbel
      clear hown hbel
      go_wp2
      refine bodyPost_ret ?_ rfl ⟨a', c', rfl, fun h => ?_, own_cap HOW.out, HBE.out.trans (by (repeat' (first | with_reducible exact Below.refl _ _ | (with_reducible refine below_later_of ?_ ?_ _) | (with_reducible refine Below.alloc ?_ ?_ _) | (with_reducible refine Below.setCell ?_ ?_ _) | (with_reducible refine Below.drew ?_) | (simp; done) | (simp; omega) | omega)))⟩
      · first | (simp [results, Tryd.results108, go_sem, r0, r1, r2]; done) | simp [results, Tryd.results108, go_sem, r0, r1, r2, ↓IntWalk.iteOmega]
      · exact samples_firstL (ownsRow_setCell_below (ownsRow_setCell_below (ownsRow_setCell_below HOW.out (by simp) _) (by simp) _) (by simp) _) h (Nat.le_add_right _ 2)
end Go.Proofs.YtakohhlmomgegaaDoor
