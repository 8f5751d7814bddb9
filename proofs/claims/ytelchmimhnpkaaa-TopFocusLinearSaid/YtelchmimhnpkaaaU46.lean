/- Chapter 1: imageOf with the closure of Added. -/
import Derived.Test.YtelchmimhnpkaaaU44
namespace Go.Proofs.Ytelchmimhnpkaaa
set_option linter.unusedVariables false
open Go.RowKit Ntt
theorem ImSt.still {w wr w1 : World} {L S : Int} {D : List (Nat × Nat)} {v : Value} {o : Obj} (h : ImSt w L S D v wr) (hg : (wr.alloc o).grownBy w1 v.ownBlock) :
    w1.cell? ⟨w.heap.size + 1, 2, none⟩ = some v ∧ w1.frozen? ⟨w.heap.size + 1, 2, none⟩ = false := by
  have hlt := h.lt
  have hb1 : Below (w.heap.size + 2) wr w1 := (((Below.refl (w.heap.size + 2) wr).alloc (by omega) o)).grown hg (by simp; omega) (fun g hg => (h.own.lt g hg).1)
  exact ⟨(hb1.cell (p := ⟨w.heap.size + 1, 2, none⟩) (Nat.lt_succ_self _)).trans h.c2, (hb1.frozen (p := ⟨w.heap.size + 1, 2, none⟩) (Nat.lt_succ_self _)).trans h.f2⟩
theorem ImSt.put2 {w wr w1 : World} {L S : Int} {re im : Nat} {D : List (Nat × Nat)} {v v' : Value} {o : Obj} (h : ImSt w L S D v wr)
    (ho : w1.ownsRow (w.heap.size + 2) 103 1 v' (D.length + 1) (cv32 D ++ [.complex .f32 re im])) (hg : (wr.alloc o).grownBy w1 v.ownBlock) : ImSt w L S (D ++ [(re, im)]) v' (w1.setCell ⟨w.heap.size + 1, 2, none⟩ v') := by
  have hlt := h.lt
  have hb1 : Below (w.heap.size + 2) wr w1 := (((Below.refl (w.heap.size + 2) wr).alloc (by omega) o)).grown hg (by simp; omega) (fun g hg => (h.own.lt g hg).1)
  have hsz := hb1.size
  have q : ∀ j, w1.cell? ⟨w.heap.size + 1, j, none⟩ = wr.cell? ⟨w.heap.size + 1, j, none⟩ := fun j => hb1.cell (p := ⟨w.heap.size + 1, j, none⟩) (Nat.lt_succ_self _)
  have q2 : ∀ j, w1.frozen? ⟨w.heap.size + 1, j, none⟩ = wr.frozen? ⟨w.heap.size + 1, j, none⟩ := fun j => hb1.frozen (p := ⟨w.heap.size + 1, j, none⟩) (Nat.lt_succ_self _)
  have r : ∀ j, w1.cell? ⟨w.heap.size, j, none⟩ = wr.cell? ⟨w.heap.size, j, none⟩ := fun j => hb1.cell (p := ⟨w.heap.size, j, none⟩) (show w.heap.size < w.heap.size + 2 by omega)
  have r2 : ∀ j, w1.frozen? ⟨w.heap.size, j, none⟩ = wr.frozen? ⟨w.heap.size, j, none⟩ := fun j => hb1.frozen (p := ⟨w.heap.size, j, none⟩) (show w.heap.size < w.heap.size + 2 by omega)
  refine ⟨by simp [go_sem, q, h.c0], by simp [go_sem, q, h.c1], by simp [go_sem, q, h.c2], by simp [go_sem, q2, h.f2], by simp [go_sem, r, h.r0], by simp [go_sem, r, h.r1], by simp [go_sem, r, h.r2], by simp [go_sem, r2, h.g0], by simp [go_sem, r2, h.g1], by simp [go_sem, r2, h.g2], ?_, ?_, by simp; omega⟩
  · rw [cv32_snoc, show (D ++ [(re, im)]).length = D.length + 1 by simp]
    exact ownsRow_setCell_below ho (Nat.lt_succ_self _) _
  · exact (h.bel.trans (hb1.mono (by omega))).setCell (p := ⟨w.heap.size + 1, 2, none⟩) (show w.heap.size ≤ w.heap.size + 1 by omega) _
/-- The first samples of an image. -/
def firstL (f : Nat → Nat × Nat) (k : Nat) : List (Nat × Nat) := (List.range k).map f
theorem firstL_len (f : Nat → Nat × Nat) (k : Nat) : (firstL f k).length = k := by unfold firstL; simp
theorem firstL_succ (f : Nat → Nat × Nat) (k : Nat) : firstL f (k + 1) = firstL f k ++ [((f k).1, (f k).2)] := by unfold firstL; rw [List.range_succ, List.map_append]; rfl
theorem samples_firstL {W : World} {base b n c : Nat} {a : Option Addr} {f : Nat → Nat × Nat} (h : W.ownsRow base 103 1 (.slice a n c) n (cv32 (firstL f n))) (hp : 0 < n) (hb : b ≤ base) :
    ∃ g, a = some ⟨g, 0, none⟩ ∧ b ≤ g ∧ g < W.heap.size ∧ SamplesAt W g 0 n f := by
  have h0 := h
  obtain ⟨-, ⟨-, h1⟩ | ⟨g, cap, cur, h1, h2, h3, -⟩⟩ := h0
  · omega
  · simp only [Value.slice.injEq, true_and] at h1
    obtain ⟨rfl, rfl⟩ := h1
    refine ⟨g, rfl, by omega, (Array.getElem?_eq_some_iff.1 h3).1, fun k hk => ?_⟩
    rw [Nat.zero_add, h.cellAt k (by omega)]
    unfold cv32 firstL
    rw [List.getElem?_map, List.getElem?_map, List.getElem?_range hk]
    rfl
set_option maxRecDepth 20000 in
set_option maxHeartbeats 4000000 in
theorem imageOf_add (L S A B : Nat) (b off n cap c coff ccap : Nat) (lines lines' samples' : Int) (f g : Nat → Nat × Nat) (w : World) (hL : L ≤ 64) (hS : S ≤ 64) (hn : n = L * S)
    (hA : A < w.heap.size) (hB : B < w.heap.size) (hbw : b < w.heap.size) (hcw : c < w.heap.size) (hia : ImgBlk w A lines S (some ⟨b, off, none⟩) n cap) (hib : ImgBlk w B lines' samples' (some ⟨c, coff, none⟩) n ccap) (hf : SamplesAt w b off n f) (hg : SamplesAt w c coff n g)
    (hsf : SmallS n f (xB f) (yB f) 2047) (hsg : SmallS n g (xB g) (yB g) 2047) :
    Calls Try.prog 67 #[.int .i64 L, .int .i64 S, .func (.func 68) #[] #[.pointer (some ⟨A, 0, none⟩), .pointer (some ⟨B, 0, none⟩)]] w (ImPost L S n (addB f g) w) := by
  obtain ⟨i0, hi0, hz0, hz1, hz2⟩ := info_parts infoC32
  have HIA := Lib.hid hia
  have HIB := Lib.hid hib
  have HF := Lib.hid hf
  have HG := Lib.hid hg
  have HSF := Lib.hid hsf
  have HSG := Lib.hid hsg
  have HN := Lib.hid hn
  clear hia hib hf hg hsf hsg hn
  go_enter Try.func67, Try.ntmps67
  go_wp2
  refine wp_worldI (fun W => ImSt w L S [] (.slice none 0 0) W) ⟨by simp [go_sem], by simp [go_sem], by simp [go_sem], by simp [go_sem], by simp [go_sem], by simp [go_sem], by simp [go_sem], by simp [go_sem], by simp [go_sem], by simp [go_sem], World.ownsRow_nil _ _ _ _, (by (repeat' (first | with_reducible exact Below.refl _ _ | (with_reducible refine below_later_of ?_ ?_ _) | (with_reducible refine Below.alloc ?_ ?_ _) | (with_reducible refine Below.setCell ?_ ?_ _) | (with_reducible refine Below.drew ?_) | (simp; done) | (simp; omega) | omega))), by simp⟩ ?_
  rintro W2 hst
  have HST := Lib.hid hst
  clear hst
  go_loopw [16] (fun i wr => ∃ (l : Nat) (v : Value), l ≤ L ∧ i = .int .i64 l ∧ ImSt w L S (firstL (addB f g) (l * S)) v wr) (fun i _ => L - (intOf i).toNat)
  case atStart => exact ⟨0, _, Nat.zero_le _, rfl, by rw [Nat.zero_mul]; exact HST.out⟩
  case round =>
    obtain ⟨l, v, hl, rfl, hst⟩ := hrel
    have HS1 := Lib.hid hst
    clear hst
    by_cases hlt : l < L
    · have hdl : decide ((l : Int) < (L : Int)) = true := by simp; omega
      go_wp2
      go_loopw [20] (fun i wr => ∃ (s : Nat) (v : Value), s ≤ S ∧ i = .int .i64 s ∧ ImSt w L S (firstL (addB f g) (l * S + s)) v wr) (fun i _ => S - (intOf i).toNat)
      case atStart => exact ⟨0, v, Nat.zero_le _, rfl, HS1.out⟩
      case round =>
        obtain ⟨s, v, hs, rfl, hst⟩ := hrel
        have HS2 := Lib.hid hst
        by_cases hst2 : s < S
        · have hds : decide ((s : Int) < (S : Int)) = true := by simp; omega
          obtain ⟨i, hi⟩ : ∃ i, l * S + s = i := ⟨_, rfl⟩
          have hin : i < n := by
            have h1 : (l + 1) * S ≤ L * S := Nat.mul_le_mul_right _ hlt
            rw [Nat.add_mul, Nat.one_mul] at h1
            have := HN.out
            omega
          have hlen : (firstL (addB f g) i).length ≤ 10000 := by
            rw [firstL_len]
            have h1 : l * S ≤ 64 * 64 := Nat.mul_le_mul (by omega) hS
            omega
          have HI := Lib.hid hi
          rw [hi] at HS2
          have HCL := Lib.hid (added1 A B b off n cap c coff ccap lines S lines' samples' f g l s i wr (HIA.out.below hA hst.bel) (HIB.out.below hB hst.bel) (HF.out.below hbw hst.bel) (HG.out.below hcw hst.bel) (by omega) (by omega) (by omega) (by omega) (by rw [← hi, Int.natCast_add, Int.natCast_mul]) hin HSF.out HSG.out)
          have HV := Lib.hid (show ((addB f g i).1, (addB f g i).2) = smpI (xB f i + xB g i) (yB f i + yB g i) from rfl)
          have k1 := fun w => conv_f32 (xB f i + xB g i) w
          have k2 := fun w => conv_f32 (yB f i + yB g i) w
          generalize xB f i + xB g i = x at HCL HV k1
          generalize yB f i + yB g i = y at HCL HV k2
          have hc2 := hst.c2
          have hf2 := hst.f2
          have hlt2 := hst.lt
          obtain ⟨re, hre⟩ : ∃ re, floatOfInt .f32 x = re := ⟨_, rfl⟩
          obtain ⟨im, him⟩ : ∃ im, floatOfInt .f32 y = im := ⟨_, rfl⟩
          rw [hre] at k1
          rw [him] at k2
          have HV2 := Lib.hid (show ((addB f g i).1, (addB f g i).2) = (re, im) by rw [HV.out, ← hre, ← him]; rfl)
          clear hst hre him HV hi
          go_wp2_with (first | (go_at_call 68; (with_reducible refine (HCL.out).mono ?_); rintro e w' ⟨rfl, rfl⟩) | (at_builtin; refine wpList_append_own _ rfl _ _ 27 rfl (w.heap.size + 2) 103 i0 (.complex .f32 0 0) 1 8 Try.underlying27 hi0 hz0 hz1 hz2 rfl (by decide) _ _ _ rfl (HS2.out.own.alloc _) ⟨wr.heap.size, 0, none⟩ 1 1 [.complex .f32 re im] rfl rfl ?d1 ?d2 ?d3 ?d4 ?d5 ?_))
          case d1 =>
            intro i u hu
            rcases i with _ | i
            · simp at hu; subst hu; simp [Addr.add, go_sem]
            · simp at hu
          case d2 => first | rfl | (intro u hu; simp at hu; subst hu; rfl)
          case d3 => unfold maxLen; omega
          case d4 => omega
          case d5 => first | omega | (simp; omega)
          intro v' w1 hown' hgrow _
          obtain ⟨g', cc', rfl⟩ := row_slice hown' (by omega)
          have HN2 := Lib.hid (HS2.out.put2 (re := re) (im := im) hown' hgrow)
          obtain ⟨hcb, hfb⟩ := HS2.out.still hgrow
          clear hown' hgrow hlen
          go_wp2
          go_roundw
          case rel => exact ⟨s + 1, _, by omega, by go_num, by rw [← Nat.add_assoc, HI.out, firstL_succ, HV2.out]; exact HN2.out⟩
          case measure => simp [intOf]; omega
        · obtain rfl : s = S := by omega
          have hds : decide ((s : Int) < (s : Int)) = false := by simp
          clear hst
          go_wp2
          go_roundw
          case rel => exact ⟨l + 1, v, by omega, by go_num, by rw [Nat.add_mul, Nat.one_mul]; exact HS2.out⟩
          case measure => simp [intOf]; omega
    · obtain rfl : l = L := by omega
      have hdl : decide ((l : Int) < (l : Int)) = false := by simp
      have hst := HS1.out
      have hown := hst.own
      rw [firstL_len, ← HN.out] at hown
      obtain ⟨a', c', rfl⟩ := own_slice hown
      obtain ⟨e0, e1, e2, -, r0, r1, r2, g0, g1, g2, -, hbel, -⟩ := hst
      have HOW := Lib.hid hown
      have HBE := Lib.hid hbel
      clear hown hbel
      go_wp2
      refine bodyPost_ret ?_ rfl ⟨a', c', rfl, fun h => ?_, own_cap HOW.out, HBE.out.trans (by (repeat' (first | with_reducible exact Below.refl _ _ | (with_reducible refine below_later_of ?_ ?_ _) | (with_reducible refine Below.alloc ?_ ?_ _) | (with_reducible refine Below.setCell ?_ ?_ _) | (with_reducible refine Below.drew ?_) | (simp; done) | (simp; omega) | omega)))⟩
      · first | (simp [results, Try.results67, go_sem, r0, r1, r2]; done) | simp [results, Try.results67, go_sem, r0, r1, r2, ↓IntWalk.iteOmega]
      · exact samples_firstL (ownsRow_setCell_below (ownsRow_setCell_below (ownsRow_setCell_below HOW.out (by simp) _) (by simp) _) (by simp) _) h (Nat.le_add_right _ 2)
end Go.Proofs.Ytelchmimhnpkaaa
