/- Chapter 1: Correlate, of right lists. -/
import Derived.Test.YtelchmimhnpkaaaU12
namespace Go.Proofs.Ytelchmimhnpkaaa
set_option linter.unusedVariables false
open Go.RowKit Ntt
theorem OwnF.other {W : World} {g h n k : Nat} {f : Nat → Int} {z : Value} (o : OwnF W h n f) (hne : h ≠ g) : OwnF (W.setCell ⟨g, k, none⟩ z) h n f := by
  obtain ⟨⟨h1, h2⟩, h3⟩ := o
  refine ⟨⟨by simpa using h1, fun j hj => ?_⟩, fun j hj => ?_⟩
  · rw [World.cell?_setCell_other _ _ _ _ (by intro e2; simp at e2 <;> omega)]
    exact h2 j hj
  · have := h3 j hj
    simpa [go_sem] using this
theorem wp_worldV {P : Program} {c : Code} {Q : Exit → Act → World → Prop} {a : Act} {w : World} (F : World → Prop) (hf : F w) (h : ∀ W, F W → Code.wp P c Q a W) : Code.wp P c Q a w := h w hf
set_option maxRecDepth 20000 in
set_option maxHeartbeats 2000000 in
theorem correlate_ok (m : Nat) (hm : m ≤ 7) (zs ys : List Int) (v u : Value) (w : World) (hz : zs.length = 2 ^ m) (hy : ys.length = zs.length) (hv : IntsV w v zs) (hu : IntsV w u ys) (he : listE zs = 0) (he2 : listE ys = 0) :
    Calls Try.prog 15 #[v, u] w (OwnPost2 zs.length (fun s => corr zs.length (intAt zs) (intAt ys) s % PP) w) := by
  have hr := (listE_ok he).2
  have hr2 := (listE_ok he2).2
  have hp : 2 ^ m ≤ 2 ^ 7 := Nat.pow_le_pow_right (by decide) hm
  have hp0 : 0 < zs.length := by rw [hz]; exact Nat.two_pow_pos m
  have hl : zs.length ≤ 128 := by omega
  obtain ⟨rb1, rb2⟩ := powM_bd 3 (998244352 / zs.length)
  obtain ⟨ib1, ib2⟩ := powM_bd (rootM zs.length) 998244351
  have HL1 := Lib.hid (show ∀ w2, Below w.heap.size w w2 → _ from fun w2 hb => listErr_any zs v w2 (hv.below hb) he)
  have HL2 := Lib.hid (show ∀ w2, Below w.heap.size w w2 → _ from fun w2 hb => listErr_any ys u w2 (hu.below hb) he2)
  have HRO := Lib.hid (fun w => rootOf_any zs.length w hp0 hl)
  have HI1 := Lib.hid (fun w => inverse_any (rootM zs.length) w rb1 rb2)
  have HT1 := Lib.hid (show ∀ w2, Below w.heap.size w w2 → Calls Try.prog 63 #[v, .int .i64 (rootM zs.length)] w2 (TransPost m (intAt zs) (rootM zs.length) w2) from fun w2 hb => transform_spec m hm zs v _ w2 hz (hv.below hb) hr rb1 rb2)
  have HT2 := Lib.hid (show ∀ w2, Below w.heap.size w w2 → Calls Try.prog 63 #[u, .int .i64 (invM (rootM zs.length))] w2 (TransPost m (intAt ys) (invM (rootM zs.length)) w2) from fun w2 hb => transform_spec m hm ys u _ w2 (by rw [hy, hz]) (hu.below hb) hr2 ib1 ib2)
  have HFX := Lib.hid (fun k => fft_bd m (a := intAt zs) (rootM zs.length) k (fun i hi => hr i (by omega)))
  have HFY := Lib.hid (fun k => fft_bd m (a := intAt ys) (invM (rootM zs.length)) k (fun i hi => hr2 i (by omega)))
  have HBK := Lib.hid (show ∀ (W2 : World) (g c : Nat), OwnF W2 g zs.length (fun j => fft PP m (intAt zs) (rootM zs.length) j * fft PP m (intAt ys) (invM (rootM zs.length)) j % PP) → Calls Try.prog 66 #[.slice (some ⟨g, 0, none⟩) zs.length c] W2 (OwnPost zs.length (fun s => corr zs.length (intAt zs) (intAt ys) s % PP) W2) from fun W2 g c ho => by
    have hlen : ((List.range zs.length).map (fun j => fft PP m (intAt zs) (rootM zs.length) j * fft PP m (intAt ys) (invM (rootM zs.length)) j % PP)).length = zs.length := by simp
    have := back_any m hm _ (.slice (some ⟨g, 0, none⟩) zs.length c) W2 (by rw [hlen, hz]) (intsV_of ho (by omega)) (fun k hk => by rw [hlen] at hk; rw [intAt_map _ hk]; exact ⟨Int.emod_nonneg _ (by decide), Int.emod_lt_of_pos _ (by decide)⟩)
    rw [hlen] at this
    refine this.mono ?_
    rintro e w' ⟨g', c', he, hg', ho', hb'⟩
    exact ⟨g', c', he, hg', ho'.same (fun s _ => corr_plain hm hz _ _ _ (fun j hj => by rw [intAt_map _ hj]) s), hb'⟩)
  obtain ⟨hle, a, cap, rfl, -⟩ := hv
  obtain ⟨hle2, a2, cap2, rfl, -⟩ := hu
  have HZ := Lib.hid hz
  have hne : ((ys.length : Int) != (zs.length : Int)) = false := by rw [hy]; simp
  clear hr hr2 hz hy hp rb1 rb2 ib1 ib2 he he2
  go_enter Try.func15, Try.ntmps15
  go_wp2_with (first | (go_at_call 62; (with_reducible refine (HL1.out _ (by (repeat' (first | with_reducible exact Below.refl _ _ | (with_reducible refine below_later_of ?_ ?_ _) | (with_reducible refine Below.alloc ?_ ?_ _) | (with_reducible refine Below.setCell ?_ ?_ _) | (with_reducible refine Below.drew ?_) | (simp; done) | (simp; omega) | omega)))).mono ?_); rintro e w' ⟨rfl, rfl⟩) | (go_at_call 62; (with_reducible refine (HL2.out _ (by (repeat' (first | with_reducible exact Below.refl _ _ | (with_reducible refine below_later_of ?_ ?_ _) | (with_reducible refine Below.alloc ?_ ?_ _) | (with_reducible refine Below.setCell ?_ ?_ _) | (with_reducible refine Below.drew ?_) | (simp; done) | (simp; omega) | omega)))).mono ?_); rintro e w' ⟨rfl, rfl⟩) | (go_at_call 57; refine (first_e 0 0 _ _ rfl (by (first | (simp [go_sem]; done) | simp [go_sem, ↓IntWalk.iteOmega])) (by (first | (simp [go_sem]; done) | simp [go_sem, ↓IntWalk.iteOmega]))).mono ?_; rintro e w' ⟨rfl, rfl⟩) | (go_at_call 64; (with_reducible refine (HRO.out _).mono ?_); rintro e w' ⟨rfl, rfl⟩) | (go_at_call 65; (with_reducible refine (HI1.out _).mono ?_); rintro e w' ⟨rfl, rfl⟩) | (go_at_call 63; (with_reducible refine (HT1.out _ (by (repeat' (first | with_reducible exact Below.refl _ _ | (with_reducible refine below_later_of ?_ ?_ _) | (with_reducible refine Below.alloc ?_ ?_ _) | (with_reducible refine Below.setCell ?_ ?_ _) | (with_reducible refine Below.drew ?_) | (simp; done) | (simp; omega) | omega)))).mono ?_); rintro e w' ⟨g, c, rfl, hgb, hg, hf, hb⟩; rw [← HZ.out] at hg hf ⊢; have HG := Lib.hid (show OwnF w' g _ _ from ⟨hg, hf⟩); clear hg hf; obtain ⟨p1, rfl⟩ := later_of_below hb; clear hb) | (go_at_call 63; (with_reducible refine (HT2.out _ (by (repeat' (first | with_reducible exact Below.refl _ _ | (with_reducible refine below_later_of ?_ ?_ _) | (with_reducible refine Below.alloc ?_ ?_ _) | (with_reducible refine Below.setCell ?_ ?_ _) | (with_reducible refine Below.drew ?_) | (simp; done) | (simp; omega) | omega)))).mono ?_); rintro e w' ⟨h, d, rfl, hhb, hg, hf, hb⟩; rw [← HZ.out] at hg hf ⊢; have HH := Lib.hid (show OwnF w' h _ _ from ⟨hg, hf⟩); clear hg hf; obtain ⟨p2, rfl⟩ := later_of_below hb; clear hb))
  have hgh : g < h := Nat.lt_of_lt_of_le HG.out.1.1 hhb
  have hwg : w.heap.size ≤ g := by simp at hgb; omega
  have X1 := HFX.out
  have Y1 := HFY.out
  refine wp_worldV (fun W => OwnF W g zs.length (fft PP m (intAt zs) (rootM zs.length)) ∧ OwnF W h zs.length (fft PP m (intAt ys) (invM (rootM zs.length))) ∧ Below w.heap.size w W) ⟨HG.out.below (by (repeat' (first | with_reducible exact Below.refl _ _ | (with_reducible refine below_later_of ?_ ?_ _) | (with_reducible refine Below.alloc ?_ ?_ _) | (with_reducible refine Below.setCell ?_ ?_ _) | (with_reducible refine Below.drew ?_) | (simp; done) | (simp; omega) | omega))), HH.out, (by (repeat' (first | with_reducible exact Below.refl _ _ | (with_reducible refine below_later_of ?_ ?_ _) | (with_reducible refine Below.alloc ?_ ?_ _) | (with_reducible refine Below.setCell ?_ ?_ _) | (with_reducible refine Below.drew ?_) | (simp; done) | (simp; omega) | omega)))⟩ ?_
  clear HG HH hgb hhb
  rintro W2 ⟨hg2, hh2, hb2⟩
  have HG2 := Lib.hid hg2
  have HH2 := Lib.hid hh2
  have HB2 := Lib.hid hb2
  clear hg2 hh2 hb2
  go_loopw [37] (fun i wr => ∃ k : Nat, k ≤ zs.length ∧ i = .int .i64 k ∧ OwnF wr g zs.length (fun j => if j < k then fft PP m (intAt zs) (rootM zs.length) j * fft PP m (intAt ys) (invM (rootM zs.length)) j % PP else fft PP m (intAt zs) (rootM zs.length) j) ∧ OwnF wr h zs.length (fft PP m (intAt ys) (invM (rootM zs.length))) ∧ Below w.heap.size w wr) (fun i _ => zs.length - (intOf i).toNat)
  case atStart => exact ⟨0, Nat.zero_le _, rfl, HG2.out.same (fun j _ => by simp), HH2.out, HB2.out⟩
  case round =>
    obtain ⟨k, hk, rfl, ho, hoh, hbx⟩ := hrel
    have HO := Lib.hid ho
    have HOH := Lib.hid hoh
    have HBX := Lib.hid hbx
    by_cases hlt : k < zs.length
    · have hdk : decide ((k : Int) < (zs.length : Int)) = true := by simp; omega
      have ck := ho.1.2 k hlt
      simp only [Nat.lt_irrefl, if_false] at ck
      have fk := ho.2 k hlt
      have ch := hoh.1.2 k hlt
      obtain ⟨e1, e2⟩ := X1 k
      obtain ⟨f1, f2⟩ := Y1 k
      have HV := Lib.hid (show fft PP m (intAt zs) (rootM zs.length) k * fft PP m (intAt ys) (invM (rootM zs.length)) k % 998244353 = fft PP m (intAt zs) (rootM zs.length) k * fft PP m (intAt ys) (invM (rootM zs.length)) k % PP from rfl)
      generalize hxv : fft PP m (intAt zs) (rootM zs.length) k = xv at ck e1 e2 HV
      generalize hyv : fft PP m (intAt ys) (invM (rootM zs.length)) k = yv at ch f1 f2 HV
      have HXV := Lib.hid hxv
      have HYV := Lib.hid hyv
      obtain ⟨m1, m2⟩ := pp_mul e1 e2 f1 f2
      clear ho hoh hbx X1 Y1 hxv hyv
      go_wp2
      go_region
      all_goals
        go_wp2
        go_roundw
        case rel => exact ⟨k + 1, by omega, by go_num, HO.out.drew.set hlt (fun j hj => by
          by_cases e : j = k
          · subst e; rw [if_pos (by omega), if_pos rfl, HXV.out, HYV.out]
          · rw [if_neg e]
            by_cases c : j < k
            · rw [if_pos c, if_pos (by omega)]
            · rw [if_neg c, if_neg (by omega)]), HOH.out.drew.other (by omega), HBX.out.trans (by (repeat' (first | with_reducible exact Below.refl _ _ | (with_reducible refine below_later_of ?_ ?_ _) | (with_reducible refine Below.alloc ?_ ?_ _) | (with_reducible refine Below.setCell ?_ ?_ _) | (with_reducible refine Below.drew ?_) | (simp; done) | (simp; omega) | omega)))⟩
        case measure => simp [intOf]; omega
    · obtain rfl : k = zs.length := by omega
      have hdk : decide ((zs.length : Int) < (zs.length : Int)) = false := by simp
      have HZ2 := Lib.hid (ho.same (fun j hj => if_pos hj))
      have hsx := hbx.size
      clear ho hoh hbx X1 Y1
      go_wp2_with (first | (go_at_call 66; (with_reducible refine (HBK.out _ _ _ HZ2.out).mono ?_); rintro e w' ⟨g', c', rfl, hg', ho', hb'⟩; have HR := Lib.hid ho'; have HRB := Lib.hid hb'; clear ho' hb'))
      go_ret2
      exact ⟨g', c', rfl, by omega, HR.out, HBX.out.trans (HRB.out.mono hsx)⟩
end Go.Proofs.Ytelchmimhnpkaaa
