/- Chapter 4: the law FringeLooks. -/
import Derived.Test.YtfiioadmpjmmgaaGreatDoorX89
import Derived.Test.YtfiioadmpjmmgaaGreatDoorX27
namespace Go.Proofs.YtfiioadmpjmmgaaGreatDoor
set_option linter.unusedVariables false
set_option linter.unusedSimpArgs false
open Go.RowKit Ieee Ntt
theorem LdSay.mono {W : World} {B B' : Nat} {L S : Int} {n : Nat} {F : Nat → Nat × Nat} {E : Int} {l s : Int} {k : Nat} {a : Option Addr} (h : LdSay W B L S n F E l s k a) (hb : B' ≤ B) : LdSay W B' L S n F E l s k a :=
  ⟨fun e => by obtain ⟨h1, h2, h3, h4⟩ := h.ok e; exact ⟨h1, h2, h3, h4.mono hb⟩, h.bad⟩
set_option maxRecDepth 20000 in
set_option maxHeartbeats 40000000 in
theorem looks_any (L S : Int) (zs : List Int) (v : Value) (b0 b1 m0 m1 : Int) (w : World) (hx : IntsX w v zs) (ht : Tab w) :
    Calls Tryz.prog 9 #[.agg #[.int .i64 L, .int .i64 S, v], .agg #[.int .i64 b0, .int .i64 b1], .agg #[.int .i64 m0, .int .i64 m1]] w fun e w' => e = .returned (.bool true) ∧ Below w.heap.size w w' := by
  have HT := Lib.hid ht
  clear ht
  by_cases hn : zs.length ≤ 300
  · have hv := hx.ints (by omega)
    obtain ⟨⟨a, cap, rfl, -⟩, -⟩ := hx
    have hd1 : decide (300 < (zs.length : Int)) = false := by simp; omega
    have HSU0 := Lib.hid (show ∀ W, Below w.heap.size w W → _ from fun W hW => lSums L S zs _ W hn (hv.below hW))
    obtain ⟨i0, e0, hz0⟩ : ∃ i0 e0, fldE L S (zs.length / 2) (prtF zs) = (i0, e0) := ⟨_, _, rfl⟩
    have HEI := Lib.hid hz0
    have hfe : (fldE L S (zs.length / 2) (prtF zs)).2 = e0 := by rw [hz0]
    have hwd := prt_wide zs (zs.length / 2)
    obtain ⟨E, hE⟩ : ∃ E, lkE L S (zs.length / 2) (prtF zs) b0 b1 = E := ⟨_, rfl⟩
    have HLK := Lib.hid (look_det (by omega) hwd hE)
    have HPH := Lib.hid (phases_det (by omega) hwd hfe)
    have HEB := Lib.hid (show e0 ≠ 0 → E = e0 from fun h => by rw [← hE]; unfold lkE; rw [if_neg (by rw [hfe]; exact h), hfe])
    have HEE := Lib.hid hE
    have HFE := Lib.hid hfe
    have HWD := Lib.hid hwd
    have hm : zs.length / 2 ≤ 150 := by omega
    obtain ⟨F, hF⟩ : ∃ F, nmF (lkF (prtF zs) S b0 b1) = F := ⟨_, rfl⟩
    have HFF := Lib.hid hF
    obtain ⟨lL, hlL⟩ : ∃ lL, lkL L b0 = lL := ⟨_, rfl⟩
    obtain ⟨lS, hlS⟩ : ∃ lS, lkL S b1 = lS := ⟨_, rfl⟩
    have HLL := Lib.hid hlL
    have HLS := Lib.hid hlS
    obtain ⟨lN, hlN⟩ : ∃ lN, lL * lS = lN := ⟨_, rfl⟩
    have HLN := Lib.hid hlN
    rw [hF, hlL, hlS, hlN] at HLK
    generalize zs.length / 2 = m at *
    clear hv hz0 hE hF hlL hlS hlN hfe hwd
    have HSU := HSU0
    go_enter Tryz.func9, Tryz.ntmps9
    go_wp2_with (first | (go_at_call 13; (with_reducible refine (awake4 _ (HT.out.below (by (repeat' (first | with_reducible exact Below.refl _ _ | (with_reducible refine below_later_of ?_ ?_ _) | (with_reducible refine Below.alloc ?_ ?_ _) | (with_reducible refine Below.setCell ?_ ?_ _) | (with_reducible refine Below.drew ?_) | (simp; done) | (simp; omega) | omega))))).mono ?_); rintro e w' ⟨rfl, hb⟩; obtain ⟨pp, rfl⟩ := later_of_below hb; clear hb))
    refine any_worldF (fun w' => (w'.cell? ⟨w.heap.size, 0, none⟩ = some (.int .i64 L) ∧ w'.cell? ⟨w.heap.size, 1, none⟩ = some (.int .i64 S) ∧ w'.cell? ⟨w.heap.size, 2, none⟩ = some (.slice a zs.length cap)) ∧ (w'.cell? ⟨w.heap.size + 1, 0, none⟩ = some (.int .i64 b0) ∧ w'.cell? ⟨w.heap.size + 1, 1, none⟩ = some (.int .i64 b1)) ∧ (w'.cell? ⟨w.heap.size + 2, 0, none⟩ = some (.int .i64 m0) ∧ w'.cell? ⟨w.heap.size + 2, 1, none⟩ = some (.int .i64 m1)) ∧ Below w.heap.size w w' ∧ w.heap.size + 2 < w'.heap.size) ⟨⟨(by (first | (simp [go_sem]; done) | simp [go_sem, ↓IntWalk.iteOmega])), (by (first | (simp [go_sem]; done) | simp [go_sem, ↓IntWalk.iteOmega])), (by (first | (simp [go_sem]; done) | simp [go_sem, ↓IntWalk.iteOmega]))⟩, ⟨(by (first | (simp [go_sem]; done) | simp [go_sem, ↓IntWalk.iteOmega])), (by (first | (simp [go_sem]; done) | simp [go_sem, ↓IntWalk.iteOmega]))⟩, ⟨(by (first | (simp [go_sem]; done) | simp [go_sem, ↓IntWalk.iteOmega])), (by (first | (simp [go_sem]; done) | simp [go_sem, ↓IntWalk.iteOmega]))⟩, (by (repeat' (first | with_reducible exact Below.refl _ _ | (with_reducible refine below_later_of ?_ ?_ _) | (with_reducible refine Below.alloc ?_ ?_ _) | (with_reducible refine Below.setCell ?_ ?_ _) | (with_reducible refine Below.drew ?_) | (simp; done) | (simp; omega) | omega))), by simp; omega⟩ ?_
    rintro W1 ⟨⟨x0, x1, x2⟩, ⟨y0, y1⟩, ⟨z0, z1⟩, hb1, hlt1⟩
    have HB1 := Lib.hid hb1
    have hs1 := hb1.size
    have HSU := Lib.hid (show ∀ W, Below W1.heap.size W1 W → _ from fun W hW => HSU0.out W (HB1.out.trans (hW.mono hs1)))
    clear hb1
    go_wp2_with fail
    go_cut [7, 8] from 25 to 31 (fun X Y wx => ∃ B l s k q c, X = .pointer (some ⟨B, 0, none⟩) ∧ Y = .int .i64 E ∧ (wx.cell? ⟨B, 0, none⟩ = some (.int .i64 l) ∧ wx.cell? ⟨B, 1, none⟩ = some (.int .i64 s) ∧ wx.cell? ⟨B, 2, none⟩ = some (.slice q k c)) ∧ LdSay wx 0 lL lS lN F E l s k q ∧ B < wx.heap.size ∧ Below W1.heap.size W1 wx)
    case first =>
      go_region_held3 (fun w' => (w'.cell? ⟨w.heap.size, 0, none⟩ = some (.int .i64 L) ∧ w'.cell? ⟨w.heap.size, 1, none⟩ = some (.int .i64 S) ∧ w'.cell? ⟨w.heap.size, 2, none⟩ = some (.slice a zs.length cap)) ∧ (w'.cell? ⟨w.heap.size + 1, 0, none⟩ = some (.int .i64 b0) ∧ w'.cell? ⟨w.heap.size + 1, 1, none⟩ = some (.int .i64 b1))) (first | exact ⟨⟨x0, x1, x2⟩, y0, y1⟩ | ((first | (simp [go_sem, x0, x1, x2, y0, y1]; done) | simp [go_sem, x0, x1, x2, y0, y1, ↓IntWalk.iteOmega]); done)) (first | (go_at_call 15; (with_reducible refine (HSU.out _ (by (repeat' (first | with_reducible exact Below.refl _ _ | (with_reducible refine below_later_of ?_ ?_ _) | (with_reducible refine Below.alloc ?_ ?_ _) | (with_reducible refine Below.setCell ?_ ?_ _) | (with_reducible refine Below.drew ?_) | (simp; done) | (simp; omega) | omega)))).mono ?_); rintro e w' ⟨a1, c1, rfl, ho, hb⟩; have HO1 := Lib.hid (ownS_fld (L := L) (S := S) ho); clear ho; obtain ⟨p1, rfl⟩ := later_of_below hb; clear hb) | (go_at_call 49; (with_reducible refine (HLK.out _ _ _ (HO1.out.below (by (repeat' (first | with_reducible exact Below.refl _ _ | (with_reducible refine below_later_of ?_ ?_ _) | (with_reducible refine Below.alloc ?_ ?_ _) | (with_reducible refine Below.setCell ?_ ?_ _) | (with_reducible refine Below.drew ?_) | (simp; done) | (simp; omega) | omega))))).mono ?_); rintro e w' ⟨l, s, k, q, c, rfl, hs, hb⟩; have HS := Lib.hid hs; clear hs; obtain ⟨p2, rfl⟩ := later_of_below hb; clear hb))
      all_goals
        rename_i hheld
        clear hheld
        go_wp2_with fail
        go_meet
        refine ⟨_, l, s, k, q, c, rfl, rfl, ⟨(by (first | (simp [go_sem]; done) | simp [go_sem, ↓IntWalk.iteOmega])), (by (first | (simp [go_sem]; done) | simp [go_sem, ↓IntWalk.iteOmega])), (by (first | (simp [go_sem]; done) | simp [go_sem, ↓IntWalk.iteOmega]))⟩, ?_, by simp <;> omega, (by (repeat' (first | with_reducible exact Below.refl _ _ | (with_reducible refine below_later_of ?_ ?_ _) | (with_reducible refine Below.alloc ?_ ?_ _) | (with_reducible refine Below.setCell ?_ ?_ _) | (with_reducible refine Below.drew ?_) | (simp; done) | (simp; omega) | omega)))⟩
        first
          | (refine (HS.out.below ?_).mono (Nat.zero_le _); (repeat' (first | with_reducible exact Below.refl _ _ | (with_reducible refine below_later_of ?_ ?_ _) | (with_reducible refine Below.alloc ?_ ?_ _) | (with_reducible refine Below.setCell ?_ ?_ _) | (with_reducible refine Below.drew ?_) | (simp; done) | (simp; omega) | omega)); done)
          | (refine (LdSay.set (LdSay.set (LdSay.set HS.out ?_ _) ?_ _) ?_ _).mono (Nat.zero_le _) <;> simp <;> omega)
    case rest =>
      obtain ⟨B, l, s, k, q, c, rfl, rfl, ⟨o0, o1, o2⟩, hsay, hB, hb⟩ := hcut
      obtain ⟨W3, hW3⟩ : ∃ W3 : World, W3 = wc := ⟨_, rfl⟩
      subst hW3
      have hs' := hb.size
      replace x0 := (hb.cell (p := ⟨w.heap.size, 0, none⟩) (by simp; omega)).trans x0
      replace x1 := (hb.cell (p := ⟨w.heap.size, 1, none⟩) (by simp; omega)).trans x1
      replace x2 := (hb.cell (p := ⟨w.heap.size, 2, none⟩) (by simp; omega)).trans x2
      replace y0 := (hb.cell (p := ⟨w.heap.size + 1, 0, none⟩) (by simp; omega)).trans y0
      replace y1 := (hb.cell (p := ⟨w.heap.size + 1, 1, none⟩) (by simp; omega)).trans y1
      replace z0 := (hb.cell (p := ⟨w.heap.size + 2, 0, none⟩) (by simp; omega)).trans z0
      replace z1 := (hb.cell (p := ⟨w.heap.size + 2, 1, none⟩) (by simp; omega)).trans z1
      have HB3 := Lib.hid (HB1.out.trans (hb.mono hs1))
      have HSAY := Lib.hid hsay
      have hw3 : w.heap.size + 2 < W3.heap.size := by omega
      have HSU := Lib.hid (show ∀ W, Below W3.heap.size W3 W → _ from fun W hW => HSU0.out W (HB3.out.trans (hW.mono HB3.out.size)))
      clear hb hsay HLK
      have dE : (E == E) = true := by simp
      have dE2 : (E != E) = false := by simp
      by_cases he : e0 = 0
      · subst he
        obtain ⟨Ln, Sn, hLn, hSn, hmm, ⟨l1, l2⟩, s1, s2⟩ := lk_nat HFE.out
        have hlN5 : lN ≤ 4096 := by
          have h1 : lL ≤ 64 := by rw [← HLL.out]; unfold lkL; exact Nat.le_trans (Nat.div_le_self _ _) (by omega)
          have h2 : lS ≤ 64 := by rw [← HLS.out]; unfold lkL; exact Nat.le_trans (Nat.div_le_self _ _) (by omega)
          have := Nat.mul_le_mul h1 h2
          rw [HLN.out] at this
          omega
        clear hLn hSn hmm l1 l2 s1 s2
        have HRL := Lib.hid (rlook_det HWD.out HFE.out HEE.out)
        have HRP := Lib.hid (show ∀ W a cap, FldAt W L S m (prtF zs) a → Calls Tryz.prog 53 #[.agg #[.int .i64 L, .int .i64 S, .slice a m cap]] W fun e w' => ∃ q c, e = .returned (.agg #[.int .i64 L, .int .i64 S, .slice q m c]) ∧ OwnIV W.heap.size w' (.slice q m c) ((List.range m).map (phsP (xD (prtF zs)) (yD (prtF zs)))) ∧ Below W.heap.size W w' from fun W a cap hd => by
          obtain ⟨zz, g1⟩ := fldE_zero HFE.out
          obtain ⟨b, off, rfl, hbw, hs⟩ := hd zz
          exact rPhasesOf L S m cap b off (prtF zs) _ _ W (by omega) hbw hs (smallD_of HWD.out g1))
        rw [HFF.out, HLL.out, HLS.out, HLN.out] at HRL
        go_wp2_with (first | (have hq := HM; clear hq; go_at_call 15; (with_reducible refine (HSU.out _ (by (repeat' (first | with_reducible exact Below.refl _ _ | (with_reducible refine below_later_of ?_ ?_ _) | (with_reducible refine Below.alloc ?_ ?_ _) | (with_reducible refine Below.setCell ?_ ?_ _) | (with_reducible refine Below.drew ?_) | (simp; done) | (simp; omega) | omega)))).mono ?_); rintro e w' ⟨a2, c3, rfl, ho, hb⟩; have HO2 := Lib.hid (ownS_fld (L := L) (S := S) ho); clear ho; obtain ⟨p5, rfl⟩ := later_of_below hb; clear hb) | (go_at_call 15; (with_reducible refine (HSU.out _ (by (repeat' (first | with_reducible exact Below.refl _ _ | (with_reducible refine below_later_of ?_ ?_ _) | (with_reducible refine Below.alloc ?_ ?_ _) | (with_reducible refine Below.setCell ?_ ?_ _) | (with_reducible refine Below.drew ?_) | (simp; done) | (simp; omega) | omega)))).mono ?_); rintro e w' ⟨a1, c1, rfl, ho, hb⟩; have HO1 := Lib.hid (ownS_fld (L := L) (S := S) ho); clear ho; obtain ⟨p1, rfl⟩ := later_of_below hb; clear hb) | (go_at_call 50; (with_reducible refine (HPH.out _ _ _ (HO1.out.below (by (repeat' (first | with_reducible exact Below.refl _ _ | (with_reducible refine below_later_of ?_ ?_ _) | (with_reducible refine Below.alloc ?_ ?_ _) | (with_reducible refine Below.setCell ?_ ?_ _) | (with_reducible refine Below.drew ?_) | (simp; done) | (simp; omega) | omega))))).mono ?_); rintro e w' ⟨r, cc, k2, q2, c2, rfl, hs, hb⟩; have HM := Lib.hid hs; clear hs; obtain ⟨p3, rfl⟩ := later_of_below hb; clear hb) | (go_at_call 16; (with_reducible refine (rCheckField _ _ _ _ (prtF zs) _ _ (by omega) (HO2.out.below (by (repeat' (first | with_reducible exact Below.refl _ _ | (with_reducible refine below_later_of ?_ ?_ _) | (with_reducible refine Below.alloc ?_ ?_ _) | (with_reducible refine Below.setCell ?_ ?_ _) | (with_reducible refine Below.drew ?_) | (simp; done) | (simp; omega) | omega)))) HEI.out).mono ?_); rintro e w' ⟨rfl, hb⟩; obtain ⟨p4, rfl⟩ := later_of_below hb; clear hb))
        refine any_worldF (fun w' => Below W3.heap.size W3 w' ∧ (w'.cell? ⟨W3.heap.size + p1.os.size + p3.os.size, 0, none⟩ = some (.int .i64 r) ∧ w'.cell? ⟨W3.heap.size + p1.os.size + p3.os.size, 1, none⟩ = some (.int .i64 cc) ∧ w'.cell? ⟨W3.heap.size + p1.os.size + p3.os.size, 2, none⟩ = some (.slice q2 k2 c2)) ∧ MkSay w' 0 L S m ((List.range m).map (phsP (xD (prtF zs)) (yD (prtF zs)))) 0 r cc k2 q2 c2 ∧ W3.heap.size + p1.os.size + p3.os.size < w'.heap.size) ⟨(by (repeat' (first | with_reducible exact Below.refl _ _ | (with_reducible refine below_later_of ?_ ?_ _) | (with_reducible refine Below.alloc ?_ ?_ _) | (with_reducible refine Below.setCell ?_ ?_ _) | (with_reducible refine Below.drew ?_) | (simp; done) | (simp; omega) | omega))), ⟨(by (first | (simp [go_sem]; done) | simp [go_sem, ↓IntWalk.iteOmega])), (by (first | (simp [go_sem]; done) | simp [go_sem, ↓IntWalk.iteOmega])), (by (first | (simp [go_sem]; done) | simp [go_sem, ↓IntWalk.iteOmega]))⟩, ?_, (by first | (simp; done) | (simp <;> omega))⟩ ?_
        · first
            | (refine (HM.out.below ?_).mono (Nat.zero_le _); (repeat' (first | with_reducible exact Below.refl _ _ | (with_reducible refine below_later_of ?_ ?_ _) | (with_reducible refine Below.alloc ?_ ?_ _) | (with_reducible refine Below.setCell ?_ ?_ _) | (with_reducible refine Below.drew ?_) | (simp; done) | (simp; omega) | omega)); done)
            | (refine (MkSay.set (MkSay.set (MkSay.set HM.out ?_ _) ?_ _) ?_ _).mono (Nat.zero_le _) <;> simp <;> omega)
        · rintro W6 ⟨hb, ⟨v0, v1, v2⟩, hmk, hB2⟩
          obtain ⟨rfl, rfl, rfl, hom⟩ := hmk.1 rfl
          have hs' := hb.size
          replace x0 := (hb.cell (p := ⟨w.heap.size, 0, none⟩) (by simp; omega)).trans x0
          replace x1 := (hb.cell (p := ⟨w.heap.size, 1, none⟩) (by simp; omega)).trans x1
          replace x2 := (hb.cell (p := ⟨w.heap.size, 2, none⟩) (by simp; omega)).trans x2
          replace y0 := (hb.cell (p := ⟨w.heap.size + 1, 0, none⟩) (by simp; omega)).trans y0
          replace y1 := (hb.cell (p := ⟨w.heap.size + 1, 1, none⟩) (by simp; omega)).trans y1
          replace z0 := (hb.cell (p := ⟨w.heap.size + 2, 0, none⟩) (by simp; omega)).trans z0
          replace z1 := (hb.cell (p := ⟨w.heap.size + 2, 1, none⟩) (by simp; omega)).trans z1
          replace o0 := (hb.cell (p := ⟨B, 0, none⟩) hB).trans o0
          replace o1 := (hb.cell (p := ⟨B, 1, none⟩) hB).trans o1
          replace o2 := (hb.cell (p := ⟨B, 2, none⟩) hB).trans o2
          replace hB : B < _ := Nat.lt_of_lt_of_le hB hb.size
          have HB6 := Lib.hid (HB3.out.trans (hb.mono (by omega)))
          have HSAY6 := Lib.hid (HSAY.out.below hb)
          have HSAY := HSAY6
          have HOM := Lib.hid hom.ints
          have hw6 : w.heap.size + 2 < W6.heap.size := by omega
          have HSU := Lib.hid (show ∀ W, Below W6.heap.size W6 W → _ from fun W hW => HSU0.out W (HB6.out.trans (hW.mono HB6.out.size)))
          clear hb HSAY6 hom hmk HPH HM
          go_wp2_with fail
          go_cut [13, 14] from 62 to 68 (fun X Y wx => ∃ B4 l4 s4 k4 q4 c4, X = .pointer (some ⟨B4, 0, none⟩) ∧ Y = .int .i64 E ∧ (wx.cell? ⟨B4, 0, none⟩ = some (.int .i64 l4) ∧ wx.cell? ⟨B4, 1, none⟩ = some (.int .i64 s4) ∧ wx.cell? ⟨B4, 2, none⟩ = some (.slice q4 k4 c4)) ∧ LdSay wx 0 lL lS lN F E l4 s4 k4 q4 ∧ B4 < wx.heap.size ∧ Below W6.heap.size W6 wx)
          case first =>
            go_region_held3 (fun w' => (w'.cell? ⟨w.heap.size, 0, none⟩ = some (.int .i64 r) ∧ w'.cell? ⟨w.heap.size, 1, none⟩ = some (.int .i64 cc) ∧ w'.cell? ⟨w.heap.size, 2, none⟩ = some (.slice a zs.length cap)) ∧ (w'.cell? ⟨w.heap.size + 1, 0, none⟩ = some (.int .i64 b0) ∧ w'.cell? ⟨w.heap.size + 1, 1, none⟩ = some (.int .i64 b1))) (first | exact ⟨⟨x0, x1, x2⟩, y0, y1⟩ | ((first | (simp [go_sem, x0, x1, x2, y0, y1]; done) | simp [go_sem, x0, x1, x2, y0, y1, ↓IntWalk.iteOmega]); done)) (first | (go_at_call 15; (with_reducible refine (HSU.out _ (by (repeat' (first | with_reducible exact Below.refl _ _ | (with_reducible refine below_later_of ?_ ?_ _) | (with_reducible refine Below.alloc ?_ ?_ _) | (with_reducible refine Below.setCell ?_ ?_ _) | (with_reducible refine Below.drew ?_) | (simp; done) | (simp; omega) | omega)))).mono ?_); rintro e w' ⟨a1, c1, rfl, ho, hb⟩; have HO1 := Lib.hid (ownS_fld (L := r) (S := cc) ho); clear ho; obtain ⟨p1, rfl⟩ := later_of_below hb; clear hb) | (go_at_call 52; (with_reducible refine (HRL.out _ _ _ (HO1.out.below (by (repeat' (first | with_reducible exact Below.refl _ _ | (with_reducible refine below_later_of ?_ ?_ _) | (with_reducible refine Below.alloc ?_ ?_ _) | (with_reducible refine Below.setCell ?_ ?_ _) | (with_reducible refine Below.drew ?_) | (simp; done) | (simp; omega) | omega))))).mono ?_); rintro e w' ⟨l4, s4, k4, q4, c4, rfl, hs, hb⟩; have HS := Lib.hid hs; clear hs; obtain ⟨p2, rfl⟩ := later_of_below hb; clear hb))
            all_goals
              rename_i hheld
              clear hheld
              go_wp2_with fail
              go_meet
              refine ⟨_, l4, s4, k4, q4, c4, rfl, rfl, ⟨(by (first | (simp [go_sem]; done) | simp [go_sem, ↓IntWalk.iteOmega])), (by (first | (simp [go_sem]; done) | simp [go_sem, ↓IntWalk.iteOmega])), (by (first | (simp [go_sem]; done) | simp [go_sem, ↓IntWalk.iteOmega]))⟩, ?_, by simp <;> omega, (by (repeat' (first | with_reducible exact Below.refl _ _ | (with_reducible refine below_later_of ?_ ?_ _) | (with_reducible refine Below.alloc ?_ ?_ _) | (with_reducible refine Below.setCell ?_ ?_ _) | (with_reducible refine Below.drew ?_) | (simp; done) | (simp; omega) | omega)))⟩
              first
                | (refine (HS.out.below ?_).mono (Nat.zero_le _); (repeat' (first | with_reducible exact Below.refl _ _ | (with_reducible refine below_later_of ?_ ?_ _) | (with_reducible refine Below.alloc ?_ ?_ _) | (with_reducible refine Below.setCell ?_ ?_ _) | (with_reducible refine Below.drew ?_) | (simp; done) | (simp; omega) | omega)); done)
                | (refine (LdSay.set (LdSay.set (LdSay.set HS.out ?_ _) ?_ _) ?_ _).mono (Nat.zero_le _) <;> simp <;> omega)
          case rest =>
            obtain ⟨B4, l4, s4, k4, q4, c4, rfl, rfl, ⟨u0, u1, u2⟩, hsw, hB4, hb⟩ := hcut
            obtain ⟨W7, hW7⟩ : ∃ W7 : World, W7 = wc := ⟨_, rfl⟩
            subst hW7
            have hs' := hb.size
            replace x0 := (hb.cell (p := ⟨w.heap.size, 0, none⟩) (by simp; omega)).trans x0
            replace x1 := (hb.cell (p := ⟨w.heap.size, 1, none⟩) (by simp; omega)).trans x1
            replace x2 := (hb.cell (p := ⟨w.heap.size, 2, none⟩) (by simp; omega)).trans x2
            replace y0 := (hb.cell (p := ⟨w.heap.size + 1, 0, none⟩) (by simp; omega)).trans y0
            replace y1 := (hb.cell (p := ⟨w.heap.size + 1, 1, none⟩) (by simp; omega)).trans y1
            replace z0 := (hb.cell (p := ⟨w.heap.size + 2, 0, none⟩) (by simp; omega)).trans z0
            replace z1 := (hb.cell (p := ⟨w.heap.size + 2, 1, none⟩) (by simp; omega)).trans z1
            replace o0 := (hb.cell (p := ⟨B, 0, none⟩) hB).trans o0
            replace o1 := (hb.cell (p := ⟨B, 1, none⟩) hB).trans o1
            replace o2 := (hb.cell (p := ⟨B, 2, none⟩) hB).trans o2
            replace hB : B < _ := Nat.lt_of_lt_of_le hB hb.size
            replace v0 := (hb.cell (p := ⟨W3.heap.size + p1.os.size + p3.os.size, 0, none⟩) hB2).trans v0
            replace v1 := (hb.cell (p := ⟨W3.heap.size + p1.os.size + p3.os.size, 1, none⟩) hB2).trans v1
            replace v2 := (hb.cell (p := ⟨W3.heap.size + p1.os.size + p3.os.size, 2, none⟩) hB2).trans v2
            replace hB2 : W3.heap.size + p1.os.size + p3.os.size < _ := Nat.lt_of_lt_of_le hB2 hb.size
            have HB7 := Lib.hid (HB6.out.trans (hb.mono (by omega)))
            have HSAY7 := Lib.hid (HSAY.out.below hb)
            have HSAY := HSAY7
            have HSW := Lib.hid hsw
            have HOM7 := Lib.hid (HOM.out.below hb)
            have HOM := HOM7
            have hw7 : w.heap.size + 2 < W7.heap.size := by omega
            have HSU := Lib.hid (show ∀ W, Below W7.heap.size W7 W → _ from fun W hW => HSU0.out W (HB7.out.trans (hW.mono HB7.out.size)))
            clear hb HSAY7 HOM7 hsw HRL
            go_wp2_with fail
            go_cut [89] from 69 to 89 (fun X wx => X = .bool false ∧ Below W7.heap.size W7 wx)
            case first =>
              go_region_held3 (fun w' => (w'.cell? ⟨B, 0, none⟩ = some (.int .i64 l) ∧ w'.cell? ⟨B, 1, none⟩ = some (.int .i64 s) ∧ w'.cell? ⟨B, 2, none⟩ = some (.slice q k c)) ∧ (w'.cell? ⟨W3.heap.size + p1.os.size + p3.os.size, 0, none⟩ = some (.int .i64 r) ∧ w'.cell? ⟨W3.heap.size + p1.os.size + p3.os.size, 1, none⟩ = some (.int .i64 cc) ∧ w'.cell? ⟨W3.heap.size + p1.os.size + p3.os.size, 2, none⟩ = some (.slice q2 k2 c2)) ∧ (w'.cell? ⟨B4, 0, none⟩ = some (.int .i64 l4) ∧ w'.cell? ⟨B4, 1, none⟩ = some (.int .i64 s4) ∧ w'.cell? ⟨B4, 2, none⟩ = some (.slice q4 k4 c4)) ∧ (w'.cell? ⟨w.heap.size, 0, none⟩ = some (.int .i64 r) ∧ w'.cell? ⟨w.heap.size, 1, none⟩ = some (.int .i64 cc) ∧ w'.cell? ⟨w.heap.size, 2, none⟩ = some (.slice a zs.length cap))) (first | exact ⟨⟨o0, o1, o2⟩, ⟨v0, v1, v2⟩, ⟨u0, u1, u2⟩, x0, x1, x2⟩ | ((first | (simp [go_sem, o0, o1, o2, v0, v1, v2, u0, u1, u2, x0, x1, x2]; done) | simp [go_sem, o0, o1, o2, v0, v1, v2, u0, u1, u2, x0, x1, x2, ↓IntWalk.iteOmega]); done)) (first | (go_at_call 18; (with_reducible refine (ld_same (HSAY.out.below (by (repeat' (first | with_reducible exact Below.refl _ _ | (with_reducible refine below_later_of ?_ ?_ _) | (with_reducible refine Below.alloc ?_ ?_ _) | (with_reducible refine Below.setCell ?_ ?_ _) | (with_reducible refine Below.drew ?_) | (simp; done) | (simp; omega) | omega)))) (HSW.out.below (by (repeat' (first | with_reducible exact Below.refl _ _ | (with_reducible refine below_later_of ?_ ?_ _) | (with_reducible refine Below.alloc ?_ ?_ _) | (with_reducible refine Below.setCell ?_ ?_ _) | (with_reducible refine Below.drew ?_) | (simp; done) | (simp; omega) | omega)))) (by omega)).mono ?_); rintro e w' ⟨rfl, hb⟩; obtain ⟨p5, rfl⟩ := later_of_below hb; clear hb) | (go_at_call 15; (with_reducible refine (HSU.out _ (by (repeat' (first | with_reducible exact Below.refl _ _ | (with_reducible refine below_later_of ?_ ?_ _) | (with_reducible refine Below.alloc ?_ ?_ _) | (with_reducible refine Below.setCell ?_ ?_ _) | (with_reducible refine Below.drew ?_) | (simp; done) | (simp; omega) | omega)))).mono ?_); rintro e w' ⟨a1, c1, rfl, ho, hb⟩; have HO1 := Lib.hid (ownS_fld (L := r) (S := cc) ho); clear ho; obtain ⟨p1, rfl⟩ := later_of_below hb; clear hb) | (go_at_call 53; (with_reducible refine (HRP.out _ _ _ (HO1.out.below (by (repeat' (first | with_reducible exact Below.refl _ _ | (with_reducible refine below_later_of ?_ ?_ _) | (with_reducible refine Below.alloc ?_ ?_ _) | (with_reducible refine Below.setCell ?_ ?_ _) | (with_reducible refine Below.drew ?_) | (simp; done) | (simp; omega) | omega))))).mono ?_); rintro e w' ⟨q6, c6, rfl, ho, hb⟩; have HO6 := Lib.hid ho.ints; clear ho; obtain ⟨p6, rfl⟩ := later_of_below hb; clear hb) | (go_at_call 25; (with_reducible refine (bSamePhases _ _ _ _ _ _ _ _ _ (HOM.out.below (by (repeat' (first | with_reducible exact Below.refl _ _ | (with_reducible refine below_later_of ?_ ?_ _) | (with_reducible refine Below.alloc ?_ ?_ _) | (with_reducible refine Below.setCell ?_ ?_ _) | (with_reducible refine Below.drew ?_) | (simp; done) | (simp; omega) | omega)))) (HO6.out.below (by (repeat' (first | with_reducible exact Below.refl _ _ | (with_reducible refine below_later_of ?_ ?_ _) | (with_reducible refine Below.alloc ?_ ?_ _) | (with_reducible refine Below.setCell ?_ ?_ _) | (with_reducible refine Below.drew ?_) | (simp; done) | (simp; omega) | omega)))) (c := true) (by simp)).mono ?_); rintro e w' ⟨rfl, hb⟩; obtain ⟨p7, rfl⟩ := later_of_below hb; clear hb))
              all_goals
                rename_i hheld
                clear hheld
                go_wp2_with fail
                go_meet
                exact ⟨rfl, (by (repeat' (first | with_reducible exact Below.refl _ _ | (with_reducible refine below_later_of ?_ ?_ _) | (with_reducible refine Below.alloc ?_ ?_ _) | (with_reducible refine Below.setCell ?_ ?_ _) | (with_reducible refine Below.drew ?_) | (simp; done) | (simp; omega) | omega)))⟩
            case rest =>
             obtain ⟨rfl, hb⟩ := hcut
             obtain ⟨W8, hW8⟩ : ∃ W8 : World, W8 = wc := ⟨_, rfl⟩
             subst hW8
             have hs' := hb.size
             replace x0 := (hb.cell (p := ⟨w.heap.size, 0, none⟩) (by simp; omega)).trans x0
             replace x1 := (hb.cell (p := ⟨w.heap.size, 1, none⟩) (by simp; omega)).trans x1
             replace x2 := (hb.cell (p := ⟨w.heap.size, 2, none⟩) (by simp; omega)).trans x2
             replace y0 := (hb.cell (p := ⟨w.heap.size + 1, 0, none⟩) (by simp; omega)).trans y0
             replace y1 := (hb.cell (p := ⟨w.heap.size + 1, 1, none⟩) (by simp; omega)).trans y1
             replace z0 := (hb.cell (p := ⟨w.heap.size + 2, 0, none⟩) (by simp; omega)).trans z0
             replace z1 := (hb.cell (p := ⟨w.heap.size + 2, 1, none⟩) (by simp; omega)).trans z1
             replace o0 := (hb.cell (p := ⟨B, 0, none⟩) hB).trans o0
             replace o1 := (hb.cell (p := ⟨B, 1, none⟩) hB).trans o1
             replace o2 := (hb.cell (p := ⟨B, 2, none⟩) hB).trans o2
             replace hB : B < _ := Nat.lt_of_lt_of_le hB hb.size
             have HB8 := Lib.hid (HB7.out.trans (hb.mono (by omega)))
             have HSAY8 := Lib.hid (HSAY.out.below hb)
             have HSAY := HSAY8
             have hw8 : w.heap.size + 2 < W8.heap.size := by omega
             have HSU := Lib.hid (show ∀ W, Below W8.heap.size W8 W → _ from fun W hW => HSU0.out W (HB8.out.trans (hW.mono HB8.out.size)))
             clear hb HSAY8 HOM HSW HRP v0 v1 v2 u0 u1 u2
             by_cases hE0 : E = 0
             · subst hE0
               obtain ⟨rfl, rfl, rfl, hof⟩ := HSAY.out.ok rfl
               obtain ⟨w1, hw1⟩ : ∃ w1, inE 1 (lL : Int) m0 = w1 := ⟨_, rfl⟩
               obtain ⟨w2, hw2⟩ : ∃ w2, inE 1 (lS : Int) m1 = w2 := ⟨_, rfl⟩
               have H1 := Lib.hid hw1
               have H2 := Lib.hid hw2
               cases w1
               · clear hw1 hw2
                 go_wp2_with (first | (go_at_call 47; (with_reducible refine (bWithin _ _ _ _ H1.out).mono ?_); rintro e w' ⟨rfl, rfl⟩))
                 go_ret
                 exact ⟨ret_bool (by simp), HB8.out.trans (below_mono_of HB8.out.size (by (repeat' (first | with_reducible exact Below.refl _ _ | (with_reducible refine below_later_of ?_ ?_ _) | (with_reducible refine Below.alloc ?_ ?_ _) | (with_reducible refine Below.setCell ?_ ?_ _) | (with_reducible refine Below.drew ?_) | (simp; done) | (simp; omega) | omega))))⟩
               · cases w2
                 · clear hw1 hw2
                   go_wp2_with (first | (go_at_call 47; (with_reducible refine (bWithin _ _ _ _ H1.out).mono ?_); rintro e w' ⟨rfl, rfl⟩) | (go_at_call 47; (with_reducible refine (bWithin _ _ _ _ H2.out).mono ?_); rintro e w' ⟨rfl, rfl⟩))
                   go_ret
                   exact ⟨ret_bool (by simp), HB8.out.trans (below_mono_of HB8.out.size (by (repeat' (first | with_reducible exact Below.refl _ _ | (with_reducible refine below_later_of ?_ ?_ _) | (with_reducible refine Below.alloc ?_ ?_ _) | (with_reducible refine Below.setCell ?_ ?_ _) | (with_reducible refine Below.drew ?_) | (simp; done) | (simp; omega) | omega))))⟩
                 · have hi0 : inE 1 ((lkL r b0 : Nat) : Int) m0 = true := by rw [HLL.out]; exact hw1
                   have hi1 : inE 1 ((lkL cc b1 : Nat) : Int) m1 = true := by rw [HLS.out]; exact hw2
                   obtain ⟨g1, g2, g3, g4, ⟨g5, g6⟩, ⟨g7, g8⟩, ⟨g9, g10⟩, g11, g12⟩ := lk_next HEE.out hi0 hi1
                   rw [HLL.out] at g1 g2 g4
                   rw [HLS.out] at g1 g3 g4
                   rw [HFF.out] at g1 g4
                   rw [HLN.out] at g1
                   clear hw1 hw2
                   have hk0 : 0 < k := by
                     rw [inE_iff, HLL.out] at hi0
                     rw [inE_iff, HLS.out] at hi1
                     have := Nat.mul_le_mul (show 1 ≤ lL by omega) (show 1 ≤ lS by omega)
                     rw [HLN.out] at this
                     omega
                   clear hi0 hi1
                   have hFw : Wide64 k F := by rw [← HFF.out]; exact fun i _ => ⟨f64I_lt _, f64I_lt _⟩
                   obtain ⟨E2, hE2⟩ : ∃ E2, lkE lL lS k F m0 m1 = E2 := ⟨_, rfl⟩
                   obtain ⟨M, hM⟩ : ∃ M, lkL lL m0 = M := ⟨_, rfl⟩
                   obtain ⟨N, hN⟩ : ∃ N, lkL lS m1 = N := ⟨_, rfl⟩
                   obtain ⟨G, hG⟩ : ∃ G, nmF (lkF F lS m0 m1) = G := ⟨_, rfl⟩
                   obtain ⟨n2, hn2⟩ : ∃ n2, M * N = n2 := ⟨_, rfl⟩
                   have HN2 := Lib.hid (show n2 ≤ 100000 by
                     have h1 : M ≤ lL := by rw [← hM]; unfold lkL; exact Nat.le_trans (Nat.div_le_self _ _) (by omega)
                     have h2 : N ≤ lS := by rw [← hN]; unfold lkL; exact Nat.le_trans (Nat.div_le_self _ _) (by omega)
                     have := Nat.mul_le_mul h1 h2
                     rw [HLN.out, hn2] at this
                     omega)
                   have HL2 := Lib.hid (look_det (show k ≤ 100000 by omega) hFw hE2)
                   rw [hM, hN, hG, hn2] at HL2
                   rw [hM] at g2 g4
                   rw [hN] at g3 g4
                   rw [hG, hn2] at g4
                   rw [hE2] at g1
                   obtain ⟨t0, ht0⟩ : ∃ t, b0 * m0 = t := ⟨_, rfl⟩
                   obtain ⟨t1, ht1⟩ : ∃ t, b1 * m1 = t := ⟨_, rfl⟩
                   have ht0b : 0 ≤ t0 ∧ t0 ≤ 4096 := by
                     rw [← ht0]
                     exact ⟨Int.mul_nonneg (by omega) (by omega), by have := Int.mul_le_mul g6 g10 (by omega) (by decide); omega⟩
                   have ht1b : 0 ≤ t1 ∧ t1 ≤ 4096 := by
                     rw [← ht1]
                     exact ⟨Int.mul_nonneg (by omega) (by omega), by have := Int.mul_le_mul g8 g12 (by omega) (by decide); omega⟩
                   have hw0 : IntKind.i64.wrap (b0 * m0) = t0 := by rw [ht0]; exact IntWalk.i64_in _ (by omega)
                   have hw1 : IntKind.i64.wrap (b1 * m1) = t1 := by rw [ht1]; exact IntWalk.i64_in _ (by omega)
                   rw [ht0] at g1 g2 g4
                   rw [ht1] at g1 g3 g4
                   have HL3 := Lib.hid (show ∀ W a cap, FldAt W r cc k2 (prtF zs) a → Calls Tryz.prog 49 #[.agg #[.int .i64 r, .int .i64 cc, .slice a k2 cap], .agg #[.int .i64 t0, .int .i64 t1]] W (LkSay M N n2 G E2 W) from fun W a cap hd => by
                     refine (look_det (by omega) HWD.out g1.symm W a cap hd).mono ?_
                     rintro e w' ⟨l, s, k', q, c, rfl, hs, hb⟩
                     rw [← g2, ← g3, hn2] at hs
                     exact ⟨l, s, k', q, c, rfl, hs.congr fun i hi => (g4 i hi).symm, hb⟩)
                   obtain ⟨gb, rfl, -, hgb, hgs⟩ := hof hk0
                   have HGS := Lib.hid hgs
                   have HCF := Lib.hid (show ∀ W, Below W8.heap.size W8 W → _ from fun W hW => copyFd_some lL lS k F gb 0 c W (by omega) hk0 (by have := hW.size; omega) (HGS.out.below hgb hW))
                   clear g1 g2 g3 g4 hE2 hM hN hG hn2 hgs ht0 ht1
                   go_wp2_with (first | (go_at_call 47; (with_reducible refine (bWithin _ _ _ _ H1.out).mono ?_); rintro e w' ⟨rfl, rfl⟩) | (go_at_call 47; (with_reducible refine (bWithin _ _ _ _ H2.out).mono ?_); rintro e w' ⟨rfl, rfl⟩))
                   have dEE : (E2 == E2) = true := by simp
                   go_cut [15, 16] from 108 to 114 (fun X Y wx => ∃ B5 l5 s5 k5 q5 c5, X = .pointer (some ⟨B5, 0, none⟩) ∧ Y = .int .i64 E2 ∧ (wx.cell? ⟨B5, 0, none⟩ = some (.int .i64 l5) ∧ wx.cell? ⟨B5, 1, none⟩ = some (.int .i64 s5) ∧ wx.cell? ⟨B5, 2, none⟩ = some (.slice q5 k5 c5)) ∧ LdSay wx 0 M N n2 G E2 l5 s5 k5 q5 ∧ B5 < wx.heap.size ∧ Below W8.heap.size W8 wx)
                   case first =>
                     go_region_held3 (fun w' => (w'.cell? ⟨B, 0, none⟩ = some (.int .i64 lL) ∧ w'.cell? ⟨B, 1, none⟩ = some (.int .i64 lS) ∧ w'.cell? ⟨B, 2, none⟩ = some (.slice (some ⟨gb, 0, none⟩) k c)) ∧ (w'.cell? ⟨w.heap.size + 2, 0, none⟩ = some (.int .i64 m0) ∧ w'.cell? ⟨w.heap.size + 2, 1, none⟩ = some (.int .i64 m1))) (first | exact ⟨⟨o0, o1, o2⟩, z0, z1⟩ | ((first | (simp [go_sem, o0, o1, o2, z0, z1]; done) | simp [go_sem, o0, o1, o2, z0, z1, ↓IntWalk.iteOmega]); done)) (first | (go_at_call 54; (with_reducible refine (HCF.out _ (by (repeat' (first | with_reducible exact Below.refl _ _ | (with_reducible refine below_later_of ?_ ?_ _) | (with_reducible refine Below.alloc ?_ ?_ _) | (with_reducible refine Below.setCell ?_ ?_ _) | (with_reducible refine Below.drew ?_) | (simp; done) | (simp; omega) | omega)))).mono ?_); rintro e w' ⟨a7, c7, rfl, ho, hb⟩; have HO7 := Lib.hid (ownS_fld (L := lL) (S := lS) ho); clear ho; obtain ⟨p1, rfl⟩ := later_of_below hb; clear hb) | (go_at_call 49; (with_reducible refine (HL2.out _ _ _ (HO7.out.below (by (repeat' (first | with_reducible exact Below.refl _ _ | (with_reducible refine below_later_of ?_ ?_ _) | (with_reducible refine Below.alloc ?_ ?_ _) | (with_reducible refine Below.setCell ?_ ?_ _) | (with_reducible refine Below.drew ?_) | (simp; done) | (simp; omega) | omega))))).mono ?_); rintro e w' ⟨l5, s5, k5, q5, c5, rfl, hs, hb⟩; have HS := Lib.hid hs; clear hs; obtain ⟨p2, rfl⟩ := later_of_below hb; clear hb))
                     all_goals
                       rename_i hheld
                       clear hheld
                       go_wp2_with fail
                       go_meet
                       refine ⟨_, l5, s5, k5, q5, c5, rfl, rfl, ⟨(by (first | (simp [go_sem]; done) | simp [go_sem, ↓IntWalk.iteOmega])), (by (first | (simp [go_sem]; done) | simp [go_sem, ↓IntWalk.iteOmega])), (by (first | (simp [go_sem]; done) | simp [go_sem, ↓IntWalk.iteOmega]))⟩, ?_, by simp <;> omega, (by (repeat' (first | with_reducible exact Below.refl _ _ | (with_reducible refine below_later_of ?_ ?_ _) | (with_reducible refine Below.alloc ?_ ?_ _) | (with_reducible refine Below.setCell ?_ ?_ _) | (with_reducible refine Below.drew ?_) | (simp; done) | (simp; omega) | omega)))⟩
                       first
                         | (refine (HS.out.below ?_).mono (Nat.zero_le _); (repeat' (first | with_reducible exact Below.refl _ _ | (with_reducible refine below_later_of ?_ ?_ _) | (with_reducible refine Below.alloc ?_ ?_ _) | (with_reducible refine Below.setCell ?_ ?_ _) | (with_reducible refine Below.drew ?_) | (simp; done) | (simp; omega) | omega)); done)
                         | (refine (LdSay.set (LdSay.set (LdSay.set HS.out ?_ _) ?_ _) ?_ _).mono (Nat.zero_le _) <;> simp <;> omega)
                   case rest =>
                     obtain ⟨B5, l5, s5, k5, q5, c5, rfl, rfl, ⟨j0, j1, j2⟩, hs5, hB5, hb⟩ := hcut
                     obtain ⟨W9, hW9⟩ : ∃ W9 : World, W9 = wc := ⟨_, rfl⟩
                     subst hW9
                     have hs' := hb.size
                     replace x0 := (hb.cell (p := ⟨w.heap.size, 0, none⟩) (by simp; omega)).trans x0
                     replace x1 := (hb.cell (p := ⟨w.heap.size, 1, none⟩) (by simp; omega)).trans x1
                     replace x2 := (hb.cell (p := ⟨w.heap.size, 2, none⟩) (by simp; omega)).trans x2
                     replace y0 := (hb.cell (p := ⟨w.heap.size + 1, 0, none⟩) (by simp; omega)).trans y0
                     replace y1 := (hb.cell (p := ⟨w.heap.size + 1, 1, none⟩) (by simp; omega)).trans y1
                     replace z0 := (hb.cell (p := ⟨w.heap.size + 2, 0, none⟩) (by simp; omega)).trans z0
                     replace z1 := (hb.cell (p := ⟨w.heap.size + 2, 1, none⟩) (by simp; omega)).trans z1
                     have HB9 := Lib.hid (HB8.out.trans (hb.mono (by omega)))
                     have HS5 := Lib.hid hs5
                     have hw9 : w.heap.size + 2 < W9.heap.size := by omega
                     have HSU := Lib.hid (show ∀ W, Below W9.heap.size W9 W → _ from fun W hW => HSU0.out W (HB9.out.trans (hW.mono HB9.out.size)))
                     clear hb hs5 HSAY HL2 HCF
                     go_wp2_with fail
                     go_cut [17, 18] from 115 to 131 (fun X Y wx => ∃ B6 l6 s6 k6 q6 c6, X = .pointer (some ⟨B6, 0, none⟩) ∧ Y = .int .i64 E2 ∧ (wx.cell? ⟨B6, 0, none⟩ = some (.int .i64 l6) ∧ wx.cell? ⟨B6, 1, none⟩ = some (.int .i64 s6) ∧ wx.cell? ⟨B6, 2, none⟩ = some (.slice q6 k6 c6)) ∧ LdSay wx 0 M N n2 G E2 l6 s6 k6 q6 ∧ B6 < wx.heap.size ∧ Below W9.heap.size W9 wx)
                     case first =>
                       go_region_held3 (fun w' => (w'.cell? ⟨w.heap.size, 0, none⟩ = some (.int .i64 r) ∧ w'.cell? ⟨w.heap.size, 1, none⟩ = some (.int .i64 cc) ∧ w'.cell? ⟨w.heap.size, 2, none⟩ = some (.slice a zs.length cap)) ∧ (w'.cell? ⟨w.heap.size + 1, 0, none⟩ = some (.int .i64 b0) ∧ w'.cell? ⟨w.heap.size + 1, 1, none⟩ = some (.int .i64 b1)) ∧ (w'.cell? ⟨w.heap.size + 2, 0, none⟩ = some (.int .i64 m0) ∧ w'.cell? ⟨w.heap.size + 2, 1, none⟩ = some (.int .i64 m1))) (first | exact ⟨⟨x0, x1, x2⟩, ⟨y0, y1⟩, z0, z1⟩ | ((first | (simp [go_sem, x0, x1, x2, y0, y1, z0, z1]; done) | simp [go_sem, x0, x1, x2, y0, y1, z0, z1, ↓IntWalk.iteOmega]); done)) (first | (go_at_call 15; (with_reducible refine (HSU.out _ (by (repeat' (first | with_reducible exact Below.refl _ _ | (with_reducible refine below_later_of ?_ ?_ _) | (with_reducible refine Below.alloc ?_ ?_ _) | (with_reducible refine Below.setCell ?_ ?_ _) | (with_reducible refine Below.drew ?_) | (simp; done) | (simp; omega) | omega)))).mono ?_); rintro e w' ⟨a1, c1, rfl, ho, hb⟩; have HO1 := Lib.hid (ownS_fld (L := r) (S := cc) ho); clear ho; obtain ⟨p1, rfl⟩ := later_of_below hb; clear hb) | (go_at_call 49; (with_reducible refine (HL3.out _ _ _ (HO1.out.below (by (repeat' (first | with_reducible exact Below.refl _ _ | (with_reducible refine below_later_of ?_ ?_ _) | (with_reducible refine Below.alloc ?_ ?_ _) | (with_reducible refine Below.setCell ?_ ?_ _) | (with_reducible refine Below.drew ?_) | (simp; done) | (simp; omega) | omega))))).mono ?_); rintro e w' ⟨l5, s5, k5, q5, c5, rfl, hs, hb⟩; have HS := Lib.hid hs; clear hs; obtain ⟨p2, rfl⟩ := later_of_below hb; clear hb))
                       all_goals
                         rename_i hheld
                         clear hheld
                         go_wp2_with fail
                         go_meet
                         refine ⟨_, l5, s5, k5, q5, c5, rfl, rfl, ⟨(by (first | (simp [go_sem]; done) | simp [go_sem, ↓IntWalk.iteOmega])), (by (first | (simp [go_sem]; done) | simp [go_sem, ↓IntWalk.iteOmega])), (by (first | (simp [go_sem]; done) | simp [go_sem, ↓IntWalk.iteOmega]))⟩, ?_, by simp <;> omega, (by (repeat' (first | with_reducible exact Below.refl _ _ | (with_reducible refine below_later_of ?_ ?_ _) | (with_reducible refine Below.alloc ?_ ?_ _) | (with_reducible refine Below.setCell ?_ ?_ _) | (with_reducible refine Below.drew ?_) | (simp; done) | (simp; omega) | omega)))⟩
                         first
                           | (refine (HS.out.below ?_).mono (Nat.zero_le _); (repeat' (first | with_reducible exact Below.refl _ _ | (with_reducible refine below_later_of ?_ ?_ _) | (with_reducible refine Below.alloc ?_ ?_ _) | (with_reducible refine Below.setCell ?_ ?_ _) | (with_reducible refine Below.drew ?_) | (simp; done) | (simp; omega) | omega)); done)
                           | (refine (LdSay.set (LdSay.set (LdSay.set HS.out ?_ _) ?_ _) ?_ _).mono (Nat.zero_le _) <;> simp <;> omega)
                     case rest =>
                       obtain ⟨B6, l6, s6, k6, q6, c6, rfl, rfl, ⟨v0, v1, v2⟩, hs6, hB6, hb⟩ := hcut
                       obtain ⟨W10, hW10⟩ : ∃ W10 : World, W10 = wc := ⟨_, rfl⟩
                       subst hW10
                       have j0 := (hb.cell (p := ⟨B5, 0, none⟩) hB5).trans j0
                       have j1 := (hb.cell (p := ⟨B5, 1, none⟩) hB5).trans j1
                       have j2 := (hb.cell (p := ⟨B5, 2, none⟩) hB5).trans j2
                       have HB10 := Lib.hid (HB9.out.trans (hb.mono (by omega)))
                       have HS6 := Lib.hid hs6
                       have HS5b := Lib.hid (HS5.out.below hb)
                       have HS5 := HS5b
                       have hn2 : n2 ≤ 100000 := HN2.out
                       clear hb hs6 HL3
                       go_wp2_with (first | (go_at_call 18; (with_reducible refine (ld_same (HS5.out.below (by (repeat' (first | with_reducible exact Below.refl _ _ | (with_reducible refine below_later_of ?_ ?_ _) | (with_reducible refine Below.alloc ?_ ?_ _) | (with_reducible refine Below.setCell ?_ ?_ _) | (with_reducible refine Below.drew ?_) | (simp; done) | (simp; omega) | omega)))) (HS6.out.below (by (repeat' (first | with_reducible exact Below.refl _ _ | (with_reducible refine below_later_of ?_ ?_ _) | (with_reducible refine Below.alloc ?_ ?_ _) | (with_reducible refine Below.setCell ?_ ?_ _) | (with_reducible refine Below.drew ?_) | (simp; done) | (simp; omega) | omega)))) (by omega)).mono ?_); rintro e w' ⟨rfl, hb⟩; obtain ⟨p5, rfl⟩ := later_of_below hb; clear hb))
                       go_ret
                       exact ⟨ret_bool (by simp), HB10.out.trans (below_mono_of HB10.out.size (by (repeat' (first | with_reducible exact Below.refl _ _ | (with_reducible refine below_later_of ?_ ?_ _) | (with_reducible refine Below.alloc ?_ ?_ _) | (with_reducible refine Below.setCell ?_ ?_ _) | (with_reducible refine Below.drew ?_) | (simp; done) | (simp; omega) | omega))))⟩
             · have d2 : (E == 0) = false := by simpa using hE0
               have d3 : (E != 0) = true := by simpa using hE0
               obtain ⟨rfl, rfl, rfl⟩ := HSAY.out.bad hE0
               go_wp2_with fail
               go_ret
               exact ⟨ret_bool (by simp), HB8.out.trans (below_mono_of HB8.out.size (by (repeat' (first | with_reducible exact Below.refl _ _ | (with_reducible refine below_later_of ?_ ?_ _) | (with_reducible refine Below.alloc ?_ ?_ _) | (with_reducible refine Below.setCell ?_ ?_ _) | (with_reducible refine Below.drew ?_) | (simp; done) | (simp; omega) | omega))))⟩
      · obtain rfl := HEB.out he
        obtain ⟨rfl, rfl, rfl⟩ := HSAY.out.bad he
        have d2 : (E == 0) = false := by simpa using he
        have d3 : (E != 0) = true := by simpa using he
        have HNE := Lib.hid he
        clear he
        go_wp2_with (first | (have hq := HM; clear hq; go_at_call 15; (with_reducible refine (HSU.out _ (by (repeat' (first | with_reducible exact Below.refl _ _ | (with_reducible refine below_later_of ?_ ?_ _) | (with_reducible refine Below.alloc ?_ ?_ _) | (with_reducible refine Below.setCell ?_ ?_ _) | (with_reducible refine Below.drew ?_) | (simp; done) | (simp; omega) | omega)))).mono ?_); rintro e w' ⟨a2, c3, rfl, ho, hb⟩; have HO2 := Lib.hid (ownS_fld (L := L) (S := S) ho); clear ho; obtain ⟨p5, rfl⟩ := later_of_below hb; clear hb) | (go_at_call 15; (with_reducible refine (HSU.out _ (by (repeat' (first | with_reducible exact Below.refl _ _ | (with_reducible refine below_later_of ?_ ?_ _) | (with_reducible refine Below.alloc ?_ ?_ _) | (with_reducible refine Below.setCell ?_ ?_ _) | (with_reducible refine Below.drew ?_) | (simp; done) | (simp; omega) | omega)))).mono ?_); rintro e w' ⟨a1, c1, rfl, ho, hb⟩; have HO1 := Lib.hid (ownS_fld (L := L) (S := S) ho); clear ho; obtain ⟨p1, rfl⟩ := later_of_below hb; clear hb) | (go_at_call 50; (with_reducible refine (HPH.out _ _ _ (HO1.out.below (by (repeat' (first | with_reducible exact Below.refl _ _ | (with_reducible refine below_later_of ?_ ?_ _) | (with_reducible refine Below.alloc ?_ ?_ _) | (with_reducible refine Below.setCell ?_ ?_ _) | (with_reducible refine Below.drew ?_) | (simp; done) | (simp; omega) | omega))))).mono ?_); rintro e w' ⟨r, cc, k2, q2, c2, rfl, hs, hb⟩; obtain ⟨rfl, rfl, rfl⟩ := hs.2 HNE.out; have HM := Lib.hid hs; clear hs; obtain ⟨p3, rfl⟩ := later_of_below hb; clear hb) | (go_at_call 16; (with_reducible refine (rCheckField _ _ _ _ (prtF zs) _ _ (by omega) (HO2.out.below (by (repeat' (first | with_reducible exact Below.refl _ _ | (with_reducible refine below_later_of ?_ ?_ _) | (with_reducible refine Below.alloc ?_ ?_ _) | (with_reducible refine Below.setCell ?_ ?_ _) | (with_reducible refine Below.drew ?_) | (simp; done) | (simp; omega) | omega)))) HEI.out).mono ?_); rintro e w' ⟨rfl, hb⟩; obtain ⟨p4, rfl⟩ := later_of_below hb; clear hb) | (go_at_call 51; (with_reducible refine (lNoField4 _ _ _).mono ?_); rintro e w' ⟨rfl, hb⟩; obtain ⟨p8, rfl⟩ := later_of_below hb; clear hb) | (go_at_call 24; (with_reducible refine (lNoMap0 _ _ _).mono ?_); rintro e w' ⟨rfl, hb⟩; obtain ⟨p10, rfl⟩ := later_of_below hb; clear hb))
        go_ret
        exact ⟨ret_bool (by simp), HB3.out.trans (below_mono_of HB3.out.size (by (repeat' (first | with_reducible exact Below.refl _ _ | (with_reducible refine below_later_of ?_ ?_ _) | (with_reducible refine Below.alloc ?_ ?_ _) | (with_reducible refine Below.setCell ?_ ?_ _) | (with_reducible refine Below.drew ?_) | (simp; done) | (simp; omega) | omega))))⟩
  · obtain ⟨⟨a, cap, rfl, -⟩, -⟩ := hx
    have hd1 : decide (300 < (zs.length : Int)) = true := by simp; omega
    go_enter Tryz.func9, Tryz.ntmps9
    go_wp2_with (first | (go_at_call 13; (with_reducible refine (awake4 _ (HT.out.below (by (repeat' (first | with_reducible exact Below.refl _ _ | (with_reducible refine below_later_of ?_ ?_ _) | (with_reducible refine Below.alloc ?_ ?_ _) | (with_reducible refine Below.setCell ?_ ?_ _) | (with_reducible refine Below.drew ?_) | (simp; done) | (simp; omega) | omega))))).mono ?_); rintro e w' ⟨rfl, hb⟩; obtain ⟨pp, rfl⟩ := later_of_below hb; clear hb))
    go_ret
    exact ⟨rfl, (by (repeat' (first | with_reducible exact Below.refl _ _ | (with_reducible refine below_later_of ?_ ?_ _) | (with_reducible refine Below.alloc ?_ ?_ _) | (with_reducible refine Below.setCell ?_ ?_ _) | (with_reducible refine Below.drew ?_) | (simp; done) | (simp; omega) | omega)))⟩
end Go.Proofs.YtfiioadmpjmmgaaGreatDoor
