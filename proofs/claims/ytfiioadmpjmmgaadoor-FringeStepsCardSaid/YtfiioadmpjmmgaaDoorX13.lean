/- Chapter 4: the reference's Residues; the program's TurnsAround. -/
import Derived.Test.YtfiioadmpjmmgaaDoorX12
namespace Go.Proofs.YtfiioadmpjmmgaaDoor
set_option linter.unusedVariables false
set_option linter.unusedSimpArgs false
open Go.RowKit Ntt
set_option maxRecDepth 20000 in
set_option maxHeartbeats 4000000 in
theorem rResidues (R C : Nat) (zs : List Int) (v : Value) (w : World) (hm : MapOk R C zs) (hv : IntsV w v zs) :
    Calls Tryd.prog 26 #[.agg #[.int .i64 R, .int .i64 C, v]] w fun e w' => ∃ u, e = .returned u ∧ RsV w' u (resM R C zs) ∧ Below w.heap.size w w' := by
  obtain ⟨i0, hi0, hz0, hz1, hz2⟩ := info_parts infoRs
  have hsz := hm.size
  have HM := Lib.hid hm
  have HV := Lib.hid hv
  have hR := hm.r2
  have hC := hm.c2
  have hR1 := hm.r1
  have hC1 := hm.c1
  have HLN := Lib.hid (resM_len hm)
  obtain ⟨z, hz⟩ : ∃ z, zAt C (intAt zs) = z := ⟨_, rfl⟩
  have HZ := Lib.hid hz
  obtain ⟨-, a, cap, rfl, -⟩ := hv
  have HRM := Lib.hid (show resM R C zs = resAll (whT z) (turnP z) (C - 1) (R - 1) by unfold resM; rw [hz])
  clear hm hz
  have hri : ((R : Int) - 1) = ((R - 1 : Nat) : Int) := by omega
  have hci : ((C : Int) - 1) = ((C - 1 : Nat) : Int) := by omega
  go_enter Tryd.func26, Tryd.ntmps26
  go_wp2
  refine any_worldR4 (fun W => (W.cell? ⟨w.heap.size, 0, none⟩ = some (.int .i64 R) ∧ W.cell? ⟨w.heap.size, 1, none⟩ = some (.int .i64 C) ∧ W.cell? ⟨w.heap.size, 2, none⟩ = some (.slice a zs.length cap)) ∧ Below w.heap.size w W ∧ w.heap.size < W.heap.size) ⟨⟨by simp [go_sem], by simp [go_sem], by simp [go_sem]⟩, (by (repeat' (first | with_reducible exact Below.refl _ _ | (with_reducible refine below_later_of ?_ ?_ _) | (with_reducible refine Below.alloc ?_ ?_ _) | (with_reducible refine Below.setCell ?_ ?_ _) | (with_reducible refine Below.drew ?_) | (simp; done) | (simp; omega) | omega))), by simp⟩ ?_
  rintro W1 ⟨⟨c0, c1, c2⟩, hb1, hlt1⟩
  have HB0 := Lib.hid hb1
  have C0 := Lib.hid c0
  have C1 := Lib.hid c1
  have C2 := Lib.hid c2
  clear hb1
  go_loopw [3, 4] (fun v i wr => ∃ (r : Nat) (u : Value), r ≤ R - 1 ∧ i = .int .i64 r ∧ u = v ∧ RsR (w.heap.size + 1) W1 (resAll (whT z) (turnP z) (C - 1) r) u wr) (fun _ i _ => R - 1 - (intOf i).toNat)
  case atStart => exact ⟨0, _, Nat.zero_le _, rfl, rfl, World.ownsRow_nil _ _ _ _, Below.refl _ _⟩
  case round =>
    clear c0 c1 c2
    obtain ⟨r, u, hr, rfl, rfl, hg⟩ := hrel
    have HG0 := Lib.hid hg
    have c0 := (hg.2.cell (p := ⟨w.heap.size, 0, none⟩) (Nat.lt_succ_self _)).trans C0.out
    by_cases hlt : r < R - 1
    · have hdr : decide ((r : Int) < (R : Int) - 1) = true := by simp; omega
      have hlw := hg.2.size
      clear hg
      go_wp2
      go_loopw [3, 5] (fun v i wr => ∃ (c : Nat) (u : Value), c ≤ C - 1 ∧ i = .int .i64 c ∧ u = v ∧ RsR (w.heap.size + 1) W1 (resAll (whT z) (turnP z) (C - 1) r ++ resRow (whT z) (turnP z) r c) u wr) (fun _ i _ => C - 1 - (intOf i).toNat)
      case atStart => exact ⟨0, _, Nat.zero_le _, rfl, rfl, by simp only [resRow, List.append_nil]; exact HG0.out⟩
      case round =>
        clear c0 hlw
        obtain ⟨c, u, hc, rfl, rfl, hg⟩ := hrel
        obtain ⟨D, hD⟩ : ∃ D, resAll (whT z) (turnP z) (C - 1) r ++ resRow (whT z) (turnP z) r c = D := ⟨_, rfl⟩
        rw [hD] at hg
        have HD := Lib.hid hD
        have HR := Lib.hid hg
        have c1 := (hg.2.cell (p := ⟨w.heap.size, 1, none⟩) (Nat.lt_succ_self _)).trans C1.out
        by_cases hltc : c < C - 1
        · have hdc : decide ((c : Int) < (C : Int) - 1) = true := by simp; omega
          have c0 := (hg.2.cell (p := ⟨w.heap.size, 0, none⟩) (Nat.lt_succ_self _)).trans C0.out
          have c2 := (hg.2.cell (p := ⟨w.heap.size, 2, none⟩) (Nat.lt_succ_self _)).trans C2.out
          have hlw := hg.2.size
          have hbw := (HB0.out.trans (hg.2.mono (Nat.le_succ _)))
          obtain ⟨q, hq⟩ : ∃ q, wholeP z r c 1 1 = q := ⟨_, rfl⟩
          obtain ⟨n, hn⟩ : ∃ n, turnP z r c = n := ⟨_, rfl⟩
          have HTN := Lib.hid (show Calls Tryd.prog 24 #[.agg #[.int .i64 R, .int .i64 C, .slice a zs.length cap], .agg #[.int .i64 r, .int .i64 c, .int .i64 1, .int .i64 1]] wr fun e w' => e = .returned (.tuple #[.int .i64 (if q then n else 0), .int .i64 (if q then 0 else 31)]) ∧ Below wr.heap.size wr w' from by
            have := rTurns_in R C r c 1 1 zs _ wr HM.out (HV.out.below hbw) (by omega) (by omega) (by decide) (by decide)
            rw [HZ.out] at this
            unfold taV taE at this
            rw [hq, show (aroundP z r c 1 1).tdiv 4096 = n from hn] at this
            exact this)
          have hrow : resAll (whT z) (turnP z) (C - 1) r ++ resRow (whT z) (turnP z) r (c + 1) = if q && decide (n ≠ 0) then D ++ [⟨r, c, n⟩] else D := by
            rw [← hD, resRow, hn]
            unfold whT
            rw [hq]
            split
            · rw [List.append_assoc]
            · rfl
          have HLD := Lib.hid (show D.length ≤ 10000 by
            have h1 := resAll_len (whT z) (turnP z) (C - 1) r
            have h2 := resRow_len (whT z) (turnP z) r c
            have h3 : r * (C - 1) ≤ 64 * 64 := Nat.mul_le_mul (by omega) (by omega)
            rw [← hD, List.length_append]
            omega)
          clear hD
          obtain ⟨a', c', rfl⟩ := rsR_slice hg
          clear hg hbw hq hn
          cases q
          · have HEQ := Lib.hid (show resAll (whT z) (turnP z) (C - 1) r ++ resRow (whT z) (turnP z) r (c + 1) = D by rw [hrow]; rfl)
            simp only [Bool.false_eq_true, if_false] at HTN
            clear hrow
            go_wp2_with (first | (go_at_call 24; (with_reducible refine (HTN.out).mono ?_); rintro e w' ⟨rfl, hb⟩; have HB1 := Lib.hid hb; have hz1 := hb.size; obtain ⟨p1, rfl⟩ := later_of_below hb; clear hb))
            have HN := Lib.hid (rsR_below HR.out (by omega) HB1.out)
            go_roundw
            case rel => exact ⟨c + 1, _, by omega, by go_num, rfl, by rw [HEQ.out]; exact HN.out⟩
            case measure => simp [intOf]; omega
          · simp only [if_true] at HTN
            by_cases h0 : n = 0
            · have hn0 : (n != 0) = false := by simpa using h0
              have HEQ := Lib.hid (show resAll (whT z) (turnP z) (C - 1) r ++ resRow (whT z) (turnP z) r (c + 1) = D by rw [hrow, h0]; rfl)
              clear hrow h0
              go_wp2_with (first | (go_at_call 24; (with_reducible refine (HTN.out).mono ?_); rintro e w' ⟨rfl, hb⟩; have HB1 := Lib.hid hb; have hz1 := hb.size; obtain ⟨p1, rfl⟩ := later_of_below hb; clear hb))
              have HN := Lib.hid (rsR_below HR.out (by omega) HB1.out)
              go_roundw
              case rel => exact ⟨c + 1, _, by omega, by go_num, rfl, by rw [HEQ.out]; exact HN.out⟩
              case measure => simp [intOf]; omega
            · have hn0 : (n != 0) = true := by simpa using h0
              have HEQ := Lib.hid (show resAll (whT z) (turnP z) (C - 1) r ++ resRow (whT z) (turnP z) r (c + 1) = D ++ [⟨r, c, n⟩] by rw [hrow]; simp [h0])
              clear hrow h0
              have hld := HLD.out
              go_wp2_with (first | (go_at_call 24; (with_reducible refine (HTN.out).mono ?_); rintro e wx ⟨rfl, hb⟩; have HG := Lib.hid (rsR_below HR.out (by omega) hb); have hsw := hb.size; clear hb) | (at_builtin; refine wpList_append_own _ rfl _ _ 55 rfl (w.heap.size + 1) 66 i0 (.agg #[.int .i64 0, .int .i64 0, .int .i64 0]) 3 24 Tryd.underlying55 hi0 hz0 hz1 hz2 rfl (by decide) _ _ _ rfl (HG.out.1.alloc _) ⟨wx.heap.size, 0, none⟩ 1 1 [.int .i64 r, .int .i64 c, .int .i64 n] rfl rfl ?d1 ?d2 ?d3 ?d4 ?d5 ?_))
              case d1 => exact cells_three _ _ _ _ _
              case d2 => first | rfl | (intro u hu; simp at hu; rcases hu with rfl | rfl | rfl <;> rfl)
              case d3 => unfold maxLen; omega
              case d4 => omega
              case d5 => first | omega | (simp; omega)
              intro v' w1 hown' hgrow _
              have HN := Lib.hid (rsR_put (x := ⟨r, c, n⟩) HG.out (by omega) rfl hown' hgrow)
              clear hown' hgrow hld
              go_wp2
              go_roundw
              case rel => exact ⟨c + 1, _, by omega, by go_num, rfl, by rw [HEQ.out]; exact HN.out⟩
              case measure => simp [intOf]; omega
        · obtain rfl : c = C - 1 := by omega
          have hdc : decide (((C - 1 : Nat) : Int) < (C : Int) - 1) = false := by simp; omega
          have hlw := hg.2.size
          clear hg hD
          go_wp2
          go_roundw
          case rel => exact ⟨r + 1, _, by omega, by go_num, rfl, by rw [resAll, HD.out]; exact HR.out⟩
          case measure => simp [intOf]; omega
    · obtain rfl : r = R - 1 := by omega
      have hdr : decide (((R - 1 : Nat) : Int) < (R : Int) - 1) = false := by simp; omega
      obtain ⟨a', c', rfl⟩ := rsR_slice hg
      clear hg
      go_wp2
      go_ret
      have hg := HG0.out
      rw [← HRM.out] at hg ⊢
      exact ⟨_, rfl, rsV_own hg.1 (by have := HLN.out; omega), HB0.out.trans (hg.2.mono (Nat.le_succ _))⟩
set_option maxHeartbeats 1000000 in
theorem fTurns_bad (R C : Int) (b0 b1 b2 b3 : Int) (zs : List Int) (v : Value) (w : World) (hl : zs.length ≤ 100000) (hv : IntsV w v zs) {e0 : Int} (he : (mapE R C zs).2 = e0) (h0 : e0 ≠ 0) :
    Calls Tryd.prog 22 #[.agg #[.int .i64 R, .int .i64 C, v], .agg #[.int .i64 b0, .int .i64 b1, .int .i64 b2, .int .i64 b3]] w fun e w' => e = .returned (.tuple #[.int .i64 0, .int .i64 e0]) ∧ Below w.heap.size w w' := by
  have HME := Lib.hid (show ∀ W, Below w.heap.size w W → _ from fun W hW => mapErr_any R C zs v W hl (hv.below hW) he)
  have hne : (e0 != 0) = true := by simpa using h0
  obtain ⟨-, a, cap, rfl, -⟩ := hv
  clear he h0
  go_enter Tryd.func22, Tryd.ntmps22
  go_wp2_with (first | (go_at_call 54; (with_reducible refine (HME.out _ (by (repeat' (first | with_reducible exact Below.refl _ _ | (with_reducible refine below_later_of ?_ ?_ _) | (with_reducible refine Below.alloc ?_ ?_ _) | (with_reducible refine Below.setCell ?_ ?_ _) | (with_reducible refine Below.drew ?_) | (simp; done) | (simp; omega) | omega)))).mono ?_); rintro e w' ⟨rfl, hb⟩; obtain ⟨pe, rfl⟩ := later_of_below hb; clear hb))
  go_ret2
  exact ⟨rfl, (by (repeat' (first | with_reducible exact Below.refl _ _ | (with_reducible refine below_later_of ?_ ?_ _) | (with_reducible refine Below.alloc ?_ ?_ _) | (with_reducible refine Below.setCell ?_ ?_ _) | (with_reducible refine Below.drew ?_) | (simp; done) | (simp; omega) | omega)))⟩
set_option maxRecDepth 20000 in
set_option maxHeartbeats 2000000 in
theorem fTurns_out (R C : Nat) (r c h wd : Int) (zs : List Int) (v : Value) (w : World) (hm : MapOk R C zs) (hv : IntsV w v zs) (hb : boxB R C r c h wd = false) :
    Calls Tryd.prog 22 #[.agg #[.int .i64 R, .int .i64 C, v], .agg #[.int .i64 r, .int .i64 c, .int .i64 h, .int .i64 wd]] w fun e w' => e = .returned (.tuple #[.int .i64 0, .int .i64 2]) ∧ Below w.heap.size w w' := by
  have hsz := hm.size
  have HME := Lib.hid (show ∀ W, Below w.heap.size w W → _ from fun W hW => mapErr_any R C zs v W (by omega) (hv.below hW) (e0 := 0) (by rw [hm.err]))
  have HV := Lib.hid hv
  have hR := hm.r2
  have hC := hm.c2
  have hR1 := hm.r1
  have hC1 := hm.c1
  obtain ⟨-, a, cap, rfl, -⟩ := hv
  rw [boxB_alt] at hb
  obtain ⟨q1, hq1⟩ : ∃ q1, inE 1 ((R : Int) - 1) h = q1 := ⟨_, rfl⟩
  obtain ⟨q2, hq2⟩ : ∃ q2, inE 1 ((C : Int) - 1) wd = q2 := ⟨_, rfl⟩
  obtain ⟨q3, hq3⟩ : ∃ q3, pixB R C r c = q3 := ⟨_, rfl⟩
  obtain ⟨q4, hq4⟩ : ∃ q4, pixB R C (r + h) (c + wd) = q4 := ⟨_, rfl⟩
  rw [hq1, hq2, hq3, hq4] at hb
  have H1 := Lib.hid hq1
  have H2 := Lib.hid hq2
  have HP1 := Lib.hid (show ∀ W, Below w.heap.size w W → _ from fun W hW => fHas R C r c _ zs W hR hC (HV.out.below hW) hq3)
  have HP2 := Lib.hid (show ∀ W, Below w.heap.size w W → _ from fun W hW => fHas R C (r + h) (c + wd) _ zs W hR hC (HV.out.below hW) hq4)
  clear hm
  cases q1
  · clear hq1 hq2 hq3 hq4 hb
    go_enter Tryd.func22, Tryd.ntmps22
    go_wp2_with (first | (go_at_call 54; (with_reducible refine (HME.out _ (by (repeat' (first | with_reducible exact Below.refl _ _ | (with_reducible refine below_later_of ?_ ?_ _) | (with_reducible refine Below.alloc ?_ ?_ _) | (with_reducible refine Below.setCell ?_ ?_ _) | (with_reducible refine Below.drew ?_) | (simp; done) | (simp; omega) | omega)))).mono ?_); rintro e w' ⟨rfl, hb⟩; obtain ⟨pe, rfl⟩ := later_of_below hb; clear hb) | (go_at_call 51; (with_reducible refine (fWithin _ _ _ _ H1.out).mono ?_); rintro e w' ⟨rfl, rfl⟩))
    go_ret2
    exact ⟨rfl, (by (repeat' (first | with_reducible exact Below.refl _ _ | (with_reducible refine below_later_of ?_ ?_ _) | (with_reducible refine Below.alloc ?_ ?_ _) | (with_reducible refine Below.setCell ?_ ?_ _) | (with_reducible refine Below.drew ?_) | (simp; done) | (simp; omega) | omega)))⟩
  · obtain ⟨a1, a2⟩ := inE_iff.1 hq1
    cases q2
    · clear hq1 hq2 hq3 hq4 hb
      go_enter Tryd.func22, Tryd.ntmps22
      go_wp2_with (first | (go_at_call 54; (with_reducible refine (HME.out _ (by (repeat' (first | with_reducible exact Below.refl _ _ | (with_reducible refine below_later_of ?_ ?_ _) | (with_reducible refine Below.alloc ?_ ?_ _) | (with_reducible refine Below.setCell ?_ ?_ _) | (with_reducible refine Below.drew ?_) | (simp; done) | (simp; omega) | omega)))).mono ?_); rintro e w' ⟨rfl, hb⟩; obtain ⟨pe, rfl⟩ := later_of_below hb; clear hb) | (go_at_call 51; (with_reducible refine (fWithin _ _ _ _ H1.out).mono ?_); rintro e w' ⟨rfl, rfl⟩) | (go_at_call 51; (with_reducible refine (fWithin _ _ _ _ H2.out).mono ?_); rintro e w' ⟨rfl, rfl⟩))
      go_ret2
      exact ⟨rfl, (by (repeat' (first | with_reducible exact Below.refl _ _ | (with_reducible refine below_later_of ?_ ?_ _) | (with_reducible refine Below.alloc ?_ ?_ _) | (with_reducible refine Below.setCell ?_ ?_ _) | (with_reducible refine Below.drew ?_) | (simp; done) | (simp; omega) | omega)))⟩
    · obtain ⟨a3, a4⟩ := inE_iff.1 hq2
      cases q3
      · clear hq1 hq2 hq3 hq4 hb
        go_enter Tryd.func22, Tryd.ntmps22
        go_wp2_with (first | (go_at_call 54; (with_reducible refine (HME.out _ (by (repeat' (first | with_reducible exact Below.refl _ _ | (with_reducible refine below_later_of ?_ ?_ _) | (with_reducible refine Below.alloc ?_ ?_ _) | (with_reducible refine Below.setCell ?_ ?_ _) | (with_reducible refine Below.drew ?_) | (simp; done) | (simp; omega) | omega)))).mono ?_); rintro e w' ⟨rfl, hb⟩; obtain ⟨pe, rfl⟩ := later_of_below hb; clear hb) | (go_at_call 51; (with_reducible refine (fWithin _ _ _ _ H1.out).mono ?_); rintro e w' ⟨rfl, rfl⟩) | (go_at_call 51; (with_reducible refine (fWithin _ _ _ _ H2.out).mono ?_); rintro e w' ⟨rfl, rfl⟩) | (go_at_call 57; (with_reducible refine (HP1.out _ (by (repeat' (first | with_reducible exact Below.refl _ _ | (with_reducible refine below_later_of ?_ ?_ _) | (with_reducible refine Below.alloc ?_ ?_ _) | (with_reducible refine Below.setCell ?_ ?_ _) | (with_reducible refine Below.drew ?_) | (simp; done) | (simp; omega) | omega)))).mono ?_); rintro e w' ⟨rfl, hb⟩; obtain ⟨p1, rfl⟩ := later_of_below hb; clear hb))
        go_ret2
        exact ⟨rfl, (by (repeat' (first | with_reducible exact Below.refl _ _ | (with_reducible refine below_later_of ?_ ?_ _) | (with_reducible refine Below.alloc ?_ ?_ _) | (with_reducible refine Below.setCell ?_ ?_ _) | (with_reducible refine Below.drew ?_) | (simp; done) | (simp; omega) | omega)))⟩
      · obtain ⟨r', c', rfl, rfl, h3, h4⟩ := pixB_nat hq3
        cases q4
        · clear hq1 hq2 hq3 hq4 hb
          go_enter Tryd.func22, Tryd.ntmps22
          go_wp2_with (first | (go_at_call 54; (with_reducible refine (HME.out _ (by (repeat' (first | with_reducible exact Below.refl _ _ | (with_reducible refine below_later_of ?_ ?_ _) | (with_reducible refine Below.alloc ?_ ?_ _) | (with_reducible refine Below.setCell ?_ ?_ _) | (with_reducible refine Below.drew ?_) | (simp; done) | (simp; omega) | omega)))).mono ?_); rintro e w' ⟨rfl, hb⟩; obtain ⟨pe, rfl⟩ := later_of_below hb; clear hb) | (go_at_call 51; (with_reducible refine (fWithin _ _ _ _ H1.out).mono ?_); rintro e w' ⟨rfl, rfl⟩) | (go_at_call 51; (with_reducible refine (fWithin _ _ _ _ H2.out).mono ?_); rintro e w' ⟨rfl, rfl⟩) | (go_at_call 57; (with_reducible refine (HP1.out _ (by (repeat' (first | with_reducible exact Below.refl _ _ | (with_reducible refine below_later_of ?_ ?_ _) | (with_reducible refine Below.alloc ?_ ?_ _) | (with_reducible refine Below.setCell ?_ ?_ _) | (with_reducible refine Below.drew ?_) | (simp; done) | (simp; omega) | omega)))).mono ?_); rintro e w' ⟨rfl, hb⟩; obtain ⟨p1, rfl⟩ := later_of_below hb; clear hb) | (go_at_call 57; (with_reducible refine (HP2.out _ (by (repeat' (first | with_reducible exact Below.refl _ _ | (with_reducible refine below_later_of ?_ ?_ _) | (with_reducible refine Below.alloc ?_ ?_ _) | (with_reducible refine Below.setCell ?_ ?_ _) | (with_reducible refine Below.drew ?_) | (simp; done) | (simp; omega) | omega)))).mono ?_); rintro e w' ⟨rfl, hb⟩; obtain ⟨p2, rfl⟩ := later_of_below hb; clear hb))
          go_ret2
          exact ⟨rfl, (by (repeat' (first | with_reducible exact Below.refl _ _ | (with_reducible refine below_later_of ?_ ?_ _) | (with_reducible refine Below.alloc ?_ ?_ _) | (with_reducible refine Below.setCell ?_ ?_ _) | (with_reducible refine Below.drew ?_) | (simp; done) | (simp; omega) | omega)))⟩
        · cases hb
set_option maxRecDepth 20000 in
set_option maxHeartbeats 2000000 in
theorem fTurns_in (R C r0 c0 h wd : Nat) (zs : List Int) (v : Value) (w : World) (hm : MapOk R C zs) (hv : IntsV w v zs) (hr : r0 + h < R) (hc : c0 + wd < C) (hh : 1 ≤ h) (hw : 1 ≤ wd) :
    Calls Tryd.prog 22 #[.agg #[.int .i64 R, .int .i64 C, v], .agg #[.int .i64 r0, .int .i64 c0, .int .i64 h, .int .i64 wd]] w fun e w' => e = .returned (.tuple #[.int .i64 (taV (zAt C (intAt zs)) r0 c0 h wd), .int .i64 (taE (zAt C (intAt zs)) r0 c0 h wd)]) ∧ Below w.heap.size w w' := by
  have hsz := hm.size
  have HME := Lib.hid (show ∀ W, Below w.heap.size w W → _ from fun W hW => mapErr_any R C zs v W (by omega) (hv.below hW) (e0 := 0) (by rw [hm.err]))
  have HV := Lib.hid hv
  have hR := hm.r2
  have hC := hm.c2
  have H1 := Lib.hid (show inE 1 ((R : Int) - 1) (h : Int) = true by unfold inE; simp; omega)
  have H2 := Lib.hid (show inE 1 ((C : Int) - 1) (wd : Int) = true by unfold inE; simp; omega)
  have e1 : ((r0 + h : Nat) : Int) = (r0 : Int) + (h : Int) := by omega
  have e2 : ((c0 + wd : Nat) : Int) = (c0 : Int) + (wd : Int) := by omega
  have hq4 := pixB_in hr hc
  rw [e1, e2] at hq4
  have HP1 := Lib.hid (show ∀ W, Below w.heap.size w W → _ from fun W hW => fHas R C r0 c0 _ zs W hR hC (HV.out.below hW) (pixB_in (by omega) (by omega)))
  have HP2 := Lib.hid (show ∀ W, Below w.heap.size w W → _ from fun W hW => fHas R C ((r0 : Int) + (h : Int)) ((c0 : Int) + (wd : Int)) _ zs W hR hC (HV.out.below hW) hq4)
  obtain ⟨q, hq⟩ : ∃ q, wholeP (zAt C (intAt zs)) r0 c0 h wd = q := ⟨_, rfl⟩
  obtain ⟨n, hn⟩ : ∃ n, (aroundP (zAt C (intAt zs)) r0 c0 h wd).tdiv 4096 = n := ⟨_, rfl⟩
  have HTU := Lib.hid (show ∀ W, Below w.heap.size w W → _ from fun W hW => fTurns R C r0 c0 h wd zs v W hm (hv.below hW) hr hc hn hq)
  unfold taV taE
  rw [hq, hn]
  obtain ⟨-, a, cap, rfl, -⟩ := hv
  clear hm hq hn hq4
  cases q
  · go_enter Tryd.func22, Tryd.ntmps22
    go_wp2_with (first | (go_at_call 54; (with_reducible refine (HME.out _ (by (repeat' (first | with_reducible exact Below.refl _ _ | (with_reducible refine below_later_of ?_ ?_ _) | (with_reducible refine Below.alloc ?_ ?_ _) | (with_reducible refine Below.setCell ?_ ?_ _) | (with_reducible refine Below.drew ?_) | (simp; done) | (simp; omega) | omega)))).mono ?_); rintro e w' ⟨rfl, hb⟩; obtain ⟨pe, rfl⟩ := later_of_below hb; clear hb) | (go_at_call 51; (with_reducible refine (fWithin _ _ _ _ H1.out).mono ?_); rintro e w' ⟨rfl, rfl⟩) | (go_at_call 51; (with_reducible refine (fWithin _ _ _ _ H2.out).mono ?_); rintro e w' ⟨rfl, rfl⟩) | (go_at_call 57; (with_reducible refine (HP1.out _ (by (repeat' (first | with_reducible exact Below.refl _ _ | (with_reducible refine below_later_of ?_ ?_ _) | (with_reducible refine Below.alloc ?_ ?_ _) | (with_reducible refine Below.setCell ?_ ?_ _) | (with_reducible refine Below.drew ?_) | (simp; done) | (simp; omega) | omega)))).mono ?_); rintro e w' ⟨rfl, hb⟩; obtain ⟨p1, rfl⟩ := later_of_below hb; clear hb) | (go_at_call 57; (with_reducible refine (HP2.out _ (by (repeat' (first | with_reducible exact Below.refl _ _ | (with_reducible refine below_later_of ?_ ?_ _) | (with_reducible refine Below.alloc ?_ ?_ _) | (with_reducible refine Below.setCell ?_ ?_ _) | (with_reducible refine Below.drew ?_) | (simp; done) | (simp; omega) | omega)))).mono ?_); rintro e w' ⟨rfl, hb⟩; obtain ⟨p2, rfl⟩ := later_of_below hb; clear hb) | (go_at_call 55; (with_reducible refine (HTU.out _ (by (repeat' (first | with_reducible exact Below.refl _ _ | (with_reducible refine below_later_of ?_ ?_ _) | (with_reducible refine Below.alloc ?_ ?_ _) | (with_reducible refine Below.setCell ?_ ?_ _) | (with_reducible refine Below.drew ?_) | (simp; done) | (simp; omega) | omega)))).mono ?_); rintro e w' ⟨rfl, hb⟩; obtain ⟨p3, rfl⟩ := later_of_below hb; clear hb))
    go_ret2
    exact ⟨rfl, (by (repeat' (first | with_reducible exact Below.refl _ _ | (with_reducible refine below_later_of ?_ ?_ _) | (with_reducible refine Below.alloc ?_ ?_ _) | (with_reducible refine Below.setCell ?_ ?_ _) | (with_reducible refine Below.drew ?_) | (simp; done) | (simp; omega) | omega)))⟩
  · go_enter Tryd.func22, Tryd.ntmps22
    go_wp2_with (first | (go_at_call 54; (with_reducible refine (HME.out _ (by (repeat' (first | with_reducible exact Below.refl _ _ | (with_reducible refine below_later_of ?_ ?_ _) | (with_reducible refine Below.alloc ?_ ?_ _) | (with_reducible refine Below.setCell ?_ ?_ _) | (with_reducible refine Below.drew ?_) | (simp; done) | (simp; omega) | omega)))).mono ?_); rintro e w' ⟨rfl, hb⟩; obtain ⟨pe, rfl⟩ := later_of_below hb; clear hb) | (go_at_call 51; (with_reducible refine (fWithin _ _ _ _ H1.out).mono ?_); rintro e w' ⟨rfl, rfl⟩) | (go_at_call 51; (with_reducible refine (fWithin _ _ _ _ H2.out).mono ?_); rintro e w' ⟨rfl, rfl⟩) | (go_at_call 57; (with_reducible refine (HP1.out _ (by (repeat' (first | with_reducible exact Below.refl _ _ | (with_reducible refine below_later_of ?_ ?_ _) | (with_reducible refine Below.alloc ?_ ?_ _) | (with_reducible refine Below.setCell ?_ ?_ _) | (with_reducible refine Below.drew ?_) | (simp; done) | (simp; omega) | omega)))).mono ?_); rintro e w' ⟨rfl, hb⟩; obtain ⟨p1, rfl⟩ := later_of_below hb; clear hb) | (go_at_call 57; (with_reducible refine (HP2.out _ (by (repeat' (first | with_reducible exact Below.refl _ _ | (with_reducible refine below_later_of ?_ ?_ _) | (with_reducible refine Below.alloc ?_ ?_ _) | (with_reducible refine Below.setCell ?_ ?_ _) | (with_reducible refine Below.drew ?_) | (simp; done) | (simp; omega) | omega)))).mono ?_); rintro e w' ⟨rfl, hb⟩; obtain ⟨p2, rfl⟩ := later_of_below hb; clear hb) | (go_at_call 55; (with_reducible refine (HTU.out _ (by (repeat' (first | with_reducible exact Below.refl _ _ | (with_reducible refine below_later_of ?_ ?_ _) | (with_reducible refine Below.alloc ?_ ?_ _) | (with_reducible refine Below.setCell ?_ ?_ _) | (with_reducible refine Below.drew ?_) | (simp; done) | (simp; omega) | omega)))).mono ?_); rintro e w' ⟨rfl, hb⟩; obtain ⟨p3, rfl⟩ := later_of_below hb; clear hb))
    go_ret2
    exact ⟨rfl, (by (repeat' (first | with_reducible exact Below.refl _ _ | (with_reducible refine below_later_of ?_ ?_ _) | (with_reducible refine Below.alloc ?_ ?_ _) | (with_reducible refine Below.setCell ?_ ?_ _) | (with_reducible refine Below.drew ?_) | (simp; done) | (simp; omega) | omega)))⟩
end Go.Proofs.YtfiioadmpjmmgaaDoor
