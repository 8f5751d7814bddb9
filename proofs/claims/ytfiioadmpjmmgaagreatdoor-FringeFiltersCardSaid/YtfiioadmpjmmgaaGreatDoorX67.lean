/- Chapter 4: the reference's Filtered. -/
import Derived.Test.YtfiioadmpjmmgaaGreatDoorX66
namespace Go.Proofs.YtfiioadmpjmmgaaGreatDoor
set_option linter.unusedVariables false
set_option linter.unusedSimpArgs false
open Go.RowKit Ieee Ntt
set_option maxHeartbeats 400000 in
theorem rIsWindow (half : Int) (w : World) {c : Bool} (hc : inE 0 4 half = c) : Calls Tryz.prog 38 #[.int .i64 half] w fun e w' => e = .returned (.bool c) ∧ w = w' := by
  have HW := Lib.hid hc
  clear hc
  go_enter Tryz.func38, Tryz.ntmps38
  go_wp2_with (first | (go_at_call 47; (with_reducible refine (bWithin _ _ _ _ HW.out).mono ?_); rintro e w' ⟨rfl, rfl⟩))
  go_ret
  exact ⟨rfl, rfl⟩
set_option maxHeartbeats 1000000 in
theorem rFiltered_win (L S half : Int) (n cap : Nat) (a : Option Addr) (w : World) (hw : inE 0 4 half = false) :
    Calls Tryz.prog 17 #[.agg #[.int .i64 L, .int .i64 S, .slice a n cap], .int .i64 half] w fun e w' => e = .returned (.tuple #[.agg #[.int .i64 0, .int .i64 0, .slice none 0 0], .int .i64 2]) ∧ Below w.heap.size w w' := by
  have HIW := Lib.hid (fun w => rIsWindow half w hw)
  clear hw
  go_enter Tryz.func17, Tryz.ntmps17
  go_wp2_with (first | (go_at_call 38; (with_reducible refine (HIW.out _).mono ?_); rintro e w' ⟨rfl, rfl⟩))
  refine bodyPost_ret ?_ rfl ⟨rfl, (by (repeat' (first | with_reducible exact Below.refl _ _ | (with_reducible refine below_later_of ?_ ?_ _) | (with_reducible refine Below.alloc ?_ ?_ _) | (with_reducible refine Below.setCell ?_ ?_ _) | (with_reducible refine Below.drew ?_) | (simp; done) | (simp; omega) | omega)))⟩
  first | (simp [results, Tryz.results17, go_sem]; done) | simp [results, Tryz.results17, go_sem, ↓IntWalk.iteOmega]
/-- What the reference's Filtered says of a right window. -/
def FilPost (L S n : Nat) (F : Nat → Int × Int) (w : World) (e : Ending) (w' : World) : Prop :=
  (anyL n F = true ∧ e = .returned (.tuple #[.agg #[.int .i64 0, .int .i64 0, .slice none 0 0], .int .i64 8]) ∧ Below w.heap.size w w') ∨
  (anyL n F = false ∧ ∃ a c, e = .returned (.tuple #[.agg #[.int .i64 L, .int .i64 S, .slice a n c], .int .i64 0]) ∧ OwnS w' w.heap.size n (nmF F) a ∧ n ≤ c ∧ Below w.heap.size w w')
set_option maxRecDepth 20000 in
set_option maxHeartbeats 4000000 in
theorem rFiltered (L S n half cap b off : Nat) (f : Nat → Nat × Nat) (X Y : Nat → Int) (w : World) (hn : n = L * S) (hL1 : 1 ≤ L) (hL : L ≤ 64) (hS1 : 1 ≤ S) (hS : S ≤ 64) (hh : half ≤ 4) (hbw : b < w.heap.size) (hf : SumsAt w b off n f) (hX : SmallD n f X Y 1000000000) :
    Calls Tryz.prog 17 #[.agg #[.int .i64 L, .int .i64 S, .slice (some ⟨b, off, none⟩) n cap], .int .i64 half] w (FilPost L S n (filF X Y L S half) w) := by
  obtain ⟨i0, hi0, hz0, hz1, hz2⟩ := info_parts infoC
  have HIW := Lib.hid (fun w => rIsWindow half w (c := true) (inE_iff.2 (by omega)))
  have HN := Lib.hid hn
  have HF := Lib.hid hf
  have HX := Lib.hid hX
  obtain ⟨F, hF⟩ : ∃ F, filF X Y L S half = F := ⟨_, rfl⟩
  have HFF := Lib.hid hF
  have HBX := Lib.hid (show ∀ i, i < L * S → -1000000000 ≤ X i ∧ X i ≤ 1000000000 from fun i hi => (hX i (by omega)).2.1)
  have HBY := Lib.hid (show ∀ i, i < L * S → -1000000000 ≤ Y i ∧ Y i ≤ 1000000000 from fun i hi => (hX i (by omega)).2.2)
  rw [hF]
  clear hn hf hX hF
  go_enter Tryz.func17, Tryz.ntmps17
  go_wp2_with (first | (go_at_call 38; (with_reducible refine (HIW.out _).mono ?_); rintro e w' ⟨rfl, rfl⟩))
  refine any_worldF (fun W => ∃ W1, Below w.heap.size w W1 ∧ W1.heap.size = w.heap.size + 1 ∧ (W1.cell? ⟨w.heap.size, 0, none⟩ = some (.int .i64 L) ∧ W1.cell? ⟨w.heap.size, 1, none⟩ = some (.int .i64 S) ∧ W1.cell? ⟨w.heap.size, 2, none⟩ = some (.slice (some ⟨b, off, none⟩) n cap)) ∧ TriN W1 (w.heap.size + 1) (w.heap.size + 2) L S 120 1 (.slice none 0 0) 0 (cvF (nmF F) 0) W)
    ⟨w.alloc (.cells #[.int .i64 L, .int .i64 S, .slice (some ⟨b, off, none⟩) n cap] 28), (by (repeat' (first | with_reducible exact Below.refl _ _ | (with_reducible refine below_later_of ?_ ?_ _) | (with_reducible refine Below.alloc ?_ ?_ _) | (with_reducible refine Below.setCell ?_ ?_ _) | (with_reducible refine Below.drew ?_) | (simp; done) | (simp; omega) | omega))), by simp, ⟨by simp [go_sem], by simp [go_sem], by simp [go_sem]⟩, by simp [go_sem], by simp [go_sem], by simp [go_sem], by simp [go_sem], by simp [go_sem], by simp [go_sem], by simp [go_sem], by simp [go_sem], by simp [go_sem], by simp [go_sem], World.ownsRow_nil _ _ _ _, (by (repeat' (first | with_reducible exact Below.refl _ _ | (with_reducible refine below_later_of ?_ ?_ _) | (with_reducible refine Below.alloc ?_ ?_ _) | (with_reducible refine Below.setCell ?_ ?_ _) | (with_reducible refine Below.drew ?_) | (simp; done) | (simp; omega) | omega))), by simp, by omega⟩ ?_
  rintro W2 ⟨W1, hb1, hsz1, ⟨q0, q1, q2⟩, hst⟩
  have HST := Lib.hid hst
  have HB1 := Lib.hid hb1
  have Q0 := Lib.hid q0
  have Q1 := Lib.hid q1
  have Q2 := Lib.hid q2
  clear hst hb1 q0 q1 q2
  go_wp2
  go_loopw [7] (fun ii wr => ∃ (l : Nat) (v : Value), l ≤ L ∧ ii = .int .i64 l ∧ TriN W1 (w.heap.size + 1) (w.heap.size + 2) L S 120 1 v (l * S) (cvF (nmF F) (l * S)) wr ∧ ∀ j, j < l * S → largeB (F j) = false) (fun ii _ => L - (intOf ii).toNat)
  case atStart => exact ⟨0, _, Nat.zero_le _, rfl, by rw [Nat.zero_mul]; exact HST.out, fun j hj => by rw [Nat.zero_mul] at hj; omega⟩
  case round =>
    obtain ⟨l, v, hl, rfl, hst, hno⟩ := hrel
    have HS1 := Lib.hid hst
    have HNO := Lib.hid hno
    have k0 := (hst.bel.cell (p := ⟨w.heap.size, 0, none⟩) (Nat.lt_succ_self _)).trans Q0.out
    have k1 := (hst.bel.cell (p := ⟨w.heap.size, 1, none⟩) (Nat.lt_succ_self _)).trans Q1.out
    have hlw := hst.bel.size
    clear hno
    by_cases hlt : l < L
    · have hdl : decide ((l : Int) < (L : Int)) = true := by simp; omega
      clear hst
      go_wp2
      go_loopw [8] (fun ii wr => ∃ (s : Nat) (v : Value), s ≤ S ∧ ii = .int .i64 s ∧ TriN W1 (w.heap.size + 1) (w.heap.size + 2) L S 120 1 v (l * S + s) (cvF (nmF F) (l * S + s)) wr ∧ ∀ j, j < l * S + s → largeB (F j) = false) (fun ii _ => S - (intOf ii).toNat)
      case atStart => exact ⟨0, v, Nat.zero_le _, rfl, HS1.out, HNO.out⟩
      case round =>
        clear k0 k1 hlw
        obtain ⟨s, v, hs, rfl, hst, hno⟩ := hrel
        have HS2 := Lib.hid hst
        have HNO2 := Lib.hid hno
        have k0 := (hst.bel.cell (p := ⟨w.heap.size, 0, none⟩) (Nat.lt_succ_self _)).trans Q0.out
        have k1 := (hst.bel.cell (p := ⟨w.heap.size, 1, none⟩) (Nat.lt_succ_self _)).trans Q1.out
        have k2 := (hst.bel.cell (p := ⟨w.heap.size, 2, none⟩) (Nat.lt_succ_self _)).trans Q2.out
        have hlw := hst.bel.size
        have hbw2 := HB1.out.trans (hst.bel.mono (Nat.le_succ _))
        clear hno
        by_cases hst2 : s < S
        · have hds : decide ((s : Int) < (S : Int)) = true := by simp; omega
          obtain ⟨i, hi⟩ : ∃ i, l * S + s = i := ⟨_, rfl⟩
          have hin : i < n := by
            have h1 : (l + 1) * S ≤ L * S := Nat.mul_le_mul_right _ hlt
            rw [Nat.add_mul, Nat.one_mul] at h1
            have := HN.out
            omega
          have him : i ≤ 5000 := by
            have := Nat.mul_le_mul hL hS
            have := HN.out
            omega
          have e1 : i / S = l := by rw [← hi, Nat.mul_comm, Nat.mul_add_div (by omega), Nat.div_eq_of_lt hst2, Nat.add_zero]
          have e2 : i % S = s := by rw [← hi, Nat.mul_comm, Nat.mul_add_mod, Nat.mod_eq_of_lt hst2]
          have hFi : F i = (winP X L S half l s, winP Y L S half l s) := by rw [← HFF.out]; unfold filF; rw [e1, e2]
          obtain ⟨x, hx⟩ : ∃ x, winP X L S half l s = x := ⟨_, rfl⟩
          obtain ⟨y, hy⟩ : ∃ y, winP Y L S half l s = y := ⟨_, rfl⟩
          obtain ⟨t1, t2⟩ := cntW_le (half := half) hlt
          obtain ⟨t3, t4⟩ := cntW_le (half := half) hst2
          have HSU := Lib.hid (show ∀ W, Below wr.heap.size wr W → _ from fun W hW => rSumOf L S n cap b off f X Y ((l : Int) - (half : Int)) ((s : Int) - (half : Int)) (2 * (half : Int) + 1) (2 * (half : Int) + 1) (loW l half) (hiW l half L) (loW s half) (hiW s half S) W HN.out hL hS (by have := hbw2.size; have := hW.size; omega) ((HF.out.below hbw hbw2).below (by have := hbw2.size; omega) hW) HX.out (by omega) (by omega) (by omega) (by omega)
            (by unfold loW; omega) (by unfold hiW; omega) (by unfold loW; omega) (by unfold hiW; omega) (by omega) (by omega) (p := x) (q := y) hx hy)
          obtain ⟨bx1, bx2⟩ := winP_bd (half := half) HBX.out (by decide) hL hS hlt hst2
          obtain ⟨by1, by2⟩ := winP_bd (half := half) HBY.out (by decide) hL hS hlt hst2
          rw [hx] at bx1 bx2
          rw [hy] at by1 by2
          rw [hx, hy] at hFi
          have HI := Lib.hid hi
          rw [hi] at hst HS2 HNO2
          obtain ⟨c, hc⟩ : ∃ c, largeB (x, y) = c := ⟨_, rfl⟩
          have HIF := Lib.hid (fun w => rIsField x y w hc)
          have r0 := hst.r0
          have r1 := hst.r1
          have r2 := hst.r2
          have g0 := hst.g0
          have g1 := hst.g1
          have g2 := hst.g2
          have hltO := hst.lt
          have hbel := hst.bel
          clear hst hi e1 e2 hx hy t1 t2 t3 t4
          cases c
          · have HNX := Lib.hid (show ∀ j, j < i + 1 → largeB (F j) = false from fun j hj => by
              rcases Nat.lt_succ_iff_lt_or_eq.1 hj with h | rfl
              · exact HNO2.out j h
              · rw [hFi]; exact hc)
            have HSM := Lib.hid (fun w => bSum x y w)
            have hnu : nmF F i = (f64I x, f64I y) := by unfold nmF; rw [hFi]
            obtain ⟨re, hre⟩ : ∃ re, f64I x = re := ⟨_, rfl⟩
            obtain ⟨im, him'⟩ : ∃ im, f64I y = im := ⟨_, rfl⟩
            rw [hre, him'] at hnu HSM
            have HPN := Lib.hid (show cvF (nmF F) (i + 1) = cvF (nmF F) i ++ [.complex .f64 re im] by rw [cvF_snoc, hnu])
            clear hFi hc hnu hre him' hbw2 r0 r1 r2 g0 g1 g2 hbel
            go_wp2_with (first | (go_at_call 79; (with_reducible refine (HSU.out _ (by (repeat' (first | with_reducible exact Below.refl _ _ | (with_reducible refine below_later_of ?_ ?_ _) | (with_reducible refine Below.alloc ?_ ?_ _) | (with_reducible refine Below.setCell ?_ ?_ _) | (with_reducible refine Below.drew ?_) | (simp; done) | (simp; omega) | omega)))).mono ?_); rintro e w' ⟨rfl, hb⟩; obtain ⟨p1, rfl⟩ := later_of_below hb; clear hb) | (go_at_call 80; (with_reducible refine (HIF.out _).mono ?_); rintro e w' ⟨rfl, rfl⟩))
            refine any_worldF (fun W => TriN W1 (w.heap.size + 1) (w.heap.size + 2) L S 120 1 v i (cvF (nmF F) i) W) (HS2.out.below (by (repeat' (first | with_reducible exact Below.refl _ _ | (with_reducible refine below_later_of ?_ ?_ _) | (with_reducible refine Below.alloc ?_ ?_ _) | (with_reducible refine Below.setCell ?_ ?_ _) | (with_reducible refine Below.drew ?_) | (simp; done) | (simp; omega) | omega)))) ?_
            rintro W5 hst5
            have HS5 := Lib.hid hst5
            have HOW2 := Lib.hid hst5.own
            have HSN := Lib.hid (show ∀ (g' cc' : Nat) (w1 : World) (o : Obj), w1.ownsRow (w.heap.size + 2 + 1) 120 1 (.slice (some ⟨g', 0, none⟩) (i + 1) cc') (i + 1) (cvF (nmF F) i ++ [.complex .f64 re im]) → (W5.drew.alloc o).grownBy w1 v.ownBlock → TriN W1 (w.heap.size + 1) (w.heap.size + 2) L S 120 1 (.slice (some ⟨g', 0, none⟩) (i + 1) cc') (i + 1) (cvF (nmF F) (i + 1)) (w1.setCell ⟨w.heap.size + 2, 2, none⟩ (.slice (some ⟨g', 0, none⟩) (i + 1) cc')) from fun g' cc' w1 o h1 h2 => by
              rw [HPN.out]
              exact (HS5.out.below (Below.refl _ _).drew).put h1 h2)
            have HSL := Lib.hid (show ∀ (w1 : World) (o : Obj), (W5.drew.alloc o).grownBy w1 v.ownBlock → w1.cell? ⟨w.heap.size + 2, 2, none⟩ = some v ∧ w1.frozen? ⟨w.heap.size + 2, 2, none⟩ = false from fun w1 o h => (HS5.out.below (Below.refl _ _).drew).still h)
            have c2 := hst5.c2
            have f2 := hst5.f2
            have hlt5 := hst5.lt
            clear hst5 k0 k1 k2
            go_wp2_with fail
            go_region_law (first | (refine step_append_lies _ rfl (.tmp 55) (.tmp 59) 26 rfl (w.heap.size + 2 + 1) 120 i0 (.complex .f64 0 0) 1 16 Tryz.underlying26 hi0 hz0 hz1 hz2 rfl (by decide) v i (cvF (nmF F) i) (by simp [Act.eval, Act.put]) (by first | exact (HOW2.out.alloc _).drew | exact HOW2.out.drew.alloc _) ⟨W5.heap.size, 0, none⟩ 1 1 [.complex .f64 re im] (by simp [Act.eval, Act.put]) rfl (by intro j u hj; rcases j with _ | j; (focus (simp at hj; subst hj; (first | (simp [Addr.add, go_sem]; done) | simp [Addr.add, go_sem, ↓IntWalk.iteOmega]))); (focus (simp at hj))) (by intro u hu; simp at hu; subst hu; rfl) (by decide) (by unfold maxLen; omega) (by omega) (by first | omega | (simp; omega)) _ rfl ?_; intro g' cc' w1 hown' hgrow _ _; have HN2 := Lib.hid (HSN.out _ _ _ _ hown' hgrow); obtain ⟨hcb, hfb⟩ := HSL.out _ _ hgrow; clear hown' hgrow) | (go_simp; (go_at_call 76; (with_reducible refine (HSM.out _).mono ?_); rintro e w' ⟨rfl, rfl⟩)))
            all_goals
              go_wp2
              go_roundw
              case rel => exact ⟨s + 1, _, by omega, by go_num, by rw [← Nat.add_assoc, HI.out]; exact HN2.out, by rw [← Nat.add_assoc, HI.out]; exact HNX.out⟩
              case measure => simp [intOf]; omega
          · have HAN := Lib.hid (show anyL n F = true from anyL_hit hin (by rw [hFi]; exact hc))
            have HBB := Lib.hid hbw2
            have hsW := hbw2.size
            clear hFi hc hbw2 hbel
            go_wp2_with (first | (go_at_call 79; (with_reducible refine (HSU.out _ (by (repeat' (first | with_reducible exact Below.refl _ _ | (with_reducible refine below_later_of ?_ ?_ _) | (with_reducible refine Below.alloc ?_ ?_ _) | (with_reducible refine Below.setCell ?_ ?_ _) | (with_reducible refine Below.drew ?_) | (simp; done) | (simp; omega) | omega)))).mono ?_); rintro e w' ⟨rfl, hb⟩; obtain ⟨p1, rfl⟩ := later_of_below hb; clear hb) | (go_at_call 80; (with_reducible refine (HIF.out _).mono ?_); rintro e w' ⟨rfl, rfl⟩))
            refine bodyPost_ret (v := .tuple #[.agg #[.int .i64 0, .int .i64 0, .slice none 0 0], .int .i64 8]) ?_ rfl (Or.inl ⟨HAN.out, rfl, (by (repeat' (first | exact HBB.out | with_reducible exact Below.refl _ _ | (with_reducible refine below_later_of ?_ ?_ _) | (with_reducible refine Below.alloc ?_ ?_ _) | (with_reducible refine Below.setCell ?_ ?_ _) | (with_reducible refine Below.drew ?_) | (simp; done) | (simp; omega) | omega)))⟩)
            first | (simp [results, Tryz.results17, go_sem, r0, r1, r2]; done) | simp [results, Tryz.results17, go_sem, r0, r1, r2, ↓IntWalk.iteOmega]
        · obtain rfl : s = S := by omega
          have hds : decide ((s : Int) < (s : Int)) = false := by simp
          clear hst hbw2
          go_wp2
          go_roundw
          case rel => exact ⟨l + 1, v, by omega, by go_num, by rw [Nat.add_mul, Nat.one_mul]; exact HS2.out, by rw [Nat.add_mul, Nat.one_mul]; exact HNO2.out⟩
          case measure => simp [intOf]; omega
    · obtain rfl : l = L := by omega
      have hdl : decide ((l : Int) < (l : Int)) = false := by simp
      have HNL := Lib.hid (show anyL n F = false from anyL_no (by rw [HN.out]; exact HNO.out))
      rw [← HN.out] at hst
      obtain ⟨a', c', rfl⟩ := own_slice2 hst.own
      obtain ⟨e0, e1, e2, -, r0, r1, r2, g0, g1, g2, hown, hbel, -, hro⟩ := hst
      have HOW := Lib.hid hown
      have HBE := Lib.hid (HB1.out.trans (hbel.mono (by omega)))
      rw [← HN.out] at HS1
      clear hown hbel
      go_wp2
      refine bodyPost_ret (v := .tuple #[.agg #[.int .i64 l, .int .i64 S, .slice a' n c'], .int .i64 0]) ?_ rfl (Or.inr ⟨HNL.out, a', c', rfl, OwnS.mono (OwnS.set (OwnS.set (OwnS.set (ownS_row HOW.out) ?_ _) ?_ _) ?_ _) ?_, own_cap2 HOW.out, HBE.out.trans (by (repeat' (first | with_reducible exact Below.refl _ _ | (with_reducible refine below_later_of ?_ ?_ _) | (with_reducible refine Below.alloc ?_ ?_ _) | (with_reducible refine Below.setCell ?_ ?_ _) | (with_reducible refine Below.drew ?_) | (simp; done) | (simp; omega) | omega)))⟩)
      · first | (simp [results, Tryz.results17, go_sem, r0, r1, r2]; done) | simp [results, Tryz.results17, go_sem, r0, r1, r2, ↓IntWalk.iteOmega]
      all_goals first | omega | (simp <;> omega)
end Go.Proofs.YtfiioadmpjmmgaaGreatDoor
