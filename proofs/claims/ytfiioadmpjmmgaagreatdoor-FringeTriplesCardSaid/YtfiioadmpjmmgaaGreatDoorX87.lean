/- Chapter 4: the reference's phases of a field. -/
import Derived.Test.YtfiioadmpjmmgaaGreatDoorX82
import Derived.Test.YtfiioadmpjmmgaaGreatDoorXP
import Derived.Test.YtfiioadmpjmmgaaGreatDoorU67
namespace Go.Proofs.YtfiioadmpjmmgaaGreatDoor
set_option linter.unusedVariables false
set_option linter.unusedSimpArgs false
open Go.RowKit Ieee Ntt
set_option maxRecDepth 20000 in
set_option maxHeartbeats 4000000 in
theorem rPhasesOf (L S : Int) (n cap b off : Nat) (f : Nat → Nat × Nat) (X Y : Nat → Int) (w : World) (hl : n ≤ 5000) (hbw : b < w.heap.size) (hf : SumsAt w b off n f) (hX : SmallD n f X Y 1000000000) :
    Calls Tryz.prog 53 #[.agg #[.int .i64 L, .int .i64 S, .slice (some ⟨b, off, none⟩) n cap]] w fun e w' => ∃ q c, e = .returned (.agg #[.int .i64 L, .int .i64 S, .slice q n c]) ∧ OwnIV w.heap.size w' (.slice q n c) ((List.range n).map (phsP X Y)) ∧ Below w.heap.size w w' := by
  obtain ⟨i0, hi0, hz0, hz1, hz2⟩ := info_parts info3
  have HF := Lib.hid hf
  have HX := Lib.hid hX
  obtain ⟨P, hP⟩ : ∃ P, phsP X Y = P := ⟨_, rfl⟩
  have HPP := Lib.hid (show ∀ i, P i = if X i = 0 ∧ Y i = 0 then 1000000000000 else phaseP (X i) (Y i) from fun i => by rw [← hP]; rfl)
  rw [hP]
  clear hf hX hP
  go_enter Tryz.func53, Tryz.ntmps53
  go_wp2
  refine any_worldF (fun W => ∃ W1, Below w.heap.size w W1 ∧ W1.heap.size = w.heap.size + 1 ∧ W1.cell? ⟨w.heap.size, 2, none⟩ = some (.slice (some ⟨b, off, none⟩) n cap) ∧ TriN W1 (w.heap.size + 1) (w.heap.size + 2) L S 3 1 (.slice none 0 0) 0 (inC P 0) W)
    ⟨w.alloc (.cells #[.int .i64 L, .int .i64 S, .slice (some ⟨b, off, none⟩) n cap] 28), (by (repeat' (first | with_reducible exact Below.refl _ _ | (with_reducible refine below_later_of ?_ ?_ _) | (with_reducible refine Below.alloc ?_ ?_ _) | (with_reducible refine Below.setCell ?_ ?_ _) | (with_reducible refine Below.drew ?_) | (simp; done) | (simp; omega) | omega))), by simp, by simp [go_sem], by (first | (simp [go_sem]; done) | simp [go_sem, ↓IntWalk.iteOmega]), by (first | (simp [go_sem]; done) | simp [go_sem, ↓IntWalk.iteOmega]), by (first | (simp [go_sem]; done) | simp [go_sem, ↓IntWalk.iteOmega]), by (first | (simp [go_sem]; done) | simp [go_sem, ↓IntWalk.iteOmega]), by (first | (simp [go_sem]; done) | simp [go_sem, ↓IntWalk.iteOmega]), by (first | (simp [go_sem]; done) | simp [go_sem, ↓IntWalk.iteOmega]), by (first | (simp [go_sem]; done) | simp [go_sem, ↓IntWalk.iteOmega]), by (first | (simp [go_sem]; done) | simp [go_sem, ↓IntWalk.iteOmega]), by (first | (simp [go_sem]; done) | simp [go_sem, ↓IntWalk.iteOmega]), by (first | (simp [go_sem]; done) | simp [go_sem, ↓IntWalk.iteOmega]), World.ownsRow_nil _ _ _ _, (by (repeat' (first | with_reducible exact Below.refl _ _ | (with_reducible refine below_later_of ?_ ?_ _) | (with_reducible refine Below.alloc ?_ ?_ _) | (with_reducible refine Below.setCell ?_ ?_ _) | (with_reducible refine Below.drew ?_) | (simp; done) | (simp; omega) | omega))), by simp, by omega⟩ ?_
  rintro W2 ⟨W1, hb1, hsz1, q2, hst⟩
  have HST := Lib.hid hst
  have HB1 := Lib.hid hb1
  have Q2 := Lib.hid q2
  clear hst hb1 q2
  go_wp2
  go_loopw [4] (fun ii wr => ∃ (k : Nat) (v : Value), k ≤ n ∧ ii = .int .i64 k ∧ TriN W1 (w.heap.size + 1) (w.heap.size + 2) L S 3 1 v k (inC P k) wr) (fun ii _ => n - (intOf ii).toNat)
  case atStart => exact ⟨0, _, Nat.zero_le _, rfl, HST.out⟩
  case round =>
    obtain ⟨k, v, hk, rfl, hst⟩ := hrel
    have HS2 := Lib.hid hst
    have k2 := (hst.bel.cell (p := ⟨w.heap.size, 2, none⟩) (Nat.lt_succ_self _)).trans Q2.out
    by_cases hlt : k < n
    · have hdk : decide ((k : Int) < (n : Int)) = true := by simp; omega
      have hk0 : (0 : Int) ≤ (k : Int) := by omega
      have hk1 : (k : Int) < (n : Int) := by omega
      have hbw2 := HB1.out.trans (hst.bel.mono (Nat.le_succ _))
      have ck := (hbw2.cell (p := ⟨b, off + k, none⟩) hbw).trans (HF.out k hlt)
      have hbr : b < wr.heap.size := by have := hbw2.size; omega
      have c2 := hst.c2
      have f2 := hst.f2
      have hltO := hst.lt
      have hlw := hst.bel.size
      obtain ⟨hcn, ⟨p5, p6⟩, p7, p8⟩ := HX.out k hlt
      have HP := Lib.hid (fun w => rParts4 (f k).1 (f k).2 (X k) (Y k) w (flD hcn.re (by omega) (by omega)) (flD hcn.im (by omega) (by omega)))
      have HPH := Lib.hid (fun w => rPhase_any (X k) (Y k) w (by omega) (by omega) (by omega) (by omega))
      have hsn := inC_succ P k
      obtain ⟨p, hp⟩ : ∃ p, P k = p := ⟨_, rfl⟩
      rw [hp] at hsn
      have HPN := Lib.hid hsn
      have hpk := HPP.out k
      rw [hp] at hpk
      generalize X k = x at *
      generalize Y k = y at *
      generalize (f k).1 = fa at *
      generalize (f k).2 = fb at *
      by_cases hz : x = 0 ∧ y = 0
      · rw [if_pos hz] at hpk
        obtain ⟨rfl, rfl⟩ := hz
        subst hpk
        clear hst hbw2 hsn hp hcn HPH
        go_wp2_with (first | (go_at_call 116; (with_reducible refine (HP.out _).mono ?_); rintro e w' ⟨rfl, rfl⟩) | (at_builtin; refine wpList_append_own _ rfl _ _ 22 rfl (w.heap.size + 2 + 1) 3 i0 (.int .i64 0) 1 8 Tryz.underlying22 hi0 hz0 hz1 hz2 rfl (by decide) _ _ _ rfl (HS2.out.own.alloc _) ⟨_, 0, none⟩ 1 1 [.int .i64 1000000000000] rfl rfl ?d1 ?d2 ?d3 ?d4 ?d5 ?_))
        case d1 => exact (by intro j u hj; rcases j with _ | j; (focus (simp at hj; subst hj; (first | (simp [Addr.add, go_sem]; done) | simp [Addr.add, go_sem, ↓IntWalk.iteOmega]))); (focus (simp at hj)))
        case d2 => intro u hu; simp at hu; subst hu; rfl
        case d3 => unfold maxLen; omega
        case d4 => omega
        case d5 => first | omega | (simp; omega)
        intro v' w1 hown' hgrow _
        obtain ⟨va, vc, rfl⟩ := own_slice2 hown'
        have HN2 := Lib.hid (HS2.out.put hown' hgrow)
        obtain ⟨hcb, hfb⟩ := HS2.out.still hgrow
        clear hown' hgrow
        go_wp2
        go_roundw
        case rel => exact ⟨k + 1, _, by omega, by go_num, by rw [HPN.out]; exact HN2.out⟩
        case measure => simp [intOf]; omega
      · rw [if_neg hz] at hpk
        rw [← hpk] at HPH
        by_cases hx0 : x = 0
        · subst hx0
          have hy0 : (y == 0) = false := by
            have : ¬ y = 0 := fun h => hz ⟨rfl, h⟩
            simpa using this
          clear hst hbw2 hsn hp hcn hz hpk
          go_wp2_with (first | (go_at_call 116; (with_reducible refine (HP.out _).mono ?_); rintro e w' ⟨rfl, rfl⟩))
          go_region_law (first | (refine step_append_lies _ rfl (.tmp 40) (.tmp 44) 22 rfl (w.heap.size + 2 + 1) 3 i0 (.int .i64 0) 1 8 Tryz.underlying22 hi0 hz0 hz1 hz2 rfl (by decide) v k (inC P k) (by simp [Act.eval, Act.put]) (HSW.out.own.alloc _) ⟨wc.heap.size, 0, none⟩ 1 1 [.int .i64 p] (by simp [Act.eval, Act.put]) rfl (by intro j u hj; rcases j with _ | j; (focus (simp at hj; subst hj; (first | (simp [Addr.add, go_sem]; done) | simp [Addr.add, go_sem, ↓IntWalk.iteOmega]))); (focus (simp at hj))) (by intro u hu; simp at hu; subst hu; rfl) (by decide) (by unfold maxLen; omega) (by omega) (by first | omega | (simp; omega)) _ rfl ?_; intro g' cc' w1 hown' hgrow _ _; have HN2 := Lib.hid (HSW.out.put hown' hgrow); obtain ⟨hcb, hfb⟩ := HSW.out.still hgrow; clear hown' hgrow) | (go_simp; (go_at_call 117; (with_reducible refine (HPH.out _).mono ?_); rintro e wc ⟨rfl, hb⟩; have HSW := Lib.hid ((HS2.out.below (Below.refl _ _).drew).below hb); have c2w := HSW.out.c2; have f2w := HSW.out.f2; have hltw := HSW.out.lt; clear hb)))
          all_goals
            go_wp2
            go_roundw
            case rel => exact ⟨k + 1, _, by omega, by go_num, by rw [HPN.out]; exact HN2.out⟩
            case measure => simp [intOf]; omega
        · have hx1 : (x == 0) = false := by simpa using hx0
          clear hst hbw2 hsn hp hcn hz hpk
          go_wp2_with (first | (go_at_call 116; (with_reducible refine (HP.out _).mono ?_); rintro e w' ⟨rfl, rfl⟩))
          go_region_law (first | (refine step_append_lies _ rfl (.tmp 40) (.tmp 44) 22 rfl (w.heap.size + 2 + 1) 3 i0 (.int .i64 0) 1 8 Tryz.underlying22 hi0 hz0 hz1 hz2 rfl (by decide) v k (inC P k) (by simp [Act.eval, Act.put]) (HSW.out.own.alloc _) ⟨wc.heap.size, 0, none⟩ 1 1 [.int .i64 p] (by simp [Act.eval, Act.put]) rfl (by intro j u hj; rcases j with _ | j; (focus (simp at hj; subst hj; (first | (simp [Addr.add, go_sem]; done) | simp [Addr.add, go_sem, ↓IntWalk.iteOmega]))); (focus (simp at hj))) (by intro u hu; simp at hu; subst hu; rfl) (by decide) (by unfold maxLen; omega) (by omega) (by first | omega | (simp; omega)) _ rfl ?_; intro g' cc' w1 hown' hgrow _ _; have HN2 := Lib.hid (HSW.out.put hown' hgrow); obtain ⟨hcb, hfb⟩ := HSW.out.still hgrow; clear hown' hgrow) | (go_simp; (go_at_call 117; (with_reducible refine (HPH.out _).mono ?_); rintro e wc ⟨rfl, hb⟩; have HSW := Lib.hid ((HS2.out.below (Below.refl _ _).drew).below hb); have c2w := HSW.out.c2; have f2w := HSW.out.f2; have hltw := HSW.out.lt; clear hb)))
          all_goals
            go_wp2
            go_roundw
            case rel => exact ⟨k + 1, _, by omega, by go_num, by rw [HPN.out]; exact HN2.out⟩
            case measure => simp [intOf]; omega
    · obtain rfl : k = n := by omega
      have hdk : decide ((k : Int) < (k : Int)) = false := by simp
      obtain ⟨a', c', rfl⟩ := own_slice2 hst.own
      obtain ⟨e0', e1, e2, -, r0, r1', r2', g0, g1, g2, hown, hbel, -, hro⟩ := hst
      have HOW := Lib.hid hown
      have HBE := Lib.hid (HB1.out.trans (hbel.mono (by omega)))
      clear hown hbel
      go_wp2
      refine bodyPost_ret (v := .agg #[.int .i64 L, .int .i64 S, .slice a' k c']) ?_ rfl ⟨a', c', rfl, ?_, HBE.out.trans (by (repeat' (first | with_reducible exact Below.refl _ _ | (with_reducible refine below_later_of ?_ ?_ _) | (with_reducible refine Below.alloc ?_ ?_ _) | (with_reducible refine Below.setCell ?_ ?_ _) | (with_reducible refine Below.drew ?_) | (simp; done) | (simp; omega) | omega)))⟩
      · first | (simp [results, Tryz.results53, go_sem, r0, r1', r2']; done) | simp [results, Tryz.results53, go_sem, r0, r1', r2', ↓IntWalk.iteOmega]
      · have h0 := siR_own (l := (List.range k).map P) (by rw [List.map_map]; exact HOW.out) (by simp) (by omega)
        refine OwnIV.mono (OwnIV.set (OwnIV.set (OwnIV.set h0 ?_ _) ?_ _) ?_ _) ?_
        all_goals first | omega | (simp <;> omega)
end Go.Proofs.YtfiioadmpjmmgaaGreatDoor
