/- Chapter 4: the reference's ModelPhases. -/
import Derived.Test.YtfiioadmpjmmgaaGreatDoorX74
namespace Go.Proofs.YtfiioadmpjmmgaaGreatDoor
set_option linter.unusedVariables false
set_option linter.unusedSimpArgs false
open Go.RowKit Ieee Ntt
theorem largeM_hit {x : Mdl} {ds : List Nat} {C i : Nat} (hi : i < ds.length) (h : inM (modP x ds C i) = false) : largeM x ds C = true := by
  unfold largeM
  have hl : (modL x ds C).length = ds.length := by simp [modL]
  exact anyM_hit (k := i) (by omega) (by unfold modL; rw [intAt_range _ hi]; exact h)
theorem largeM_no {x : Mdl} {ds : List Nat} {C : Nat} (h : ∀ i, i < ds.length → inM (modP x ds C i) = true) : largeM x ds C = false := by
  unfold largeM
  have hl : (modL x ds C).length = ds.length := by simp [modL]
  exact anyM_no fun k hk => by unfold modL; rw [intAt_range _ (by omega)]; exact h k (by omega)
set_option maxRecDepth 20000 in
set_option maxHeartbeats 8000000 in
theorem mpR_det (x : Mdl) (R C : Int) (ds : List Nat) (v : Value) (w : World) (hv : FlV w v ds) {e0 : Int} (he : modE x R C ds = e0) :
    Calls Tryz.prog 45 #[.agg #[.int .i64 x.a, .int .i64 x.b, .int .i64 x.c, .int .i64 x.d], .agg #[.int .i64 R, .int .i64 C, v]] w fun e w' => ∃ r c k q cc, e = .returned (.tuple #[.agg #[.int .i64 r, .int .i64 c, .slice q k cc], .int .i64 e0]) ∧ MkSay w' w.heap.size R C ds.length (modL x ds C.toNat) e0 r c k q cc ∧ Below w.heap.size w w' := by
  obtain ⟨i0, hi0, hz0, hz1, hz2⟩ := info_parts info3
  obtain ⟨i1, z1, hz1'⟩ : ∃ i1 z1, fmE R C ds = (i1, z1) := ⟨_, _, rfl⟩
  have HFE := Lib.hid (show ∀ W, Below w.heap.size w W → _ from fun W hW => rCheckFl R C ds v W (hv.below hW) hz1')
  have HV := Lib.hid hv
  obtain ⟨-, a, cap, rfl, h4⟩ := hv
  have HE := Lib.hid he
  have HX := Lib.hid (fun j (hj : j < 4) (h : inM (x.at j) = false) => mdl_bad hj h)
  have HZ1 := Lib.hid (show (fmE R C ds).2 = z1 by rw [hz1'])
  clear he h4 hz1'
  go_enter Tryz.func45, Tryz.ntmps45
  go_wp2
  go_loop [7] (fun i => ∃ k : Nat, k ≤ 4 ∧ i = .int .i64 k ∧ ∀ j, j < k → inM (x.at j) = true) (fun i => 4 - (intOf i).toNat)
  case atStart => exact ⟨0, by decide, rfl, fun j hj => absurd hj (Nat.not_lt_zero _)⟩
  case round =>
    obtain ⟨k, hk, rfl, hz⟩ := hrel
    by_cases hlt : k < 4
    · obtain ⟨q, hq⟩ : ∃ q, inM (x.at k) = q := ⟨_, rfl⟩
      cases q
      · have hE : (2 : Int) = e0 := by rw [← HE.out]; unfold modE; rw [HX.out k hlt hq]; rfl
        subst hE
        rcases (show k = 0 ∨ k = 1 ∨ k = 2 ∨ k = 3 by omega) with rfl | rfl | rfl | rfl
        · have HW := Lib.hid (show inE (-100000000) 100000000 x.a = false from hq)
          clear hz hq HE
          go_wp2_with (first | (go_at_call 47; (with_reducible refine (bWithin _ _ _ _ HW.out).mono ?_); rintro e w' ⟨rfl, rfl⟩))
          refine bodyPost_ret (v := .tuple #[.agg #[.int .i64 0, .int .i64 0, .slice none 0 0], .int .i64 2]) ?_ rfl ⟨0, 0, 0, none, 0, rfl, ⟨fun h => absurd h (by decide), fun _ => ⟨rfl, rfl, rfl⟩⟩, (by (repeat' (first | with_reducible exact Below.refl _ _ | (with_reducible refine below_later_of ?_ ?_ _) | (with_reducible refine Below.alloc ?_ ?_ _) | (with_reducible refine Below.setCell ?_ ?_ _) | (with_reducible refine Below.drew ?_) | (simp; done) | (simp; omega) | omega)))⟩
          first | (simp [results, Tryz.results45, go_sem]; done) | simp [results, Tryz.results45, go_sem, ↓IntWalk.iteOmega]
        · have HW := Lib.hid (show inE (-100000000) 100000000 x.b = false from hq)
          clear hz hq HE
          go_wp2_with (first | (go_at_call 47; (with_reducible refine (bWithin _ _ _ _ HW.out).mono ?_); rintro e w' ⟨rfl, rfl⟩))
          refine bodyPost_ret (v := .tuple #[.agg #[.int .i64 0, .int .i64 0, .slice none 0 0], .int .i64 2]) ?_ rfl ⟨0, 0, 0, none, 0, rfl, ⟨fun h => absurd h (by decide), fun _ => ⟨rfl, rfl, rfl⟩⟩, (by (repeat' (first | with_reducible exact Below.refl _ _ | (with_reducible refine below_later_of ?_ ?_ _) | (with_reducible refine Below.alloc ?_ ?_ _) | (with_reducible refine Below.setCell ?_ ?_ _) | (with_reducible refine Below.drew ?_) | (simp; done) | (simp; omega) | omega)))⟩
          first | (simp [results, Tryz.results45, go_sem]; done) | simp [results, Tryz.results45, go_sem, ↓IntWalk.iteOmega]
        · have HW := Lib.hid (show inE (-100000000) 100000000 x.c = false from hq)
          clear hz hq HE
          go_wp2_with (first | (go_at_call 47; (with_reducible refine (bWithin _ _ _ _ HW.out).mono ?_); rintro e w' ⟨rfl, rfl⟩))
          refine bodyPost_ret (v := .tuple #[.agg #[.int .i64 0, .int .i64 0, .slice none 0 0], .int .i64 2]) ?_ rfl ⟨0, 0, 0, none, 0, rfl, ⟨fun h => absurd h (by decide), fun _ => ⟨rfl, rfl, rfl⟩⟩, (by (repeat' (first | with_reducible exact Below.refl _ _ | (with_reducible refine below_later_of ?_ ?_ _) | (with_reducible refine Below.alloc ?_ ?_ _) | (with_reducible refine Below.setCell ?_ ?_ _) | (with_reducible refine Below.drew ?_) | (simp; done) | (simp; omega) | omega)))⟩
          first | (simp [results, Tryz.results45, go_sem]; done) | simp [results, Tryz.results45, go_sem, ↓IntWalk.iteOmega]
        · have HW := Lib.hid (show inE (-100000000) 100000000 x.d = false from hq)
          clear hz hq HE
          go_wp2_with (first | (go_at_call 47; (with_reducible refine (bWithin _ _ _ _ HW.out).mono ?_); rintro e w' ⟨rfl, rfl⟩))
          refine bodyPost_ret (v := .tuple #[.agg #[.int .i64 0, .int .i64 0, .slice none 0 0], .int .i64 2]) ?_ rfl ⟨0, 0, 0, none, 0, rfl, ⟨fun h => absurd h (by decide), fun _ => ⟨rfl, rfl, rfl⟩⟩, (by (repeat' (first | with_reducible exact Below.refl _ _ | (with_reducible refine below_later_of ?_ ?_ _) | (with_reducible refine Below.alloc ?_ ?_ _) | (with_reducible refine Below.setCell ?_ ?_ _) | (with_reducible refine Below.drew ?_) | (simp; done) | (simp; omega) | omega)))⟩
          first | (simp [results, Tryz.results45, go_sem]; done) | simp [results, Tryz.results45, go_sem, ↓IntWalk.iteOmega]
      · have HK2 := Lib.hid (show ∀ j, j < k + 1 → inM (x.at j) = true from fun j hj => by
          rcases Nat.lt_succ_iff_lt_or_eq.1 hj with h | rfl
          · exact hz j h
          · exact hq)
        rcases (show k = 0 ∨ k = 1 ∨ k = 2 ∨ k = 3 by omega) with rfl | rfl | rfl | rfl
        · have HW := Lib.hid (show inE (-100000000) 100000000 x.a = true from hq)
          clear hz hq
          go_wp2_with (first | (go_at_call 47; (with_reducible refine (bWithin _ _ _ _ HW.out).mono ?_); rintro e w' ⟨rfl, rfl⟩))
          go_round
          case rel => exact ⟨_, hlt, by go_num, HK2.out⟩
          case measure => simp [intOf]
        · have HW := Lib.hid (show inE (-100000000) 100000000 x.b = true from hq)
          clear hz hq
          go_wp2_with (first | (go_at_call 47; (with_reducible refine (bWithin _ _ _ _ HW.out).mono ?_); rintro e w' ⟨rfl, rfl⟩))
          go_round
          case rel => exact ⟨_, hlt, by go_num, HK2.out⟩
          case measure => simp [intOf]
        · have HW := Lib.hid (show inE (-100000000) 100000000 x.c = true from hq)
          clear hz hq
          go_wp2_with (first | (go_at_call 47; (with_reducible refine (bWithin _ _ _ _ HW.out).mono ?_); rintro e w' ⟨rfl, rfl⟩))
          go_round
          case rel => exact ⟨_, hlt, by go_num, HK2.out⟩
          case measure => simp [intOf]
        · have HW := Lib.hid (show inE (-100000000) 100000000 x.d = true from hq)
          clear hz hq
          go_wp2_with (first | (go_at_call 47; (with_reducible refine (bWithin _ _ _ _ HW.out).mono ?_); rintro e w' ⟨rfl, rfl⟩))
          go_round
          case rel => exact ⟨_, hlt, by go_num, HK2.out⟩
          case measure => simp [intOf]
    · obtain rfl : k = 4 := by omega
      have hok := mdl_ok hz
      clear hz hlt
      by_cases h1 : z1 = 0
      · subst h1
        obtain ⟨g1, g2⟩ := fmE_zero HZ1.out
        obtain ⟨⟨r1, r2⟩, ⟨c1', c2'⟩, hnd⟩ := sizeE_okU g1
        obtain ⟨Rn, rfl⟩ : ∃ m : Nat, R = m := ⟨R.toNat, by omega⟩
        obtain ⟨Cn, rfl⟩ : ∃ m : Nat, C = m := ⟨C.toNat, by omega⟩
        have hnn : ds.length = Rn * Cn := by exact_mod_cast hnd
        have hpos : 0 < ds.length := by rw [hnn]; exact Nat.mul_pos (by omega) (by omega)
        have hl5 : ds.length ≤ 5000 := by have := Nat.mul_le_mul (show Rn ≤ 64 by omega) (show Cn ≤ 64 by omega); omega
        obtain ⟨-, _, _, hve, h4⟩ := HV.out
        cases hve
        obtain ⟨b, off, rfl, hbw, hci⟩ := h4 hpos
        have HCI := Lib.hid hci
        have HFC := Lib.hid g2
        have HNN := Lib.hid hnn
        have HOK := Lib.hid hok
        have HML := Lib.hid (show modL x ds (Cn : Int).toNat = (List.range ds.length).map (modP x ds Cn) by rw [Int.toNat_natCast]; rfl)
        have HEL := Lib.hid (show (if largeM x ds Cn then 8 else 0 : Int) = e0 by
          rw [← HE.out]
          unfold modE
          rw [hok, HZ1.out, Int.toNat_natCast]
          rfl)
        obtain ⟨F, hF⟩ : ∃ F, modP x ds Cn = F := ⟨_, rfl⟩
        have HFF := Lib.hid hF
        rw [hF] at HML
        clear h4 hci hnn hnd g1 g2 hok HV HE hF
        go_wp2_with (first | (go_at_call 110; (with_reducible refine (HFE.out _ (by (repeat' (first | with_reducible exact Below.refl _ _ | (with_reducible refine below_later_of ?_ ?_ _) | (with_reducible refine Below.alloc ?_ ?_ _) | (with_reducible refine Below.setCell ?_ ?_ _) | (with_reducible refine Below.drew ?_) | (simp; done) | (simp; omega) | omega)))).mono ?_); rintro e w' ⟨rfl, hb⟩; obtain ⟨p1, rfl⟩ := later_of_below hb; clear hb))
        obtain ⟨O, hO⟩ : ∃ O, O = w.heap.size + 1 + 1 + 1 + 1 + p1.os.size := ⟨_, rfl⟩
        refine any_worldF (fun W => ∃ W1, Below w.heap.size w W1 ∧ (W1.cell? ⟨w.heap.size, 0, none⟩ = some (.int .i64 x.a) ∧ W1.cell? ⟨w.heap.size, 1, none⟩ = some (.int .i64 x.b) ∧ W1.cell? ⟨w.heap.size, 2, none⟩ = some (.int .i64 x.c) ∧ W1.cell? ⟨w.heap.size, 3, none⟩ = some (.int .i64 x.d)) ∧ (W1.cell? ⟨w.heap.size + 1, 0, none⟩ = some (.int .i64 Rn) ∧ W1.cell? ⟨w.heap.size + 1, 1, none⟩ = some (.int .i64 Cn) ∧ W1.cell? ⟨w.heap.size + 1, 2, none⟩ = some (.slice (some ⟨b, off, none⟩) ds.length cap)) ∧ TriN W1 (w.heap.size + 2) O Rn Cn 3 1 (.slice none 0 0) 0 (inC F 0) W)
          ⟨(w.alloc (.cells #[.int .i64 x.a, .int .i64 x.b, .int .i64 x.c, .int .i64 x.d] 77)).alloc (.cells #[.int .i64 Rn, .int .i64 Cn, .slice (some ⟨b, off, none⟩) ds.length cap] 63), (by (repeat' (first | with_reducible exact Below.refl _ _ | (with_reducible refine below_later_of ?_ ?_ _) | (with_reducible refine Below.alloc ?_ ?_ _) | (with_reducible refine Below.setCell ?_ ?_ _) | (with_reducible refine Below.drew ?_) | (simp; done) | (simp; omega) | omega))), ⟨by simp [go_sem], by simp [go_sem], by simp [go_sem], by simp [go_sem]⟩, ⟨by simp [go_sem], by simp [go_sem], by simp [go_sem]⟩, by rw [hO]; (first | (simp [go_sem]; done) | simp [go_sem, ↓IntWalk.iteOmega]), by rw [hO]; (first | (simp [go_sem]; done) | simp [go_sem, ↓IntWalk.iteOmega]), by rw [hO]; (first | (simp [go_sem]; done) | simp [go_sem, ↓IntWalk.iteOmega]), by rw [hO]; (first | (simp [go_sem]; done) | simp [go_sem, ↓IntWalk.iteOmega]), by (first | (simp [go_sem]; done) | simp [go_sem, ↓IntWalk.iteOmega]), by (first | (simp [go_sem]; done) | simp [go_sem, ↓IntWalk.iteOmega]), by (first | (simp [go_sem]; done) | simp [go_sem, ↓IntWalk.iteOmega]), by (first | (simp [go_sem]; done) | simp [go_sem, ↓IntWalk.iteOmega]), by (first | (simp [go_sem]; done) | simp [go_sem, ↓IntWalk.iteOmega]), by (first | (simp [go_sem]; done) | simp [go_sem, ↓IntWalk.iteOmega]), World.ownsRow_nil _ _ _ _, (by (repeat' (first | with_reducible exact Below.refl _ _ | (with_reducible refine below_later_of ?_ ?_ _) | (with_reducible refine Below.alloc ?_ ?_ _) | (with_reducible refine Below.setCell ?_ ?_ _) | (with_reducible refine Below.drew ?_) | (simp; done) | (simp; omega) | omega))), by rw [hO]; simp, by omega⟩ ?_
        rintro W2 ⟨W1, hb1, ⟨qa, qb, qc, qd⟩, ⟨q0, q1, q2⟩, hst⟩
        simp only [← hO]
        have hwO : w.heap.size + 3 < O := by omega
        have HST := Lib.hid hst
        have HB1 := Lib.hid hb1
        have QA := Lib.hid qa
        have QB := Lib.hid qb
        have QC := Lib.hid qc
        have QD := Lib.hid qd
        have Q0 := Lib.hid q0
        have Q1 := Lib.hid q1
        have Q2 := Lib.hid q2
        clear hst hb1 q0 q1 q2 qa qb qc qd hO
        go_loopw [11] (fun ii wr => ∃ (l : Nat) (v : Value), l ≤ Rn ∧ ii = .int .i64 l ∧ TriN W1 (w.heap.size + 2) O Rn Cn 3 1 v (l * Cn) (inC F (l * Cn)) wr ∧ ∀ j, j < l * Cn → inM (F j) = true) (fun ii _ => Rn - (intOf ii).toNat)
        case atStart => exact ⟨0, _, Nat.zero_le _, rfl, by rw [Nat.zero_mul]; exact HST.out, fun j hj => by rw [Nat.zero_mul] at hj; omega⟩
        case round =>
          obtain ⟨l, v, hl, rfl, hst, hno⟩ := hrel
          have HS1 := Lib.hid hst
          have HNO := Lib.hid hno
          have k0 := (hst.bel.cell (p := ⟨w.heap.size + 1, 0, none⟩) (show w.heap.size + 1 < w.heap.size + 2 by omega)).trans Q0.out
          have k1 := (hst.bel.cell (p := ⟨w.heap.size + 1, 1, none⟩) (show w.heap.size + 1 < w.heap.size + 2 by omega)).trans Q1.out
          have hlw := hst.bel.size
          clear hno
          by_cases hlt : l < Rn
          · have hdl : decide ((l : Int) < (Rn : Int)) = true := by simp; omega
            clear hst
            go_wp2
            go_loopw [12] (fun ii wr => ∃ (s : Nat) (v : Value), s ≤ Cn ∧ ii = .int .i64 s ∧ TriN W1 (w.heap.size + 2) O Rn Cn 3 1 v (l * Cn + s) (inC F (l * Cn + s)) wr ∧ ∀ j, j < l * Cn + s → inM (F j) = true) (fun ii _ => Cn - (intOf ii).toNat)
            case atStart => exact ⟨0, v, Nat.zero_le _, rfl, HS1.out, HNO.out⟩
            case round =>
              clear k0 k1 hlw
              obtain ⟨s, v, hs, rfl, hst, hno⟩ := hrel
              have HS2 := Lib.hid hst
              have HNO2 := Lib.hid hno
              have k0 := (hst.bel.cell (p := ⟨w.heap.size + 1, 0, none⟩) (show w.heap.size + 1 < w.heap.size + 2 by omega)).trans Q0.out
              have k1 := (hst.bel.cell (p := ⟨w.heap.size + 1, 1, none⟩) (show w.heap.size + 1 < w.heap.size + 2 by omega)).trans Q1.out
              have k2 := (hst.bel.cell (p := ⟨w.heap.size + 1, 2, none⟩) (show w.heap.size + 1 < w.heap.size + 2 by omega)).trans Q2.out
              have ka := (hst.bel.cell (p := ⟨w.heap.size, 0, none⟩) (show w.heap.size < w.heap.size + 2 by omega)).trans QA.out
              have kb := (hst.bel.cell (p := ⟨w.heap.size, 1, none⟩) (show w.heap.size < w.heap.size + 2 by omega)).trans QB.out
              have kc := (hst.bel.cell (p := ⟨w.heap.size, 2, none⟩) (show w.heap.size < w.heap.size + 2 by omega)).trans QC.out
              have kd := (hst.bel.cell (p := ⟨w.heap.size, 3, none⟩) (show w.heap.size < w.heap.size + 2 by omega)).trans QD.out
              have hbw2 := HB1.out.trans (hst.bel.mono (show w.heap.size ≤ w.heap.size + 2 by omega))
              have hlw := hbw2.size
              have hltO := hst.lt
              clear hno
              by_cases hst2 : s < Cn
              · have hds : decide ((s : Int) < (Cn : Int)) = true := by simp; omega
                obtain ⟨i, hi⟩ : ∃ i, l * Cn + s = i := ⟨_, rfl⟩
                have hin : i < ds.length := by
                  have h1 : (l + 1) * Cn ≤ Rn * Cn := Nat.mul_le_mul_right _ hlt
                  rw [Nat.add_mul, Nat.one_mul] at h1
                  have := HNN.out
                  omega
                have e1 : i / Cn = l := by rw [← hi, Nat.mul_comm, Nat.mul_add_div (by omega), Nat.div_eq_of_lt hst2, Nat.add_zero]
                have e2 : i % Cn = s := by rw [← hi, Nat.mul_comm, Nat.mul_add_mod, Nat.mod_eq_of_lt hst2]
                have hfc := HFC.out i hin
                obtain ⟨-, d1, d2⟩ := fc4_zero hfc
                have hbd := modN_bd (x := x) (ds := ds) (C := Cn) (i := i) HOK.out (by omega) (by omega) ⟨d1, d2⟩
                have cw := fun w => conv_fc hfc w
                have hFi : F i = (x.a + (l : Int) * x.b + (s : Int) * x.c + intB (flAt ds i) * x.d + 500) / 1000 := by
                  rw [← HFF.out]
                  unfold modP modN
                  rw [e1, e2]
                rw [e1, e2, Int.mul_comm (l : Int), Int.mul_comm (s : Int), Int.mul_comm (intB (flAt ds i))] at hbd
                rw [Int.mul_comm (l : Int), Int.mul_comm (s : Int), Int.mul_comm (intB (flAt ds i))] at hFi
                obtain ⟨⟨b1, b2⟩, ⟨b3, b4⟩, ⟨b5, b6⟩, b7, b8⟩ := hbd
                have ci := (hbw2.cell (p := ⟨b, off + i, none⟩) hbw).trans (HCI.out i hin)
                have hic : (l : Int) * (Cn : Int) + (s : Int) = (i : Int) := by rw [← hi, Int.natCast_add, Int.natCast_mul]
                have hi1 : (i : Int) < (ds.length : Int) := by omega
                have hi0' : (0 : Int) ≤ (i : Int) := by omega
                have hmm : (0 : Int) ≤ (l : Int) * (Cn : Int) := Int.mul_nonneg (by omega) (by omega)
                have hm2 : (l : Int) * (Cn : Int) ≤ 5000 := by omega
                have hbr : b < wr.heap.size := by omega
                have HI := Lib.hid hi
                rw [hi] at HS2 HNO2 hst
                have hsn := inC_succ F i
                obtain ⟨p, hp⟩ : ∃ p, F i = p := ⟨_, rfl⟩
                have HFI := Lib.hid hp
                have hpm : (x.a + x.b * (l : Int) + x.c * (s : Int) + x.d * intB (flAt ds i) + 500) / 1000 = p := by rw [← hFi, hp]
                rw [hp] at hsn
                clear hFi hp e1 e2 hi hfc
                generalize intB (flAt ds i) = z at *
                generalize flAt ds i = zb at *
                obtain ⟨N, hN⟩ : ∃ N, x.a + x.b * (l : Int) + x.c * (s : Int) + x.d * z = N := ⟨_, rfl⟩
                rw [hN] at hpm
                have hN1 : -20000000000000 ≤ N ∧ N ≤ 20000000000000 := by omega
                obtain ⟨n1, n2⟩ := hN1
                have HFL := Lib.hid (fun w => bFloorN (N + 500) 1000 w (by omega) (by omega) (by decide) (by decide) hpm)
                obtain ⟨c, hc⟩ : ∃ c, inM p = c := ⟨_, rfl⟩
                have HW := Lib.hid (show inE (-100000000) 100000000 p = c from hc)
                have r0 := hst.r0
                have r1' := hst.r1
                have r2' := hst.r2
                have g0 := hst.g0
                have g1 := hst.g1
                have g2 := hst.g2
                generalize x.a = xa at *
                generalize x.b = xb at *
                generalize x.c = xc at *
                generalize x.d = xd at *
                cases c
                · have HLG := Lib.hid (largeM_hit (x := x) (C := Cn) hin (by rw [HFF.out, HFI.out]; exact hc))
                  have hE8 : (8 : Int) = e0 := by have := HEL.out; rw [HLG.out] at this; exact this
                  subst hE8
                  have HBB := Lib.hid hbw2
                  clear hst hbw2 hc hsn
                  go_wp2
                  refine wp_region_calm (by kernel_rfl) (by kernel_rfl) ?_
                  repeat (go_big_quiet_step (fail))
                  refine wpQuiet_nil ?_
                  rintro _ ⟨pq, rfl⟩
                  go_wp2_with (first | (go_at_call 111; (with_reducible refine (HFL.out _).mono ?_); rintro e w' ⟨rfl, rfl⟩) | (go_at_call 47; (with_reducible refine (bWithin _ _ _ _ HW.out).mono ?_); rintro e w' ⟨rfl, rfl⟩))
                  refine bodyPost_ret (v := .tuple #[.agg #[.int .i64 0, .int .i64 0, .slice none 0 0], .int .i64 8]) ?_ rfl ⟨0, 0, 0, none, 0, rfl, ⟨fun h => absurd h (by decide), fun _ => ⟨rfl, rfl, rfl⟩⟩, (by (repeat' (first | exact HBB.out | with_reducible exact Below.refl _ _ | (with_reducible refine below_later_of ?_ ?_ _) | (with_reducible refine Below.alloc ?_ ?_ _) | (with_reducible refine Below.setCell ?_ ?_ _) | (with_reducible refine Below.drew ?_) | (simp; done) | (simp; omega) | omega)))⟩
                  first | (simp [results, Tryz.results45, go_sem, r0, r1', r2']; done) | simp [results, Tryz.results45, go_sem, r0, r1', r2', ↓IntWalk.iteOmega]
                · have HNX := Lib.hid (show ∀ j, j < i + 1 → inM (F j) = true from fun j hj => by
                    rcases Nat.lt_succ_iff_lt_or_eq.1 hj with h | rfl
                    · exact HNO2.out j h
                    · rw [HFI.out]; exact hc)
                  have HPN := Lib.hid hsn
                  clear hst hbw2 hc hsn r0 r1' r2' g0 g1 g2
                  go_wp2
                  refine wp_region_calm (by kernel_rfl) (by kernel_rfl) ?_
                  repeat (go_big_quiet_step (fail))
                  refine wpQuiet_nil ?_
                  rintro _ ⟨pq, rfl⟩
                  have hst5 := HS2.out.below (below_later wr pq)
                  have HS5 := Lib.hid hst5
                  have c2 := hst5.c2
                  have f2 := hst5.f2
                  have hlt5 := hst5.lt
                  clear hst5
                  go_wp2_with (first | (go_at_call 111; (with_reducible refine (HFL.out _).mono ?_); rintro e w' ⟨rfl, rfl⟩) | (go_at_call 47; (with_reducible refine (bWithin _ _ _ _ HW.out).mono ?_); rintro e w' ⟨rfl, rfl⟩) | (at_builtin; refine wpList_append_own _ rfl _ _ 22 rfl (O + 1) 3 i0 (.int .i64 0) 1 8 Tryz.underlying22 hi0 hz0 hz1 hz2 rfl (by decide) _ _ _ rfl (HS5.out.own.alloc _) ⟨_, 0, none⟩ 1 1 [.int .i64 p] rfl rfl ?d1 ?d2 ?d3 ?d4 ?d5 ?_))
                  case d1 => exact (by intro j u hj; rcases j with _ | j; (focus (simp at hj; subst hj; (first | (simp [Addr.add, go_sem]; done) | simp [Addr.add, go_sem, ↓IntWalk.iteOmega]))); (focus (simp at hj)))
                  case d2 => intro u hu; simp at hu; subst hu; rfl
                  case d3 => unfold maxLen; omega
                  case d4 => omega
                  case d5 => first | omega | (simp; omega)
                  intro v' w1 hown' hgrow _
                  obtain ⟨va, vc, rfl⟩ := own_slice2 hown'
                  have HN2 := Lib.hid (HS5.out.put hown' hgrow)
                  obtain ⟨hcb, hfb⟩ := HS5.out.still hgrow
                  clear hown' hgrow
                  go_wp2
                  go_roundw
                  case rel => exact ⟨s + 1, _, by omega, by go_num, by rw [← Nat.add_assoc, HI.out, HPN.out]; exact HN2.out, by rw [← Nat.add_assoc, HI.out]; exact HNX.out⟩
                  case measure => simp [intOf]; omega
              · obtain rfl : s = Cn := by omega
                have hds : decide ((s : Int) < (s : Int)) = false := by simp
                clear hst hbw2
                go_wp2
                go_roundw
                case rel => exact ⟨l + 1, v, by omega, by go_num, by rw [Nat.add_mul, Nat.one_mul]; exact HS2.out, by rw [Nat.add_mul, Nat.one_mul]; exact HNO2.out⟩
                case measure => simp [intOf]; omega
          · obtain rfl : l = Rn := by omega
            have hdl : decide ((l : Int) < (l : Int)) = false := by simp
            have HLG := Lib.hid (largeM_no (x := x) (ds := ds) (C := Cn) (by rw [HNN.out, HFF.out]; exact HNO.out))
            have hE0 : (0 : Int) = e0 := by have := HEL.out; rw [HLG.out] at this; exact this
            subst hE0
            rw [← HNN.out] at hst
            obtain ⟨a', c', rfl⟩ := own_slice2 hst.own
            obtain ⟨e0', e1, e2, -, r0, r1', r2', g0, g1, g2, hown, hbel, -, hro⟩ := hst
            have HOW := Lib.hid hown
            have HBE := Lib.hid (HB1.out.trans (hbel.mono (by omega)))
            rw [← HNN.out] at HS1
            clear hown hbel
            go_wp2
            refine bodyPost_ret (v := .tuple #[.agg #[.int .i64 l, .int .i64 Cn, .slice a' ds.length c'], .int .i64 0]) ?_ rfl ⟨l, Cn, ds.length, a', c', rfl, ⟨fun _ => ⟨rfl, rfl, rfl, ?_⟩, fun h => absurd rfl h⟩, HBE.out.trans (by (repeat' (first | with_reducible exact Below.refl _ _ | (with_reducible refine below_later_of ?_ ?_ _) | (with_reducible refine Below.alloc ?_ ?_ _) | (with_reducible refine Below.setCell ?_ ?_ _) | (with_reducible refine Below.drew ?_) | (simp; done) | (simp; omega) | omega)))⟩
            · first | (simp [results, Tryz.results45, go_sem, r0, r1', r2']; done) | simp [results, Tryz.results45, go_sem, r0, r1', r2', ↓IntWalk.iteOmega]
            · rw [HML.out]
              have h0 := siR_own (l := (List.range ds.length).map F) (by rw [List.map_map]; exact HOW.out) (by simp) (by omega)
              refine OwnIV.mono (OwnIV.set (OwnIV.set (OwnIV.set h0 ?_ _) ?_ _) ?_ _) ?_
              all_goals first | omega | (simp <;> omega)
      · have hE : z1 = e0 := by
          rw [← HE.out]
          unfold modE
          rw [hok, HZ1.out, if_pos rfl, if_neg h1]
        subst hE
        have d1 : (z1 != 0) = true := by simpa using h1
        have HNE := Lib.hid h1
        clear h1 hok HE
        go_wp2_with (first | (go_at_call 110; (with_reducible refine (HFE.out _ (by (repeat' (first | with_reducible exact Below.refl _ _ | (with_reducible refine below_later_of ?_ ?_ _) | (with_reducible refine Below.alloc ?_ ?_ _) | (with_reducible refine Below.setCell ?_ ?_ _) | (with_reducible refine Below.drew ?_) | (simp; done) | (simp; omega) | omega)))).mono ?_); rintro e w' ⟨rfl, hb⟩; obtain ⟨p1, rfl⟩ := later_of_below hb; clear hb))
        refine bodyPost_ret (v := .tuple #[.agg #[.int .i64 0, .int .i64 0, .slice none 0 0], .int .i64 z1]) ?_ rfl ⟨0, 0, 0, none, 0, rfl, ⟨fun h => absurd h HNE.out, fun _ => ⟨rfl, rfl, rfl⟩⟩, (by (repeat' (first | with_reducible exact Below.refl _ _ | (with_reducible refine below_later_of ?_ ?_ _) | (with_reducible refine Below.alloc ?_ ?_ _) | (with_reducible refine Below.setCell ?_ ?_ _) | (with_reducible refine Below.drew ?_) | (simp; done) | (simp; omega) | omega)))⟩
        first | (simp [results, Tryz.results45, go_sem]; done) | simp [results, Tryz.results45, go_sem, ↓IntWalk.iteOmega]
end Go.Proofs.YtfiioadmpjmmgaaGreatDoor
