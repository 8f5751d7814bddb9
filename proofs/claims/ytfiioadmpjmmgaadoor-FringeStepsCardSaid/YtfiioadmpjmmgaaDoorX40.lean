/- Chapter 4: CommonStep, the program's. -/
import Derived.Test.YtfiioadmpjmmgaaDoorX39
import Derived.Test.YtfiioadmpjmmgaaDoorX6
import Derived.Test.YtfiioadmpjmmgaaDoorX31
import Derived.WalkKit
namespace Go.Proofs.YtfiioadmpjmmgaaDoor
set_option linter.unusedVariables false
set_option linter.unusedSimpArgs false
open Go.RowKit Ntt Go.Maps
theorem lawI : Keyed Tryd.prog 3 := int_keyed Tryd.underlying3
theorem zeroI (w : World) : (zeroValue 3).run Tryd.prog w = .ok (.int .i64 0) w := by kernel_rfl
/-- What CommonStep says of a list of steps. -/
def comP (l : List Int) : Int × Int := if l = [] then (0, 12) else ((foldB l l.length).1, 0)
set_option maxHeartbeats 1000000 in
theorem common_bad (R C : Int) (d : Bool) (zs : List Int) (v : Value) (w : World) (hl : zs.length ≤ 100000) (hv : IntsV w v zs) {e0 : Int} (he : (mapE R C zs).2 = e0) (hne : e0 ≠ 0) :
    Calls Tryd.prog 29 #[.agg #[.int .i64 R, .int .i64 C, v], .bool d] w fun e w' => e = .returned (.tuple #[.int .i64 0, .int .i64 e0]) ∧ Below w.heap.size w w' := by
  have HIE := Lib.hid (show ∀ W, Below w.heap.size w W → _ from fun W hW => mapErr_any R C zs v W hl (hv.below hW) he)
  obtain ⟨-, a, cap, rfl, -⟩ := hv
  have hb : (e0 != 0) = true := by simpa using hne
  clear he hne
  go_enter Tryd.func29, Tryd.ntmps29
  go_wp2_with (first | (go_at_call 54; (with_reducible refine (HIE.out _ (by (repeat' (first | with_reducible exact Below.refl _ _ | (with_reducible refine below_later_of ?_ ?_ _) | (with_reducible refine Below.alloc ?_ ?_ _) | (with_reducible refine Below.setCell ?_ ?_ _) | (with_reducible refine Below.drew ?_) | (simp; done) | (simp; omega) | omega)))).mono ?_); rintro e w' ⟨rfl, hb⟩; obtain ⟨pe, rfl⟩ := later_of_below hb; clear hb))
  go_ret2
  exact ⟨rfl, (by (repeat' (first | with_reducible exact Below.refl _ _ | (with_reducible refine below_later_of ?_ ?_ _) | (with_reducible refine Below.alloc ?_ ?_ _) | (with_reducible refine Below.setCell ?_ ?_ _) | (with_reducible refine Below.drew ?_) | (simp; done) | (simp; omega) | omega)))⟩
abbrev OwnM (w : World) (B n : Nat) (D : DataW Unit) : Prop := w.ownsMap Tryd.prog 3 (plainElem Tryd.prog 3) B n D
theorem wfI64 {n : Int} (h : (Lit.int .i64 n).wf = true) : -9223372036854775808 ≤ n ∧ n ≤ 9223372036854775807 := by
  unfold Lit.wf at h
  simp only [Bool.and_eq_true, decide_eq_true_eq] at h
  exact ⟨h.1, h.2⟩
theorem cell_made (W : World) (p : Addr) (hp : p.block < W.heap.size) : (W.alloc (.map #[] 0)).cell? p = W.cell? p := ((Below.refl _ _).alloc (Nat.le_refl _) _).cell hp
theorem made_at (W : World) (B : Nat) (h : B = W.heap.size) : OwnM (W.alloc (.map #[] 0)) B 0 (.map []) := by subst h; exact World.ownsMap_made _ _ _ _
set_option maxRecDepth 20000 in
set_option maxHeartbeats 4000000 in
theorem common_ok (R C : Nat) (d : Bool) (zs : List Int) (v : Value) (w : World) (hm : MapOk R C zs) (hv : IntsV w v zs) {b0 e0 : Int} (he : comP (allS (zAt C (intAt zs)) R C d (colsN C d) (rowsN R d)) = (b0, e0)) :
    Calls Tryd.prog 29 #[.agg #[.int .i64 R, .int .i64 C, v], .bool d] w fun e w' => e = .returned (.tuple #[.int .i64 b0, .int .i64 e0]) ∧ Below w.heap.size w w' := by
  have hsz := hm.size
  have HIE := Lib.hid (show ∀ W, Below w.heap.size w W → _ from fun W hW => mapErr_any R C zs v W (by omega) (hv.below hW) (e0 := 0) (by rw [hm.err]))
  have HST := Lib.hid (show ∀ W (r c : Nat), Below w.heap.size w W → toR r d < R → toC c d < C → Calls Tryd.prog 60 #[.agg #[.int .i64 R, .int .i64 C, v], .int .i64 r, .int .i64 c, .bool d] W fun e w' => e = .returned (.tuple #[.int .i64 (stS (zAt C (intAt zs)) d r c), .bool (nvB (zAt C (intAt zs) r c) && nvB (zAt C (intAt zs) (toR r d) (toC c d)))]) ∧ Below W.heap.size W w' from fun W r c hW hr hc => fStep R C r c d zs v W hm (hv.below hW) hr hc rfl rfl)
  obtain ⟨-, a, cap, rfl, -⟩ := hv
  have hmm := @run_makeMap Tryd.prog
  have c1 := hm.c1
  have c2 := hm.c2
  have r1 := hm.r1
  have r2 := hm.r2
  generalize zAt C (intAt zs) = z at *
  generalize zs.length = n0 at *
  clear hm hsz
  cases d
  · have hrN : rowsN R false = R := rfl
    obtain ⟨rN, hrn⟩ : ∃ rN, rowsN R false = rN := ⟨_, rfl⟩
    obtain ⟨cN, hcn⟩ : ∃ cN, colsN C false = cN := ⟨_, rfl⟩
    have hcN : cN = C - 1 := hcn.symm
    rw [hrn, hcn] at he
    rw [hrn] at hrN
    have HE := Lib.hid he
    have HTO := Lib.hid (show ∀ r c : Nat, r < rN → c < cN → toR r false < R ∧ toC c false < C from fun r c h1 h2 => by simp only [toR, toC, Bool.false_eq_true, if_false]; omega)
    have HDR := Lib.hid (show ∀ r : Nat, r < rN → decide ((r : Int) < (R : Int)) = true ∧ decide (r < R) = true from fun r h => ⟨by simp; omega, by simp; omega⟩)
    have HDS := Lib.hid (show decide ((rN : Int) < (R : Int)) = false ∧ decide (rN < R) = false from ⟨by simp; omega, by simp; omega⟩)
    have HDC := Lib.hid (show ∀ c : Nat, c < cN → decide ((c : Int) < (C : Int) - 1) = true ∧ decide (c < C) = true from fun r h => ⟨by simp; omega, by simp; omega⟩)
    have HDT := Lib.hid (show decide ((cN : Int) < (C : Int) - 1) = false ∧ True from ⟨by simp; omega, trivial⟩)
    have hrb : rN ≤ 64 := by omega
    have hcb : cN ≤ 64 := by omega
    clear he hrN hrn hcn hcN
    go_enter Tryd.func29, Tryd.ntmps29
    go_wp2_with (first | (go_at_call 54; (with_reducible refine (HIE.out _ (by (repeat' (first | with_reducible exact Below.refl _ _ | (with_reducible refine below_later_of ?_ ?_ _) | (with_reducible refine Below.alloc ?_ ?_ _) | (with_reducible refine Below.setCell ?_ ?_ _) | (with_reducible refine Below.drew ?_) | (simp; done) | (simp; omega) | omega)))).mono ?_); rintro e w' ⟨rfl, hb⟩; obtain ⟨pe, rfl⟩ := later_of_below hb; clear hb))
    refine wp_region_calm (by kernel_rfl) (by kernel_rfl) ?_
    repeat (go_big_quiet_step (fail))
    refine wpQuiet_nil ?_
    rintro _ ⟨pq, rfl⟩
    go_wp2
    obtain ⟨B, hB⟩ : ∃ B, B = w.heap.size + 1 + pe.os.size + pq.os.size := ⟨_, rfl⟩
    refine any_worldF (fun w' => OwnM w' B 0 (.map []) ∧ (w'.cell? ⟨w.heap.size, 0, none⟩ = some (.int .i64 R) ∧ w'.cell? ⟨w.heap.size, 1, none⟩ = some (.int .i64 C) ∧ w'.cell? ⟨w.heap.size, 2, none⟩ = some (.slice a n0 cap)) ∧ Below w.heap.size w w' ∧ w.heap.size < B ∧ B < w'.heap.size) ⟨made_at _ _ (by rw [hB]; simp), ⟨(cell_made _ _ (by simp; omega)).trans (by (first | (simp [go_sem]; done) | simp [go_sem, ↓IntWalk.iteOmega])), (cell_made _ _ (by simp; omega)).trans (by (first | (simp [go_sem]; done) | simp [go_sem, ↓IntWalk.iteOmega])), (cell_made _ _ (by simp; omega)).trans (by (first | (simp [go_sem]; done) | simp [go_sem, ↓IntWalk.iteOmega]))⟩, (by (repeat' (first | with_reducible exact Below.refl _ _ | (with_reducible refine below_later_of ?_ ?_ _) | (with_reducible refine Below.alloc ?_ ?_ _) | (with_reducible refine Below.setCell ?_ ?_ _) | (with_reducible refine Below.drew ?_) | (simp; done) | (simp; omega) | omega))), by omega, by rw [hB]; simp⟩ ?_
    rintro W1 ⟨hown1, ⟨k0, k1, k2⟩, hb1, hwB, hBW⟩
    simp only [← hB]
    have HB1 := Lib.hid hb1
    have HOW1 := Lib.hid hown1
    clear hb1 hown1 hB hmm
    go_loopw [35] (fun i wr => ∃ r : Nat, r ≤ rN ∧ i = .int .i64 r ∧ (∃ D, OwnM wr B (allS z R C false cN r).length D ∧ CntD D (allS z R C false cN r)) ∧ Below B W1 wr ∧ B < wr.heap.size) (fun i _ => rN - (intOf i).toNat)
    case atStart => exact ⟨0, Nat.zero_le _, rfl, ⟨_, HOW1.out, cntD_nil⟩, Below.refl _ _, hBW⟩
    case round =>
      obtain ⟨r, hr, rfl, ⟨D, hD, hc⟩, hbz, hBz⟩ := hrel
      have HD := Lib.hid hD
      have HC := Lib.hid hc
      have HBZ := Lib.hid hbz
      clear hD hc hbz
      by_cases hlr : r < rN
      · obtain ⟨hdr, hdr2⟩ := HDR.out r hlr
        obtain ⟨wo, hwo⟩ : ∃ wo : World, wo = wr := ⟨_, rfl⟩
        have HWO := Lib.hid hwo
        clear hwo
        go_wp2
        go_loopw [39] (fun i wz => ∃ c : Nat, c ≤ cN ∧ i = .int .i64 c ∧ (∃ D, OwnM wz B (allS z R C false cN r ++ rowS z R C false r c).length D ∧ CntD D (allS z R C false cN r ++ rowS z R C false r c)) ∧ Below B W1 wz ∧ B < wz.heap.size) (fun i _ => cN - (intOf i).toNat)
        case atStart => exact ⟨0, Nat.zero_le _, rfl, ⟨D, by rw [rowS, List.append_nil]; exact HD.out, by rw [rowS, List.append_nil]; exact HC.out⟩, HBZ.out, hBz⟩
        case round =>
          obtain ⟨c, hc, rfl, ⟨D, hD, hcd⟩, hbz, hBz⟩ := hrel
          have HD := Lib.hid hD
          have HC := Lib.hid hcd
          have HBZ := Lib.hid hbz
          clear hD hcd
          by_cases hlc : c < cN
          · obtain ⟨hdc, hdc2⟩ := HDC.out c hlc
            have HX := Lib.hid (HB1.out.trans (hbz.mono (show w.heap.size ≤ B by omega)))
            have k0 := (hbz.cell (p := ⟨w.heap.size, 0, none⟩) hwB).trans k0
            have k1 := (hbz.cell (p := ⟨w.heap.size, 1, none⟩) hwB).trans k1
            have k2 := (hbz.cell (p := ⟨w.heap.size, 2, none⟩) hwB).trans k2
            clear hbz
            have hok : okS z R C false r c = (nvB (z r c) && nvB (z (toR r false) (toC c false))) := by
              unfold okS
              rw [decide_eq_true (HTO.out r c hlr hlc).1, decide_eq_true (HTO.out r c hlr hlc).2]
              rfl
            have HRS := Lib.hid (show rowS z R C false r (c + 1) = rowS z R C false r c ++ (if (nvB (z r c) && nvB (z (toR r false) (toC c false))) then [stS z false r c] else []) by rw [rowS, hok])
            have HS1 := Lib.hid (fun W hW => HST.out W r c hW (HTO.out r c hlr hlc).1 (HTO.out r c hlr hlc).2)
            have hlen : (allS z R C false cN r ++ rowS z R C false r c).length ≤ 5000 := by
              have h1 := allS_len z R C false cN r
              have h2 := rowS_len z R C false r c
              have h3 : r * cN ≤ 64 * 64 := Nat.mul_le_mul (by omega) hcb
              rw [List.length_append]
              omega
            have hsb : -2048 ≤ stS z false r c ∧ stS z false r c ≤ 2047 := by
              have := wrP_bd (z (toR r false) (toC c false) - z r c)
              unfold stS
              omega
            clear hok
            generalize (nvB (z r c) && nvB (z (toR r false) (toC c false))) = f at HRS HS1
            generalize stS z false r c = st at HRS HS1 hsb
            obtain ⟨l, hl⟩ : ∃ l, allS z R C false cN r ++ rowS z R C false r c = l := ⟨_, rfl⟩
            rw [hl] at HD HC hlen
            cases f
            · have HL := Lib.hid (show allS z R C false cN r ++ rowS z R C false r (c + 1) = l by rw [HRS.out, ← hl]; simp)
              clear HRS hl
              go_wp2_with (first | (go_at_call 60; (with_reducible refine (HS1.out _ HX.out).mono ?_); rintro e w' ⟨rfl, hb⟩; have hown2 := HD.out.kept (row := none) ⟨hb.os, hb.tape, hb.output, hb.size, fun k hk _ => hb.block k hk⟩ (by simp); obtain ⟨p3, rfl⟩ := later_of_below hb; clear hb))
              go_roundw
              case rel => exact ⟨c + 1, by omega, by go_num, ⟨D, by rw [HL.out]; exact hown2, by rw [HL.out]; exact HC.out⟩, HBZ.out.trans (below_mono_of (Nat.le_of_lt hBz) (by (repeat' (first | with_reducible exact Below.refl _ _ | (with_reducible refine below_later_of ?_ ?_ _) | (with_reducible refine Below.alloc ?_ ?_ _) | (with_reducible refine Below.setCell ?_ ?_ _) | (with_reducible refine Below.drew ?_) | (simp; done) | (simp; omega) | omega)))), by simp <;> omega⟩
              case measure => simp [intOf]; omega
            · have HL := Lib.hid (show allS z R C false cN r ++ rowS z R C false r (c + 1) = l ++ [st] by rw [HRS.out, ← hl]; simp)
              clear HRS hl
              have hcl := List.count_le_length (a := st) (l := l)
              obtain ⟨hs1, hs2⟩ := hsb
              have HWF := Lib.hid (show (Lit.int .i64 st).wf = true from WalkArith.wf_i64 (by omega))
              go_wp2_with (first | (go_at_call 60; (with_reducible refine (HS1.out _ HX.out).mono ?_); rintro e w' ⟨rfl, hb⟩; have hown2 := HD.out.kept (row := none) ⟨hb.os, hb.tape, hb.output, hb.size, fun k hk _ => hb.block k hk⟩ (by simp); obtain ⟨p3, rfl⟩ := later_of_below hb; clear hb) | (at_lookup; refine wpList_lookup_own_int _ rfl _ _ 112 rfl 3 3 .i64 lawI Tryd.underlying112 Tryd.underlying3 (zeroI _) B _ _ rfl hown2 _ _ rfl (keyOf_int_mk Tryd.underlying3 HWF.out) ?_; intro q hat hwq; obtain rfl := HC.out.at hat; clear hat hwq) | (at_mapUpdate; refine wpList_mapUpdate_own _ rfl _ _ _ 112 rfl 3 3 lawI Tryd.underlying112 _ B _ _ rfl hown2 (by unfold maxLen; omega) _ _ _ rfl rfl (keyOf_int_mk Tryd.underlying3 HWF.out) _ [] (plainElem_int Tryd.underlying3 (WalkArith.wf_i64 (by omega))) ?_; intro w1 hown3 hg3))
              go_roundw
              case rel => exact ⟨c + 1, by omega, by go_num, ⟨_, by rw [HL.out, List.length_append]; exact hown3, by rw [HL.out]; exact cntD_step HC.out st⟩, (HBZ.out.trans (below_mono_of (Nat.le_of_lt hBz) (by (repeat' (first | with_reducible exact Below.refl _ _ | (with_reducible refine below_later_of ?_ ?_ _) | (with_reducible refine Below.alloc ?_ ?_ _) | (with_reducible refine Below.setCell ?_ ?_ _) | (with_reducible refine Below.drew ?_) | (simp; done) | (simp; omega) | omega))))).grown hg3 (by simp <;> omega) (fun j hj => by cases hj; exact Nat.le_refl _), by have := hg3.size; simp at this; omega⟩
              case measure => simp [intOf]; omega
          · obtain rfl : c = cN := by omega
            obtain ⟨hdc, hdc2⟩ := HDT.out
            clear hbz
            go_wp2
            go_roundw
            case rel => exact ⟨r + 1, by omega, by go_num, ⟨D, HD.out, HC.out⟩, HBZ.out, hBz⟩
            case measure => simp [intOf]; omega
      · obtain rfl : r = rN := by omega
        obtain ⟨hdr, hdr2⟩ := HDS.out
        have HX0 := Lib.hid (HB1.out.trans (HBZ.out.mono (show w.heap.size ≤ B by omega)))
        generalize allS z R C false cN r = L at HE HD HC
        obtain ⟨IT, hIT⟩ : ∃ IT, IT = wr.heap.size := ⟨_, rfl⟩
        go_wp2_with (first | (at_range; refine wpList_range_own _ rfl _ 112 rfl 3 3 lawI Tryd.underlying112 _ B _ _ rfl HD.out ?_; intro w0 hrg0 hg0 hs0) | go_in)
        go_frame
        simp only [← hIT] at hrg0 hs0 ⊢
        have HB0 := Lib.hid (HX0.out.grown hg0 HX0.out.size (fun j hj => by cases hj))
        have HR0 := Lib.hid hrg0
        have hITw : w.heap.size ≤ IT := by have := HX0.out.size; omega
        clear hrg0 hg0 hs0 HD HBZ HX0 hIT
        go_loopw [14] (fun b wz => ∃ (best : Int) (left : Lit → Bool) (cnt : Nat), b = .int .i64 best ∧ wz.ranges Tryd.prog 3 (plainElem Tryd.prog 3) B IT L.length D left cnt ∧ optB L best 0 ∧ (∀ n ∈ L, left (.int .i64 n) = false → optB L best n) ∧ (-9223372036854775808 ≤ best ∧ best ≤ 9223372036854775807) ∧ Below w.heap.size w wz) (fun _ wz => wz.rangeLeft B IT)
        case atStart =>
          refine ⟨0, _, _, rfl, HR0.out, optB_refl _ _, fun n hn h => ?_, by omega, HB0.out⟩
          rw [(HC.out.2 n).2, decide_eq_true hn] at h
          cases h
        case round =>
          obtain ⟨best, left, cnt, rfl, hrg, ho0, hol, ⟨hbb1, hbb2⟩, hbel⟩ := hrel
          have HOL := Lib.hid hol
          have HO0 := Lib.hid ho0
          have HBE := Lib.hid hbel
          have HWF := Lib.hid (show (Lit.int .i64 best).wf = true from WalkArith.wf_i64 ⟨hbb1, hbb2⟩)
          clear hol ho0 hbel
          go_wp2_with (first | (at_next; refine wpList_next_ranges_ii _ rfl _ rfl 3 3 .i64 .i64 lawI Tryd.underlying3 Tryd.underlying3 B IT _ _ _ _ rfl hrg ?_ ?_) | go_in)
          · intro hc0 hl0
            have hown2 := hrg.owns
            have HAL := Lib.hid (show ∀ n ∈ L, optB L best n from fun n hn => HOL.out n hn (hl0 _))
            have hbs := HBE.out.size
            clear hl0
            by_cases hL : L = []
            · subst hL
              obtain ⟨rfl, rfl⟩ := Prod.mk.inj (show (0, 12) = (b0, e0) from HE.out)
              have HQ := Lib.hid (show ∀ q : Int, q = (([] : List Int).count best : Nat) → q = 0 from fun q h => by simpa using h)
              go_wp2_with (first | (at_lookup; refine wpList_lookup_own_int _ rfl _ _ 112 rfl 3 3 .i64 lawI Tryd.underlying112 Tryd.underlying3 (zeroI _) B _ _ rfl hown2 _ _ rfl (keyOf_int_mk Tryd.underlying3 HWF.out) ?_; intro q hat hwq; obtain rfl := HQ.out q (HC.out.at hat); clear hat hwq) | go_in)
              go_ret2
              exact ⟨rfl, HBE.out⟩
            · have hbest : IsBest L best := by
                refine ⟨?_, HAL.out⟩
                obtain ⟨n, hn⟩ := List.exists_mem_of_ne_nil L hL
                have h1 := HAL.out n hn
                have h2 : 0 < L.count n := List.count_pos_iff.2 hn
                refine List.count_pos_iff.1 ?_
                unfold optB at h1
                omega
              have hpos : 0 < L.count best := List.count_pos_iff.2 hbest.1
              have e1 : comP L = (best, 0) := by
                unfold comP
                rw [if_neg hL, (foldB_best hL).1.unique hbest]
              obtain ⟨rfl, rfl⟩ := Prod.mk.inj (e1.symm.trans HE.out)
              have HQ := Lib.hid (show ∀ q : Int, q = (L.count best : Nat) → (q == 0) = false from fun q h => by simp; omega)
              clear hpos hbest hL e1 HE HAL
              go_wp2_with (first | (at_lookup; refine wpList_lookup_own_int _ rfl _ _ 112 rfl 3 3 .i64 lawI Tryd.underlying112 Tryd.underlying3 (zeroI _) B _ _ rfl hown2 _ _ rfl (keyOf_int_mk Tryd.underlying3 HWF.out) ?_; intro q hat hwq; have hq := HQ.out q (HC.out.at hat); clear hat hwq) | go_in)
              go_ret2
              exact ⟨rfl, HBE.out⟩
          · intro x cx w1 cnt1 hwx hwc hlx hat hrg1 hlt hg1 hs1 hen
            have hcx := HC.out.at (hat _)
            have hown2 := hrg1.owns
            have HRG1 := Lib.hid hrg1
            have HB1' := Lib.hid (HBE.out.grown hg1 HBE.out.size (fun j hj => by cases hj; omega))
            have HLE := Lib.hid (show w1.rangeLeft B IT < wr.rangeLeft B IT by rw [hrg1.left_eq, hrg.left_eq]; exact hlt)
            have hxb : -9223372036854775808 ≤ x ∧ x ≤ 9223372036854775807 := wfI64 hwx
            obtain ⟨hx1, hx2⟩ := hxb
            have HST2 := Lib.hid (show ∀ b, optB L b best → optB L b x → ∀ n ∈ L, (left (.int .i64 n) && !(Lit.int .i64 n).sameKey (.int .i64 x)) = false → optB L b n from fun b h1 h2 n hn h => by
              rcases Bool.and_eq_false_iff.1 h with h3 | h3
              · exact optB_trans h1 (HOL.out n hn h3)
              · have e : (Lit.int .i64 n).sameKey (.int .i64 x) = true := by simpa using h3
                have := WideAt.sameKey_eq e
                cases this
                exact h2)
            clear hrg hrg1 hat hlt hg1 hlx HOL
            obtain ⟨nb, hnb⟩ : ∃ nb, L.count best = nb := ⟨_, rfl⟩
            obtain ⟨nx, hnx⟩ : ∃ nx, L.count x = nx := ⟨_, rfl⟩
            have hbet : betB L x best = (decide (nb < nx) || (decide (nx = nb) && decide (x < best))) := by unfold betB; rw [hnb, hnx]
            rw [hnx] at hcx
            subst hcx
            by_cases h1 : nb < nx
            · have HQ := Lib.hid (show ∀ q : Int, q = (L.count best : Nat) → decide (q < (nx : Int)) = true from fun q h => by simp; omega)
              have HOP := Lib.hid (betB_opt (show betB L x best = true by rw [hbet, decide_eq_true h1]; rfl))
              clear hnb hnx hbet h1
              go_wp2_with (first | (at_lookup; refine wpList_lookup_own_int _ rfl _ _ 112 rfl 3 3 .i64 lawI Tryd.underlying112 Tryd.underlying3 (zeroI _) B _ _ rfl hown2 _ _ rfl (keyOf_int_mk Tryd.underlying3 HWF.out) ?_; intro q hat hwq; have hq := HQ.out q (HC.out.at hat); clear hat hwq) | go_in)
              go_roundw
              case rel => exact ⟨x, _, cnt1, rfl, HRG1.out, optB_trans HOP.out HO0.out, HST2.out x HOP.out (optB_refl _ _), ⟨hx1, hx2⟩, HB1'.out⟩
              case measure => exact HLE.out
            · by_cases h2 : nx = nb
              · subst h2
                by_cases h3 : x < best
                · have HQ := Lib.hid (show ∀ q : Int, q = (L.count best : Nat) → decide (q < (nx : Int)) = false ∧ ((nx : Int) == q) = true from fun q h => ⟨by simp; omega, by simp; omega⟩)
                  have HOP := Lib.hid (betB_opt (show betB L x best = true by rw [hbet, decide_eq_true h3]; simp))
                  have h3' : decide (x < best) = true := by simpa using h3
                  clear hnb hnx hbet h1 h3
                  obtain ⟨q, hrun, hatq, -⟩ := hown2.lookup_int lawI Tryd.underlying112 Tryd.underlying3 (zeroI _) (keyOf_int_mk Tryd.underlying3 HWF.out)
                  obtain ⟨hq1, hq2⟩ := HQ.out q (HC.out.at hatq)
                  clear hatq
                  go_wp2
                  go_roundw
                  case rel => exact ⟨x, _, cnt1, rfl, HRG1.out, optB_trans HOP.out HO0.out, HST2.out x HOP.out (optB_refl _ _), ⟨hx1, hx2⟩, HB1'.out⟩
                  case measure => exact HLE.out
                · have HQ := Lib.hid (show ∀ q : Int, q = (L.count best : Nat) → decide (q < (nx : Int)) = false ∧ ((nx : Int) == q) = true from fun q h => ⟨by simp; omega, by simp; omega⟩)
                  have HOP := Lib.hid (betB_not (show betB L x best = false by rw [hbet, decide_eq_false h1, decide_eq_false h3]; simp))
                  have h3' : decide (x < best) = false := by simpa using h3
                  clear hnb hnx hbet h1 h3
                  obtain ⟨q, hrun, hatq, -⟩ := hown2.lookup_int lawI Tryd.underlying112 Tryd.underlying3 (zeroI _) (keyOf_int_mk Tryd.underlying3 HWF.out)
                  obtain ⟨hq1, hq2⟩ := HQ.out q (HC.out.at hatq)
                  clear hatq
                  go_wp2
                  go_roundw
                  case rel => exact ⟨best, _, cnt1, rfl, HRG1.out, HO0.out, HST2.out best (optB_refl _ _) HOP.out, ⟨hbb1, hbb2⟩, HB1'.out⟩
                  case measure => exact HLE.out
              · have HQ := Lib.hid (show ∀ q : Int, q = (L.count best : Nat) → decide (q < (nx : Int)) = false ∧ ((nx : Int) == q) = false from fun q h => ⟨by simp; omega, by simp; omega⟩)
                have HOP := Lib.hid (betB_not (show betB L x best = false by rw [hbet, decide_eq_false h1, decide_eq_false h2]; rfl))
                clear hnb hnx hbet h1 h2
                obtain ⟨q, hrun, hatq, -⟩ := hown2.lookup_int lawI Tryd.underlying112 Tryd.underlying3 (zeroI _) (keyOf_int_mk Tryd.underlying3 HWF.out)
                obtain ⟨hq1, hq2⟩ := HQ.out q (HC.out.at hatq)
                clear hatq
                go_wp2
                go_roundw
                case rel => exact ⟨best, _, cnt1, rfl, HRG1.out, HO0.out, HST2.out best (optB_refl _ _) HOP.out, ⟨hbb1, hbb2⟩, HB1'.out⟩
                case measure => exact HLE.out
  · have hrN : rowsN R true = R - 1 := rfl
    obtain ⟨rN, hrn⟩ : ∃ rN, rowsN R true = rN := ⟨_, rfl⟩
    obtain ⟨cN, hcn⟩ : ∃ cN, colsN C true = cN := ⟨_, rfl⟩
    have hcN : cN = C := hcn.symm
    rw [hrn, hcn] at he
    rw [hrn] at hrN
    have HE := Lib.hid he
    have HTO := Lib.hid (show ∀ r c : Nat, r < rN → c < cN → toR r true < R ∧ toC c true < C from fun r c h1 h2 => by simp only [toR, toC, if_true]; omega)
    have HDR := Lib.hid (show ∀ r : Nat, r < rN → decide ((r : Int) < (R : Int) - 1) = true ∧ decide (r < R) = true from fun r h => ⟨by simp; omega, by simp; omega⟩)
    have HDS := Lib.hid (show decide ((rN : Int) < (R : Int) - 1) = false ∧ True from ⟨by simp; omega, trivial⟩)
    have HDC := Lib.hid (show ∀ c : Nat, c < cN → decide ((c : Int) < (C : Int)) = true ∧ decide (c < C) = true from fun r h => ⟨by simp; omega, by simp; omega⟩)
    have HDT := Lib.hid (show decide ((cN : Int) < (C : Int)) = false ∧ decide (cN < C) = false from ⟨by simp; omega, by simp; omega⟩)
    have hrb : rN ≤ 64 := by omega
    have hcb : cN ≤ 64 := by omega
    clear he hrN hrn hcn hcN
    go_enter Tryd.func29, Tryd.ntmps29
    go_wp2_with (first | (go_at_call 54; (with_reducible refine (HIE.out _ (by (repeat' (first | with_reducible exact Below.refl _ _ | (with_reducible refine below_later_of ?_ ?_ _) | (with_reducible refine Below.alloc ?_ ?_ _) | (with_reducible refine Below.setCell ?_ ?_ _) | (with_reducible refine Below.drew ?_) | (simp; done) | (simp; omega) | omega)))).mono ?_); rintro e w' ⟨rfl, hb⟩; obtain ⟨pe, rfl⟩ := later_of_below hb; clear hb))
    refine wp_region_calm (by kernel_rfl) (by kernel_rfl) ?_
    repeat (go_big_quiet_step (fail))
    refine wpQuiet_nil ?_
    rintro _ ⟨pa, rfl⟩
    go_wp2
    refine wp_region_calm (by kernel_rfl) (by kernel_rfl) ?_
    repeat (go_big_quiet_step (fail))
    refine wpQuiet_nil ?_
    rintro _ ⟨pq, rfl⟩
    go_wp2
    obtain ⟨B, hB⟩ : ∃ B, B = w.heap.size + 1 + pe.os.size + pa.os.size + pq.os.size := ⟨_, rfl⟩
    refine any_worldF (fun w' => OwnM w' B 0 (.map []) ∧ (w'.cell? ⟨w.heap.size, 0, none⟩ = some (.int .i64 R) ∧ w'.cell? ⟨w.heap.size, 1, none⟩ = some (.int .i64 C) ∧ w'.cell? ⟨w.heap.size, 2, none⟩ = some (.slice a n0 cap)) ∧ Below w.heap.size w w' ∧ w.heap.size < B ∧ B < w'.heap.size) ⟨made_at _ _ (by rw [hB]; simp), ⟨(cell_made _ _ (by simp; omega)).trans (by (first | (simp [go_sem]; done) | simp [go_sem, ↓IntWalk.iteOmega])), (cell_made _ _ (by simp; omega)).trans (by (first | (simp [go_sem]; done) | simp [go_sem, ↓IntWalk.iteOmega])), (cell_made _ _ (by simp; omega)).trans (by (first | (simp [go_sem]; done) | simp [go_sem, ↓IntWalk.iteOmega]))⟩, (by (repeat' (first | with_reducible exact Below.refl _ _ | (with_reducible refine below_later_of ?_ ?_ _) | (with_reducible refine Below.alloc ?_ ?_ _) | (with_reducible refine Below.setCell ?_ ?_ _) | (with_reducible refine Below.drew ?_) | (simp; done) | (simp; omega) | omega))), by omega, by rw [hB]; simp⟩ ?_
    rintro W1 ⟨hown1, ⟨k0, k1, k2⟩, hb1, hwB, hBW⟩
    simp only [← hB]
    have HB1 := Lib.hid hb1
    have HOW1 := Lib.hid hown1
    clear hb1 hown1 hB hmm
    go_loopw [35] (fun i wr => ∃ r : Nat, r ≤ rN ∧ i = .int .i64 r ∧ (∃ D, OwnM wr B (allS z R C true cN r).length D ∧ CntD D (allS z R C true cN r)) ∧ Below B W1 wr ∧ B < wr.heap.size) (fun i _ => rN - (intOf i).toNat)
    case atStart => exact ⟨0, Nat.zero_le _, rfl, ⟨_, HOW1.out, cntD_nil⟩, Below.refl _ _, hBW⟩
    case round =>
      obtain ⟨r, hr, rfl, ⟨D, hD, hc⟩, hbz, hBz⟩ := hrel
      have HD := Lib.hid hD
      have HC := Lib.hid hc
      have HBZ := Lib.hid hbz
      clear hD hc hbz
      by_cases hlr : r < rN
      · obtain ⟨hdr, hdr2⟩ := HDR.out r hlr
        obtain ⟨wo, hwo⟩ : ∃ wo : World, wo = wr := ⟨_, rfl⟩
        have HWO := Lib.hid hwo
        clear hwo
        go_wp2
        go_loopw [39] (fun i wz => ∃ c : Nat, c ≤ cN ∧ i = .int .i64 c ∧ (∃ D, OwnM wz B (allS z R C true cN r ++ rowS z R C true r c).length D ∧ CntD D (allS z R C true cN r ++ rowS z R C true r c)) ∧ Below B W1 wz ∧ B < wz.heap.size) (fun i _ => cN - (intOf i).toNat)
        case atStart => exact ⟨0, Nat.zero_le _, rfl, ⟨D, by rw [rowS, List.append_nil]; exact HD.out, by rw [rowS, List.append_nil]; exact HC.out⟩, HBZ.out, hBz⟩
        case round =>
          obtain ⟨c, hc, rfl, ⟨D, hD, hcd⟩, hbz, hBz⟩ := hrel
          have HD := Lib.hid hD
          have HC := Lib.hid hcd
          have HBZ := Lib.hid hbz
          clear hD hcd
          by_cases hlc : c < cN
          · obtain ⟨hdc, hdc2⟩ := HDC.out c hlc
            have HX := Lib.hid (HB1.out.trans (hbz.mono (show w.heap.size ≤ B by omega)))
            have k0 := (hbz.cell (p := ⟨w.heap.size, 0, none⟩) hwB).trans k0
            have k1 := (hbz.cell (p := ⟨w.heap.size, 1, none⟩) hwB).trans k1
            have k2 := (hbz.cell (p := ⟨w.heap.size, 2, none⟩) hwB).trans k2
            clear hbz
            have hok : okS z R C true r c = (nvB (z r c) && nvB (z (toR r true) (toC c true))) := by
              unfold okS
              rw [decide_eq_true (HTO.out r c hlr hlc).1, decide_eq_true (HTO.out r c hlr hlc).2]
              rfl
            have HRS := Lib.hid (show rowS z R C true r (c + 1) = rowS z R C true r c ++ (if (nvB (z r c) && nvB (z (toR r true) (toC c true))) then [stS z true r c] else []) by rw [rowS, hok])
            have HS1 := Lib.hid (fun W hW => HST.out W r c hW (HTO.out r c hlr hlc).1 (HTO.out r c hlr hlc).2)
            have hlen : (allS z R C true cN r ++ rowS z R C true r c).length ≤ 5000 := by
              have h1 := allS_len z R C true cN r
              have h2 := rowS_len z R C true r c
              have h3 : r * cN ≤ 64 * 64 := Nat.mul_le_mul (by omega) hcb
              rw [List.length_append]
              omega
            have hsb : -2048 ≤ stS z true r c ∧ stS z true r c ≤ 2047 := by
              have := wrP_bd (z (toR r true) (toC c true) - z r c)
              unfold stS
              omega
            clear hok
            generalize (nvB (z r c) && nvB (z (toR r true) (toC c true))) = f at HRS HS1
            generalize stS z true r c = st at HRS HS1 hsb
            obtain ⟨l, hl⟩ : ∃ l, allS z R C true cN r ++ rowS z R C true r c = l := ⟨_, rfl⟩
            rw [hl] at HD HC hlen
            cases f
            · have HL := Lib.hid (show allS z R C true cN r ++ rowS z R C true r (c + 1) = l by rw [HRS.out, ← hl]; simp)
              clear HRS hl
              go_wp2_with (first | (go_at_call 60; (with_reducible refine (HS1.out _ HX.out).mono ?_); rintro e w' ⟨rfl, hb⟩; have hown2 := HD.out.kept (row := none) ⟨hb.os, hb.tape, hb.output, hb.size, fun k hk _ => hb.block k hk⟩ (by simp); obtain ⟨p3, rfl⟩ := later_of_below hb; clear hb))
              go_roundw
              case rel => exact ⟨c + 1, by omega, by go_num, ⟨D, by rw [HL.out]; exact hown2, by rw [HL.out]; exact HC.out⟩, HBZ.out.trans (below_mono_of (Nat.le_of_lt hBz) (by (repeat' (first | with_reducible exact Below.refl _ _ | (with_reducible refine below_later_of ?_ ?_ _) | (with_reducible refine Below.alloc ?_ ?_ _) | (with_reducible refine Below.setCell ?_ ?_ _) | (with_reducible refine Below.drew ?_) | (simp; done) | (simp; omega) | omega)))), by simp <;> omega⟩
              case measure => simp [intOf]; omega
            · have HL := Lib.hid (show allS z R C true cN r ++ rowS z R C true r (c + 1) = l ++ [st] by rw [HRS.out, ← hl]; simp)
              clear HRS hl
              have hcl := List.count_le_length (a := st) (l := l)
              obtain ⟨hs1, hs2⟩ := hsb
              have HWF := Lib.hid (show (Lit.int .i64 st).wf = true from WalkArith.wf_i64 (by omega))
              go_wp2_with (first | (go_at_call 60; (with_reducible refine (HS1.out _ HX.out).mono ?_); rintro e w' ⟨rfl, hb⟩; have hown2 := HD.out.kept (row := none) ⟨hb.os, hb.tape, hb.output, hb.size, fun k hk _ => hb.block k hk⟩ (by simp); obtain ⟨p3, rfl⟩ := later_of_below hb; clear hb) | (at_lookup; refine wpList_lookup_own_int _ rfl _ _ 112 rfl 3 3 .i64 lawI Tryd.underlying112 Tryd.underlying3 (zeroI _) B _ _ rfl hown2 _ _ rfl (keyOf_int_mk Tryd.underlying3 HWF.out) ?_; intro q hat hwq; obtain rfl := HC.out.at hat; clear hat hwq) | (at_mapUpdate; refine wpList_mapUpdate_own _ rfl _ _ _ 112 rfl 3 3 lawI Tryd.underlying112 _ B _ _ rfl hown2 (by unfold maxLen; omega) _ _ _ rfl rfl (keyOf_int_mk Tryd.underlying3 HWF.out) _ [] (plainElem_int Tryd.underlying3 (WalkArith.wf_i64 (by omega))) ?_; intro w1 hown3 hg3))
              go_roundw
              case rel => exact ⟨c + 1, by omega, by go_num, ⟨_, by rw [HL.out, List.length_append]; exact hown3, by rw [HL.out]; exact cntD_step HC.out st⟩, (HBZ.out.trans (below_mono_of (Nat.le_of_lt hBz) (by (repeat' (first | with_reducible exact Below.refl _ _ | (with_reducible refine below_later_of ?_ ?_ _) | (with_reducible refine Below.alloc ?_ ?_ _) | (with_reducible refine Below.setCell ?_ ?_ _) | (with_reducible refine Below.drew ?_) | (simp; done) | (simp; omega) | omega))))).grown hg3 (by simp <;> omega) (fun j hj => by cases hj; exact Nat.le_refl _), by have := hg3.size; simp at this; omega⟩
              case measure => simp [intOf]; omega
          · obtain rfl : c = cN := by omega
            obtain ⟨hdc, hdc2⟩ := HDT.out
            clear hbz
            go_wp2
            go_roundw
            case rel => exact ⟨r + 1, by omega, by go_num, ⟨D, HD.out, HC.out⟩, HBZ.out, hBz⟩
            case measure => simp [intOf]; omega
      · obtain rfl : r = rN := by omega
        obtain ⟨hdr, hdr2⟩ := HDS.out
        have HX0 := Lib.hid (HB1.out.trans (HBZ.out.mono (show w.heap.size ≤ B by omega)))
        generalize allS z R C true cN r = L at HE HD HC
        obtain ⟨IT, hIT⟩ : ∃ IT, IT = wr.heap.size := ⟨_, rfl⟩
        go_wp2_with (first | (at_range; refine wpList_range_own _ rfl _ 112 rfl 3 3 lawI Tryd.underlying112 _ B _ _ rfl HD.out ?_; intro w0 hrg0 hg0 hs0) | go_in)
        go_frame
        simp only [← hIT] at hrg0 hs0 ⊢
        have HB0 := Lib.hid (HX0.out.grown hg0 HX0.out.size (fun j hj => by cases hj))
        have HR0 := Lib.hid hrg0
        have hITw : w.heap.size ≤ IT := by have := HX0.out.size; omega
        clear hrg0 hg0 hs0 HD HBZ HX0 hIT
        go_loopw [14] (fun b wz => ∃ (best : Int) (left : Lit → Bool) (cnt : Nat), b = .int .i64 best ∧ wz.ranges Tryd.prog 3 (plainElem Tryd.prog 3) B IT L.length D left cnt ∧ optB L best 0 ∧ (∀ n ∈ L, left (.int .i64 n) = false → optB L best n) ∧ (-9223372036854775808 ≤ best ∧ best ≤ 9223372036854775807) ∧ Below w.heap.size w wz) (fun _ wz => wz.rangeLeft B IT)
        case atStart =>
          refine ⟨0, _, _, rfl, HR0.out, optB_refl _ _, fun n hn h => ?_, by omega, HB0.out⟩
          rw [(HC.out.2 n).2, decide_eq_true hn] at h
          cases h
        case round =>
          obtain ⟨best, left, cnt, rfl, hrg, ho0, hol, ⟨hbb1, hbb2⟩, hbel⟩ := hrel
          have HOL := Lib.hid hol
          have HO0 := Lib.hid ho0
          have HBE := Lib.hid hbel
          have HWF := Lib.hid (show (Lit.int .i64 best).wf = true from WalkArith.wf_i64 ⟨hbb1, hbb2⟩)
          clear hol ho0 hbel
          go_wp2_with (first | (at_next; refine wpList_next_ranges_ii _ rfl _ rfl 3 3 .i64 .i64 lawI Tryd.underlying3 Tryd.underlying3 B IT _ _ _ _ rfl hrg ?_ ?_) | go_in)
          · intro hc0 hl0
            have hown2 := hrg.owns
            have HAL := Lib.hid (show ∀ n ∈ L, optB L best n from fun n hn => HOL.out n hn (hl0 _))
            have hbs := HBE.out.size
            clear hl0
            by_cases hL : L = []
            · subst hL
              obtain ⟨rfl, rfl⟩ := Prod.mk.inj (show (0, 12) = (b0, e0) from HE.out)
              have HQ := Lib.hid (show ∀ q : Int, q = (([] : List Int).count best : Nat) → q = 0 from fun q h => by simpa using h)
              go_wp2_with (first | (at_lookup; refine wpList_lookup_own_int _ rfl _ _ 112 rfl 3 3 .i64 lawI Tryd.underlying112 Tryd.underlying3 (zeroI _) B _ _ rfl hown2 _ _ rfl (keyOf_int_mk Tryd.underlying3 HWF.out) ?_; intro q hat hwq; obtain rfl := HQ.out q (HC.out.at hat); clear hat hwq) | go_in)
              go_ret2
              exact ⟨rfl, HBE.out⟩
            · have hbest : IsBest L best := by
                refine ⟨?_, HAL.out⟩
                obtain ⟨n, hn⟩ := List.exists_mem_of_ne_nil L hL
                have h1 := HAL.out n hn
                have h2 : 0 < L.count n := List.count_pos_iff.2 hn
                refine List.count_pos_iff.1 ?_
                unfold optB at h1
                omega
              have hpos : 0 < L.count best := List.count_pos_iff.2 hbest.1
              have e1 : comP L = (best, 0) := by
                unfold comP
                rw [if_neg hL, (foldB_best hL).1.unique hbest]
              obtain ⟨rfl, rfl⟩ := Prod.mk.inj (e1.symm.trans HE.out)
              have HQ := Lib.hid (show ∀ q : Int, q = (L.count best : Nat) → (q == 0) = false from fun q h => by simp; omega)
              clear hpos hbest hL e1 HE HAL
              go_wp2_with (first | (at_lookup; refine wpList_lookup_own_int _ rfl _ _ 112 rfl 3 3 .i64 lawI Tryd.underlying112 Tryd.underlying3 (zeroI _) B _ _ rfl hown2 _ _ rfl (keyOf_int_mk Tryd.underlying3 HWF.out) ?_; intro q hat hwq; have hq := HQ.out q (HC.out.at hat); clear hat hwq) | go_in)
              go_ret2
              exact ⟨rfl, HBE.out⟩
          · intro x cx w1 cnt1 hwx hwc hlx hat hrg1 hlt hg1 hs1 hen
            have hcx := HC.out.at (hat _)
            have hown2 := hrg1.owns
            have HRG1 := Lib.hid hrg1
            have HB1' := Lib.hid (HBE.out.grown hg1 HBE.out.size (fun j hj => by cases hj; omega))
            have HLE := Lib.hid (show w1.rangeLeft B IT < wr.rangeLeft B IT by rw [hrg1.left_eq, hrg.left_eq]; exact hlt)
            have hxb : -9223372036854775808 ≤ x ∧ x ≤ 9223372036854775807 := wfI64 hwx
            obtain ⟨hx1, hx2⟩ := hxb
            have HST2 := Lib.hid (show ∀ b, optB L b best → optB L b x → ∀ n ∈ L, (left (.int .i64 n) && !(Lit.int .i64 n).sameKey (.int .i64 x)) = false → optB L b n from fun b h1 h2 n hn h => by
              rcases Bool.and_eq_false_iff.1 h with h3 | h3
              · exact optB_trans h1 (HOL.out n hn h3)
              · have e : (Lit.int .i64 n).sameKey (.int .i64 x) = true := by simpa using h3
                have := WideAt.sameKey_eq e
                cases this
                exact h2)
            clear hrg hrg1 hat hlt hg1 hlx HOL
            obtain ⟨nb, hnb⟩ : ∃ nb, L.count best = nb := ⟨_, rfl⟩
            obtain ⟨nx, hnx⟩ : ∃ nx, L.count x = nx := ⟨_, rfl⟩
            have hbet : betB L x best = (decide (nb < nx) || (decide (nx = nb) && decide (x < best))) := by unfold betB; rw [hnb, hnx]
            rw [hnx] at hcx
            subst hcx
            by_cases h1 : nb < nx
            · have HQ := Lib.hid (show ∀ q : Int, q = (L.count best : Nat) → decide (q < (nx : Int)) = true from fun q h => by simp; omega)
              have HOP := Lib.hid (betB_opt (show betB L x best = true by rw [hbet, decide_eq_true h1]; rfl))
              clear hnb hnx hbet h1
              go_wp2_with (first | (at_lookup; refine wpList_lookup_own_int _ rfl _ _ 112 rfl 3 3 .i64 lawI Tryd.underlying112 Tryd.underlying3 (zeroI _) B _ _ rfl hown2 _ _ rfl (keyOf_int_mk Tryd.underlying3 HWF.out) ?_; intro q hat hwq; have hq := HQ.out q (HC.out.at hat); clear hat hwq) | go_in)
              go_roundw
              case rel => exact ⟨x, _, cnt1, rfl, HRG1.out, optB_trans HOP.out HO0.out, HST2.out x HOP.out (optB_refl _ _), ⟨hx1, hx2⟩, HB1'.out⟩
              case measure => exact HLE.out
            · by_cases h2 : nx = nb
              · subst h2
                by_cases h3 : x < best
                · have HQ := Lib.hid (show ∀ q : Int, q = (L.count best : Nat) → decide (q < (nx : Int)) = false ∧ ((nx : Int) == q) = true from fun q h => ⟨by simp; omega, by simp; omega⟩)
                  have HOP := Lib.hid (betB_opt (show betB L x best = true by rw [hbet, decide_eq_true h3]; simp))
                  have h3' : decide (x < best) = true := by simpa using h3
                  clear hnb hnx hbet h1 h3
                  obtain ⟨q, hrun, hatq, -⟩ := hown2.lookup_int lawI Tryd.underlying112 Tryd.underlying3 (zeroI _) (keyOf_int_mk Tryd.underlying3 HWF.out)
                  obtain ⟨hq1, hq2⟩ := HQ.out q (HC.out.at hatq)
                  clear hatq
                  go_wp2
                  go_roundw
                  case rel => exact ⟨x, _, cnt1, rfl, HRG1.out, optB_trans HOP.out HO0.out, HST2.out x HOP.out (optB_refl _ _), ⟨hx1, hx2⟩, HB1'.out⟩
                  case measure => exact HLE.out
                · have HQ := Lib.hid (show ∀ q : Int, q = (L.count best : Nat) → decide (q < (nx : Int)) = false ∧ ((nx : Int) == q) = true from fun q h => ⟨by simp; omega, by simp; omega⟩)
                  have HOP := Lib.hid (betB_not (show betB L x best = false by rw [hbet, decide_eq_false h1, decide_eq_false h3]; simp))
                  have h3' : decide (x < best) = false := by simpa using h3
                  clear hnb hnx hbet h1 h3
                  obtain ⟨q, hrun, hatq, -⟩ := hown2.lookup_int lawI Tryd.underlying112 Tryd.underlying3 (zeroI _) (keyOf_int_mk Tryd.underlying3 HWF.out)
                  obtain ⟨hq1, hq2⟩ := HQ.out q (HC.out.at hatq)
                  clear hatq
                  go_wp2
                  go_roundw
                  case rel => exact ⟨best, _, cnt1, rfl, HRG1.out, HO0.out, HST2.out best (optB_refl _ _) HOP.out, ⟨hbb1, hbb2⟩, HB1'.out⟩
                  case measure => exact HLE.out
              · have HQ := Lib.hid (show ∀ q : Int, q = (L.count best : Nat) → decide (q < (nx : Int)) = false ∧ ((nx : Int) == q) = false from fun q h => ⟨by simp; omega, by simp; omega⟩)
                have HOP := Lib.hid (betB_not (show betB L x best = false by rw [hbet, decide_eq_false h1, decide_eq_false h2]; rfl))
                clear hnb hnx hbet h1 h2
                obtain ⟨q, hrun, hatq, -⟩ := hown2.lookup_int lawI Tryd.underlying112 Tryd.underlying3 (zeroI _) (keyOf_int_mk Tryd.underlying3 HWF.out)
                obtain ⟨hq1, hq2⟩ := HQ.out q (HC.out.at hatq)
                clear hatq
                go_wp2
                go_roundw
                case rel => exact ⟨best, _, cnt1, rfl, HRG1.out, HO0.out, HST2.out best (optB_refl _ _) HOP.out, ⟨hbb1, hbb2⟩, HB1'.out⟩
                case measure => exact HLE.out
end Go.Proofs.YtfiioadmpjmmgaaDoor
