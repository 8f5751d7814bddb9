/- Polygons: the program's BoxInside. -/
import Derived.Test.YtokpdmlmlkkekaaX4
import Derived.Test.YtokpdmlmlkkekaaX6
import Derived.Test.YtokpdmlmlkkekaaY7
namespace Go.Proofs.Ytokpdmlmlkkekaa
set_option linter.unusedVariables false
open Go.RowKit
@[go_sem] theorem idx_bx0 (a b c d : Value) (w : World) : (Instr.index 31 (.agg #[a, b, c, d]) (.int .i64 0)).run Try.prog w = .ok (.agg #[a, b]) w := by kernel_rfl
@[go_sem] theorem idx_bx1 (a b c d : Value) (w : World) : (Instr.index 31 (.agg #[a, b, c, d]) (.int .i64 1)).run Try.prog w = .ok (.agg #[c, d]) w := by kernel_rfl
noncomputable def boxInErr (ps : List Plc) (q : Bx) : Int := first2 (checkPolygonP ps) (boxErrP q)
noncomputable def boxInVal (ps : List Plc) (q : Bx) : Int := if boxInErr ps q = 0 then boxInP ps q (2 * q.x1) (2 * q.y1) else 0
theorem wp_worldB {P : Program} {c : Code} {Q : Exit → Act → World → Prop} {a : Act} {w : World} (F : World → Prop) (hf : F w) (h : ∀ W, F W → Code.wp P c Q a W) : Code.wp P c Q a w := h w hf
theorem calls_world {P : Program} {f : Nat} {vs : Array Value} {Q : Ending → World → Prop} {w : World} (F : World → Prop) (hf : F w) (h : ∀ W, F W → Calls P f vs W Q) : Calls P f vs w Q := h w hf
theorem then_worldB {K : Exit → Act → World → Prop} {G : (Exit → Act → World → Prop) → Exit → Act → World → Prop} {a : Act} {w : World} (F : World → Prop) (hf : F w) (h : ∀ W, F W → G K .normal a W) : G K .normal a w := h w hf
set_option maxRecDepth 20000 in
set_option maxHeartbeats 8000000 in
theorem BoxInside_any (ps : List Plc) (v : Value) (q : Bx) (w : World) (hv : PlacesV w v ps) {r : Int} {e0 : Int} (hr : boxInVal ps q = r) (he : boxInErr ps q = e0) :
    Calls Try.prog 70 #[v, .agg #[.int .i64 q.x1, .int .i64 q.x2, .int .i64 q.y1, .int .i64 q.y2]] w fun e w' => e = .returned (.tuple #[.int .i64 r, .int .i64 e0]) ∧ Below w.heap.size w w' := by
  have HV := Lib.hid hv
  obtain ⟨c1, hc1⟩ : ∃ c, checkPolygonP ps = c := ⟨_, rfl⟩
  obtain ⟨c2, hc2⟩ : ∃ c, boxErrP q = c := ⟨_, rfl⟩
  have HE1 := Lib.hid hc1
  have HE2 := Lib.hid hc2
  have HE := Lib.hid (show first2 c1 c2 = e0 by rw [← hc1, ← hc2]; exact he)
  by_cases h0 : e0 = 0
  · subst h0
    have h1 : checkPolygonP ps = 0 ∧ boxErrP q = 0 := by
      unfold boxInErr first2 at he
      split at he
      · rename_i h1; exact ⟨h1, he⟩
      · contradiction
    obtain ⟨l1, l2, l3, -⟩ := checkPolygonP_ok h1.1
    have hm : ∀ k, k < ps.length → Mid1 (plcAt ps k) := fun k hk => cornerErr_mid (l3 k hk)
    have HM := Lib.hid hm
    have HNE := Lib.hid (show ∀ k, k < ps.length → ¬ ((sideAt ps 2 k).x1 = (sideAt ps 2 k).x2 ∧ (sideAt ps 2 k).y1 = (sideAt ps 2 k).y2) from fun k hk => by
      have hx : nextN ps.length k ≠ k := by unfold nextN; split <;> omega
      have := corner_ne l3 hk (next_lt hk) (fun e => hx e.symm)
      unfold sideAt
      dsimp only
      omega)
    have HFT := Lib.hid (show ∀ k, k < ps.length → (sideAt ps 2 k).Fit from fun k hk => by
      obtain ⟨a1, a2, a3, a4⟩ := hm k hk
      obtain ⟨b1, b2, b3, b4⟩ := hm _ (next_lt hk)
      unfold sideAt Sd.Fit Mid
      dsimp only
      omega)
    unfold boxInVal at hr
    rw [if_pos he] at hr
    have HMAY := Lib.hid (show ∀ k, k < ps.length → passAt ps q k = true → r = 1 from fun k hk h => hr.symm.trans (boxIn_may hk h))
    have HNOT := Lib.hid (show (∀ k, k < ps.length → passAt ps q k = false) → r = if insB (sideAt ps 2) ps.length (2 * q.x1) (2 * q.y1) = true then 2 else 0 from fun h => hr.symm.trans (boxIn_not h))
    obtain ⟨x1a, x1b, x2a, x2b, y1a, y1b, y2a, y2b, xo, yo⟩ := boxErrP_ok h1.2
    have HB1 := Lib.hid (show Mid (2 * q.x1 - 1) ∧ Mid (2 * q.y1 - 1) ∧ Mid (2 * q.x2 + 1) ∧ Mid (2 * q.y2 + 1) ∧ Mid (2 * q.x1) ∧ Mid (2 * q.y1) by unfold Mid; omega)
    obtain ⟨hw1, hw2, a, cap, rfl, hw4⟩ := hv
    obtain ⟨b, rfl, hbw, hp⟩ := hw4 (by omega)
    have HP := Lib.hid hp
    clear hc1 hc2 he hr h1 hm hw1 hw2 hw4 hp l3
    go_enter Try.func70, Try.ntmps70
    go_wp2
    go_region_held3 (fun w' => w'.cell? ⟨w.heap.size, 0, none⟩ = some (.int .i64 q.x1) ∧ w'.cell? ⟨w.heap.size, 1, none⟩ = some (.int .i64 q.x2) ∧ w'.cell? ⟨w.heap.size, 2, none⟩ = some (.int .i64 q.y1) ∧ w'.cell? ⟨w.heap.size, 3, none⟩ = some (.int .i64 q.y2)) (first | ((first | (simp [go_sem]; done) | simp [go_sem, ↓IntWalk.iteOmega]); done)) (first | (go_at_call 53; refine (checkPolygon_v ps _ _ (HV.out.below (by (repeat' (first | with_reducible exact Below.refl _ _ | (with_reducible refine below_later_of ?_ ?_ _) | (with_reducible refine Below.alloc ?_ ?_ _) | (with_reducible refine Below.setCell ?_ ?_ _) | (with_reducible refine Below.drew ?_) | (simp; done) | (simp; omega) | omega)))) HE1.out).mono ?_; rintro e w' ⟨rfl, hb⟩; obtain ⟨pp, rfl⟩ := later_of_below hb; clear hb) | (go_at_call 132; refine (check_any q _ HE2.out).mono ?_; rintro e w' ⟨rfl, hb⟩; obtain ⟨pp, rfl⟩ := later_of_below hb; clear hb) | (go_at_call 109; refine (first_f _ _ _ _ HE.out (by (first | (simp [go_sem]; done) | simp [go_sem, ↓IntWalk.iteOmega])) (by (first | (simp [go_sem]; done) | simp [go_sem, ↓IntWalk.iteOmega]))).mono ?_; rintro e w' ⟨rfl, rfl⟩))
    all_goals
      rename_i hheld
      clear hheld
      refine then_worldB (G := fun K => Exit.then _ K) (fun W => Own4 W w.heap.size q.x1 q.x2 q.y1 q.y2 ∧ Below w.heap.size w W ∧ w.heap.size < W.heap.size) ⟨⟨(by (first | (simp [go_sem]; done) | simp [go_sem, ↓IntWalk.iteOmega])), (by (first | (simp [go_sem]; done) | simp [go_sem, ↓IntWalk.iteOmega])), (by (first | (simp [go_sem]; done) | simp [go_sem, ↓IntWalk.iteOmega])), (by (first | (simp [go_sem]; done) | simp [go_sem, ↓IntWalk.iteOmega]))⟩, (by (repeat' (first | with_reducible exact Below.refl _ _ | (with_reducible refine below_later_of ?_ ?_ _) | (with_reducible refine Below.alloc ?_ ?_ _) | (with_reducible refine Below.setCell ?_ ?_ _) | (with_reducible refine Below.drew ?_) | (simp; done) | (simp; omega) | omega))), by simp; omega⟩ ?_
      rintro W5 ⟨bb, hb5, hs5⟩
      have BB := Lib.hid bb
      have HB5 := Lib.hid hb5
      obtain ⟨b1, b2, b3, b4⟩ := bb
      clear hb5
      go_wp2
      refine wp_loop_rounds 3 ?_
      rw [rounds_succ]
      go_wp2
      rw [rounds_succ]
      go_wp2
      rw [rounds_succ]
      go_wp2_with fail
      refine calls_world (fun W => Own4 W w.heap.size q.x1 q.x2 q.y1 q.y2 ∧ Own4 W W5.heap.size (2 * q.x1 - 1) (2 * q.x2 + 1) (2 * q.y1 - 1) (2 * q.y2 + 1) ∧ Below W5.heap.size W5 W ∧ W5.heap.size < W.heap.size) ⟨BB.out.below hs5 (by (repeat' (first | with_reducible exact Below.refl _ _ | (with_reducible refine below_later_of ?_ ?_ _) | (with_reducible refine Below.alloc ?_ ?_ _) | (with_reducible refine Below.setCell ?_ ?_ _) | (with_reducible refine Below.drew ?_) | (simp; done) | (simp; omega) | omega))), ⟨(by (first | (simp [go_sem]; done) | simp [go_sem, ↓IntWalk.iteOmega])), (by (first | (simp [go_sem]; done) | simp [go_sem, ↓IntWalk.iteOmega])), (by (first | (simp [go_sem]; done) | simp [go_sem, ↓IntWalk.iteOmega])), (by (first | (simp [go_sem]; done) | simp [go_sem, ↓IntWalk.iteOmega]))⟩, (by (repeat' (first | with_reducible exact Below.refl _ _ | (with_reducible refine below_later_of ?_ ?_ _) | (with_reducible refine Below.alloc ?_ ?_ _) | (with_reducible refine Below.setCell ?_ ?_ _) | (with_reducible refine Below.drew ?_) | (simp; done) | (simp; omega) | omega))), by (simp <;> omega)⟩ ?_
      rintro W2 ⟨bb, rr, hb2, hs6⟩
      have BB2 := Lib.hid bb
      have RR := Lib.hid rr
      have HBW := Lib.hid (HB5.out.trans (hb2.mono (by omega)))
      have hsz2 := HBW.out.size
      have hbw2 : b < W2.heap.size := by omega
      clear bb rr hb2 b1 b2 b3 b4
      refine (sides_row ps 2 b cap W2 (Or.inr rfl) (by omega) (by omega) hbw2 (HP.out.below hbw HBW.out) HM.out).mono ?_
      rintro e w2 ⟨g, c, rfl, hg1, hg2, hc1, hc2, hsd, hb2⟩
      have HSD := Lib.hid hsd
      have HBS := Lib.hid hb2
      have hszs := hb2.size
      clear hsd hb2
      have HBW3 := Lib.hid (HBW.out.trans (HBS.out.mono (show w.heap.size ≤ W2.heap.size by omega)))
      have BB3 := Lib.hid (BB2.out.below (C := W2.heap.size) (by omega) HBS.out)
      have RR3 := Lib.hid (RR.out.below (C := W2.heap.size) hs6 HBS.out)
      have HIN0 := Lib.hid (show ∀ w', Below w2.heap.size w2 w' → ∀ rb, insB (sideAt ps 2) ps.length (2 * q.x1) (2 * q.y1) = rb → Calls Try.prog 118 #[.slice (some ⟨g, 0, none⟩) ps.length c, .agg #[.int .i64 (2 * q.x1), .int .i64 (2 * q.y1)]] w' fun e w'' => e = .returned (.bool rb) ∧ Below w'.heap.size w' w'' from fun w' h rb hrb => inside_any ps 2 g c _ _ w' (by omega) HFT.out HB1.out.2.2.2.2.1 HB1.out.2.2.2.2.2 (by have := h.size; omega) (HSD.out.below hg2 h) hrb)
      go_wp2_with fail
      go_loopw [43] (fun i wr => ∃ k : Nat, k ≤ ps.length ∧ i = .int .i64 k ∧ Below w2.heap.size w2 wr ∧ ∀ j, j < k → passAt ps q j = false) (fun i _ => ps.length - (intOf i).toNat)
      case atStart => exact ⟨0, Nat.zero_le _, rfl, Below.refl _ _, fun j hj => by omega⟩
      case round =>
        obtain ⟨k, hk, rfl, hnx, hz⟩ := hrel
        have HZ := Lib.hid hz
        have HX := Lib.hid hnx
        have hsz := hnx.size
        clear hz
        by_cases hlt : k < ps.length
        · obtain ⟨d1, d2, d3, d4⟩ := (HSD.out.below hg2 hnx) k hlt
          obtain ⟨f1, f2, f3, f4⟩ := RR3.out.below (C := w2.heap.size) (by omega) hnx
          have hgr : g < wr.heap.size := by omega
          obtain ⟨pa, hpa⟩ : ∃ pa, passAt ps q k = pa := ⟨_, rfl⟩
          have hpx : crossesP (sideAt ps 2 k) (2 * q.x1 - 1) (2 * q.y1 - 1) (2 * q.x2 + 1) (2 * q.y2 + 1) = pa := (crosses_pass (HNE.out k hlt) (by omega) (by omega)).trans hpa
          have HCR := Lib.hid (show ∀ w', Calls Try.prog 136 #[.agg #[.int .i64 (sideAt ps 2 k).x1, .int .i64 (sideAt ps 2 k).y1, .int .i64 (sideAt ps 2 k).x2, .int .i64 (sideAt ps 2 k).y2], .agg #[.int .i64 (2 * q.x1 - 1), .int .i64 (2 * q.x2 + 1), .int .i64 (2 * q.y1 - 1), .int .i64 (2 * q.y2 + 1)]] w' fun e w'' => e = .returned (.bool pa) ∧ Below w'.heap.size w' w'' from fun w' => crosses_any (sideAt ps 2 k) _ _ _ _ w' (HFT.out k hlt) HB1.out.1 HB1.out.2.1 HB1.out.2.2.1 HB1.out.2.2.2.1 hpx)
          have HR1 := Lib.hid (show pa = true → r = 1 from fun h => HMAY.out k hlt (by rw [hpa]; exact h))
          have HPK := Lib.hid hpa
          generalize sideAt ps 2 k = s at *
          clear hpa hpx hnx
          cases pa
          · go_wp2_with (first | (go_at_call 136; (with_reducible refine (HCR.out _).mono ?_); rintro e w' ⟨rfl, hb⟩; obtain ⟨pp, rfl⟩ := later_of_below hb; clear hb))
            (go_roundw; (case rel => exact ⟨k + 1, by omega, by go_num, HX.out.trans (below_mono_of hsz (by (repeat' (first | with_reducible exact Below.refl _ _ | (with_reducible refine below_later_of ?_ ?_ _) | (with_reducible refine Below.alloc ?_ ?_ _) | (with_reducible refine Below.setCell ?_ ?_ _) | (with_reducible refine Below.drew ?_) | (simp; done) | (simp; omega) | omega)))), fun j hj => if e : j = k then (by rw [e]; exact HPK.out) else HZ.out j (by omega)⟩); (case measure => simp [intOf]; omega))
          · have HR := Lib.hid (HR1.out rfl)
            go_wp2_with (first | (go_at_call 136; (with_reducible refine (HCR.out _).mono ?_); rintro e w' ⟨rfl, hb⟩; obtain ⟨pp, rfl⟩ := later_of_below hb; clear hb))
            go_ret2
            exact ⟨by rw [HR.out]; rfl, HBW3.out.trans ((HX.out.trans (below_mono_of hsz (by (repeat' (first | with_reducible exact Below.refl _ _ | (with_reducible refine below_later_of ?_ ?_ _) | (with_reducible refine Below.alloc ?_ ?_ _) | (with_reducible refine Below.setCell ?_ ?_ _) | (with_reducible refine Below.drew ?_) | (simp; done) | (simp; omega) | omega))))).mono (by omega))⟩
        · obtain rfl : k = ps.length := by omega
          have HR := Lib.hid (HNOT.out HZ.out)
          obtain ⟨rb, hrb⟩ : ∃ rb, insB (sideAt ps 2) ps.length (2 * q.x1) (2 * q.y1) = rb := ⟨_, rfl⟩
          have HIN := Lib.hid (show ∀ w', Below wr.heap.size wr w' → _ from fun w' h => HIN0.out w' (HX.out.trans (h.mono hsz)) rb hrb)
          obtain ⟨b1, b2, b3, b4⟩ := BB3.out.below (C := w2.heap.size) (by omega) hnx
          rw [hrb] at HR
          clear hnx hrb
          cases rb
          · go_wp2_with (first | (go_at_call 118; (with_reducible refine (HIN.out _ (by (repeat' (first | with_reducible exact Below.refl _ _ | (with_reducible refine below_later_of ?_ ?_ _) | (with_reducible refine Below.alloc ?_ ?_ _) | (with_reducible refine Below.setCell ?_ ?_ _) | (with_reducible refine Below.drew ?_) | (simp; done) | (simp; omega) | omega)))).mono ?_); rintro e w' ⟨rfl, hb⟩; obtain ⟨pp, rfl⟩ := later_of_below hb; clear hb))
            go_ret2
            exact ⟨by rw [HR.out]; rfl, HBW3.out.trans ((HX.out.trans (below_mono_of hsz (by (repeat' (first | with_reducible exact Below.refl _ _ | (with_reducible refine below_later_of ?_ ?_ _) | (with_reducible refine Below.alloc ?_ ?_ _) | (with_reducible refine Below.setCell ?_ ?_ _) | (with_reducible refine Below.drew ?_) | (simp; done) | (simp; omega) | omega))))).mono (by omega))⟩
          · go_wp2_with (first | (go_at_call 118; (with_reducible refine (HIN.out _ (by (repeat' (first | with_reducible exact Below.refl _ _ | (with_reducible refine below_later_of ?_ ?_ _) | (with_reducible refine Below.alloc ?_ ?_ _) | (with_reducible refine Below.setCell ?_ ?_ _) | (with_reducible refine Below.drew ?_) | (simp; done) | (simp; omega) | omega)))).mono ?_); rintro e w' ⟨rfl, hb⟩; obtain ⟨pp, rfl⟩ := later_of_below hb; clear hb))
            go_ret2
            exact ⟨by rw [HR.out]; rfl, HBW3.out.trans ((HX.out.trans (below_mono_of hsz (by (repeat' (first | with_reducible exact Below.refl _ _ | (with_reducible refine below_later_of ?_ ?_ _) | (with_reducible refine Below.alloc ?_ ?_ _) | (with_reducible refine Below.setCell ?_ ?_ _) | (with_reducible refine Below.drew ?_) | (simp; done) | (simp; omega) | omega))))).mono (by omega))⟩
  · have hr' : r = 0 := by unfold boxInVal at hr; rw [if_neg (by rw [he]; exact h0)] at hr; exact hr.symm
    subst hr'
    clear hc1 hc2 he hr hv
    go_enter Try.func70, Try.ntmps70
    go_wp2
    go_region_held3 (fun w' => w'.cell? ⟨w.heap.size, 0, none⟩ = some (.int .i64 q.x1) ∧ w'.cell? ⟨w.heap.size, 1, none⟩ = some (.int .i64 q.x2) ∧ w'.cell? ⟨w.heap.size, 2, none⟩ = some (.int .i64 q.y1) ∧ w'.cell? ⟨w.heap.size, 3, none⟩ = some (.int .i64 q.y2)) (first | ((first | (simp [go_sem]; done) | simp [go_sem, ↓IntWalk.iteOmega]); done)) (first | (go_at_call 53; refine (checkPolygon_v ps _ _ (HV.out.below (by (repeat' (first | with_reducible exact Below.refl _ _ | (with_reducible refine below_later_of ?_ ?_ _) | (with_reducible refine Below.alloc ?_ ?_ _) | (with_reducible refine Below.setCell ?_ ?_ _) | (with_reducible refine Below.drew ?_) | (simp; done) | (simp; omega) | omega)))) HE1.out).mono ?_; rintro e w' ⟨rfl, hb⟩; obtain ⟨pp, rfl⟩ := later_of_below hb; clear hb) | (go_at_call 132; refine (check_any q _ HE2.out).mono ?_; rintro e w' ⟨rfl, hb⟩; obtain ⟨pp, rfl⟩ := later_of_below hb; clear hb) | (go_at_call 109; refine (first_f _ _ _ _ HE.out (by (first | (simp [go_sem]; done) | simp [go_sem, ↓IntWalk.iteOmega])) (by (first | (simp [go_sem]; done) | simp [go_sem, ↓IntWalk.iteOmega]))).mono ?_; rintro e w' ⟨rfl, rfl⟩))
    all_goals
      go_wp2
      go_ret2
      exact ⟨rfl, (by (repeat' (first | with_reducible exact Below.refl _ _ | (with_reducible refine below_later_of ?_ ?_ _) | (with_reducible refine Below.alloc ?_ ?_ _) | (with_reducible refine Below.setCell ?_ ?_ _) | (with_reducible refine Below.drew ?_) | (simp; done) | (simp; omega) | omega)))⟩
end Go.Proofs.Ytokpdmlmlkkekaa
