/- Polygons: the reference's BoxInside, the walk. -/
import Derived.Test.YthnfepfbkmafaaaX6
import Derived.Test.YthnfepfbkmafaaaZK
namespace Go.Proofs.Ythnfepfbkmafaaa
set_option linter.unusedVariables false
open Go.RowKit
theorem mid_dbl {p : Plc} (h : Mid1 p) : Mid (2 * p.x) ∧ Mid (2 * p.y) := by
  obtain ⟨a1, a2, a3, a4⟩ := h
  unfold Mid
  omega
theorem side2_fit {ps : List Plc} (hm : ∀ k, k < ps.length → Mid1 (plcAt ps k)) {k : Nat} (hk : k < ps.length) : (sideAt ps 2 k).Fit := by
  have h1 := mid_dbl (hm k hk)
  have h2 := mid_dbl (hm _ (next_lt hk))
  exact ⟨h1.1, h1.2, h2.1, h2.2⟩
theorem mid_dbl1 {p : Plc} (h : Mid1 p) : Mid p.x ∧ Mid p.y := mid_of h
def Own4' (W : World) (B : Nat) (a b c d : Int) : Prop := W.cell? ⟨B, 0, none⟩ = some (.int .i64 a) ∧ W.cell? ⟨B, 1, none⟩ = some (.int .i64 b) ∧ W.cell? ⟨B, 2, none⟩ = some (.int .i64 c) ∧ W.cell? ⟨B, 3, none⟩ = some (.int .i64 d)
theorem Own4'.below {w w' : World} {B C : Nat} {a b c d : Int} (h : Own4' w B a b c d) (hB : B < C) (hw : Below C w w') : Own4' w' B a b c d :=
  ⟨(hw.cell hB).trans h.1, (hw.cell hB).trans h.2.1, (hw.cell hB).trans h.2.2.1, (hw.cell hB).trans h.2.2.2⟩
set_option maxRecDepth 20000 in
set_option maxHeartbeats 8000000 in
theorem rBoxInside (ps : List Plc) (b off cap : Nat) (q : Bx) (w : World) (hp : checkPolygonP ps = 0) (hq : q.Ok) (hbw : b < w.heap.size) (hpl : PlacesO w b off ps) {r : Int} (hr : boxInP ps q (q.x1 + q.x2) (q.y1 + q.y2) = r) :
    Calls Try.prog 69 #[.slice (some ⟨b, off, none⟩) ps.length cap, .agg #[.int .i64 q.x1, .int .i64 q.x2, .int .i64 q.y1, .int .i64 q.y2]] w fun e w' => e = .returned (.int .i64 r) ∧ Below w.heap.size w w' := by
  subst hr
  obtain ⟨l1, l2, l3, -⟩ := checkPolygonP_ok hp
  obtain ⟨i0, hi, hz0, hz1, hz2⟩ := info_parts infoPlc
  have hm : ∀ k, k < ps.length → Mid1 (plcAt ps k) := fun k hk => cornerErr_mid (l3 k hk)
  have HM := Lib.hid hm
  have HP := Lib.hid hpl
  have HMAY := Lib.hid (show ∀ k, k < ps.length → passAt ps q k = true → boxInP ps q (q.x1 + q.x2) (q.y1 + q.y2) = 1 from fun k hk h => boxIn_may hk h)
  have HNOT := Lib.hid (show (∀ k, k < ps.length → passAt ps q k = false) → boxInP ps q (q.x1 + q.x2) (q.y1 + q.y2) = if insB (sideAt ps 2) ps.length (q.x1 + q.x2) (q.y1 + q.y2) = true then 2 else 0 from fun h => boxIn_not h)
  obtain ⟨x1a, x1b, x2a, x2b, y1a, y1b, y2a, y2b, xo, yo⟩ := hq
  have HB1 := Lib.hid (show Mid (2 * q.x1 - 1) ∧ Mid (2 * q.y1 - 1) ∧ Mid (2 * q.x2 + 1) ∧ Mid (2 * q.y2 + 1) ∧ Mid (q.x1 + q.x2) ∧ Mid (q.y1 + q.y2) by unfold Mid; omega)
  clear hp hm l3 hpl
  go_enter Try.func69, Try.ntmps69
  go_wp2
  refine wp_worldP (fun W => Own4' W w.heap.size q.x1 q.x2 q.y1 q.y2 ∧ Three W (w.heap.size + 1) 0 (2 * q.x1 - 1) (2 * q.y1 - 1) 0 ∧ Three W (w.heap.size + 1 + 1) 0 (2 * q.x2 + 1) (2 * q.y2 + 1) 0 ∧ Below w.heap.size w W ∧ w.heap.size + 1 + 1 < W.heap.size) ⟨⟨(by (first | (simp [go_sem]; done) | simp [go_sem, ↓IntWalk.iteOmega])), (by (first | (simp [go_sem]; done) | simp [go_sem, ↓IntWalk.iteOmega])), (by (first | (simp [go_sem]; done) | simp [go_sem, ↓IntWalk.iteOmega])), (by (first | (simp [go_sem]; done) | simp [go_sem, ↓IntWalk.iteOmega]))⟩, ⟨(by (first | (simp [go_sem]; done) | simp [go_sem, ↓IntWalk.iteOmega])), (by (first | (simp [go_sem]; done) | simp [go_sem, ↓IntWalk.iteOmega])), (by (first | (simp [go_sem]; done) | simp [go_sem, ↓IntWalk.iteOmega]))⟩, ⟨(by (first | (simp [go_sem]; done) | simp [go_sem, ↓IntWalk.iteOmega])), (by (first | (simp [go_sem]; done) | simp [go_sem, ↓IntWalk.iteOmega])), (by (first | (simp [go_sem]; done) | simp [go_sem, ↓IntWalk.iteOmega]))⟩, (by (repeat' (first | with_reducible exact Below.refl _ _ | (with_reducible refine below_later_of ?_ ?_ _) | (with_reducible refine Below.alloc ?_ ?_ _) | (with_reducible refine Below.setCell ?_ ?_ _) | (with_reducible refine Below.drew ?_) | (simp; done) | (simp; omega) | omega))), by (simp <;> omega)⟩ ?_
  rintro W2 ⟨bb, lo, hh, hb, hs2⟩
  have BB := Lib.hid bb
  have LO := Lib.hid lo
  have HH := Lib.hid hh
  have HB2 := Lib.hid hb
  have hsz2 := hb.size
  clear bb lo hh hb
  go_loopw [7, 8] (fun v i wr => ∃ k : Nat, k ≤ ps.length ∧ i = .int .i64 k ∧ wr.ownsRow W2.heap.size 23 3 v k (dblUpto ps k) ∧ Below W2.heap.size W2 wr ∧ ∀ j, j < k → passAt ps q j = false) (fun _ i _ => ps.length - (intOf i).toNat)
  case atStart => exact ⟨0, Nat.zero_le _, rfl, World.ownsRow_nil _ _ _ _, Below.refl _ _, fun j hj => by omega⟩
  case round =>
    obtain ⟨k, hk, rfl, hown, hnx, hz⟩ := hrel
    have HZ := Lib.hid hz
    have HX := Lib.hid hnx
    have HO := Lib.hid hown
    have hsz := hnx.size
    clear hz
    by_cases hlt : k < ps.length
    · have hbr2 : b < W2.heap.size := by omega
      have C2 := Lib.hid (show ∀ W', Below W2.heap.size W2 W' → (W'.cell? ⟨b, off + k * 3, none⟩ = some (.int .i64 (plcAt ps k).x) ∧ W'.cell? ⟨b, off + k * 3 + 1, none⟩ = some (.int .i64 (plcAt ps k).y) ∧ W'.cell? ⟨b, off + k * 3 + 2, none⟩ = some (.int .i64 (plcAt ps k).z)) ∧ (W'.cell? ⟨b, off + nextN ps.length k * 3, none⟩ = some (.int .i64 (plcAt ps (nextN ps.length k)).x) ∧ W'.cell? ⟨b, off + nextN ps.length k * 3 + 1, none⟩ = some (.int .i64 (plcAt ps (nextN ps.length k)).y) ∧ W'.cell? ⟨b, off + nextN ps.length k * 3 + 2, none⟩ = some (.int .i64 (plcAt ps (nextN ps.length k)).z)) ∧ Three W' (w.heap.size + 1) 0 (2 * q.x1 - 1) (2 * q.y1 - 1) 0 ∧ Three W' (w.heap.size + 1 + 1) 0 (2 * q.x2 + 1) (2 * q.y2 + 1) 0 from fun W' h => ⟨((HP.out.below hbw HB2.out).below hbr2 h) k hlt, ((HP.out.below hbw HB2.out).below hbr2 h) _ (next_lt hlt), LO.out.below (C := W2.heap.size) (by omega) h, HH.out.below (C := W2.heap.size) (by omega) h⟩)
      have hr1 := next_rem hlt
      have hj1 := next_lt hlt
      have M1 := Lib.hid (mid_dbl1 (HM.out k hlt)).1
      have M2 := Lib.hid (mid_dbl1 (HM.out k hlt)).2
      have M3 := Lib.hid (mid_dbl1 (HM.out _ hj1)).1
      have M4 := Lib.hid (mid_dbl1 (HM.out _ hj1)).2
      obtain ⟨pa, hpa⟩ : ∃ pa, passAt ps q k = pa := ⟨_, rfl⟩
      have HPA := Lib.hid (show ∀ w', Calls Try.prog 134 #[.agg #[.int .i64 (2 * (plcAt ps k).x), .int .i64 (2 * (plcAt ps k).y), .int .i64 0], .agg #[.int .i64 (2 * (plcAt ps (nextN ps.length k)).x), .int .i64 (2 * (plcAt ps (nextN ps.length k)).y), .int .i64 0], .agg #[.int .i64 (2 * q.x1 - 1), .int .i64 (2 * q.y1 - 1), .int .i64 0], .agg #[.int .i64 (2 * q.x2 + 1), .int .i64 (2 * q.y2 + 1), .int .i64 0]] w' fun e w'' => e = .returned (.bool pa) ∧ Below w'.heap.size w' w'' from fun w' => rPasses (sideAt ps 2 k) 0 0 0 0 _ _ _ _ w' (side2_fit HM.out hlt) HB1.out.1 HB1.out.2.1 HB1.out.2.2.1 HB1.out.2.2.2.1 hpa)
      have HSN := Lib.hid (show dblUpto ps (k + 1) = dblUpto ps k ++ [.int .i64 (2 * (plcAt ps k).x), .int .i64 (2 * (plcAt ps k).y), .int .i64 0] from rfl)
      have HR1 := Lib.hid (show pa = true → boxInP ps q (q.x1 + q.x2) (q.y1 + q.y2) = 1 from fun h => HMAY.out k hlt (by rw [hpa]; exact h))
      have HPK := Lib.hid hpa
      generalize plcAt ps k = p1 at *
      generalize nextN ps.length k = j1 at *
      generalize plcAt ps j1 = p2 at *
      obtain ⟨a1, a2⟩ := M1.out
      obtain ⟨a3, a4⟩ := M2.out
      have hbr : b < wr.heap.size := by omega
      obtain ⟨⟨c1, c2, c3⟩, -, -, -⟩ := C2.out wr hnx
      clear hpa hnx hown
      go_wp2_with (first | (go_at_call 133; (with_reducible refine (rDouble p1.x p1.y _ _ M1.out M2.out).mono ?_); rintro e w' ⟨rfl, hb⟩; obtain ⟨pp, rfl⟩ := later_of_below hb; clear hb) | (at_builtin; refine wpList_append_own _ rfl _ _ 85 rfl W2.heap.size 23 i0 (.agg #[.int .i64 0, .int .i64 0, .int .i64 0]) 3 24 Try.underlying85 hi hz0 hz1 hz2 rfl (by decide) _ _ _ rfl ((ownsRow_later HO.out _).alloc _) ⟨(later wr pp).heap.size, 0, none⟩ 1 1 [.int .i64 (2 * p1.x), .int .i64 (2 * p1.y), .int .i64 0] (by simp; rfl) rfl ?c1 ?c2 ?c3 ?c4 ?c5 ?_))
      case c1 => exact cells_new _ [_, _, _] _
      case c2 => intro u hu; simp at hu; rcases hu with rfl | rfl | rfl <;> rfl
      case c3 => unfold maxLen; omega
      case c4 => omega
      case c5 => simp; omega
      intro v' w1 hown' hgrow _
      have HX1 := Lib.hid (show Below W2.heap.size W2 w1 from (HX.out.trans (show Below W2.heap.size wr _ from below_mono_of hsz (by (repeat' (first | with_reducible exact Below.refl _ _ | (with_reducible refine below_later_of ?_ ?_ _) | (with_reducible refine Below.alloc ?_ ?_ _) | (with_reducible refine Below.setCell ?_ ?_ _) | (with_reducible refine Below.drew ?_) | (simp; done) | (simp; omega) | omega))))).grown hgrow (by simp; omega) (fun g hg => (HO.out.lt g hg).1))
      have HO1 := Lib.hid hown'
      have hsz1 := HX1.out.size
      have hbr1 : b < w1.heap.size := by omega
      clear hown' hgrow c1 c2 c3
      obtain ⟨⟨c1, c2, c3⟩, ⟨d1, d2, d3⟩, ⟨e1, e2, e3⟩, f1, f2, f3⟩ := C2.out w1 HX1.out
      cases pa
      · go_wp2
        refine wp_region_calm (by kernel_rfl) (by kernel_rfl) ?_
        repeat (go_big_quiet_step (first | (go_at_call 133; exact calm_of (by with_reducible exact rDouble p1.x p1.y _ _ M1.out M2.out)) | (go_at_call 133; exact calm_of (by with_reducible exact rDouble p2.x p2.y _ _ M3.out M4.out)) | (go_at_call 134; exact calm_of (by with_reducible exact HPA.out _))))
        refine wpQuiet_nil ?_
        rintro _ ⟨v1, rfl⟩
        go_wp2
        go_roundw
        case rel => exact ⟨k + 1, by omega, by go_num, by rw [HSN.out]; exact ownsRow_later HO1.out _, HX1.out.trans (below_mono_of hsz1 (by (repeat' (first | with_reducible exact Below.refl _ _ | (with_reducible refine below_later_of ?_ ?_ _) | (with_reducible refine Below.alloc ?_ ?_ _) | (with_reducible refine Below.setCell ?_ ?_ _) | (with_reducible refine Below.drew ?_) | (simp; done) | (simp; omega) | omega)))), fun j hj => if e : j = k then (by rw [e]; exact HPK.out) else HZ.out j (by omega)⟩
        case measure => simp [intOf]; omega
      · have HR := Lib.hid (HR1.out rfl)
        go_wp2
        refine wp_region_calm (by kernel_rfl) (by kernel_rfl) ?_
        repeat (go_big_quiet_step (first | (go_at_call 133; exact calm_of (by with_reducible exact rDouble p1.x p1.y _ _ M1.out M2.out)) | (go_at_call 133; exact calm_of (by with_reducible exact rDouble p2.x p2.y _ _ M3.out M4.out)) | (go_at_call 134; exact calm_of (by with_reducible exact HPA.out _))))
        refine wpQuiet_nil ?_
        rintro _ ⟨v1, rfl⟩
        go_wp2
        go_ret
        exact ⟨ret_int HR.out.symm, HB2.out.trans ((HX1.out.trans (below_mono_of hsz1 (by (repeat' (first | with_reducible exact Below.refl _ _ | (with_reducible refine below_later_of ?_ ?_ _) | (with_reducible refine Below.alloc ?_ ?_ _) | (with_reducible refine Below.setCell ?_ ?_ _) | (with_reducible refine Below.drew ?_) | (simp; done) | (simp; omega) | omega))))).mono (by omega))⟩
    · obtain rfl : k = ps.length := by omega
      have HR := Lib.hid (HNOT.out HZ.out)
      obtain ⟨g, cp, rfl, hg1, hg2, hg3, hg4⟩ := ownsRow_slice hown (by omega)
      have hpo : PlacesO wr g 0 (dblOf ps) := fun j hj => by
        rw [dbl_len] at hj
        rw [dbl_at hj]
        have a0 := (hown.cellAt (j * 3) (by omega)).trans (dblUpto_at ps j 0 (by omega) ps.length hj)
        have a1 := (hown.cellAt (j * 3 + 1) (by omega)).trans (dblUpto_at ps j 1 (by omega) ps.length hj)
        have a2 := (hown.cellAt (j * 3 + 2) (by omega)).trans (dblUpto_at ps j 2 (by omega) ps.length hj)
        simp only [Nat.zero_add]
        exact ⟨a0, a1, a2⟩
      obtain ⟨ib, hib⟩ : ∃ ib, insB (sideAt ps 2) ps.length (q.x1 + q.x2) (q.y1 + q.y2) = ib := ⟨_, rfl⟩
      have hib2 : insB (sideAt (dblOf ps) 1) (dblOf ps).length (q.x1 + q.x2) (q.y1 + q.y2) = ib := by
        rw [dbl_len, ← hib]
        exact ins_same fun j hj => dbl_side hj
      have HIN := Lib.hid (show ∀ w', Below wr.heap.size wr w' → Calls Try.prog 53 #[.slice (some ⟨g, 0, none⟩) ps.length cp, .agg #[.int .i64 (q.x1 + q.x2), .int .i64 (q.y1 + q.y2), .int .i64 0]] w' fun e w'' => e = .returned (.bool ib) ∧ Below w'.heap.size w' w'' from fun w' h => by
        have := rInside (dblOf ps) g 0 cp (q.x1 + q.x2) (q.y1 + q.y2) 0 w' (by rw [dbl_len]; omega) (by rw [dbl_len]; omega) (fun j hj => by rw [dbl_len] at hj; rw [dbl_at hj]; exact mid_dbl (HM.out j hj)) HB1.out.2.2.2.2.1 HB1.out.2.2.2.2.2 (by have := h.size; omega) (hpo.below hg2 h) hib2
        rw [dbl_len] at this
        exact this)
      obtain ⟨b1, b2, b3, b4⟩ := BB.out.below (C := W2.heap.size) (by omega) hnx
      rw [hib] at HR
      clear hpo hib hib2 hnx hown
      cases ib
      · go_wp2_with (first | (go_at_call 53; (with_reducible refine (HIN.out _ (by (repeat' (first | with_reducible exact Below.refl _ _ | (with_reducible refine below_later_of ?_ ?_ _) | (with_reducible refine Below.alloc ?_ ?_ _) | (with_reducible refine Below.setCell ?_ ?_ _) | (with_reducible refine Below.drew ?_) | (simp; done) | (simp; omega) | omega)))).mono ?_); rintro e w' ⟨rfl, hb⟩; obtain ⟨pp, rfl⟩ := later_of_below hb; clear hb))
        go_ret
        exact ⟨ret_int HR.out.symm, HB2.out.trans ((HX.out.trans (below_mono_of hsz (by (repeat' (first | with_reducible exact Below.refl _ _ | (with_reducible refine below_later_of ?_ ?_ _) | (with_reducible refine Below.alloc ?_ ?_ _) | (with_reducible refine Below.setCell ?_ ?_ _) | (with_reducible refine Below.drew ?_) | (simp; done) | (simp; omega) | omega))))).mono (by omega))⟩
      · go_wp2_with (first | (go_at_call 53; (with_reducible refine (HIN.out _ (by (repeat' (first | with_reducible exact Below.refl _ _ | (with_reducible refine below_later_of ?_ ?_ _) | (with_reducible refine Below.alloc ?_ ?_ _) | (with_reducible refine Below.setCell ?_ ?_ _) | (with_reducible refine Below.drew ?_) | (simp; done) | (simp; omega) | omega)))).mono ?_); rintro e w' ⟨rfl, hb⟩; obtain ⟨pp, rfl⟩ := later_of_below hb; clear hb))
        go_ret
        exact ⟨ret_int HR.out.symm, HB2.out.trans ((HX.out.trans (below_mono_of hsz (by (repeat' (first | with_reducible exact Below.refl _ _ | (with_reducible refine below_later_of ?_ ?_ _) | (with_reducible refine Below.alloc ?_ ?_ _) | (with_reducible refine Below.setCell ?_ ?_ _) | (with_reducible refine Below.drew ?_) | (simp; done) | (simp; omega) | omega))))).mono (by omega))⟩
end Go.Proofs.Ythnfepfbkmafaaa
