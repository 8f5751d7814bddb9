/- The law GroundInside returns true. -/
import Derived.Test.YthnfepfbkmafaaaX7
import Derived.Test.YthnfepfbkmafaaaX8
import Derived.Test.YthnfepfbkmafaaaY10
import Derived.Test.YthnfepfbkmafaaaQ5
import Derived.Deep.CutRange
import Derived.Deep.RegionHeld3
namespace Go.Proofs.Ythnfepfbkmafaaa
set_option linter.unusedVariables false
open Go.RowKit
theorem has_scale (a b c d x y : Int) : hasP ⟨2 * a, 2 * b, 2 * c, 2 * d⟩ (2 * x) (2 * y) = hasP ⟨a, b, c, d⟩ x y := by
  have e1 : crossP ⟨2 * a, 2 * b, 2 * c, 2 * d⟩ (2 * x) (2 * y) = 4 * crossP ⟨a, b, c, d⟩ x y := by unfold crossP; dsimp only; grind
  have e2 : dotP ⟨2 * a, 2 * b, 2 * c, 2 * d⟩ (2 * x) (2 * y) = 4 * dotP ⟨a, b, c, d⟩ x y := by unfold dotP; dsimp only; grind
  unfold hasP turnP
  rw [e1, e2]
  congr 1
  · rw [decide_eq_decide, sgnP_zero, sgnP_zero]; omega
  · rw [decide_eq_decide]; omega
theorem flip_scale (a b c d x y : Int) : flipP ⟨2 * a, 2 * b, 2 * c, 2 * d⟩ (2 * x) (2 * y) = flipP ⟨a, b, c, d⟩ x y := by
  have e1 : crossP ⟨2 * a, 2 * b, 2 * c, 2 * d⟩ (2 * x) (2 * y) = 4 * crossP ⟨a, b, c, d⟩ x y := by unfold crossP; dsimp only; grind
  unfold flipP
  rw [e1]
  dsimp only
  rw [show decide (2 * y < 2 * b) = decide (y < b) by rw [decide_eq_decide]; omega, show decide (2 * y < 2 * d) = decide (y < d) by rw [decide_eq_decide]; omega, show decide (2 * b < 2 * d) = decide (b < d) by rw [decide_eq_decide]; omega, show decide (0 < 4 * crossP ⟨a, b, c, d⟩ x y) = decide (0 < crossP ⟨a, b, c, d⟩ x y) by rw [decide_eq_decide]; omega]
theorem par_scale (ps : List Plc) (x y : Int) : ∀ n, parB (sideAt ps 2) (2 * x) (2 * y) n = parB (sideAt ps 1) x y n
  | 0 => rfl
  | n + 1 => by
    rw [parB, parB, par_scale ps x y n]
    have : flipP (sideAt ps 2 n) (2 * x) (2 * y) = flipP (sideAt ps 1 n) x y := by rw [side1]; exact flip_scale _ _ _ _ _ _
    rw [this]
theorem ins_scale (ps : List Plc) (n : Nat) (x y : Int) : insB (sideAt ps 2) n (2 * x) (2 * y) = insB (sideAt ps 1) n x y := by
  have h : ∀ k, hasP (sideAt ps 2 k) (2 * x) (2 * y) = hasP (sideAt ps 1 k) x y := fun k => by rw [side1]; exact has_scale _ _ _ _ _ _
  unfold insB
  rw [par_scale]
  simp only [h]
/-- A place of the box is inside with AnswerYes, and not with AnswerNo. -/
theorem boxIn_place {ps : List Plc} {q : Bx} (hp : checkPolygonP ps = 0) (hq : boxErrP q = 0) {x y : Int} (x1 : q.x1 ≤ x) (x2 : x ≤ q.x2) (y1 : q.y1 ≤ y) (y2 : y ≤ q.y2) {r : Int} {iv : Bool} (hr : boxInVal ps q = r) (hi : insideValP ps x y 0 = iv) :
    boxInP ps q (q.x1 + q.x2) (q.y1 + q.y2) = r ∧ insideErrP ps x y 0 = 0 ∧ ((r = 2 ∧ iv = true) ∨ r = 1 ∨ (r = 0 ∧ iv = false)) := by
  obtain ⟨x1a, x1b, x2a, x2b, y1a, y1b, y2a, y2b, xo, yo⟩ := boxErrP_ok hq
  have hpl : placeB x y 0 = true := placeB_iff.2 ⟨⟨by omega, by omega⟩, ⟨by omega, by omega⟩, by omega, by omega⟩
  have hcp : checkPlaceP x y 0 = 0 := by unfold checkPlaceP; rw [hpl]; rfl
  have he : insideErrP ps x y 0 = 0 := by unfold insideErrP; rw [hp, hcp]; rfl
  have hbe : boxInErr ps q = 0 := by unfold boxInErr; rw [hp, hq]; rfl
  unfold boxInVal at hr
  rw [if_pos hbe] at hr
  unfold insideValP at hi
  rw [if_pos he] at hi
  have i1 : In4 (2 * q.x1 - 1) (2 * q.y1 - 1) (2 * q.x2 + 1) (2 * q.y2 + 1) (q.x1 + q.x2) (q.y1 + q.y2) := by unfold In4; omega
  have i2 : In4 (2 * q.x1 - 1) (2 * q.y1 - 1) (2 * q.x2 + 1) (2 * q.y2 + 1) (2 * q.x1) (2 * q.y1) := by unfold In4; omega
  have i3 : In4 (2 * q.x1 - 1) (2 * q.y1 - 1) (2 * q.x2 + 1) (2 * q.y2 + 1) (2 * x) (2 * y) := by unfold In4; omega
  refine ⟨by rw [(boxIn_same hp i1 i2).1]; exact hr, he, ?_⟩
  by_cases h : ∃ k, k < ps.length ∧ passAt ps q k = true
  · obtain ⟨k, hk, hh⟩ := h
    rw [boxIn_may hk hh] at hr
    exact Or.inr (Or.inl hr.symm)
  · have h' : ∀ k, k < ps.length → passAt ps q k = false := fun k hk => by
      rw [Bool.eq_false_iff]
      exact fun hh => h ⟨k, hk, hh⟩
    rw [boxIn_not h', (boxIn_same hp i2 i3).2 h', ins_scale, hi] at hr
    cases iv
    · exact Or.inr (Or.inr ⟨hr.symm, rfl⟩)
    · exact Or.inl ⟨hr.symm, rfl⟩
def QryAt (W : World) (B : Nat) (q : Bx) (a0 a1 a2 : Int) : Prop := (W.cell? ⟨B, 0, none⟩ = some (.int .i64 q.x1) ∧ W.cell? ⟨B, 1, none⟩ = some (.int .i64 q.x2) ∧ W.cell? ⟨B, 2, none⟩ = some (.int .i64 q.y1) ∧ W.cell? ⟨B, 3, none⟩ = some (.int .i64 q.y2)) ∧ W.cell? ⟨B, 4, none⟩ = some (.int .i64 a0) ∧ W.cell? ⟨B, 5, none⟩ = some (.int .i64 a1) ∧ W.cell? ⟨B, 6, none⟩ = some (.int .i64 a2)
theorem QryAt.below {w w' : World} {B C : Nat} {q : Bx} {a0 a1 a2 : Int} (h : QryAt w B q a0 a1 a2) (hB : B < C) (hw : Below C w w') : QryAt w' B q a0 a1 a2 := by
  obtain ⟨⟨h0, h1, h2, h3⟩, h4, h5, h6⟩ := h
  exact ⟨⟨(hw.cell hB).trans h0, (hw.cell hB).trans h1, (hw.cell hB).trans h2, (hw.cell hB).trans h3⟩, (hw.cell hB).trans h4, (hw.cell hB).trans h5, (hw.cell hB).trans h6⟩
set_option maxRecDepth 20000 in
set_option maxHeartbeats 1000000 in
theorem ginside_many (ps : List Plc) (a : Option Addr) (cap : Nat) (q : Bx) (a0 a1 a2 : Int) (w : World) (hl : cornersB ps.length = false) : Calls Try.prog 15 #[.slice a ps.length cap, .agg #[.int .i64 q.x1, .int .i64 q.x2, .int .i64 q.y1, .int .i64 q.y2, .int .i64 a0, .int .i64 a1, .int .i64 a2]] w fun e w' => e = .returned (.bool true) ∧ Below w.heap.size w w' := by
  have HCO := Lib.hid hl
  clear hl
  go_enter Try.func15, Try.ntmps15
  go_wp2_with (first | (go_at_call 16; refine (awake_any _).mono ?_; rintro e w' ⟨rfl, hb⟩; obtain ⟨pp, rfl⟩ := later_of_below hb; clear hb) | (go_at_call 46; refine (corners_any ps _ cap _ HCO.out).mono ?_; rintro e w' ⟨rfl, hb⟩; obtain ⟨pp, rfl⟩ := later_of_below hb; clear hb))
  go_ret
  exact ⟨rfl, (by (repeat' (first | with_reducible exact Below.refl _ _ | (with_reducible refine below_later_of ?_ ?_ _) | (with_reducible refine Below.alloc ?_ ?_ _) | (with_reducible refine Below.setCell ?_ ?_ _) | (with_reducible refine Below.drew ?_) | (simp; done) | (simp; omega) | omega)))⟩
set_option maxRecDepth 20000 in
set_option maxHeartbeats 8000000 in
theorem ginside_few (ps : List Plc) (a : Option Addr) (cap : Nat) (q : Bx) (a0 a1 a2 : Int) (w : World) (hl : cornersB ps.length = true) (hs : PlSrc w a ps) (hwf : Wf2 ps) (hn : a = none → cap = 0) (i0 : -9223372036854775808 ≤ a0 ∧ a0 ≤ 9223372036854775807) (i1 : -9223372036854775808 ≤ a1 ∧ a1 ≤ 9223372036854775807) : Calls Try.prog 15 #[.slice a ps.length cap, .agg #[.int .i64 q.x1, .int .i64 q.x2, .int .i64 q.y1, .int .i64 q.y2, .int .i64 a0, .int .i64 a1, .int .i64 a2]] w fun e w' => e = .returned (.bool true) ∧ Below w.heap.size w w' := by
  have hn22 : ps.length ≤ 22 := by
    unfold cornersB at hl
    simp only [Bool.or_eq_true, Bool.and_eq_true, decide_eq_true_eq] at hl
    omega
  have HCO := Lib.hid hl
  have HS := Lib.hid hs
  have HWF := Lib.hid hwf
  have HN := Lib.hid hn
  obtain ⟨i01, i02⟩ := i0
  obtain ⟨i11, i12⟩ := i1
  obtain ⟨rv, hrv⟩ : ∃ rv, boxInVal ps q = rv := ⟨_, rfl⟩
  obtain ⟨re, hre⟩ : ∃ re, boxInErr ps q = re := ⟨_, rfl⟩
  obtain ⟨c, hc⟩ : ∃ c, checkPolygonP ps = c := ⟨_, rfl⟩
  obtain ⟨cb, hcb⟩ : ∃ c, boxErrP q = c := ⟨_, rfl⟩
  have HRV := Lib.hid hrv
  have HRE := Lib.hid hre
  have HC := Lib.hid hc
  have HB := Lib.hid hcb
  clear hl hs hwf hn hrv hre hc hcb
  go_enter Try.func15, Try.ntmps15
  go_wp2_with (first | (go_at_call 16; refine (awake_any _).mono ?_; rintro e w' ⟨rfl, hb⟩; obtain ⟨pp, rfl⟩ := later_of_below hb; clear hb) | (go_at_call 46; refine (corners_any ps _ cap _ HCO.out).mono ?_; rintro e w' ⟨rfl, hb⟩; obtain ⟨pp, rfl⟩ := later_of_below hb; clear hb))
  go_cut [5, 6] from 16 to 22 (fun X Y wx => X = .int .i64 rv ∧ Y = .int .i64 re ∧ QryAt wx w.heap.size q a0 a1 a2 ∧ Below w.heap.size w wx ∧ w.heap.size < wx.heap.size)
  case first =>
    go_region_held3 (fun w' => w'.cell? ⟨w.heap.size, 0, none⟩ = some (.int .i64 q.x1) ∧ w'.cell? ⟨w.heap.size, 1, none⟩ = some (.int .i64 q.x2) ∧ w'.cell? ⟨w.heap.size, 2, none⟩ = some (.int .i64 q.y1) ∧ w'.cell? ⟨w.heap.size, 3, none⟩ = some (.int .i64 q.y2)) (first | ((first | (simp [go_sem]; done) | simp [go_sem, ↓IntWalk.iteOmega]); done)) (first | (go_at_call 48; refine (own_any ps _ cap _ HWF.out (by omega) (HS.out.below (by (repeat' (first | with_reducible exact Below.refl _ _ | (with_reducible refine below_later_of ?_ ?_ _) | (with_reducible refine Below.alloc ?_ ?_ _) | (with_reducible refine Below.setCell ?_ ?_ _) | (with_reducible refine Below.drew ?_) | (simp; done) | (simp; omega) | omega)))) HN.out).mono ?_; rintro e w' ⟨v, rfl, hv, hb⟩; have HV := Lib.hid hv; clear hv; obtain ⟨pp, rfl⟩ := later_of_below hb; clear hb) | (go_at_call 68; refine (BoxInside_any ps _ q _ (HV.out.below (by (repeat' (first | with_reducible exact Below.refl _ _ | (with_reducible refine below_later_of ?_ ?_ _) | (with_reducible refine Below.alloc ?_ ?_ _) | (with_reducible refine Below.setCell ?_ ?_ _) | (with_reducible refine Below.drew ?_) | (simp; done) | (simp; omega) | omega)))) HRV.out HRE.out).mono ?_; rintro e w' ⟨rfl, hb⟩; obtain ⟨pp, rfl⟩ := later_of_below hb; clear hb))
    all_goals
      go_wp2_with fail
      go_meet
      exact ⟨rfl, rfl, ⟨⟨(by (first | (simp [go_sem]; done) | simp [go_sem, ↓IntWalk.iteOmega])), (by (first | (simp [go_sem]; done) | simp [go_sem, ↓IntWalk.iteOmega])), (by (first | (simp [go_sem]; done) | simp [go_sem, ↓IntWalk.iteOmega])), (by (first | (simp [go_sem]; done) | simp [go_sem, ↓IntWalk.iteOmega]))⟩, (by (first | (simp [go_sem]; done) | simp [go_sem, ↓IntWalk.iteOmega])), (by (first | (simp [go_sem]; done) | simp [go_sem, ↓IntWalk.iteOmega])), (by (first | (simp [go_sem]; done) | simp [go_sem, ↓IntWalk.iteOmega]))⟩, (by (repeat' (first | with_reducible exact Below.refl _ _ | (with_reducible refine below_later_of ?_ ?_ _) | (with_reducible refine Below.alloc ?_ ?_ _) | (with_reducible refine Below.setCell ?_ ?_ _) | (with_reducible refine Below.drew ?_) | (simp; done) | (simp; omega) | omega))), by (simp <;> omega)⟩
  case rest =>
    obtain ⟨rfl, rfl, qq, hb, hs5⟩ := hcut
    have HS := Lib.hid (HS.out.below hb)
    have HBW := Lib.hid hb
    have hsz := hb.size
    have QQ := Lib.hid qq
    obtain ⟨⟨c1, c2, c3, c4⟩, c5, c6, c7⟩ := qq
    clear hb
    have hi1 := HRE.out
    unfold boxInErr at hi1
    by_cases h0 : c = 0
    · subst h0
      rw [HC.out] at hi1
      by_cases h1 : cb = 0
      · subst h1
        rw [HB.out] at hi1
        have : re = 0 := hi1.symm
        subst this
        obtain ⟨l1, l2, l3, -⟩ := checkPolygonP_ok HC.out
        obtain ⟨b, off, rfl, hbw, hpo⟩ := HS.out (by omega)
        have HPO := Lib.hid hpo
        obtain ⟨wd, hwd⟩ : ∃ wd : World, wd = wc := ⟨_, rfl⟩
        subst hwd
        have hok := boxErrP_ok HB.out
        have HOK := Lib.hid hok
        obtain ⟨x1a, x1b, x2a, x2b, y1a, y1b, y2a, y2b, xo, yo⟩ := hok
        obtain ⟨j1, j2⟩ := insideP_bd2 (n := a0) xo
        obtain ⟨j3, j4⟩ := insideP_bd2 (n := a1) yo
        obtain ⟨iv, hiv⟩ : ∃ iv, insideValP ps (insideP q.x1 q.x2 a0) (insideP q.y1 q.y2 a1) 0 = iv := ⟨_, rfl⟩
        obtain ⟨g1, g2, hfin⟩ := boxIn_place HC.out HB.out j1 j2 j3 j4 HRV.out hiv
        have HL1 := Lib.hid (show ∀ w', Calls Try.prog 63 #[.agg #[.int .i64 q.x1, .int .i64 q.x2], .int .i64 a0] w' fun e w'' => e = .returned (.int .i64 (insideP q.x1 q.x2 a0)) ∧ Below w'.heap.size w' w'' from fun w' => lInside _ _ _ w' (by omega) xo (by omega) i01 i02)
        have HL2 := Lib.hid (show ∀ w', Calls Try.prog 63 #[.agg #[.int .i64 q.y1, .int .i64 q.y2], .int .i64 a1] w' fun e w'' => e = .returned (.int .i64 (insideP q.y1 q.y2 a1)) ∧ Below w'.heap.size w' w'' from fun w' => lInside _ _ _ w' (by omega) yo (by omega) i11 i12)
        have HIS := Lib.hid (show ∀ v w', PlacesV w' v ps → Calls Try.prog 47 #[v, .agg #[.int .i64 (insideP q.x1 q.x2 a0), .int .i64 (insideP q.y1 q.y2 a1), .int .i64 0]] w' fun e w'' => e = .returned (.tuple #[.bool iv, .int .i64 0]) ∧ Below w'.heap.size w' w'' from fun v w' h => Inside_any ps v _ _ _ w' h hiv g2)
        have HRI := Lib.hid (show ∀ w', Below wd.heap.size wd w' → Calls Try.prog 69 #[.slice (some ⟨b, off, none⟩) ps.length cap, .agg #[.int .i64 q.x1, .int .i64 q.x2, .int .i64 q.y1, .int .i64 q.y2]] w' fun e w'' => e = .returned (.int .i64 rv) ∧ Below w'.heap.size w' w'' from fun w' h => rBoxInside ps b off cap q w' HC.out HOK.out (by have := h.size; omega) (HPO.out.below hbw h) g1)
        have HFN := Lib.hid hfin
        generalize insideP q.x1 q.x2 a0 = ix at *
        generalize insideP q.y1 q.y2 a1 = iy at *
        have HSZ := Lib.hid (show w.heap.size < wd.heap.size by omega)
        clear hpo l3 hiv g1 g2 hfin j1 j2 j3 j4 hi1
        go_wp2_with (first | (go_at_call 50; refine (rCheckPolygon_v ps _ cap _ (by omega) (HS.out.below (by (repeat' (first | with_reducible exact Below.refl _ _ | (with_reducible refine below_later_of ?_ ?_ _) | (with_reducible refine Below.alloc ?_ ?_ _) | (with_reducible refine Below.setCell ?_ ?_ _) | (with_reducible refine Below.drew ?_) | (simp; done) | (simp; omega) | omega)))) HC.out).mono ?_; rintro e w' ⟨rfl, hb⟩; obtain ⟨pp, rfl⟩ := later_of_below hb; clear hb) | (go_at_call 61; refine (rBoxErr q _ HB.out).mono ?_; rintro e w' ⟨rfl, hb⟩; obtain ⟨pp, rfl⟩ := later_of_below hb; clear hb))
        go_cut [8, 9] from 40 to 59 (fun X Y wx => X = .bool iv ∧ Y = .int .i64 0 ∧ QryAt wx w.heap.size q a0 a1 a2 ∧ Below wd.heap.size wd wx)
        case first =>
          go_region_held3 (fun w' => (w'.cell? ⟨w.heap.size, 0, none⟩ = some (.int .i64 q.x1) ∧ w'.cell? ⟨w.heap.size, 1, none⟩ = some (.int .i64 q.x2) ∧ w'.cell? ⟨w.heap.size, 2, none⟩ = some (.int .i64 q.y1) ∧ w'.cell? ⟨w.heap.size, 3, none⟩ = some (.int .i64 q.y2)) ∧ w'.cell? ⟨w.heap.size, 4, none⟩ = some (.int .i64 a0) ∧ w'.cell? ⟨w.heap.size, 5, none⟩ = some (.int .i64 a1) ∧ w'.cell? ⟨w.heap.size, 6, none⟩ = some (.int .i64 a2)) (exact QQ.out.below (C := wd.heap.size) HSZ.out (by (repeat' (first | with_reducible exact Below.refl _ _ | (with_reducible refine below_later_of ?_ ?_ _) | (with_reducible refine Below.alloc ?_ ?_ _) | (with_reducible refine Below.setCell ?_ ?_ _) | (with_reducible refine Below.drew ?_) | (simp; done) | (simp; omega) | omega)))) (first | (go_at_call 48; refine (own_any ps _ cap _ HWF.out (by omega) (HS.out.below (by (repeat' (first | with_reducible exact Below.refl _ _ | (with_reducible refine below_later_of ?_ ?_ _) | (with_reducible refine Below.alloc ?_ ?_ _) | (with_reducible refine Below.setCell ?_ ?_ _) | (with_reducible refine Below.drew ?_) | (simp; done) | (simp; omega) | omega)))) HN.out).mono ?_; rintro e w' ⟨v, rfl, hv, hb⟩; have HV := Lib.hid hv; clear hv; obtain ⟨pp, rfl⟩ := later_of_below hb; clear hb) | (go_at_call 63; (with_reducible refine (HL1.out _).mono ?_); rintro e w' ⟨rfl, hb⟩; obtain ⟨pp, rfl⟩ := later_of_below hb; clear hb) | (go_at_call 63; (with_reducible refine (HL2.out _).mono ?_); rintro e w' ⟨rfl, hb⟩; obtain ⟨pp, rfl⟩ := later_of_below hb; clear hb) | (go_at_call 47; (with_reducible refine (HIS.out _ _ (HV.out.below (by (repeat' (first | with_reducible exact Below.refl _ _ | (with_reducible refine below_later_of ?_ ?_ _) | (with_reducible refine Below.alloc ?_ ?_ _) | (with_reducible refine Below.setCell ?_ ?_ _) | (with_reducible refine Below.drew ?_) | (simp; done) | (simp; omega) | omega))))).mono ?_); rintro e w' ⟨rfl, hb⟩; obtain ⟨pp, rfl⟩ := later_of_below hb; clear hb))
          all_goals
            go_wp2_with fail
            go_meet
            exact ⟨rfl, rfl, QQ.out.below (C := wd.heap.size) HSZ.out (by (repeat' (first | with_reducible exact Below.refl _ _ | (with_reducible refine below_later_of ?_ ?_ _) | (with_reducible refine Below.alloc ?_ ?_ _) | (with_reducible refine Below.setCell ?_ ?_ _) | (with_reducible refine Below.drew ?_) | (simp; done) | (simp; omega) | omega))), (by (repeat' (first | with_reducible exact Below.refl _ _ | (with_reducible refine below_later_of ?_ ?_ _) | (with_reducible refine Below.alloc ?_ ?_ _) | (with_reducible refine Below.setCell ?_ ?_ _) | (with_reducible refine Below.drew ?_) | (simp; done) | (simp; omega) | omega)))⟩
        case rest =>
          obtain ⟨rfl, rfl, qq, hb2⟩ := hcut
          clear c1 c2 c3 c4 c5 c6 c7
          obtain ⟨⟨c1, c2, c3, c4⟩, c5, c6, c7⟩ := qq
          have HRI2 := Lib.hid (show ∀ w', Below wc.heap.size wc w' → Calls Try.prog 69 #[.slice (some ⟨b, off, none⟩) ps.length cap, .agg #[.int .i64 q.x1, .int .i64 q.x2, .int .i64 q.y1, .int .i64 q.y2]] w' fun e w'' => e = .returned (.int .i64 rv) ∧ Below w'.heap.size w' w'' from fun w' h => HRI.out w' (hb2.trans (h.mono hb2.size)))
          have HBW2 := Lib.hid (HBW.out.trans (hb2.mono hsz))
          have hszw := HBW2.out.size
          clear hb2 HRI
          rcases HFN.out with ⟨rfl, rfl⟩ | rfl | ⟨rfl, rfl⟩
          · go_wp2_with (first | (go_at_call 69; (with_reducible refine (HRI2.out _ (by (repeat' (first | with_reducible exact Below.refl _ _ | (with_reducible refine below_later_of ?_ ?_ _) | (with_reducible refine Below.alloc ?_ ?_ _) | (with_reducible refine Below.setCell ?_ ?_ _) | (with_reducible refine Below.drew ?_) | (simp; done) | (simp; omega) | omega)))).mono ?_); rintro e w' ⟨rfl, hb⟩; obtain ⟨pp, rfl⟩ := later_of_below hb; clear hb))
            (go_ret; exact ⟨ret_bool (by simp), HBW2.out.trans (below_mono_of (show w.heap.size ≤ wc.heap.size by omega) (by (repeat' (first | with_reducible exact Below.refl _ _ | (with_reducible refine below_later_of ?_ ?_ _) | (with_reducible refine Below.alloc ?_ ?_ _) | (with_reducible refine Below.setCell ?_ ?_ _) | (with_reducible refine Below.drew ?_) | (simp; done) | (simp; omega) | omega))))⟩)
          · go_wp2_with (first | (go_at_call 69; (with_reducible refine (HRI2.out _ (by (repeat' (first | with_reducible exact Below.refl _ _ | (with_reducible refine below_later_of ?_ ?_ _) | (with_reducible refine Below.alloc ?_ ?_ _) | (with_reducible refine Below.setCell ?_ ?_ _) | (with_reducible refine Below.drew ?_) | (simp; done) | (simp; omega) | omega)))).mono ?_); rintro e w' ⟨rfl, hb⟩; obtain ⟨pp, rfl⟩ := later_of_below hb; clear hb))
            (go_ret; exact ⟨ret_bool (by simp), HBW2.out.trans (below_mono_of (show w.heap.size ≤ wc.heap.size by omega) (by (repeat' (first | with_reducible exact Below.refl _ _ | (with_reducible refine below_later_of ?_ ?_ _) | (with_reducible refine Below.alloc ?_ ?_ _) | (with_reducible refine Below.setCell ?_ ?_ _) | (with_reducible refine Below.drew ?_) | (simp; done) | (simp; omega) | omega))))⟩)
          · go_wp2_with (first | (go_at_call 69; (with_reducible refine (HRI2.out _ (by (repeat' (first | with_reducible exact Below.refl _ _ | (with_reducible refine below_later_of ?_ ?_ _) | (with_reducible refine Below.alloc ?_ ?_ _) | (with_reducible refine Below.setCell ?_ ?_ _) | (with_reducible refine Below.drew ?_) | (simp; done) | (simp; omega) | omega)))).mono ?_); rintro e w' ⟨rfl, hb⟩; obtain ⟨pp, rfl⟩ := later_of_below hb; clear hb))
            (go_ret; exact ⟨ret_bool (by simp), HBW2.out.trans (below_mono_of (show w.heap.size ≤ wc.heap.size by omega) (by (repeat' (first | with_reducible exact Below.refl _ _ | (with_reducible refine below_later_of ?_ ?_ _) | (with_reducible refine Below.alloc ?_ ?_ _) | (with_reducible refine Below.setCell ?_ ?_ _) | (with_reducible refine Below.drew ?_) | (simp; done) | (simp; omega) | omega))))⟩)
      · have hre : re = cb := by
          rw [← hi1, HB.out]
          rfl
        subst hre
        have hrv : rv = 0 := by
          rw [← HRV.out]
          unfold boxInVal
          rw [if_neg (by rw [HRE.out]; exact h1)]
        subst hrv
        have hz1 : (re != 0) = true := by simpa using h1
        have hz0 : (re == 0) = false := by simpa using h1
        clear hi1
        go_wp2_with (first | (go_at_call 50; refine (rCheckPolygon_v ps _ cap _ (by omega) (HS.out.below (by (repeat' (first | with_reducible exact Below.refl _ _ | (with_reducible refine below_later_of ?_ ?_ _) | (with_reducible refine Below.alloc ?_ ?_ _) | (with_reducible refine Below.setCell ?_ ?_ _) | (with_reducible refine Below.drew ?_) | (simp; done) | (simp; omega) | omega)))) HC.out).mono ?_; rintro e w' ⟨rfl, hb⟩; obtain ⟨pp, rfl⟩ := later_of_below hb; clear hb) | (go_at_call 61; refine (rBoxErr q _ HB.out).mono ?_; rintro e w' ⟨rfl, hb⟩; obtain ⟨pp, rfl⟩ := later_of_below hb; clear hb))
        (go_ret; exact ⟨ret_bool (by simp), HBW.out.trans (below_mono_of (show w.heap.size ≤ wc.heap.size by omega) (by (repeat' (first | with_reducible exact Below.refl _ _ | (with_reducible refine below_later_of ?_ ?_ _) | (with_reducible refine Below.alloc ?_ ?_ _) | (with_reducible refine Below.setCell ?_ ?_ _) | (with_reducible refine Below.drew ?_) | (simp; done) | (simp; omega) | omega))))⟩)
    · have hre : re = c := by
        rw [← hi1, HC.out]
        unfold first2
        rw [if_neg h0]
      subst hre
      have hrv : rv = 0 := by
        rw [← HRV.out]
        unfold boxInVal
        rw [if_neg (by rw [HRE.out]; exact h0)]
      subst hrv
      have hz1 : (re != 0) = true := by simpa using h0
      have hz0 : (re == 0) = false := by simpa using h0
      clear hi1
      go_wp2_with (first | (go_at_call 50; refine (rCheckPolygon_v ps _ cap _ (by omega) (HS.out.below (by (repeat' (first | with_reducible exact Below.refl _ _ | (with_reducible refine below_later_of ?_ ?_ _) | (with_reducible refine Below.alloc ?_ ?_ _) | (with_reducible refine Below.setCell ?_ ?_ _) | (with_reducible refine Below.drew ?_) | (simp; done) | (simp; omega) | omega)))) HC.out).mono ?_; rintro e w' ⟨rfl, hb⟩; obtain ⟨pp, rfl⟩ := later_of_below hb; clear hb) | (go_at_call 61; refine (rBoxErr q _ HB.out).mono ?_; rintro e w' ⟨rfl, hb⟩; obtain ⟨pp, rfl⟩ := later_of_below hb; clear hb))
      (go_ret; exact ⟨ret_bool (by simp), HBW.out.trans (below_mono_of (show w.heap.size ≤ wc.heap.size by omega) (by (repeat' (first | with_reducible exact Below.refl _ _ | (with_reducible refine below_later_of ?_ ?_ _) | (with_reducible refine Below.alloc ?_ ?_ _) | (with_reducible refine Below.setCell ?_ ?_ _) | (with_reducible refine Below.drew ?_) | (simp; done) | (simp; omega) | omega))))⟩)
theorem ginside_any (ps : List Plc) (a : Option Addr) (cap : Nat) (q : Bx) (a0 a1 a2 : Int) (w : World) (hs : PlSrc w a ps) (hwf : Wf2 ps) (hn : a = none → cap = 0) (i0 : -9223372036854775808 ≤ a0 ∧ a0 ≤ 9223372036854775807) (i1 : -9223372036854775808 ≤ a1 ∧ a1 ≤ 9223372036854775807) : Calls Try.prog 15 #[.slice a ps.length cap, .agg #[.int .i64 q.x1, .int .i64 q.x2, .int .i64 q.y1, .int .i64 q.y2, .int .i64 a0, .int .i64 a1, .int .i64 a2]] w fun e w' => e = .returned (.bool true) ∧ Below w.heap.size w w' := by
  rcases bool_two (cornersB ps.length) with h | h
  · exact ginside_many ps a cap q a0 a1 a2 w h
  · exact ginside_few ps a cap q a0 a1 a2 w h hs hwf hn i0 i1
end Go.Proofs.Ythnfepfbkmafaaa
