/- The law GroundPolygons returns true. -/
import Derived.Test.YthnfepfbkmafaaaY9
import Derived.Test.YthnfepfbkmafaaaZW
import Derived.Deep.CutRange
import Derived.Deep.RegionHeld3
namespace Go.Proofs.Ythnfepfbkmafaaa
set_option linter.unusedVariables false
open Go.RowKit
theorem rCheckPolygon_v (ps : List Plc) (a : Option Addr) (cap : Nat) (w : World) (hl : ps.length ≤ 1000000000) (hs : PlSrc w a ps) {e0 : Int} (he : checkPolygonP ps = e0) :
    Calls Try.prog 50 #[.slice a ps.length cap] w fun e w' => e = .returned (.int .i64 e0) ∧ Below w.heap.size w w' := by
  by_cases h : 3 ≤ ps.length ∧ ps.length ≤ 20
  · obtain ⟨b, off, rfl, h6, h7⟩ := hs (by omega)
    exact rCheckPolygon_any ps b off cap w h.1 h.2 h6 h7 he
  · exact rCheckPolygon_short ps cap a w (by omega) hl he
theorem areaOf_e (ps : List Plc) (v : Value) (w : World) (hv : PlacesV w v ps) {ar e0 : Int} (h : areaOfP ps = (ar, e0)) :
    Calls Try.prog 49 #[v] w fun e w' => e = .returned (.tuple #[.int .i64 ar, .int .i64 e0]) ∧ Below w.heap.size w w' := by
  have := areaOf_any ps v w hv
  rw [h] at this
  exact this
set_option maxRecDepth 20000 in
set_option maxHeartbeats 1000000 in
theorem gpolygons_many (ps : List Plc) (a : Option Addr) (cap : Nat) (x y z : Int) (w : World) (hl : cornersB ps.length = false) : Calls Try.prog 8 #[.slice a ps.length cap, .agg #[.int .i64 x, .int .i64 y, .int .i64 z]] w fun e w' => e = .returned (.bool true) ∧ Below w.heap.size w w' := by
  have HCO := Lib.hid hl
  clear hl
  go_enter Try.func8, Try.ntmps8
  go_wp2_with (first | (go_at_call 16; refine (awake_any _).mono ?_; rintro e w' ⟨rfl, hb⟩; obtain ⟨pp, rfl⟩ := later_of_below hb; clear hb) | (go_at_call 46; refine (corners_any ps _ cap _ HCO.out).mono ?_; rintro e w' ⟨rfl, hb⟩; obtain ⟨pp, rfl⟩ := later_of_below hb; clear hb))
  go_ret
  exact ⟨rfl, (by (repeat' (first | with_reducible exact Below.refl _ _ | (with_reducible refine below_later_of ?_ ?_ _) | (with_reducible refine Below.alloc ?_ ?_ _) | (with_reducible refine Below.setCell ?_ ?_ _) | (with_reducible refine Below.drew ?_) | (simp; done) | (simp; omega) | omega)))⟩
set_option maxRecDepth 20000 in
set_option maxHeartbeats 8000000 in
theorem gpolygons_few (ps : List Plc) (a : Option Addr) (cap : Nat) (x y z : Int) (w : World) (hl : cornersB ps.length = true) (hs : PlSrc w a ps) (hwf : Wf2 ps) (hn : a = none → cap = 0) : Calls Try.prog 8 #[.slice a ps.length cap, .agg #[.int .i64 x, .int .i64 y, .int .i64 z]] w fun e w' => e = .returned (.bool true) ∧ Below w.heap.size w w' := by
  have hn22 : ps.length ≤ 22 := by
    unfold cornersB at hl
    simp only [Bool.or_eq_true, Bool.and_eq_true, decide_eq_true_eq] at hl
    omega
  have HCO := Lib.hid hl
  have HS := Lib.hid hs
  have HWF := Lib.hid hwf
  have HN := Lib.hid hn
  obtain ⟨iv, hiv⟩ : ∃ iv, insideValP ps x y z = iv := ⟨_, rfl⟩
  obtain ⟨e1, hie⟩ : ∃ e1, insideErrP ps x y z = e1 := ⟨_, rfl⟩
  obtain ⟨ar, e2, har⟩ : ∃ ar e2, areaOfP ps = (ar, e2) := ⟨_, _, rfl⟩
  obtain ⟨c, hc⟩ : ∃ c, checkPolygonP ps = c := ⟨_, rfl⟩
  have HIV := Lib.hid hiv
  have HIE := Lib.hid hie
  have HAR := Lib.hid har
  have HC := Lib.hid hc
  clear hl hs hwf hn hiv hie har hc
  go_enter Try.func8, Try.ntmps8
  go_wp2_with (first | (go_at_call 16; refine (awake_any _).mono ?_; rintro e w' ⟨rfl, hb⟩; obtain ⟨pp, rfl⟩ := later_of_below hb; clear hb) | (go_at_call 46; refine (corners_any ps _ cap _ HCO.out).mono ?_; rintro e w' ⟨rfl, hb⟩; obtain ⟨pp, rfl⟩ := later_of_below hb; clear hb))
  go_cut [5, 6] from 15 to 21 (fun X Y wx => X = .bool iv ∧ Y = .int .i64 e1 ∧ (wx.cell? ⟨w.heap.size, 0, none⟩ = some (.int .i64 x) ∧ wx.cell? ⟨w.heap.size, 1, none⟩ = some (.int .i64 y) ∧ wx.cell? ⟨w.heap.size, 2, none⟩ = some (.int .i64 z)) ∧ Below w.heap.size w wx ∧ w.heap.size < wx.heap.size)
  case first =>
    go_region_held3 (fun w' => w'.cell? ⟨w.heap.size, 0, none⟩ = some (.int .i64 x) ∧ w'.cell? ⟨w.heap.size, 1, none⟩ = some (.int .i64 y) ∧ w'.cell? ⟨w.heap.size, 2, none⟩ = some (.int .i64 z)) (first | ((first | (simp [go_sem]; done) | simp [go_sem, ↓IntWalk.iteOmega]); done)) (first | (go_at_call 48; refine (own_any ps _ cap _ HWF.out (by omega) (HS.out.below (by (repeat' (first | with_reducible exact Below.refl _ _ | (with_reducible refine below_later_of ?_ ?_ _) | (with_reducible refine Below.alloc ?_ ?_ _) | (with_reducible refine Below.setCell ?_ ?_ _) | (with_reducible refine Below.drew ?_) | (simp; done) | (simp; omega) | omega)))) HN.out).mono ?_; rintro e w' ⟨v, rfl, hv, hb⟩; have HV := Lib.hid hv; clear hv; obtain ⟨pp, rfl⟩ := later_of_below hb; clear hb) | (go_at_call 47; refine (Inside_any ps _ x y z _ (HV.out.below (by (repeat' (first | with_reducible exact Below.refl _ _ | (with_reducible refine below_later_of ?_ ?_ _) | (with_reducible refine Below.alloc ?_ ?_ _) | (with_reducible refine Below.setCell ?_ ?_ _) | (with_reducible refine Below.drew ?_) | (simp; done) | (simp; omega) | omega)))) HIV.out HIE.out).mono ?_; rintro e w' ⟨rfl, hb⟩; obtain ⟨pp, rfl⟩ := later_of_below hb; clear hb))
    all_goals
      go_wp2_with fail
      go_meet
      exact ⟨rfl, rfl, ⟨(by (first | (simp [go_sem]; done) | simp [go_sem, ↓IntWalk.iteOmega])), (by (first | (simp [go_sem]; done) | simp [go_sem, ↓IntWalk.iteOmega])), (by (first | (simp [go_sem]; done) | simp [go_sem, ↓IntWalk.iteOmega]))⟩, (by (repeat' (first | with_reducible exact Below.refl _ _ | (with_reducible refine below_later_of ?_ ?_ _) | (with_reducible refine Below.alloc ?_ ?_ _) | (with_reducible refine Below.setCell ?_ ?_ _) | (with_reducible refine Below.drew ?_) | (simp; done) | (simp; omega) | omega))), by (simp <;> omega)⟩
  case rest =>
    obtain ⟨rfl, rfl, ⟨c1, c2, c3⟩, hb, hs5⟩ := hcut
    have HS := Lib.hid (HS.out.below hb)
    have HBW := Lib.hid hb
    have hsz := hb.size
    clear hb
    have hi1 := HIE.out
    have hi2 := HIV.out
    have hi3 := HAR.out
    unfold insideErrP at hi1
    unfold insideValP at hi2
    unfold areaOfP at hi3
    by_cases h0 : c = 0
    · subst h0
      obtain ⟨l1, l2, l3, -⟩ := checkPolygonP_ok HC.out
      obtain ⟨b, off, rfl, hbw, hpo⟩ := HS.out (by omega)
      have HPO := Lib.hid hpo
      have HM := Lib.hid (show ∀ k, k < ps.length → Mid (plcAt ps k).x ∧ Mid (plcAt ps k).y from fun k hk => mid_of (cornerErr_mid (l3 k hk)))
      have HAA := Lib.hid (show (areaOfP ps).1 = ar by rw [HAR.out])
      rw [if_pos HC.out] at hi3
      simp only [Prod.mk.injEq] at hi3
      obtain ⟨-, rfl⟩ := hi3
      rcases bool_two (placeB x y z) with hp | hp
      · have hz : checkPlaceP x y z = 2 := by unfold checkPlaceP; rw [hp]; rfl
        rw [HC.out, hz] at hi1
        have h1 : e1 = 2 := by rw [← hi1]; rfl
        subst h1
        have h2 : iv = false := by rw [← hi2, if_neg (by rw [HIE.out]; decide)]
        subst h2
        have HP := Lib.hid hp
        clear hi1 hi2 hp hpo l3 hz
        go_wp2_with (first | (go_at_call 48; refine (own_any ps _ cap _ HWF.out (by omega) (HS.out.below (by (repeat' (first | with_reducible exact Below.refl _ _ | (with_reducible refine below_later_of ?_ ?_ _) | (with_reducible refine Below.alloc ?_ ?_ _) | (with_reducible refine Below.setCell ?_ ?_ _) | (with_reducible refine Below.drew ?_) | (simp; done) | (simp; omega) | omega)))) HN.out).mono ?_; rintro e w' ⟨v, rfl, hv, hb⟩; have HV := Lib.hid hv; clear hv; obtain ⟨pp, rfl⟩ := later_of_below hb; clear hb) | (go_at_call 49; refine (areaOf_e ps _ _ (HV.out.below (by (repeat' (first | with_reducible exact Below.refl _ _ | (with_reducible refine below_later_of ?_ ?_ _) | (with_reducible refine Below.alloc ?_ ?_ _) | (with_reducible refine Below.setCell ?_ ?_ _) | (with_reducible refine Below.drew ?_) | (simp; done) | (simp; omega) | omega)))) HAR.out).mono ?_; rintro e w' ⟨rfl, hb⟩; obtain ⟨pp, rfl⟩ := later_of_below hb; clear hb) | (go_at_call 50; refine (rCheckPolygon_v ps _ cap _ (by omega) (HS.out.below (by (repeat' (first | with_reducible exact Below.refl _ _ | (with_reducible refine below_later_of ?_ ?_ _) | (with_reducible refine Below.alloc ?_ ?_ _) | (with_reducible refine Below.setCell ?_ ?_ _) | (with_reducible refine Below.drew ?_) | (simp; done) | (simp; omega) | omega)))) HC.out).mono ?_; rintro e w' ⟨rfl, hb⟩; obtain ⟨pp, rfl⟩ := later_of_below hb; clear hb) | (go_at_call 51; refine (checkPolygon_v ps _ _ (HV.out.below (by (repeat' (first | with_reducible exact Below.refl _ _ | (with_reducible refine below_later_of ?_ ?_ _) | (with_reducible refine Below.alloc ?_ ?_ _) | (with_reducible refine Below.setCell ?_ ?_ _) | (with_reducible refine Below.drew ?_) | (simp; done) | (simp; omega) | omega)))) HC.out).mono ?_; rintro e w' ⟨rfl, hb⟩; obtain ⟨pp, rfl⟩ := later_of_below hb; clear hb) | (go_at_call 52; refine (rAreaOf ps b off cap _ HC.out (by first | omega | (simp; omega)) (HPO.out.below hbw (by (repeat' (first | with_reducible exact Below.refl _ _ | (with_reducible refine below_later_of ?_ ?_ _) | (with_reducible refine Below.alloc ?_ ?_ _) | (with_reducible refine Below.setCell ?_ ?_ _) | (with_reducible refine Below.drew ?_) | (simp; done) | (simp; omega) | omega)))) HAA.out).mono ?_; rintro e w' ⟨rfl, hb⟩; obtain ⟨pp, rfl⟩ := later_of_below hb; clear hb) | (go_at_call 43; refine (rIsPlace x y z _ HP.out).mono ?_; rintro e w' ⟨rfl, hb⟩; obtain ⟨pp, rfl⟩ := later_of_below hb; clear hb))
        (go_ret; exact ⟨ret_bool (by simp), HBW.out.trans (below_mono_of (show w.heap.size ≤ wc.heap.size by omega) (by (repeat' (first | with_reducible exact Below.refl _ _ | (with_reducible refine below_later_of ?_ ?_ _) | (with_reducible refine Below.alloc ?_ ?_ _) | (with_reducible refine Below.setCell ?_ ?_ _) | (with_reducible refine Below.drew ?_) | (simp; done) | (simp; omega) | omega))))⟩)
      · have hz : checkPlaceP x y z = 0 := by unfold checkPlaceP; rw [hp]; rfl
        rw [HC.out, hz] at hi1
        have h1 : e1 = 0 := by rw [← hi1]; rfl
        subst h1
        rw [if_pos HIE.out] at hi2
        have HIB := Lib.hid hi2
        obtain ⟨⟨x1, x2⟩, ⟨y1, y2⟩, -⟩ := placeB_iff.1 hp
        have HX := Lib.hid (show Mid x by unfold Mid; omega)
        have HY := Lib.hid (show Mid y by unfold Mid; omega)
        have HP := Lib.hid hp
        clear hi1 hi2 hp hpo l3 hz
        cases iv
        · go_wp2_with (first | (go_at_call 48; refine (own_any ps _ cap _ HWF.out (by omega) (HS.out.below (by (repeat' (first | with_reducible exact Below.refl _ _ | (with_reducible refine below_later_of ?_ ?_ _) | (with_reducible refine Below.alloc ?_ ?_ _) | (with_reducible refine Below.setCell ?_ ?_ _) | (with_reducible refine Below.drew ?_) | (simp; done) | (simp; omega) | omega)))) HN.out).mono ?_; rintro e w' ⟨v, rfl, hv, hb⟩; have HV := Lib.hid hv; clear hv; obtain ⟨pp, rfl⟩ := later_of_below hb; clear hb) | (go_at_call 49; refine (areaOf_e ps _ _ (HV.out.below (by (repeat' (first | with_reducible exact Below.refl _ _ | (with_reducible refine below_later_of ?_ ?_ _) | (with_reducible refine Below.alloc ?_ ?_ _) | (with_reducible refine Below.setCell ?_ ?_ _) | (with_reducible refine Below.drew ?_) | (simp; done) | (simp; omega) | omega)))) HAR.out).mono ?_; rintro e w' ⟨rfl, hb⟩; obtain ⟨pp, rfl⟩ := later_of_below hb; clear hb) | (go_at_call 50; refine (rCheckPolygon_v ps _ cap _ (by omega) (HS.out.below (by (repeat' (first | with_reducible exact Below.refl _ _ | (with_reducible refine below_later_of ?_ ?_ _) | (with_reducible refine Below.alloc ?_ ?_ _) | (with_reducible refine Below.setCell ?_ ?_ _) | (with_reducible refine Below.drew ?_) | (simp; done) | (simp; omega) | omega)))) HC.out).mono ?_; rintro e w' ⟨rfl, hb⟩; obtain ⟨pp, rfl⟩ := later_of_below hb; clear hb) | (go_at_call 51; refine (checkPolygon_v ps _ _ (HV.out.below (by (repeat' (first | with_reducible exact Below.refl _ _ | (with_reducible refine below_later_of ?_ ?_ _) | (with_reducible refine Below.alloc ?_ ?_ _) | (with_reducible refine Below.setCell ?_ ?_ _) | (with_reducible refine Below.drew ?_) | (simp; done) | (simp; omega) | omega)))) HC.out).mono ?_; rintro e w' ⟨rfl, hb⟩; obtain ⟨pp, rfl⟩ := later_of_below hb; clear hb) | (go_at_call 52; refine (rAreaOf ps b off cap _ HC.out (by first | omega | (simp; omega)) (HPO.out.below hbw (by (repeat' (first | with_reducible exact Below.refl _ _ | (with_reducible refine below_later_of ?_ ?_ _) | (with_reducible refine Below.alloc ?_ ?_ _) | (with_reducible refine Below.setCell ?_ ?_ _) | (with_reducible refine Below.drew ?_) | (simp; done) | (simp; omega) | omega)))) HAA.out).mono ?_; rintro e w' ⟨rfl, hb⟩; obtain ⟨pp, rfl⟩ := later_of_below hb; clear hb) | (go_at_call 43; refine (rIsPlace x y z _ HP.out).mono ?_; rintro e w' ⟨rfl, hb⟩; obtain ⟨pp, rfl⟩ := later_of_below hb; clear hb) | (go_at_call 53; refine (rInside ps b off cap x y z _ (by omega) (by omega) HM.out HX.out HY.out (by first | omega | (simp; omega)) (HPO.out.below hbw (by (repeat' (first | with_reducible exact Below.refl _ _ | (with_reducible refine below_later_of ?_ ?_ _) | (with_reducible refine Below.alloc ?_ ?_ _) | (with_reducible refine Below.setCell ?_ ?_ _) | (with_reducible refine Below.drew ?_) | (simp; done) | (simp; omega) | omega)))) HIB.out).mono ?_; rintro e w' ⟨rfl, hb⟩; obtain ⟨pp, rfl⟩ := later_of_below hb; clear hb))
          (go_ret; exact ⟨ret_bool (by simp), HBW.out.trans (below_mono_of (show w.heap.size ≤ wc.heap.size by omega) (by (repeat' (first | with_reducible exact Below.refl _ _ | (with_reducible refine below_later_of ?_ ?_ _) | (with_reducible refine Below.alloc ?_ ?_ _) | (with_reducible refine Below.setCell ?_ ?_ _) | (with_reducible refine Below.drew ?_) | (simp; done) | (simp; omega) | omega))))⟩)
        · go_wp2_with (first | (go_at_call 48; refine (own_any ps _ cap _ HWF.out (by omega) (HS.out.below (by (repeat' (first | with_reducible exact Below.refl _ _ | (with_reducible refine below_later_of ?_ ?_ _) | (with_reducible refine Below.alloc ?_ ?_ _) | (with_reducible refine Below.setCell ?_ ?_ _) | (with_reducible refine Below.drew ?_) | (simp; done) | (simp; omega) | omega)))) HN.out).mono ?_; rintro e w' ⟨v, rfl, hv, hb⟩; have HV := Lib.hid hv; clear hv; obtain ⟨pp, rfl⟩ := later_of_below hb; clear hb) | (go_at_call 49; refine (areaOf_e ps _ _ (HV.out.below (by (repeat' (first | with_reducible exact Below.refl _ _ | (with_reducible refine below_later_of ?_ ?_ _) | (with_reducible refine Below.alloc ?_ ?_ _) | (with_reducible refine Below.setCell ?_ ?_ _) | (with_reducible refine Below.drew ?_) | (simp; done) | (simp; omega) | omega)))) HAR.out).mono ?_; rintro e w' ⟨rfl, hb⟩; obtain ⟨pp, rfl⟩ := later_of_below hb; clear hb) | (go_at_call 50; refine (rCheckPolygon_v ps _ cap _ (by omega) (HS.out.below (by (repeat' (first | with_reducible exact Below.refl _ _ | (with_reducible refine below_later_of ?_ ?_ _) | (with_reducible refine Below.alloc ?_ ?_ _) | (with_reducible refine Below.setCell ?_ ?_ _) | (with_reducible refine Below.drew ?_) | (simp; done) | (simp; omega) | omega)))) HC.out).mono ?_; rintro e w' ⟨rfl, hb⟩; obtain ⟨pp, rfl⟩ := later_of_below hb; clear hb) | (go_at_call 51; refine (checkPolygon_v ps _ _ (HV.out.below (by (repeat' (first | with_reducible exact Below.refl _ _ | (with_reducible refine below_later_of ?_ ?_ _) | (with_reducible refine Below.alloc ?_ ?_ _) | (with_reducible refine Below.setCell ?_ ?_ _) | (with_reducible refine Below.drew ?_) | (simp; done) | (simp; omega) | omega)))) HC.out).mono ?_; rintro e w' ⟨rfl, hb⟩; obtain ⟨pp, rfl⟩ := later_of_below hb; clear hb) | (go_at_call 52; refine (rAreaOf ps b off cap _ HC.out (by first | omega | (simp; omega)) (HPO.out.below hbw (by (repeat' (first | with_reducible exact Below.refl _ _ | (with_reducible refine below_later_of ?_ ?_ _) | (with_reducible refine Below.alloc ?_ ?_ _) | (with_reducible refine Below.setCell ?_ ?_ _) | (with_reducible refine Below.drew ?_) | (simp; done) | (simp; omega) | omega)))) HAA.out).mono ?_; rintro e w' ⟨rfl, hb⟩; obtain ⟨pp, rfl⟩ := later_of_below hb; clear hb) | (go_at_call 43; refine (rIsPlace x y z _ HP.out).mono ?_; rintro e w' ⟨rfl, hb⟩; obtain ⟨pp, rfl⟩ := later_of_below hb; clear hb) | (go_at_call 53; refine (rInside ps b off cap x y z _ (by omega) (by omega) HM.out HX.out HY.out (by first | omega | (simp; omega)) (HPO.out.below hbw (by (repeat' (first | with_reducible exact Below.refl _ _ | (with_reducible refine below_later_of ?_ ?_ _) | (with_reducible refine Below.alloc ?_ ?_ _) | (with_reducible refine Below.setCell ?_ ?_ _) | (with_reducible refine Below.drew ?_) | (simp; done) | (simp; omega) | omega)))) HIB.out).mono ?_; rintro e w' ⟨rfl, hb⟩; obtain ⟨pp, rfl⟩ := later_of_below hb; clear hb))
          (go_ret; exact ⟨ret_bool (by simp), HBW.out.trans (below_mono_of (show w.heap.size ≤ wc.heap.size by omega) (by (repeat' (first | with_reducible exact Below.refl _ _ | (with_reducible refine below_later_of ?_ ?_ _) | (with_reducible refine Below.alloc ?_ ?_ _) | (with_reducible refine Below.setCell ?_ ?_ _) | (with_reducible refine Below.drew ?_) | (simp; done) | (simp; omega) | omega))))⟩)
    · have h1 : e1 = c := by rw [← hi1, HC.out]; unfold first2; rw [if_neg h0]
      subst h1
      have h2 : iv = false := by rw [← hi2, if_neg (by rw [HIE.out]; exact h0)]
      subst h2
      rw [HC.out, if_neg h0] at hi3
      simp only [Prod.mk.injEq] at hi3
      obtain ⟨rfl, rfl⟩ := hi3
      have hz1 : (e1 != 0) = true := by simpa using h0
      have hz0 : (e1 == 0) = false := by simpa using h0
      clear hi1 hi2
      go_wp2_with (first | (go_at_call 48; refine (own_any ps _ cap _ HWF.out (by omega) (HS.out.below (by (repeat' (first | with_reducible exact Below.refl _ _ | (with_reducible refine below_later_of ?_ ?_ _) | (with_reducible refine Below.alloc ?_ ?_ _) | (with_reducible refine Below.setCell ?_ ?_ _) | (with_reducible refine Below.drew ?_) | (simp; done) | (simp; omega) | omega)))) HN.out).mono ?_; rintro e w' ⟨v, rfl, hv, hb⟩; have HV := Lib.hid hv; clear hv; obtain ⟨pp, rfl⟩ := later_of_below hb; clear hb) | (go_at_call 49; refine (areaOf_e ps _ _ (HV.out.below (by (repeat' (first | with_reducible exact Below.refl _ _ | (with_reducible refine below_later_of ?_ ?_ _) | (with_reducible refine Below.alloc ?_ ?_ _) | (with_reducible refine Below.setCell ?_ ?_ _) | (with_reducible refine Below.drew ?_) | (simp; done) | (simp; omega) | omega)))) HAR.out).mono ?_; rintro e w' ⟨rfl, hb⟩; obtain ⟨pp, rfl⟩ := later_of_below hb; clear hb) | (go_at_call 50; refine (rCheckPolygon_v ps _ cap _ (by omega) (HS.out.below (by (repeat' (first | with_reducible exact Below.refl _ _ | (with_reducible refine below_later_of ?_ ?_ _) | (with_reducible refine Below.alloc ?_ ?_ _) | (with_reducible refine Below.setCell ?_ ?_ _) | (with_reducible refine Below.drew ?_) | (simp; done) | (simp; omega) | omega)))) HC.out).mono ?_; rintro e w' ⟨rfl, hb⟩; obtain ⟨pp, rfl⟩ := later_of_below hb; clear hb) | (go_at_call 51; refine (checkPolygon_v ps _ _ (HV.out.below (by (repeat' (first | with_reducible exact Below.refl _ _ | (with_reducible refine below_later_of ?_ ?_ _) | (with_reducible refine Below.alloc ?_ ?_ _) | (with_reducible refine Below.setCell ?_ ?_ _) | (with_reducible refine Below.drew ?_) | (simp; done) | (simp; omega) | omega)))) HC.out).mono ?_; rintro e w' ⟨rfl, hb⟩; obtain ⟨pp, rfl⟩ := later_of_below hb; clear hb))
      (go_ret; exact ⟨ret_bool (by simp), HBW.out.trans (below_mono_of (show w.heap.size ≤ wc.heap.size by omega) (by (repeat' (first | with_reducible exact Below.refl _ _ | (with_reducible refine below_later_of ?_ ?_ _) | (with_reducible refine Below.alloc ?_ ?_ _) | (with_reducible refine Below.setCell ?_ ?_ _) | (with_reducible refine Below.drew ?_) | (simp; done) | (simp; omega) | omega))))⟩)
theorem gpolygons_any (ps : List Plc) (a : Option Addr) (cap : Nat) (x y z : Int) (w : World) (hs : PlSrc w a ps) (hwf : Wf2 ps) (hn : a = none → cap = 0) : Calls Try.prog 8 #[.slice a ps.length cap, .agg #[.int .i64 x, .int .i64 y, .int .i64 z]] w fun e w' => e = .returned (.bool true) ∧ Below w.heap.size w w' := by
  rcases bool_two (cornersB ps.length) with h | h
  · exact gpolygons_many ps a cap x y z w h
  · exact gpolygons_few ps a cap x y z w h hs hwf hn
end Go.Proofs.Ythnfepfbkmafaaa
