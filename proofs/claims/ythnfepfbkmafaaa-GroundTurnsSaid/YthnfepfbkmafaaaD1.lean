/- The law GroundTurns returns true. -/
import Derived.Test.YthnfepfbkmafaaaJ5
import Derived.Test.YthnfepfbkmafaaaY10
import Derived.Test.YthnfepfbkmafaaaZK
import Derived.Deep.CutRange
import Derived.Deep.RegionHeld3
namespace Go.Proofs.Ythnfepfbkmafaaa
set_option linter.unusedVariables false
open Go.RowKit
def ThreeD (W : World) (B o : Nat) (p : Plc) : Prop := W.cell? ⟨B, o, none⟩ = some (.int .i64 p.x) ∧ W.cell? ⟨B, o + 1, none⟩ = some (.int .i64 p.y) ∧ W.cell? ⟨B, o + 2, none⟩ = some (.int .i64 p.z)
theorem ThreeD.below {w w' : World} {B C o : Nat} {p : Plc} (h : ThreeD w B o p) (hB : B < C) (hw : Below C w w') : ThreeD w' B o p :=
  ⟨(hw.cell hB).trans h.1, (hw.cell hB).trans h.2.1, (hw.cell hB).trans h.2.2⟩
def otherUpto (ps : List Plc) (f : Nat) : Nat → List Value
  | 0 => []
  | k + 1 => otherUpto ps f k ++ [.int .i64 (plcAt ps (Geo.turnIx ps.length f k)).x, .int .i64 (plcAt ps (Geo.turnIx ps.length f k)).y, .int .i64 (plcAt ps (Geo.turnIx ps.length f k)).z]
theorem otherUpto_len (ps : List Plc) (f : Nat) : ∀ k, (otherUpto ps f k).length = k * 3
  | 0 => rfl
  | k + 1 => by unfold otherUpto; rw [List.length_append, otherUpto_len ps f k]; simp; omega
theorem otherUpto_at (ps : List Plc) (f : Nat) (k : Nat) (j : Nat) (hj : j < 3) : ∀ n, k < n → (otherUpto ps f n)[k * 3 + j]? = [Value.int .i64 (plcAt ps (Geo.turnIx ps.length f k)).x, Value.int .i64 (plcAt ps (Geo.turnIx ps.length f k)).y, Value.int .i64 (plcAt ps (Geo.turnIx ps.length f k)).z][j]?
  | 0, h => by omega
  | n + 1, h => by
    unfold otherUpto
    have hl := otherUpto_len ps f n
    by_cases e : k = n
    · subst e
      rw [List.getElem?_append_right (by omega), hl, show k * 3 + j - k * 3 = j by omega]
    · rw [List.getElem?_append_left (by omega)]
      exact otherUpto_at ps f k j hj n (by omega)
theorem infoPl : (Try.prog.info? 23).map (fun i => (i.zero, i.size, i.bytes)) = some (some (.agg #[.int .i64 0, .int .i64 0, .int .i64 0]), 3, 24) := by kernel_rfl
theorem turn_mod {n f k : Nat} (hf : f < n) (hk : k < n) : ((f : Int) - (k : Int)) % (n : Int) = ((Geo.turnIx n f k : Nat) : Int) := by
  unfold Geo.turnIx
  split
  · rw [Int.emod_eq_of_lt (by omega) (by omega)]; omega
  · rw [show (f : Int) - (k : Int) = ((f + n - k : Nat) : Int) + (n : Int) * (-1) by omega, Int.add_mul_emod_self_left, Int.emod_eq_of_lt (by omega) (by omega)]
theorem inside_ok {ps : List Plc} (hp : checkPolygonP ps = 0) {x y z : Int} (hq : placeB x y z = true) {r : Bool} (hr : insB (sideAt ps 1) ps.length x y = r) : insideValP ps x y z = r ∧ insideErrP ps x y z = 0 := by
  have he : insideErrP ps x y z = 0 := by
    have : checkPlaceP x y z = 0 := by unfold checkPlaceP; rw [hq]; rfl
    unfold insideErrP
    rw [hp, this]
    rfl
  refine ⟨?_, he⟩
  unfold insideValP
  rw [if_pos he]
  exact hr
set_option maxRecDepth 20000 in
set_option maxHeartbeats 1000000 in
theorem gturns_many (ps : List Plc) (a : Option Addr) (cap : Nat) (first x y z : Int) (w : World) (hl : cornersB ps.length = false) : Calls Try.prog 9 #[.slice a ps.length cap, .int .i64 first, .agg #[.int .i64 x, .int .i64 y, .int .i64 z]] w fun e w' => e = .returned (.bool true) ∧ Below w.heap.size w w' := by
  have HCO := Lib.hid hl
  clear hl
  go_enter Try.func9, Try.ntmps9
  go_wp2_with (first | (go_at_call 16; refine (awake_any _).mono ?_; rintro e w' ⟨rfl, hb⟩; obtain ⟨pp, rfl⟩ := later_of_below hb; clear hb) | (go_at_call 46; refine (corners_any ps _ cap _ HCO.out).mono ?_; rintro e w' ⟨rfl, hb⟩; obtain ⟨pp, rfl⟩ := later_of_below hb; clear hb))
  go_ret
  exact ⟨rfl, (by (repeat' (first | with_reducible exact Below.refl _ _ | (with_reducible refine below_later_of ?_ ?_ _) | (with_reducible refine Below.alloc ?_ ?_ _) | (with_reducible refine Below.setCell ?_ ?_ _) | (with_reducible refine Below.drew ?_) | (simp; done) | (simp; omega) | omega)))⟩
set_option maxRecDepth 20000 in
set_option maxHeartbeats 1000000 in
theorem gturns_bad (ps : List Plc) (a : Option Addr) (cap : Nat) (first x y z : Int) (w : World) (hl : cornersB ps.length = true) (hs : PlSrc w a ps) (hb : checkPolygonP ps ≠ 0 ∨ placeB x y z = false) : Calls Try.prog 9 #[.slice a ps.length cap, .int .i64 first, .agg #[.int .i64 x, .int .i64 y, .int .i64 z]] w fun e w' => e = .returned (.bool true) ∧ Below w.heap.size w w' := by
  have hn22 : ps.length ≤ 22 := by
    unfold cornersB at hl
    simp only [Bool.or_eq_true, Bool.and_eq_true, decide_eq_true_eq] at hl
    omega
  have HCO := Lib.hid hl
  have HS := Lib.hid hs
  obtain ⟨c, hc⟩ : ∃ c, checkPolygonP ps = c := ⟨_, rfl⟩
  have HC := Lib.hid hc
  rw [hc] at hb
  clear hl hs hc
  by_cases h0 : c = 0
  · have hpb := hb.resolve_left (fun h => h h0)
    have HPB := Lib.hid hpb
    subst h0
    clear hb hpb
    go_enter Try.func9, Try.ntmps9
    go_wp2_with (first | (go_at_call 16; refine (awake_any _).mono ?_; rintro e w' ⟨rfl, hb⟩; obtain ⟨pp, rfl⟩ := later_of_below hb; clear hb) | (go_at_call 46; refine (corners_any ps _ cap _ HCO.out).mono ?_; rintro e w' ⟨rfl, hb⟩; obtain ⟨pp, rfl⟩ := later_of_below hb; clear hb) | (go_at_call 50; refine (rCheckPolygon_v ps _ cap _ (by omega) (HS.out.below (by (repeat' (first | with_reducible exact Below.refl _ _ | (with_reducible refine below_later_of ?_ ?_ _) | (with_reducible refine Below.alloc ?_ ?_ _) | (with_reducible refine Below.setCell ?_ ?_ _) | (with_reducible refine Below.drew ?_) | (simp; done) | (simp; omega) | omega)))) HC.out).mono ?_; rintro e w' ⟨rfl, hb⟩; obtain ⟨pp, rfl⟩ := later_of_below hb; clear hb) | (go_at_call 43; refine (rIsPlace x y z _ HPB.out).mono ?_; rintro e w' ⟨rfl, hb⟩; obtain ⟨pp, rfl⟩ := later_of_below hb; clear hb))
    go_ret
    exact ⟨rfl, (by (repeat' (first | with_reducible exact Below.refl _ _ | (with_reducible refine below_later_of ?_ ?_ _) | (with_reducible refine Below.alloc ?_ ?_ _) | (with_reducible refine Below.setCell ?_ ?_ _) | (with_reducible refine Below.drew ?_) | (simp; done) | (simp; omega) | omega)))⟩
  · have hz : (c != 0) = true := by simpa using h0
    clear hb
    go_enter Try.func9, Try.ntmps9
    go_wp2_with (first | (go_at_call 16; refine (awake_any _).mono ?_; rintro e w' ⟨rfl, hb⟩; obtain ⟨pp, rfl⟩ := later_of_below hb; clear hb) | (go_at_call 46; refine (corners_any ps _ cap _ HCO.out).mono ?_; rintro e w' ⟨rfl, hb⟩; obtain ⟨pp, rfl⟩ := later_of_below hb; clear hb) | (go_at_call 50; refine (rCheckPolygon_v ps _ cap _ (by omega) (HS.out.below (by (repeat' (first | with_reducible exact Below.refl _ _ | (with_reducible refine below_later_of ?_ ?_ _) | (with_reducible refine Below.alloc ?_ ?_ _) | (with_reducible refine Below.setCell ?_ ?_ _) | (with_reducible refine Below.drew ?_) | (simp; done) | (simp; omega) | omega)))) HC.out).mono ?_; rintro e w' ⟨rfl, hb⟩; obtain ⟨pp, rfl⟩ := later_of_below hb; clear hb))
    go_ret
    exact ⟨rfl, (by (repeat' (first | with_reducible exact Below.refl _ _ | (with_reducible refine below_later_of ?_ ?_ _) | (with_reducible refine Below.alloc ?_ ?_ _) | (with_reducible refine Below.setCell ?_ ?_ _) | (with_reducible refine Below.drew ?_) | (simp; done) | (simp; omega) | omega)))⟩
set_option maxRecDepth 20000 in
set_option maxHeartbeats 16000000 in
theorem gturns_ok (ps : List Plc) (a : Option Addr) (cap : Nat) (first x y z : Int) (w : World) (hl : cornersB ps.length = true) (hs : PlSrc w a ps) (hwf : Wf2 ps) (hn : a = none → cap = 0) (hp : checkPolygonP ps = 0) (hpb : placeB x y z = true) (i1 : -9223372036854775808 ≤ first) (i2 : first ≤ 9223372036854775807) : Calls Try.prog 9 #[.slice a ps.length cap, .int .i64 first, .agg #[.int .i64 x, .int .i64 y, .int .i64 z]] w fun e w' => e = .returned (.bool true) ∧ Below w.heap.size w w' := by
  have hn22 : ps.length ≤ 22 := by
    unfold cornersB at hl
    simp only [Bool.or_eq_true, Bool.and_eq_true, decide_eq_true_eq] at hl
    omega
  obtain ⟨l1, l2, l3, -⟩ := checkPolygonP_ok hp
  obtain ⟨i0, hi, hz0, hz1, hz2⟩ := info_parts infoPl
  obtain ⟨b, off, rfl, hbw, hpo⟩ := hs (by omega)
  have HCO := Lib.hid hl
  have HS := Lib.hid hs
  have HC := Lib.hid hp
  have HPB := Lib.hid hpb
  have HPO := Lib.hid hpo
  have HCE := Lib.hid l3
  obtain ⟨f, hf⟩ : ∃ f : Nat, first % (ps.length : Int) = f := ⟨(first % (ps.length : Int)).toNat, by have := Int.emod_nonneg first (show (ps.length : Int) ≠ 0 by omega); omega⟩
  have hfn : f < ps.length := by have := Int.emod_lt_of_pos first (show (0 : Int) < ps.length by omega); omega
  have HM3 := Lib.hid (show ∀ w', Calls Try.prog 54 #[.int .i64 first, .int .i64 ps.length] w' fun e w'' => e = .returned (.int .i64 f) ∧ w' = w'' from fun w' => by
    have := bMod first ps.length w' (by omega) (by omega) i1 i2
    rwa [hf] at this)
  have HOW := Lib.hid (show ∀ w', Below w.heap.size w w' → Calls Try.prog 48 #[.slice (some ⟨b, off, none⟩) ps.length cap] w' fun e w'' => ∃ v, e = .returned v ∧ PlacesV w'' v ps ∧ Below w'.heap.size w' w'' from fun w' h => own_any ps _ cap w' hwf (by omega) (hs.below h) (fun h => by cases h))
  obtain ⟨ar, hai⟩ : ∃ ar, areaOfP ps = (ar, 0) := ⟨(areaOfP ps).1, by unfold areaOfP; rw [if_pos hp]⟩
  have har : 0 < ar := by have := Geo.area_pos hp; rwa [hai] at this
  have hao : areaOfP (Geo.otherOf ps f) = (ar, 0) := by
    have h1 := Geo.other_area hfn hp
    have h2 : (areaOfP (Geo.otherOf ps f)).2 = 0 := by unfold areaOfP; rw [if_pos (Geo.other_check hfn hp)]
    rw [hai] at h1
    exact Prod.ext h1 h2
  obtain ⟨iv, hiv⟩ : ∃ iv, insB (sideAt ps 1) ps.length x y = iv := ⟨_, rfl⟩
  have hio : insB (sideAt (Geo.otherOf ps f) 1) (Geo.otherOf ps f).length x y = iv := (Geo.other_inside hfn x y).trans hiv
  have HI3 := Lib.hid (show ∀ v w', PlacesV w' v ps → Calls Try.prog 47 #[v, .agg #[.int .i64 x, .int .i64 y, .int .i64 z]] w' fun e w'' => e = .returned (.tuple #[.bool iv, .int .i64 0]) ∧ Below w'.heap.size w' w'' from fun v w' h => Inside_any ps v x y z w' h (inside_ok hp hpb hiv).1 (inside_ok hp hpb hiv).2)
  have HIO := Lib.hid (show ∀ v w', PlacesV w' v (Geo.otherOf ps f) → Calls Try.prog 47 #[v, .agg #[.int .i64 x, .int .i64 y, .int .i64 z]] w' fun e w'' => e = .returned (.tuple #[.bool iv, .int .i64 0]) ∧ Below w'.heap.size w' w'' from fun v w' h => Inside_any (Geo.otherOf ps f) v x y z w' h (inside_ok (Geo.other_check hfn hp) hpb hio).1 (inside_ok (Geo.other_check hfn hp) hpb hio).2)
  have HA1 := Lib.hid (show ∀ v w', PlacesV w' v ps → Calls Try.prog 49 #[v] w' fun e w'' => e = .returned (.tuple #[.int .i64 ar, .int .i64 0]) ∧ Below w'.heap.size w' w'' from fun v w' h => areaOf_e ps v w' h hai)
  have HA2 := Lib.hid (show ∀ v w', PlacesV w' v (Geo.otherOf ps f) → Calls Try.prog 49 #[v] w' fun e w'' => e = .returned (.tuple #[.int .i64 ar, .int .i64 0]) ∧ Below w'.heap.size w' w'' from fun v w' h => areaOf_e (Geo.otherOf ps f) v w' h hao)
  have HWF := Lib.hid hwf
  clear hl hs hp hpb hpo l3 hf hai hao hiv hio hwf hn
  go_enter Try.func9, Try.ntmps9
  go_wp2_with (first | (go_at_call 16; refine (awake_any _).mono ?_; rintro e w' ⟨rfl, hb⟩; obtain ⟨pp, rfl⟩ := later_of_below hb; clear hb) | (go_at_call 46; refine (corners_any ps _ cap _ HCO.out).mono ?_; rintro e w' ⟨rfl, hb⟩; obtain ⟨pp, rfl⟩ := later_of_below hb; clear hb) | (go_at_call 50; refine (rCheckPolygon_v ps _ cap _ (by omega) (HS.out.below (by (repeat' (first | with_reducible exact Below.refl _ _ | (with_reducible refine below_later_of ?_ ?_ _) | (with_reducible refine Below.alloc ?_ ?_ _) | (with_reducible refine Below.setCell ?_ ?_ _) | (with_reducible refine Below.drew ?_) | (simp; done) | (simp; omega) | omega)))) HC.out).mono ?_; rintro e w' ⟨rfl, hb⟩; obtain ⟨pp, rfl⟩ := later_of_below hb; clear hb) | (go_at_call 43; refine (rIsPlace x y z _ HPB.out).mono ?_; rintro e w' ⟨rfl, hb⟩; obtain ⟨pp, rfl⟩ := later_of_below hb; clear hb))
  refine wp_world3 (fun W => ThreeD W w.heap.size 0 ⟨x, y, z⟩ ∧ Below w.heap.size w W ∧ w.heap.size < W.heap.size) ⟨⟨(by (first | (simp [go_sem]; done) | simp [go_sem, ↓IntWalk.iteOmega])), (by (first | (simp [go_sem]; done) | simp [go_sem, ↓IntWalk.iteOmega])), (by (first | (simp [go_sem]; done) | simp [go_sem, ↓IntWalk.iteOmega]))⟩, (by (repeat' (first | with_reducible exact Below.refl _ _ | (with_reducible refine below_later_of ?_ ?_ _) | (with_reducible refine Below.alloc ?_ ?_ _) | (with_reducible refine Below.setCell ?_ ?_ _) | (with_reducible refine Below.drew ?_) | (simp; done) | (simp; omega) | omega))), by (simp <;> omega)⟩ ?_
  rintro W2 ⟨tt, hb, hs2⟩
  have TT := Lib.hid tt
  have HB2 := Lib.hid hb
  have hsz2 := hb.size
  clear tt hb
  go_loopw [7, 8] (fun v i wr => ∃ k : Nat, k ≤ ps.length ∧ i = .int .i64 k ∧ wr.ownsRow W2.heap.size 23 3 v k (otherUpto ps f k) ∧ Below W2.heap.size W2 wr) (fun _ i _ => ps.length - (intOf i).toNat)
  case atStart => exact ⟨0, Nat.zero_le _, rfl, World.ownsRow_nil _ _ _ _, Below.refl _ _⟩
  case round =>
    obtain ⟨k, hk, rfl, hown, hnx⟩ := hrel
    have HX := Lib.hid hnx
    have HOR := Lib.hid hown
    have hsz := hnx.size
    have hbr : b < wr.heap.size := by omega
    by_cases hlt : k < ps.length
    · have HPW := HPO.out.below hbw (HB2.out.trans (hnx.mono (by omega)))
      obtain ⟨d1, d2, d3⟩ := HPW k hlt
      obtain ⟨e1, e2, e3⟩ := HPW _ (next_lt hlt)
      have hrem := next_rem hlt
      have hjn := next_lt hlt
      have hj3 := Geo.turnIx_lt hfn hlt
      have H3 := Lib.hid (show ThreeD wr b (off + Geo.turnIx ps.length f k * 3) (plcAt ps (Geo.turnIx ps.length f k)) from HPW _ hj3)
      have HM4 := Lib.hid (show ∀ w', Calls Try.prog 54 #[.int .i64 ((f : Int) - (k : Int)), .int .i64 ps.length] w' fun e w'' => e = .returned (.int .i64 ((Geo.turnIx ps.length f k : Nat) : Int)) ∧ w' = w'' from fun w' => by
        have := bMod ((f : Int) - (k : Int)) ps.length w' (by omega) (by omega) (by omega) (by omega)
        rwa [turn_mod hfn hlt] at this)
      have HSN := Lib.hid (show otherUpto ps f (k + 1) = otherUpto ps f k ++ [.int .i64 (plcAt ps (Geo.turnIx ps.length f k)).x, .int .i64 (plcAt ps (Geo.turnIx ps.length f k)).y, .int .i64 (plcAt ps (Geo.turnIx ps.length f k)).z] from rfl)
      have hq1 := placeB_iff.1 (Geo.placeB_of (HCE.out k hlt))
      have hq2 := placeB_iff.1 (Geo.placeB_of (HCE.out _ hjn))
      have HI1 := Lib.hid (show ∀ v w', PlacesV w' v ps → Calls Try.prog 47 #[v, .agg #[.int .i64 (plcAt ps k).x, .int .i64 (plcAt ps k).y, .int .i64 (plcAt ps k).z]] w' fun e w'' => e = .returned (.tuple #[.bool true, .int .i64 0]) ∧ Below w'.heap.size w' w'' from fun v w' h => Inside_any ps v _ _ _ w' h (inside_ok HC.out (Geo.placeB_of (HCE.out k hlt)) (Geo.corner_in hlt)).1 (inside_ok HC.out (Geo.placeB_of (HCE.out k hlt)) (Geo.corner_in hlt)).2)
      have HI2' := Lib.hid (show ((plcAt ps k).x + (plcAt ps (nextN ps.length k)).x) % 2 = 0 → ((plcAt ps k).y + (plcAt ps (nextN ps.length k)).y) % 2 = 0 → ∀ v w', PlacesV w' v ps → Calls Try.prog 47 #[v, .agg #[.int .i64 (((plcAt ps k).x + (plcAt ps (nextN ps.length k)).x) / 2), .int .i64 (((plcAt ps k).y + (plcAt ps (nextN ps.length k)).y) / 2), .int .i64 0]] w' fun e w'' => e = .returned (.tuple #[.bool true, .int .i64 0]) ∧ Below w'.heap.size w' w'' from fun g1 g2 v w' h => by
        have hpl : placeB (((plcAt ps k).x + (plcAt ps (nextN ps.length k)).x) / 2) (((plcAt ps k).y + (plcAt ps (nextN ps.length k)).y) / 2) 0 = true := placeB_iff.2 ⟨⟨by omega, by omega⟩, ⟨by omega, by omega⟩, by omega, by omega⟩
        have hm := Geo.middle_in (ps := ps) (x := ((plcAt ps k).x + (plcAt ps (nextN ps.length k)).x) / 2) (y := ((plcAt ps k).y + (plcAt ps (nextN ps.length k)).y) / 2) hlt (by omega) (by omega)
        exact Inside_any ps v _ _ _ w' h (inside_ok HC.out hpl hm).1 (inside_ok HC.out hpl hm).2)
      generalize Geo.turnIx ps.length f k = j3 at *
      generalize plcAt ps j3 = p3 at *
      generalize plcAt ps k = p1 at *
      generalize nextN ps.length k = j at *
      generalize plcAt ps j = p2 at *
      obtain ⟨⟨u1, u2⟩, ⟨u3, u4⟩, -⟩ := hq1
      obtain ⟨⟨v1, v2⟩, ⟨v3, v4⟩, -⟩ := hq2
      have HM1 := Lib.hid (show ∀ w', Calls Try.prog 54 #[.int .i64 (p1.x + p2.x), .int .i64 2] w' fun e w'' => e = .returned (.int .i64 ((p1.x + p2.x) % 2)) ∧ w' = w'' from fun w' => bMod _ 2 w' (by omega) (by omega) (by omega) (by omega))
      have HM2 := Lib.hid (show ∀ w', Calls Try.prog 54 #[.int .i64 (p1.y + p2.y), .int .i64 2] w' fun e w'' => e = .returned (.int .i64 ((p1.y + p2.y) % 2)) ∧ w' = w'' from fun w' => bMod _ 2 w' (by omega) (by omega) (by omega) (by omega))
      have HF1 := Lib.hid (show ∀ w', Calls Try.prog 55 #[.int .i64 (IntKind.i64.wrap (p1.x + p2.x)), .int .i64 2] w' fun e w'' => e = .returned (.int .i64 ((p1.x + p2.x) / 2)) ∧ w' = w'' from fun w' => by rw [IntWalk.i64_in _ (by omega)]; exact bFloor _ 2 w' (by omega) (by omega) (by omega) (by omega))
      have HF2 := Lib.hid (show ∀ w', Calls Try.prog 55 #[.int .i64 (IntKind.i64.wrap (p1.y + p2.y)), .int .i64 2] w' fun e w'' => e = .returned (.int .i64 ((p1.y + p2.y) / 2)) ∧ w' = w'' from fun w' => by rw [IntWalk.i64_in _ (by omega)]; exact bFloor _ 2 w' (by omega) (by omega) (by omega) (by omega))
      clear hnx HPW hown
      go_wp2_with fail
      go_cut [9, 10] from 42 to 53 (fun X Y wx => ∃ B9 B10, X = .pointer (some ⟨B9, 0, none⟩) ∧ Y = .pointer (some ⟨B10, 0, none⟩) ∧ ThreeD wx B9 0 p1 ∧ ThreeD wx B10 0 p2 ∧ Below wr.heap.size wr wx ∧ B9 < wx.heap.size ∧ B10 < wx.heap.size)
      case first =>
        go_region
        all_goals
          go_wp2_with fail
          go_meet
          exact ⟨_, _, rfl, rfl, ⟨(by (first | (simp [go_sem]; done) | simp [go_sem, ↓IntWalk.iteOmega])), (by (first | (simp [go_sem]; done) | simp [go_sem, ↓IntWalk.iteOmega])), (by (first | (simp [go_sem]; done) | simp [go_sem, ↓IntWalk.iteOmega]))⟩, ⟨(by (first | (simp [go_sem]; done) | simp [go_sem, ↓IntWalk.iteOmega])), (by (first | (simp [go_sem]; done) | simp [go_sem, ↓IntWalk.iteOmega])), (by (first | (simp [go_sem]; done) | simp [go_sem, ↓IntWalk.iteOmega]))⟩, (by (repeat' (first | with_reducible exact Below.refl _ _ | (with_reducible refine below_later_of ?_ ?_ _) | (with_reducible refine Below.alloc ?_ ?_ _) | (with_reducible refine Below.setCell ?_ ?_ _) | (with_reducible refine Below.drew ?_) | (simp; done) | (simp; omega) | omega))), by (simp <;> omega), by (simp <;> omega)⟩
      case rest =>
        obtain ⟨B9, B10, rfl, rfl, g9, g10, hb, hs9, hs10⟩ := hcut
        have HXA := Lib.hid (HX.out.trans (hb.mono hsz))
        have hszc := hb.size
        have G9 := Lib.hid g9
        have G10 := Lib.hid g10
        have H3A := Lib.hid (H3.out.below hbr hb)
        have HOA := Lib.hid (ownsRow_below HOR.out hb)
        obtain ⟨q1, q2, q3⟩ := g9
        clear hb d1 d2 d3 e1 e2 e3 g10
        obtain ⟨wd, hwd⟩ : ∃ wd : World, wd = wc := ⟨_, rfl⟩
        subst hwd
        have HBD := Lib.hid (show Below w.heap.size w wd from HB2.out.trans (HXA.out.mono hsz2))
        have HOW := Lib.hid (show ∀ w', Below wd.heap.size wd w' → Calls Try.prog 48 #[.slice (some ⟨b, off, none⟩) ps.length cap] w' fun e w'' => ∃ v, e = .returned v ∧ PlacesV w'' v ps ∧ Below w'.heap.size w' w'' from fun w' h => HOW.out w' (HBD.out.trans (h.mono (by have := HBD.out.size; omega))))
        go_wp2_with fail
        go_cut [11, 12] from 55 to 60 (fun X Y wx => X = .bool true ∧ Y = .int .i64 0 ∧ Below wd.heap.size wd wx)
        case first =>
          go_region_held3 (fun w' => w'.cell? ⟨B9, 0, none⟩ = some (.int .i64 p1.x) ∧ w'.cell? ⟨B9, 1, none⟩ = some (.int .i64 p1.y) ∧ w'.cell? ⟨B9, 2, none⟩ = some (.int .i64 p1.z)) (exact G9.out.below (C := wd.heap.size) hs9 (by (repeat' (first | with_reducible exact Below.refl _ _ | (with_reducible refine below_later_of ?_ ?_ _) | (with_reducible refine Below.alloc ?_ ?_ _) | (with_reducible refine Below.setCell ?_ ?_ _) | (with_reducible refine Below.drew ?_) | (simp; done) | (simp; omega) | omega)))) (first | (go_at_call 48; (with_reducible refine (HOW.out _ (by (repeat' (first | with_reducible exact Below.refl _ _ | (with_reducible refine below_later_of ?_ ?_ _) | (with_reducible refine Below.alloc ?_ ?_ _) | (with_reducible refine Below.setCell ?_ ?_ _) | (with_reducible refine Below.drew ?_) | (simp; done) | (simp; omega) | omega)))).mono ?_); rintro e w' ⟨v, rfl, hv, hb⟩; have HV := Lib.hid hv; clear hv; obtain ⟨pp, rfl⟩ := later_of_below hb; clear hb) | (go_at_call 47; (with_reducible refine (HI1.out _ _ (HV.out.below (by (repeat' (first | with_reducible exact Below.refl _ _ | (with_reducible refine below_later_of ?_ ?_ _) | (with_reducible refine Below.alloc ?_ ?_ _) | (with_reducible refine Below.setCell ?_ ?_ _) | (with_reducible refine Below.drew ?_) | (simp; done) | (simp; omega) | omega))))).mono ?_); rintro e w' ⟨rfl, hb⟩; obtain ⟨pp, rfl⟩ := later_of_below hb; clear hb))
          all_goals
            go_wp2_with fail
            go_meet
            exact ⟨rfl, rfl, (by (repeat' (first | with_reducible exact Below.refl _ _ | (with_reducible refine below_later_of ?_ ?_ _) | (with_reducible refine Below.alloc ?_ ?_ _) | (with_reducible refine Below.setCell ?_ ?_ _) | (with_reducible refine Below.drew ?_) | (simp; done) | (simp; omega) | omega)))⟩
        case rest =>
          obtain ⟨rfl, rfl, hb⟩ := hcut
          have HXC := Lib.hid (HXA.out.trans (hb.mono (show W2.heap.size ≤ wd.heap.size by omega)))
          have hszd := hb.size
          have G9B := Lib.hid (G9.out.below (C := wd.heap.size) hs9 hb)
          have G10B := Lib.hid (G10.out.below (C := wd.heap.size) hs10 hb)
          have HO := Lib.hid (ownsRow_below HOA.out hb)
          have H3B := Lib.hid (H3A.out.below (C := wd.heap.size) (by omega) hb)
          have HOW := Lib.hid (show ∀ w', Below wc.heap.size wc w' → Calls Try.prog 48 #[.slice (some ⟨b, off, none⟩) ps.length cap] w' fun e w'' => ∃ v, e = .returned v ∧ PlacesV w'' v ps ∧ Below w'.heap.size w' w'' from fun w' h => HOW.out w' (hb.trans (h.mono hszd)))
          clear q1 q2 q3 hb
          obtain ⟨q1, q2, q3⟩ := G9B.out
          obtain ⟨q4, q5, q6⟩ := G10B.out
          obtain ⟨r1, r2, r3⟩ := H3B.out
          by_cases o1 : (p1.x + p2.x) % 2 = 0
          · have b1 : ((p1.x + p2.x) % 2 == 0) = true := by simpa using o1
            by_cases o2 : (p1.y + p2.y) % 2 = 0
            · have b2 : ((p1.y + p2.y) % 2 == 0) = true := by simpa using o2
              have HI2 := Lib.hid (HI2'.out o1 o2)
              go_wp2_with (first | (go_at_call 54; (with_reducible refine (HM1.out _).mono ?_); rintro e w' ⟨rfl, rfl⟩) | (go_at_call 54; (with_reducible refine (HM2.out _).mono ?_); rintro e w' ⟨rfl, rfl⟩))
              obtain ⟨we, hwe⟩ : ∃ we : World, we = wc := ⟨_, rfl⟩
              subst hwe
              go_cut [11, 12] from 84 to 101 (fun X Y wx => X = .bool true ∧ Y = .int .i64 0 ∧ Below we.heap.size we wx)
              case first =>
                go_region_held3 (fun w' => (w'.cell? ⟨B9, 0, none⟩ = some (.int .i64 p1.x) ∧ w'.cell? ⟨B9, 1, none⟩ = some (.int .i64 p1.y) ∧ w'.cell? ⟨B9, 2, none⟩ = some (.int .i64 p1.z)) ∧ w'.cell? ⟨B10, 0, none⟩ = some (.int .i64 p2.x) ∧ w'.cell? ⟨B10, 1, none⟩ = some (.int .i64 p2.y) ∧ w'.cell? ⟨B10, 2, none⟩ = some (.int .i64 p2.z)) (exact ⟨G9B.out.below (C := we.heap.size) (by omega) (by (repeat' (first | with_reducible exact Below.refl _ _ | (with_reducible refine below_later_of ?_ ?_ _) | (with_reducible refine Below.alloc ?_ ?_ _) | (with_reducible refine Below.setCell ?_ ?_ _) | (with_reducible refine Below.drew ?_) | (simp; done) | (simp; omega) | omega))), G10B.out.below (C := we.heap.size) (by omega) (by (repeat' (first | with_reducible exact Below.refl _ _ | (with_reducible refine below_later_of ?_ ?_ _) | (with_reducible refine Below.alloc ?_ ?_ _) | (with_reducible refine Below.setCell ?_ ?_ _) | (with_reducible refine Below.drew ?_) | (simp; done) | (simp; omega) | omega)))⟩) (first | (go_at_call 48; (with_reducible refine (HOW.out _ (by (repeat' (first | with_reducible exact Below.refl _ _ | (with_reducible refine below_later_of ?_ ?_ _) | (with_reducible refine Below.alloc ?_ ?_ _) | (with_reducible refine Below.setCell ?_ ?_ _) | (with_reducible refine Below.drew ?_) | (simp; done) | (simp; omega) | omega)))).mono ?_); rintro e w' ⟨v, rfl, hv, hb⟩; have HV := Lib.hid hv; clear hv; obtain ⟨pp, rfl⟩ := later_of_below hb; clear hb) | (go_at_call 55; (with_reducible refine (HF1.out _).mono ?_); rintro e w' ⟨rfl, rfl⟩) | (go_at_call 55; (with_reducible refine (HF2.out _).mono ?_); rintro e w' ⟨rfl, rfl⟩) | (go_at_call 47; (with_reducible refine (HI2.out _ _ (HV.out.below (by (repeat' (first | with_reducible exact Below.refl _ _ | (with_reducible refine below_later_of ?_ ?_ _) | (with_reducible refine Below.alloc ?_ ?_ _) | (with_reducible refine Below.setCell ?_ ?_ _) | (with_reducible refine Below.drew ?_) | (simp; done) | (simp; omega) | omega))))).mono ?_); rintro e w' ⟨rfl, hb⟩; obtain ⟨pp, rfl⟩ := later_of_below hb; clear hb))
                all_goals
                  go_wp2_with fail
                  go_meet
                  exact ⟨rfl, rfl, (by (repeat' (first | with_reducible exact Below.refl _ _ | (with_reducible refine below_later_of ?_ ?_ _) | (with_reducible refine Below.alloc ?_ ?_ _) | (with_reducible refine Below.setCell ?_ ?_ _) | (with_reducible refine Below.drew ?_) | (simp; done) | (simp; omega) | omega)))⟩
              case rest =>
                obtain ⟨rfl, rfl, hb⟩ := hcut
                have HXC := Lib.hid (HXC.out.trans (hb.mono (show W2.heap.size ≤ we.heap.size by omega)))
                have hsze := hb.size
                have HO := Lib.hid (ownsRow_below HO.out hb)
                have H3C := Lib.hid (H3B.out.below (C := we.heap.size) (by omega) hb)
                clear q1 q2 q3 q4 q5 q6 r1 r2 r3 hb b1 b2 o1 o2
                obtain ⟨r1, r2, r3⟩ := H3C.out
                (go_wp2_with (first | (go_at_call 54; (with_reducible refine (HM1.out _).mono ?_); rintro e w' ⟨rfl, rfl⟩) | (go_at_call 54; (with_reducible refine (HM2.out _).mono ?_); rintro e w' ⟨rfl, rfl⟩) | (go_at_call 54; (with_reducible refine (HM3.out _).mono ?_); rintro e w' ⟨rfl, rfl⟩) | (go_at_call 54; (with_reducible refine (HM4.out _).mono ?_); rintro e w' ⟨rfl, rfl⟩) | (at_builtin; refine wpList_append_own _ rfl _ _ 85 rfl W2.heap.size 23 i0 (.agg #[.int .i64 0, .int .i64 0, .int .i64 0]) 3 24 Try.underlying85 hi hz0 hz1 hz2 rfl (by decide) _ _ _ rfl (HO.out.alloc _) ⟨wc.heap.size, 0, none⟩ 1 1 [.int .i64 p3.x, .int .i64 p3.y, .int .i64 p3.z] (by first | rfl | (simp; rfl)) rfl ?c1 ?c2 ?c3 ?c4 ?c5 ?_)); (case c1 => exact cells_new _ [_, _, _] _); (case c2 => intro u hu; simp at hu; rcases hu with rfl | rfl | rfl <;> rfl); (case c3 => unfold maxLen; omega); (case c4 => omega); (case c5 => simp; omega); intro v' w1 hown' hgrow _; have HX1 := Lib.hid (show Below W2.heap.size W2 w1 from (HXC.out.trans (show Below W2.heap.size wc _ from below_mono_of (by omega) (by (repeat' (first | with_reducible exact Below.refl _ _ | (with_reducible refine below_later_of ?_ ?_ _) | (with_reducible refine Below.alloc ?_ ?_ _) | (with_reducible refine Below.setCell ?_ ?_ _) | (with_reducible refine Below.drew ?_) | (simp; done) | (simp; omega) | omega))))).grown hgrow (by simp; omega) (fun g hg => (HO.out.lt g hg).1)); have HO1 := Lib.hid hown'; clear hown' hgrow; go_wp2; go_roundw; (case rel => exact ⟨k + 1, by omega, by go_num, by (rw [HSN.out]; exact HO1.out), HX1.out⟩); (case measure => simp [intOf]; omega))
            · have b2 : ((p1.y + p2.y) % 2 == 0) = false := by simpa using o2
              (go_wp2_with (first | (go_at_call 54; (with_reducible refine (HM1.out _).mono ?_); rintro e w' ⟨rfl, rfl⟩) | (go_at_call 54; (with_reducible refine (HM2.out _).mono ?_); rintro e w' ⟨rfl, rfl⟩) | (go_at_call 54; (with_reducible refine (HM3.out _).mono ?_); rintro e w' ⟨rfl, rfl⟩) | (go_at_call 54; (with_reducible refine (HM4.out _).mono ?_); rintro e w' ⟨rfl, rfl⟩) | (at_builtin; refine wpList_append_own _ rfl _ _ 85 rfl W2.heap.size 23 i0 (.agg #[.int .i64 0, .int .i64 0, .int .i64 0]) 3 24 Try.underlying85 hi hz0 hz1 hz2 rfl (by decide) _ _ _ rfl (HO.out.alloc _) ⟨wc.heap.size, 0, none⟩ 1 1 [.int .i64 p3.x, .int .i64 p3.y, .int .i64 p3.z] (by first | rfl | (simp; rfl)) rfl ?c1 ?c2 ?c3 ?c4 ?c5 ?_)); (case c1 => exact cells_new _ [_, _, _] _); (case c2 => intro u hu; simp at hu; rcases hu with rfl | rfl | rfl <;> rfl); (case c3 => unfold maxLen; omega); (case c4 => omega); (case c5 => simp; omega); intro v' w1 hown' hgrow _; have HX1 := Lib.hid (show Below W2.heap.size W2 w1 from (HXC.out.trans (show Below W2.heap.size wc _ from below_mono_of (by omega) (by (repeat' (first | with_reducible exact Below.refl _ _ | (with_reducible refine below_later_of ?_ ?_ _) | (with_reducible refine Below.alloc ?_ ?_ _) | (with_reducible refine Below.setCell ?_ ?_ _) | (with_reducible refine Below.drew ?_) | (simp; done) | (simp; omega) | omega))))).grown hgrow (by simp; omega) (fun g hg => (HO.out.lt g hg).1)); have HO1 := Lib.hid hown'; clear hown' hgrow; go_wp2; go_roundw; (case rel => exact ⟨k + 1, by omega, by go_num, by (rw [HSN.out]; exact HO1.out), HX1.out⟩); (case measure => simp [intOf]; omega))
          · have b1 : ((p1.x + p2.x) % 2 == 0) = false := by simpa using o1
            (go_wp2_with (first | (go_at_call 54; (with_reducible refine (HM1.out _).mono ?_); rintro e w' ⟨rfl, rfl⟩) | (go_at_call 54; (with_reducible refine (HM2.out _).mono ?_); rintro e w' ⟨rfl, rfl⟩) | (go_at_call 54; (with_reducible refine (HM3.out _).mono ?_); rintro e w' ⟨rfl, rfl⟩) | (go_at_call 54; (with_reducible refine (HM4.out _).mono ?_); rintro e w' ⟨rfl, rfl⟩) | (at_builtin; refine wpList_append_own _ rfl _ _ 85 rfl W2.heap.size 23 i0 (.agg #[.int .i64 0, .int .i64 0, .int .i64 0]) 3 24 Try.underlying85 hi hz0 hz1 hz2 rfl (by decide) _ _ _ rfl (HO.out.alloc _) ⟨wc.heap.size, 0, none⟩ 1 1 [.int .i64 p3.x, .int .i64 p3.y, .int .i64 p3.z] (by first | rfl | (simp; rfl)) rfl ?c1 ?c2 ?c3 ?c4 ?c5 ?_)); (case c1 => exact cells_new _ [_, _, _] _); (case c2 => intro u hu; simp at hu; rcases hu with rfl | rfl | rfl <;> rfl); (case c3 => unfold maxLen; omega); (case c4 => omega); (case c5 => simp; omega); intro v' w1 hown' hgrow _; have HX1 := Lib.hid (show Below W2.heap.size W2 w1 from (HXC.out.trans (show Below W2.heap.size wc _ from below_mono_of (by omega) (by (repeat' (first | with_reducible exact Below.refl _ _ | (with_reducible refine below_later_of ?_ ?_ _) | (with_reducible refine Below.alloc ?_ ?_ _) | (with_reducible refine Below.setCell ?_ ?_ _) | (with_reducible refine Below.drew ?_) | (simp; done) | (simp; omega) | omega))))).grown hgrow (by simp; omega) (fun g hg => (HO.out.lt g hg).1)); have HO1 := Lib.hid hown'; clear hown' hgrow; go_wp2; go_roundw; (case rel => exact ⟨k + 1, by omega, by go_num, by (rw [HSN.out]; exact HO1.out), HX1.out⟩); (case measure => simp [intOf]; omega))
    · obtain rfl : k = ps.length := by omega
      obtain ⟨g, cp, rfl, hg1, hg2, hg3, hg4⟩ := ownsRow_slice hown (by omega)
      have hol : (Geo.otherOf ps f).length = ps.length := Geo.other_len ps f
      have hoa : ∀ j, j < ps.length → plcAt (Geo.otherOf ps f) j = plcAt ps (Geo.turnIx ps.length f j) := fun j hj => Geo.other_at hj
      have hpl : Places wr g (Geo.otherOf ps f) := fun j hj => by
        rw [hol] at hj
        rw [hoa j hj]
        have a0 := (hown.cellAt (j * 3) (by omega)).trans (otherUpto_at ps f j 0 (by omega) ps.length hj)
        have a1 := (hown.cellAt (j * 3 + 1) (by omega)).trans (otherUpto_at ps f j 1 (by omega) ps.length hj)
        have a2 := (hown.cellAt (j * 3 + 2) (by omega)).trans (otherUpto_at ps f j 2 (by omega) ps.length hj)
        exact ⟨a0, a1, a2⟩
      have hwo : Wf2 (Geo.otherOf ps f) := fun j hj => by
        rw [hol] at hj
        rw [hoa j hj]
        exact HWF.out _ (Geo.turnIx_lt hfn hj)
      have hpv : PlacesV wr (.slice (some ⟨g, 0, none⟩) ps.length cp) (Geo.otherOf ps f) := ⟨hwo, by rw [hol]; omega, _, cp, by rw [hol], fun _ => ⟨g, rfl, hg2, hpl⟩⟩
      have hsrc : PlSrc wr (some ⟨g, 0, none⟩) (Geo.otherOf ps f) := fun _ => ⟨g, 0, rfl, hg2, fun j hj => by simpa only [Nat.zero_add] using hpl j hj⟩
      have HBR := Lib.hid (show Below w.heap.size w wr from HB2.out.trans (hnx.mono hsz2))
      have HOW2 := Lib.hid (show ∀ w', Below wr.heap.size wr w' → Calls Try.prog 48 #[.slice (some ⟨g, 0, none⟩) ps.length cp] w' fun e w'' => ∃ v, e = .returned v ∧ PlacesV w'' v (Geo.otherOf ps f) ∧ Below w'.heap.size w' w'' from fun w' h => by
        have := own_any (Geo.otherOf ps f) (some ⟨g, 0, none⟩) cp w' hwo (by rw [hol]; omega) (hsrc.below h) (fun h => by cases h)
        rwa [hol] at this)
      have HOW := Lib.hid (show ∀ w', Below wr.heap.size wr w' → Calls Try.prog 48 #[.slice (some ⟨b, off, none⟩) ps.length cap] w' fun e w'' => ∃ v, e = .returned v ∧ PlacesV w'' v ps ∧ Below w'.heap.size w' w'' from fun w' h => HOW.out w' (HBR.out.trans (h.mono (by omega))))
      have HI4 := Lib.hid (show ∀ w', Below wr.heap.size wr w' → Calls Try.prog 47 #[.slice (some ⟨g, 0, none⟩) ps.length cp, .agg #[.int .i64 x, .int .i64 y, .int .i64 z]] w' fun e w'' => e = .returned (.tuple #[.bool iv, .int .i64 0]) ∧ Below w'.heap.size w' w'' from fun w' h => HIO.out _ w' (hpv.below h))
      have HTT := Lib.hid (TT.out.below (C := W2.heap.size) hs2 hnx)
      have d0 : decide (0 < ar) = true := by simpa using har
      have hsw : w.heap.size < wr.heap.size := by omega
      clear hpv hsrc hwo hpl hoa hol hnx hown
      go_wp2_with (first | (go_at_call 48; (with_reducible refine (HOW.out _ (by (repeat' (first | with_reducible exact Below.refl _ _ | (with_reducible refine below_later_of ?_ ?_ _) | (with_reducible refine Below.alloc ?_ ?_ _) | (with_reducible refine Below.setCell ?_ ?_ _) | (with_reducible refine Below.drew ?_) | (simp; done) | (simp; omega) | omega)))).mono ?_); rintro e w' ⟨v, rfl, hv, hb⟩; have HV := Lib.hid hv; clear hv; obtain ⟨pp, rfl⟩ := later_of_below hb; clear hb) | (go_at_call 49; (with_reducible refine (HA1.out _ _ (HV.out.below (by (repeat' (first | with_reducible exact Below.refl _ _ | (with_reducible refine below_later_of ?_ ?_ _) | (with_reducible refine Below.alloc ?_ ?_ _) | (with_reducible refine Below.setCell ?_ ?_ _) | (with_reducible refine Below.drew ?_) | (simp; done) | (simp; omega) | omega))))).mono ?_); rintro e w' ⟨rfl, hb⟩; obtain ⟨pp, rfl⟩ := later_of_below hb; clear hb) | (go_at_call 48; (with_reducible refine (HOW2.out _ (by (repeat' (first | with_reducible exact Below.refl _ _ | (with_reducible refine below_later_of ?_ ?_ _) | (with_reducible refine Below.alloc ?_ ?_ _) | (with_reducible refine Below.setCell ?_ ?_ _) | (with_reducible refine Below.drew ?_) | (simp; done) | (simp; omega) | omega)))).mono ?_); rintro e w' ⟨v, rfl, hv, hb⟩; have HV2 := Lib.hid hv; clear hv; obtain ⟨pp2, rfl⟩ := later_of_below hb; clear hb) | (go_at_call 49; (with_reducible refine (HA2.out _ _ (HV2.out.below (by (repeat' (first | with_reducible exact Below.refl _ _ | (with_reducible refine below_later_of ?_ ?_ _) | (with_reducible refine Below.alloc ?_ ?_ _) | (with_reducible refine Below.setCell ?_ ?_ _) | (with_reducible refine Below.drew ?_) | (simp; done) | (simp; omega) | omega))))).mono ?_); rintro e w' ⟨rfl, hb⟩; obtain ⟨pp, rfl⟩ := later_of_below hb; clear hb))
      go_region_held3 (fun w' => w'.cell? ⟨w.heap.size, 0, none⟩ = some (.int .i64 x) ∧ w'.cell? ⟨w.heap.size, 1, none⟩ = some (.int .i64 y) ∧ w'.cell? ⟨w.heap.size, 2, none⟩ = some (.int .i64 z)) (exact HTT.out.below (C := wr.heap.size) hsw (by (repeat' (first | with_reducible exact Below.refl _ _ | (with_reducible refine below_later_of ?_ ?_ _) | (with_reducible refine Below.alloc ?_ ?_ _) | (with_reducible refine Below.setCell ?_ ?_ _) | (with_reducible refine Below.drew ?_) | (simp; done) | (simp; omega) | omega)))) (first | (go_at_call 48; (with_reducible refine (HOW.out _ (by (repeat' (first | with_reducible exact Below.refl _ _ | (with_reducible refine below_later_of ?_ ?_ _) | (with_reducible refine Below.alloc ?_ ?_ _) | (with_reducible refine Below.setCell ?_ ?_ _) | (with_reducible refine Below.drew ?_) | (simp; done) | (simp; omega) | omega)))).mono ?_); rintro e w' ⟨v, rfl, hv, hb⟩; have HV := Lib.hid hv; clear hv; obtain ⟨pp, rfl⟩ := later_of_below hb; clear hb) | (go_at_call 47; (with_reducible refine (HI3.out _ _ (HV.out.below (by (repeat' (first | with_reducible exact Below.refl _ _ | (with_reducible refine below_later_of ?_ ?_ _) | (with_reducible refine Below.alloc ?_ ?_ _) | (with_reducible refine Below.setCell ?_ ?_ _) | (with_reducible refine Below.drew ?_) | (simp; done) | (simp; omega) | omega))))).mono ?_); rintro e w' ⟨rfl, hb⟩; obtain ⟨pp, rfl⟩ := later_of_below hb; clear hb))
      all_goals
        rename_i hheld
        obtain ⟨t1, t2, t3⟩ := hheld
        go_wp2_with (first | (go_at_call 47; (with_reducible refine (HI4.out _ (by (repeat' (first | with_reducible exact Below.refl _ _ | (with_reducible refine below_later_of ?_ ?_ _) | (with_reducible refine Below.alloc ?_ ?_ _) | (with_reducible refine Below.setCell ?_ ?_ _) | (with_reducible refine Below.drew ?_) | (simp; done) | (simp; omega) | omega)))).mono ?_); rintro e w' ⟨rfl, hb⟩; obtain ⟨pp, rfl⟩ := later_of_below hb; clear hb))
        go_ret
        exact ⟨ret_bool (by simp), HBR.out.trans (below_mono_of (show w.heap.size ≤ wr.heap.size by omega) (by (repeat' (first | with_reducible exact Below.refl _ _ | (with_reducible refine below_later_of ?_ ?_ _) | (with_reducible refine Below.alloc ?_ ?_ _) | (with_reducible refine Below.setCell ?_ ?_ _) | (with_reducible refine Below.drew ?_) | (simp; done) | (simp; omega) | omega))))⟩
theorem gturns_any (ps : List Plc) (a : Option Addr) (cap : Nat) (first x y z : Int) (w : World) (hs : PlSrc w a ps) (hwf : Wf2 ps) (hn : a = none → cap = 0) (i1 : -9223372036854775808 ≤ first) (i2 : first ≤ 9223372036854775807) : Calls Try.prog 9 #[.slice a ps.length cap, .int .i64 first, .agg #[.int .i64 x, .int .i64 y, .int .i64 z]] w fun e w' => e = .returned (.bool true) ∧ Below w.heap.size w w' := by
  rcases bool_two (cornersB ps.length) with h | h
  · exact gturns_many ps a cap first x y z w h
  · by_cases hp : checkPolygonP ps = 0
    · rcases bool_two (placeB x y z) with hq | hq
      · exact gturns_bad ps a cap first x y z w h hs (Or.inr hq)
      · exact gturns_ok ps a cap first x y z w h hs hwf hn hp hq i1 i2
    · exact gturns_bad ps a cap first x y z w h hs (Or.inl hp)
end Go.Proofs.Ythnfepfbkmafaaa
