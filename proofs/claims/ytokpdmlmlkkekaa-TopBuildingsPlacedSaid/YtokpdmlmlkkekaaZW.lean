import Derived.Test.YtokpdmlmlkkekaaZK
import Derived.Test.YtokpdmlmlkkekaaZH
import Derived.Test.YtokpdmlmlkkekaaZG
import Derived.Test.YtokpdmlmlkkekaaZR
import Derived.Test.YtokpdmlmlkkekaaZL
/- base.Ints, and the examples' data. -/
namespace Go.Proofs.Ytokpdmlmlkkekaa
set_option linter.unusedVariables false
open Go.RowKit
def intAt (zs : List Int) (k : Nat) : Int := zs[k]?.getD 0
/-- The value is a slice of these integers. -/
def IntsV (w : World) (v : Value) (zs : List Int) : Prop :=
  zs.length ≤ 1000000000 ∧ ∃ a cap, v = .slice a zs.length cap ∧ (0 < zs.length → ∃ b off, a = some ⟨b, off, none⟩ ∧ b < w.heap.size ∧ ∀ k, k < zs.length → w.cell? ⟨b, off + k, none⟩ = some (.int .i64 (intAt zs k)))
theorem IntsV.below {w w' : World} {v : Value} {zs : List Int} (h : IntsV w v zs) (hw : Below w.heap.size w w') : IntsV w' v zs := by
  obtain ⟨h1, a, cap, h3, h4⟩ := h
  refine ⟨h1, a, cap, h3, fun hp => ?_⟩
  obtain ⟨b, off, h5, h6, h7⟩ := h4 hp
  exact ⟨b, off, h5, Nat.lt_of_lt_of_le h6 hw.size, fun k hk => (hw.cell (p := ⟨b, off + k, none⟩) h6).trans (h7 k hk)⟩
theorem intsV_own {w : World} {base n cap g : Nat} {zs : List Int} (h : w.ownsRow base 3 1 (.slice (some ⟨g, 0, none⟩) n cap) n (zs.map (.int .i64))) (hm : n ≤ 1000000000) : IntsV w (.slice (some ⟨g, 0, none⟩) n cap) zs := by
  have hl : zs.length = n := by have := h.1; simpa using this
  subst hl
  refine ⟨hm, _, _, rfl, fun hp => ⟨g, 0, rfl, (h.lt g rfl).2, fun k hk => ?_⟩⟩
  rw [Nat.zero_add, h.cellAt k (by omega)]
  unfold intAt
  simp [hk]
theorem intAt_ext {xs ys : List Int} (hl : xs.length = ys.length) (h : ∀ k, k < xs.length → intAt xs k = intAt ys k) : xs = ys := by
  apply List.ext_getElem hl
  intro k h1 h2
  have := h k h1
  unfold intAt at this
  simpa [h1, h2] using this
set_option maxHeartbeats 1000000 in
theorem bInts (xs ys : List Int) (v u : Value) (w : World) (hx : IntsV w v xs) (hy : IntsV w u ys) {c : Bool} (hc : decide (xs = ys) = c) :
    Calls Try.prog 38 #[v, u] w fun e w' => e = .returned (.bool c) ∧ Below w.heap.size w w' := by
  subst hc
  obtain ⟨x1, a, cap, rfl, x4⟩ := hx
  obtain ⟨y1, a', cap', rfl, y4⟩ := hy
  by_cases hl : xs.length = ys.length
  · by_cases h0 : 0 < xs.length
    · obtain ⟨b, off, rfl, hbw, hcx⟩ := x4 h0
      obtain ⟨b', off', rfl, hbw', hcy⟩ := y4 (by omega)
      have HCX := Lib.hid hcx
      have HCY := Lib.hid hcy
      have HL := Lib.hid hl
      have hl' : ((xs.length : Int) != (ys.length : Int)) = false := by rw [hl]; exact bne_self_eq_false _
      have hle : xs.length ≤ ys.length := by omega
      have hge : ys.length ≤ xs.length := by omega
      clear x4 y4 hcx hcy hl
      go_enter Try.func38, Try.ntmps38
      go_wp2
      go_loopw [5] (fun i wr => ∃ k : Nat, k ≤ xs.length ∧ i = .int .i64 k ∧ Below w.heap.size w wr ∧ ∀ j, j < k → intAt xs j = intAt ys j) (fun i _ => xs.length - (intOf i).toNat)
      case atStart => exact ⟨0, Nat.zero_le _, rfl, Below.refl _ _, fun j hj => by omega⟩
      case round =>
        obtain ⟨k, hk, rfl, hnx, hz⟩ := hrel
        have HX := Lib.hid hnx
        have HZ := Lib.hid hz
        have hsz := hnx.size
        by_cases hlt : k < xs.length
        · have cx := (hnx.cell (p := ⟨b, off + k, none⟩) hbw).trans (HCX.out k hlt)
          have cy := (hnx.cell (p := ⟨b', off' + k, none⟩) hbw').trans (HCY.out k (by omega))
          have hbr : b < wr.heap.size := by omega
          have hbr' : b' < wr.heap.size := by omega
          clear hnx hz
          by_cases he : intAt xs k = intAt ys k
          · have he' : (intAt xs k != intAt ys k) = false := by simpa using he
            have HE := Lib.hid he
            clear he
            generalize intAt xs k = p at cx he'
            generalize intAt ys k = q at cy he'
            go_wp2
            refine wp_region_calm (by kernel_rfl) (by kernel_rfl) ?_
            repeat (go_big_quiet_step (fail))
            refine wpQuiet_nil ?_
            rintro _ ⟨p3, rfl⟩
            go_wp2
            go_roundw
            case rel => exact ⟨k + 1, by omega, by go_num, HX.out.trans (below_mono_of hsz (by (repeat' (first | with_reducible exact Below.refl _ _ | (with_reducible refine below_later_of ?_ ?_ _) | (with_reducible refine Below.alloc ?_ ?_ _) | (with_reducible refine Below.setCell ?_ ?_ _) | (with_reducible refine Below.drew ?_) | (simp; done) | (simp; omega) | omega)))), fun j hj => if e : j = k then (by rw [e]; exact HE.out) else HZ.out j (by omega)⟩
            case measure => simp [intOf]; omega
          · have he' : (intAt xs k != intAt ys k) = true := by simpa using he
            have HF := Lib.hid (show decide (xs = ys) = false by rw [decide_eq_false_iff_not]; rintro rfl; exact he rfl)
            clear he
            generalize intAt xs k = p at cx he'
            generalize intAt ys k = q at cy he'
            go_wp2
            refine wp_region_calm (by kernel_rfl) (by kernel_rfl) ?_
            repeat (go_big_quiet_step (fail))
            refine wpQuiet_nil ?_
            rintro _ ⟨p3, rfl⟩
            go_wp2
            go_ret
            exact ⟨ret_bool HF.out.symm, HX.out.trans (below_mono_of hsz (by (repeat' (first | with_reducible exact Below.refl _ _ | (with_reducible refine below_later_of ?_ ?_ _) | (with_reducible refine Below.alloc ?_ ?_ _) | (with_reducible refine Below.setCell ?_ ?_ _) | (with_reducible refine Below.drew ?_) | (simp; done) | (simp; omega) | omega))))⟩
        · have HF := Lib.hid (show decide (xs = ys) = true by rw [decide_eq_true_iff]; exact intAt_ext HL.out (fun j hj => HZ.out j (by omega)))
          clear hnx hz
          go_wp2
          go_ret
          exact ⟨ret_bool HF.out.symm, HX.out⟩
    · have e1 : xs = [] := List.length_eq_zero_iff.1 (by omega)
      have e2 : ys = [] := List.length_eq_zero_iff.1 (by omega)
      subst e1 e2
      clear x4 y4 hl h0 x1 y1
      go_enter Try.func38, Try.ntmps38
      go_wp2
      refine wp_loop_rounds 1 ?_
      rw [rounds_succ]
      go_wp2
      go_ret
      exact ⟨rfl, Below.refl _ _⟩
  · have hl' : ((xs.length : Int) != (ys.length : Int)) = true := by rw [bne_iff_ne]; intro h; exact hl (Int.ofNat_inj.1 h)
    have HF := Lib.hid (show decide (xs = ys) = false by rw [decide_eq_false_iff_not]; rintro rfl; exact hl rfl)
    clear x4 y4 hl
    go_enter Try.func38, Try.ntmps38
    go_wp2
    go_ret
    exact ⟨ret_bool HF.out.symm, Below.refl _ _⟩
def flight : Trk := ⟨0, 0, 400, 10, 5, 300, 50, 20, true⟩
def hill : Rel := ⟨250, 0, 100, 1, 4, [0, 1120403456, 0, 0]⟩
def yard : List Plc := [⟨0, 0, 0⟩, ⟨10, 0, 0⟩, ⟨10, 10, 0⟩, ⟨0, 10, 0⟩]
set_option maxHeartbeats 400000 in
theorem flight_any (w : World) : Calls Try.prog 76 #[] w fun e w' => e = .returned (.agg #[.int .i64 0, .int .i64 0, .int .i64 400, .int .i64 10, .int .i64 5, .int .i64 300, .int .i64 50, .int .i64 20, .bool true]) ∧ Below w.heap.size w w' := by
  go_enter Try.func76, Try.ntmps76
  go_wp2
  refine bodyPost_ret ?_ rfl ⟨rfl, (by (repeat' (first | with_reducible exact Below.refl _ _ | (with_reducible refine below_later_of ?_ ?_ _) | (with_reducible refine Below.alloc ?_ ?_ _) | (with_reducible refine Below.setCell ?_ ?_ _) | (with_reducible refine Below.drew ?_) | (simp; done) | (simp; omega) | omega)))⟩
  first | (simp [results, Try.results76, go_sem]; done) | simp [results, Try.results76, go_sem, ↓IntWalk.iteOmega]
set_option maxHeartbeats 400000 in
theorem hill_any (w : World) : Calls Try.prog 77 #[] w fun e w' => ∃ B, e = .returned (.agg #[.int .i64 250, .int .i64 0, .int .i64 100, .int .i64 1, .int .i64 4, .slice (some ⟨B, 0, none⟩) 4 4]) ∧ B < w'.heap.size ∧ FloatsAt w' B 0 hill.ds ∧ Below w.heap.size w w' := by
  go_enter Try.func77, Try.ntmps77
  go_wp2
  refine bodyPost_ret (v := .agg #[.int .i64 250, .int .i64 0, .int .i64 100, .int .i64 1, .int .i64 4, .slice (some ⟨w.heap.size + 1, 0, none⟩) 4 4]) (by (first | (simp [results, Try.results77, go_sem]; done) | simp [results, Try.results77, go_sem, ↓IntWalk.iteOmega])) rfl ⟨_, rfl, by simp, ?_, (by (repeat' (first | with_reducible exact Below.refl _ _ | (with_reducible refine below_later_of ?_ ?_ _) | (with_reducible refine Below.alloc ?_ ?_ _) | (with_reducible refine Below.setCell ?_ ?_ _) | (with_reducible refine Below.drew ?_) | (simp; done) | (simp; omega) | omega)))⟩
  intro k hk
  match k, hk with
  | 0, _ => (first | (simp [go_sem, hill, bitAt]; done) | simp [go_sem, hill, bitAt, ↓IntWalk.iteOmega])
  | 1, _ => (first | (simp [go_sem, hill, bitAt]; done) | simp [go_sem, hill, bitAt, ↓IntWalk.iteOmega])
  | 2, _ => (first | (simp [go_sem, hill, bitAt]; done) | simp [go_sem, hill, bitAt, ↓IntWalk.iteOmega])
  | 3, _ => (first | (simp [go_sem, hill, bitAt]; done) | simp [go_sem, hill, bitAt, ↓IntWalk.iteOmega])
set_option maxHeartbeats 400000 in
theorem yard_any (w : World) : Calls Try.prog 78 #[] w fun e w' => ∃ v, e = .returned v ∧ PlacesV w' v yard ∧ Below w.heap.size w w' := by
  go_enter Try.func78, Try.ntmps78
  go_wp2
  go_ret
  refine ⟨_, rfl, ⟨fun k hk => ?_, by decide, _, _, rfl, fun _ => ⟨w.heap.size, rfl, by simp, fun k hk => ?_⟩⟩, (by (repeat' (first | with_reducible exact Below.refl _ _ | (with_reducible refine below_later_of ?_ ?_ _) | (with_reducible refine Below.alloc ?_ ?_ _) | (with_reducible refine Below.setCell ?_ ?_ _) | (with_reducible refine Below.drew ?_) | (simp; done) | (simp; omega) | omega)))⟩
  · match k, hk with
    | 0, _ => exact ⟨by decide, by decide⟩
    | 1, _ => exact ⟨by decide, by decide⟩
    | 2, _ => exact ⟨by decide, by decide⟩
    | 3, _ => exact ⟨by decide, by decide⟩
  · match k, hk with
    | 0, _ => refine ⟨?_, ?_, ?_⟩ <;> (first | (simp [go_sem, yard, plcAt]; done) | simp [go_sem, yard, plcAt, ↓IntWalk.iteOmega])
    | 1, _ => refine ⟨?_, ?_, ?_⟩ <;> (first | (simp [go_sem, yard, plcAt]; done) | simp [go_sem, yard, plcAt, ↓IntWalk.iteOmega])
    | 2, _ => refine ⟨?_, ?_, ?_⟩ <;> (first | (simp [go_sem, yard, plcAt]; done) | simp [go_sem, yard, plcAt, ↓IntWalk.iteOmega])
    | 3, _ => refine ⟨?_, ?_, ?_⟩ <;> (first | (simp [go_sem, yard, plcAt]; done) | simp [go_sem, yard, plcAt, ↓IntWalk.iteOmega])
end Go.Proofs.Ytokpdmlmlkkekaa

/- awake. -/
namespace Go.Proofs.Ytokpdmlmlkkekaa
set_option linter.unusedVariables false
open Go.RowKit
theorem hill_at {w : World} {B : Nat} (h1 : B < w.heap.size) (h2 : FloatsAt w B 0 hill.ds) : RelAt feB intB w hill (some ⟨B, 0, none⟩) :=
  relAt_any (by decide) (fun _ => ⟨B, 0, rfl, h1, h2⟩)
theorem hill_rel : relErrP feB hill = 0 := by kernel_rfl
theorem flight_ok : checkTrackP flight = 0 := by kernel_rfl
theorem hill_off : ¬ BadOff flight hill := by
  rintro ⟨k, hk, h⟩
  match k, hk with
  | 0, _ => revert h; decide
  | 1, _ => revert h; decide
  | 2, _ => revert h; decide
  | 3, _ => revert h; decide
theorem hill_view : viewErrP feB intB flight hill = 0 := by
  unfold viewErrP
  rw [flight_ok, hill_rel, if_pos (show first2 0 0 = 0 from rfl), if_neg hill_off]
  kernel_rfl
theorem hill_mask : maskErrP feB intB flight hill 0 = 0 := by
  unfold maskErrP
  rw [hill_view, if_pos rfl]
  kernel_rfl
theorem hill_kinds : kindsP flight hill intB 0 = [1, 1, 2, 0] := by kernel_rfl
theorem pixel_ex : pixelOfP flight 300 12 0 = (1, 4, 0) := by kernel_rfl
theorem box_ex : boxOfP flight ⟨1, 4, 0, 10⟩ = ⟨300, 387, 10, 19, 0⟩ := by kernel_rfl
theorem yard_clash : ¬ Clash yard := by
  rintro ⟨i, k, hi, hk, h⟩
  match i, hi, k, hk with
  | 1, _, 0, _ => revert h; decide
  | 2, _, 0, _ => revert h; decide
  | 2, _, 1, _ => revert h; decide
  | 3, _, 0, _ => revert h; decide
  | 3, _, 1, _ => revert h; decide
  | 3, _, 2, _ => revert h; decide
theorem yard_check : checkPolygonP yard = 0 := by
  unfold checkPolygonP
  rw [if_neg (by decide), if_neg (by decide), if_pos (by kernel_rfl), if_neg yard_clash]
theorem yard_area : areaOfP yard = (200, 0) := by
  unfold areaOfP
  rw [yard_check, if_pos rfl]
  kernel_rfl
theorem pixel_a (w : World) : Calls Try.prog 25 #[.agg #[.int .i64 0, .int .i64 0, .int .i64 400, .int .i64 10, .int .i64 5, .int .i64 300, .int .i64 50, .int .i64 20, .bool true], .agg #[.int .i64 300, .int .i64 12, .int .i64 0]] w fun e w' => e = .returned (.tuple #[.agg #[.int .i64 1, .int .i64 4], .int .i64 0]) ∧ Below w.heap.size w w' := by
  have := pixelOf_any flight 300 12 0 w
  rwa [pixel_ex] at this
theorem box_a (w : World) : Calls Try.prog 19 #[.agg #[.int .i64 0, .int .i64 0, .int .i64 400, .int .i64 10, .int .i64 5, .int .i64 300, .int .i64 50, .int .i64 20, .bool true], .agg #[.int .i64 1, .int .i64 4, .int .i64 0, .int .i64 10]] w fun e w' => e = .returned (.tuple #[.agg #[.int .i64 300, .int .i64 387, .int .i64 10, .int .i64 19], .int .i64 0]) ∧ Below w.heap.size w w' := by
  have := boxOf_any flight ⟨1, 4, 0, 10⟩ w
  rwa [box_ex] at this
theorem mask_a (B : Nat) (w : World) (h1 : B < w.heap.size) (h2 : FloatsAt w B 0 hill.ds) : Calls Try.prog 32 #[.agg #[.int .i64 0, .int .i64 0, .int .i64 400, .int .i64 10, .int .i64 5, .int .i64 300, .int .i64 50, .int .i64 20, .bool true], .agg #[.int .i64 250, .int .i64 0, .int .i64 100, .int .i64 1, .int .i64 4, .slice (some ⟨B, 0, none⟩) 4 4], .int .i64 0] w fun e w' =>
    ∃ v, e = .returned (.tuple #[v, .int .i64 0]) ∧ IntsV w' v [1, 1, 2, 0] ∧ Below w.heap.size w w' := by
  refine (maskRow_ok feB intB flight hill (some ⟨B, 0, none⟩) 4 0 w (hill_at h1 h2) hill_mask).mono ?_
  rintro e w' ⟨g, rfl, ho, hb⟩
  rw [hill_kinds] at ho
  exact ⟨_, rfl, intsV_own ho (by decide), hb⟩
theorem area_a (v : Value) (w : World) (h : PlacesV w v yard) : Calls Try.prog 51 #[v] w fun e w' => e = .returned (.tuple #[.int .i64 200, .int .i64 0]) ∧ Below w.heap.size w w' := by
  have := areaOf_any yard v w h
  rwa [yard_area] at this
theorem ints4_new (W : World) (B : Nat) (hB : B = W.heap.size) : IntsV (W.alloc (.cells #[.int .i64 1, .int .i64 1, .int .i64 2, .int .i64 0] 3)) (.slice (some ⟨B, 0, none⟩) 4 4) [1, 1, 2, 0] := by
  subst hB
  refine ⟨by decide, _, _, rfl, fun _ => ⟨_, 0, rfl, by simp, fun k hk => ?_⟩⟩
  rw [World.cell?_alloc_new]
  match k, hk with
  | 0, _ => rfl
  | 1, _ => rfl
  | 2, _ => rfl
  | 3, _ => rfl
set_option maxRecDepth 20000 in
set_option maxHeartbeats 1000000 in
theorem awake_any (w : World) : Calls Try.prog 18 #[] w fun e w' => e = .returned (.bool true) ∧ Below w.heap.size w w' := by
  go_enter Try.func18, Try.ntmps18
  go_wp2_with (first | (go_at_call 76; refine (flight_any _).mono ?_; rintro e w' ⟨rfl, hb⟩; obtain ⟨pp, rfl⟩ := later_of_below hb; clear hb) | (go_at_call 25; refine (pixel_a _).mono ?_; rintro e w' ⟨rfl, hb⟩; obtain ⟨pp, rfl⟩ := later_of_below hb; clear hb) | (go_at_call 19; refine (box_a _).mono ?_; rintro e w' ⟨rfl, hb⟩; obtain ⟨pp, rfl⟩ := later_of_below hb; clear hb) | (go_at_call 77; refine (hill_any _).mono ?_; rintro e w1 ⟨B, rfl, hB1, hB2, hb1⟩) | (go_at_call 32; refine (mask_a B _ hB1 hB2).mono ?_; rintro e w2 ⟨v, rfl, hv, hb2⟩; obtain ⟨q1, rfl⟩ := later_of_below (hb1.trans (hb2.mono hb1.size)); clear hb1 hb2 hB1 hB2) | (go_at_call 78; refine (yard_any _).mono ?_; rintro e w3 ⟨u, rfl, hu, hb3⟩) | (go_at_call 51; refine (area_a _ _ hu).mono ?_; rintro e w4 ⟨rfl, hb4⟩; obtain ⟨q2, rfl⟩ := later_of_below (hb3.trans (hb4.mono hb3.size)); clear hb3 hb4 hu; have HV := Lib.hid (hv.below (below_later _ q2)); clear hv) | (go_at_call 38; refine (bInts [1, 1, 2, 0] [1, 1, 2, 0] _ _ _ (HV.out.below (by (repeat' (first | with_reducible exact Below.refl _ _ | (with_reducible refine below_later_of ?_ ?_ _) | (with_reducible refine Below.alloc ?_ ?_ _) | (with_reducible refine Below.setCell ?_ ?_ _) | (with_reducible refine Below.drew ?_) | (simp; done) | (simp; omega) | omega)))) (ints4_new _ _ (by simp)) (c := true) rfl).mono ?_; rintro e w' ⟨rfl, hb⟩; obtain ⟨pp, rfl⟩ := later_of_below hb; clear hb))
  go_ret
  exact ⟨rfl, (by (repeat' (first | with_reducible exact Below.refl _ _ | (with_reducible refine below_later_of ?_ ?_ _) | (with_reducible refine Below.alloc ?_ ?_ _) | (with_reducible refine Below.setCell ?_ ?_ _) | (with_reducible refine Below.drew ?_) | (simp; done) | (simp; omega) | omega)))⟩
end Go.Proofs.Ytokpdmlmlkkekaa
