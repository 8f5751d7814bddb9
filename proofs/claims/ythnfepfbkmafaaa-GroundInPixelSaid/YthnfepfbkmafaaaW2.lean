/- awake. -/
import Derived.Test.YthnfepfbkmafaaaW1
import Derived.Test.YthnfepfbkmafaaaL4
namespace Go.Proofs.Ythnfepfbkmafaaa
set_option linter.unusedVariables false
open Go.RowKit
def fe0 (_ : Nat) : Int := 0
def fi0 (b : Nat) : Int := if b = 1120403456 then 100 else 0
theorem hill_at {w : World} {B : Nat} (h1 : B < w.heap.size) (h2 : FloatsAt w B 0 hill.ds) : RelAt fe0 fi0 w hill (some ⟨B, 0, none⟩) := by
  refine ⟨by decide, fun k hk => ?_, fun _ k hk => ?_, fun _ => ⟨B, 0, rfl, h1, h2⟩⟩
  · match k, hk with
    | 0, _ => exact flErr_0
    | 1, _ => exact flErr_100
    | 2, _ => exact flErr_0
    | 3, _ => exact flErr_0
  · match k, hk with
    | 0, _ => exact ⟨flInt_0, by decide, by decide⟩
    | 1, _ => exact ⟨flInt_100, by decide, by decide⟩
    | 2, _ => exact ⟨flInt_0, by decide, by decide⟩
    | 3, _ => exact ⟨flInt_0, by decide, by decide⟩
theorem hill_rel : relErrP fe0 hill = 0 := by kernel_rfl
theorem flight_ok : checkTrackP flight = 0 := by kernel_rfl
theorem hill_off : ¬ BadOff flight hill := by
  rintro ⟨k, hk, h⟩
  match k, hk with
  | 0, _ => revert h; decide
  | 1, _ => revert h; decide
  | 2, _ => revert h; decide
  | 3, _ => revert h; decide
theorem hill_view : viewErrP fe0 fi0 flight hill = 0 := by
  unfold viewErrP
  rw [flight_ok, hill_rel, if_pos (show first2 0 0 = 0 from rfl), if_neg hill_off]
  kernel_rfl
theorem hill_mask : maskErrP fe0 fi0 flight hill 0 = 0 := by
  unfold maskErrP
  rw [hill_view, if_pos rfl]
  kernel_rfl
theorem hill_kinds : kindsP flight hill fi0 0 = [1, 1, 2, 0] := by kernel_rfl
theorem pixel_ex : pixelOfP flight 300 12 0 = (1, 4, 0) := by kernel_rfl
theorem box_ex : boxOfP flight ⟨1, 4, 0, 10⟩ = ⟨300, 387, 10, 19, 0⟩ := by kernel_rfl
theorem yard_clash : ¬ Clash yard := by
  rintro ⟨i, k, hi, hk, h⟩
  match i, hi, k, hk with
  | 1, _, 0, _ => revert h; decide
  | 2, _, 0, _ => revert h; decide
  | 2, _, 1, _ => revert h; decide
  | 3, _, 0, _ => revert h; decide
  | 3, _, 1, _ => revert h; decide
  | 3, _, 2, _ => revert h; decide
theorem yard_check : checkPolygonP yard = 0 := by
  unfold checkPolygonP
  rw [if_neg (by decide), if_neg (by decide), if_pos (by kernel_rfl), if_neg yard_clash]
theorem yard_area : areaOfP yard = (200, 0) := by
  unfold areaOfP
  rw [yard_check, if_pos rfl]
  kernel_rfl
theorem pixel_a (w : World) : Calls Try.prog 23 #[.agg #[.int .i64 0, .int .i64 0, .int .i64 400, .int .i64 10, .int .i64 5, .int .i64 300, .int .i64 50, .int .i64 20, .bool true], .agg #[.int .i64 300, .int .i64 12, .int .i64 0]] w fun e w' => e = .returned (.tuple #[.agg #[.int .i64 1, .int .i64 4], .int .i64 0]) ∧ Below w.heap.size w w' := by
  have := pixelOf_any flight 300 12 0 w
  rwa [pixel_ex] at this
theorem box_a (w : World) : Calls Try.prog 17 #[.agg #[.int .i64 0, .int .i64 0, .int .i64 400, .int .i64 10, .int .i64 5, .int .i64 300, .int .i64 50, .int .i64 20, .bool true], .agg #[.int .i64 1, .int .i64 4, .int .i64 0, .int .i64 10]] w fun e w' => e = .returned (.tuple #[.agg #[.int .i64 300, .int .i64 387, .int .i64 10, .int .i64 19], .int .i64 0]) ∧ Below w.heap.size w w' := by
  have := boxOf_any flight ⟨1, 4, 0, 10⟩ w
  rwa [box_ex] at this
theorem mask_a (B : Nat) (w : World) (h1 : B < w.heap.size) (h2 : FloatsAt w B 0 hill.ds) : Calls Try.prog 30 #[.agg #[.int .i64 0, .int .i64 0, .int .i64 400, .int .i64 10, .int .i64 5, .int .i64 300, .int .i64 50, .int .i64 20, .bool true], .agg #[.int .i64 250, .int .i64 0, .int .i64 100, .int .i64 1, .int .i64 4, .slice (some ⟨B, 0, none⟩) 4 4], .int .i64 0] w fun e w' =>
    ∃ v, e = .returned (.tuple #[v, .int .i64 0]) ∧ IntsV w' v [1, 1, 2, 0] ∧ Below w.heap.size w w' := by
  refine (maskRow_ok fe0 fi0 flight hill (some ⟨B, 0, none⟩) 4 0 w (hill_at h1 h2) hill_mask).mono ?_
  rintro e w' ⟨g, rfl, ho, hb⟩
  rw [hill_kinds] at ho
  exact ⟨_, rfl, intsV_own ho (by decide), hb⟩
theorem area_a (v : Value) (w : World) (h : PlacesV w v yard) : Calls Try.prog 49 #[v] w fun e w' => e = .returned (.tuple #[.int .i64 200, .int .i64 0]) ∧ Below w.heap.size w w' := by
  have := areaOf_any yard v w h
  rwa [yard_area] at this
theorem ints4_new (W : World) (B : Nat) (hB : B = W.heap.size) : IntsV (W.alloc (.cells #[.int .i64 1, .int .i64 1, .int .i64 2, .int .i64 0] 3)) (.slice (some ⟨B, 0, none⟩) 4 4) [1, 1, 2, 0] := by
  subst hB
  refine ⟨by decide, _, _, rfl, fun _ => ⟨_, 0, rfl, by simp, fun k hk => ?_⟩⟩
  rw [World.cell?_alloc_new]
  match k, hk with
  | 0, _ => rfl
  | 1, _ => rfl
  | 2, _ => rfl
  | 3, _ => rfl
set_option maxRecDepth 20000 in
set_option maxHeartbeats 1000000 in
theorem awake_any (w : World) : Calls Try.prog 16 #[] w fun e w' => e = .returned (.bool true) ∧ Below w.heap.size w w' := by
  go_enter Try.func16, Try.ntmps16
  go_wp2_with (first | (go_at_call 70; refine (flight_any _).mono ?_; rintro e w' ⟨rfl, hb⟩; obtain ⟨pp, rfl⟩ := later_of_below hb; clear hb) | (go_at_call 23; refine (pixel_a _).mono ?_; rintro e w' ⟨rfl, hb⟩; obtain ⟨pp, rfl⟩ := later_of_below hb; clear hb) | (go_at_call 17; refine (box_a _).mono ?_; rintro e w' ⟨rfl, hb⟩; obtain ⟨pp, rfl⟩ := later_of_below hb; clear hb) | (go_at_call 71; refine (hill_any _).mono ?_; rintro e w1 ⟨B, rfl, hB1, hB2, hb1⟩) | (go_at_call 30; refine (mask_a B _ hB1 hB2).mono ?_; rintro e w2 ⟨v, rfl, hv, hb2⟩; obtain ⟨q1, rfl⟩ := later_of_below (hb1.trans (hb2.mono hb1.size)); clear hb1 hb2 hB1 hB2) | (go_at_call 72; refine (yard_any _).mono ?_; rintro e w3 ⟨u, rfl, hu, hb3⟩) | (go_at_call 49; refine (area_a _ _ hu).mono ?_; rintro e w4 ⟨rfl, hb4⟩; obtain ⟨q2, rfl⟩ := later_of_below (hb3.trans (hb4.mono hb3.size)); clear hb3 hb4 hu; have HV := Lib.hid (hv.below (below_later _ q2)); clear hv) | (go_at_call 36; refine (bInts [1, 1, 2, 0] [1, 1, 2, 0] _ _ _ (HV.out.below (by (repeat' (first | with_reducible exact Below.refl _ _ | (with_reducible refine below_later_of ?_ ?_ _) | (with_reducible refine Below.alloc ?_ ?_ _) | (with_reducible refine Below.setCell ?_ ?_ _) | (with_reducible refine Below.drew ?_) | (simp; done) | (simp; omega) | omega)))) (ints4_new _ _ (by simp)) (c := true) rfl).mono ?_; rintro e w' ⟨rfl, hb⟩; obtain ⟨pp, rfl⟩ := later_of_below hb; clear hb))
  go_ret
  exact ⟨rfl, (by (repeat' (first | with_reducible exact Below.refl _ _ | (with_reducible refine below_later_of ?_ ?_ _) | (with_reducible refine Below.alloc ?_ ?_ _) | (with_reducible refine Below.setCell ?_ ?_ _) | (with_reducible refine Below.drew ?_) | (simp; done) | (simp; omega) | omega)))⟩
end Go.Proofs.Ythnfepfbkmafaaa
