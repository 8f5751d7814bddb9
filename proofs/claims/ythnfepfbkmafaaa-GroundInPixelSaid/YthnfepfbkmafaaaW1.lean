/- base.Ints, and the examples' data. -/
import Derived.Test.YthnfepfbkmafaaaK10
import Derived.Test.YthnfepfbkmafaaaH1
import Derived.Test.YthnfepfbkmafaaaG6
import Derived.Test.YthnfepfbkmafaaaR5
namespace Go.Proofs.Ythnfepfbkmafaaa
set_option linter.unusedVariables false
open Go.RowKit
def intAt (zs : List Int) (k : Nat) : Int := zs[k]?.getD 0
/-- The value is a slice of these integers. -/
def IntsV (w : World) (v : Value) (zs : List Int) : Prop :=
  zs.length ≤ 1000000000 ∧ ∃ a cap, v = .slice a zs.length cap ∧ (0 < zs.length → ∃ b off, a = some ⟨b, off, none⟩ ∧ b < w.heap.size ∧ ∀ k, k < zs.length → w.cell? ⟨b, off + k, none⟩ = some (.int .i64 (intAt zs k)))
theorem IntsV.below {w w' : World} {v : Value} {zs : List Int} (h : IntsV w v zs) (hw : Below w.heap.size w w') : IntsV w' v zs := by
  obtain ⟨h1, a, cap, h3, h4⟩ := h
  refine ⟨h1, a, cap, h3, fun hp => ?_⟩
  obtain ⟨b, off, h5, h6, h7⟩ := h4 hp
  exact ⟨b, off, h5, Nat.lt_of_lt_of_le h6 hw.size, fun k hk => (hw.cell (p := ⟨b, off + k, none⟩) h6).trans (h7 k hk)⟩
theorem intsV_own {w : World} {base n cap g : Nat} {zs : List Int} (h : w.ownsRow base 3 1 (.slice (some ⟨g, 0, none⟩) n cap) n (zs.map (.int .i64))) (hm : n ≤ 1000000000) : IntsV w (.slice (some ⟨g, 0, none⟩) n cap) zs := by
  have hl : zs.length = n := by have := h.1; simpa using this
  subst hl
  refine ⟨hm, _, _, rfl, fun hp => ⟨g, 0, rfl, (h.lt g rfl).2, fun k hk => ?_⟩⟩
  rw [Nat.zero_add, h.cellAt k (by omega)]
  unfold intAt
  simp [hk]
theorem intAt_ext {xs ys : List Int} (hl : xs.length = ys.length) (h : ∀ k, k < xs.length → intAt xs k = intAt ys k) : xs = ys := by
  apply List.ext_getElem hl
  intro k h1 h2
  have := h k h1
  unfold intAt at this
  simpa [h1, h2] using this
set_option maxHeartbeats 1000000 in
theorem bInts (xs ys : List Int) (v u : Value) (w : World) (hx : IntsV w v xs) (hy : IntsV w u ys) {c : Bool} (hc : decide (xs = ys) = c) :
    Calls Try.prog 36 #[v, u] w fun e w' => e = .returned (.bool c) ∧ Below w.heap.size w w' := by
  subst hc
  obtain ⟨x1, a, cap, rfl, x4⟩ := hx
  obtain ⟨y1, a', cap', rfl, y4⟩ := hy
  by_cases hl : xs.length = ys.length
  · by_cases h0 : 0 < xs.length
    · obtain ⟨b, off, rfl, hbw, hcx⟩ := x4 h0
      obtain ⟨b', off', rfl, hbw', hcy⟩ := y4 (by omega)
      have HCX := Lib.hid hcx
      have HCY := Lib.hid hcy
      have HL := Lib.hid hl
      have hl' : ((xs.length : Int) != (ys.length : Int)) = false := by rw [hl]; exact bne_self_eq_false _
      have hle : xs.length ≤ ys.length := by omega
      have hge : ys.length ≤ xs.length := by omega
      clear x4 y4 hcx hcy hl
      go_enter Try.func36, Try.ntmps36
      go_wp2
      go_loopw [5] (fun i wr => ∃ k : Nat, k ≤ xs.length ∧ i = .int .i64 k ∧ Below w.heap.size w wr ∧ ∀ j, j < k → intAt xs j = intAt ys j) (fun i _ => xs.length - (intOf i).toNat)
      case atStart => exact ⟨0, Nat.zero_le _, rfl, Below.refl _ _, fun j hj => by omega⟩
      case round =>
        obtain ⟨k, hk, rfl, hnx, hz⟩ := hrel
        have HX := Lib.hid hnx
        have HZ := Lib.hid hz
        have hsz := hnx.size
        by_cases hlt : k < xs.length
        · have cx := (hnx.cell (p := ⟨b, off + k, none⟩) hbw).trans (HCX.out k hlt)
          have cy := (hnx.cell (p := ⟨b', off' + k, none⟩) hbw').trans (HCY.out k (by omega))
          have hbr : b < wr.heap.size := by omega
          have hbr' : b' < wr.heap.size := by omega
          clear hnx hz
          by_cases he : intAt xs k = intAt ys k
          · have he' : (intAt xs k != intAt ys k) = false := by simpa using he
            have HE := Lib.hid he
            clear he
            generalize intAt xs k = p at cx he'
            generalize intAt ys k = q at cy he'
            go_wp2
            refine wp_region_calm (by kernel_rfl) (by kernel_rfl) ?_
            repeat (go_big_quiet_step (fail))
            refine wpQuiet_nil ?_
            rintro _ ⟨p3, rfl⟩
            go_wp2
            go_roundw
            case rel => exact ⟨k + 1, by omega, by go_num, HX.out.trans (below_mono_of hsz (by (repeat' (first | with_reducible exact Below.refl _ _ | (with_reducible refine below_later_of ?_ ?_ _) | (with_reducible refine Below.alloc ?_ ?_ _) | (with_reducible refine Below.setCell ?_ ?_ _) | (with_reducible refine Below.drew ?_) | (simp; done) | (simp; omega) | omega)))), fun j hj => if e : j = k then (by rw [e]; exact HE.out) else HZ.out j (by omega)⟩
            case measure => simp [intOf]; omega
          · have he' : (intAt xs k != intAt ys k) = true := by simpa using he
            have HF := Lib.hid (show decide (xs = ys) = false by rw [decide_eq_false_iff_not]; rintro rfl; exact he rfl)
            clear he
            generalize intAt xs k = p at cx he'
            generalize intAt ys k = q at cy he'
            go_wp2
            refine wp_region_calm (by kernel_rfl) (by kernel_rfl) ?_
            repeat (go_big_quiet_step (fail))
            refine wpQuiet_nil ?_
            rintro _ ⟨p3, rfl⟩
            go_wp2
            go_ret
            exact ⟨ret_bool HF.out.symm, HX.out.trans (below_mono_of hsz (by (repeat' (first | with_reducible exact Below.refl _ _ | (with_reducible refine below_later_of ?_ ?_ _) | (with_reducible refine Below.alloc ?_ ?_ _) | (with_reducible refine Below.setCell ?_ ?_ _) | (with_reducible refine Below.drew ?_) | (simp; done) | (simp; omega) | omega))))⟩
        · have HF := Lib.hid (show decide (xs = ys) = true by rw [decide_eq_true_iff]; exact intAt_ext HL.out (fun j hj => HZ.out j (by omega)))
          clear hnx hz
          go_wp2
          go_ret
          exact ⟨ret_bool HF.out.symm, HX.out⟩
    · have e1 : xs = [] := List.length_eq_zero_iff.1 (by omega)
      have e2 : ys = [] := List.length_eq_zero_iff.1 (by omega)
      subst e1 e2
      clear x4 y4 hl h0 x1 y1
      go_enter Try.func36, Try.ntmps36
      go_wp2
      refine wp_loop_rounds 1 ?_
      rw [rounds_succ]
      go_wp2
      go_ret
      exact ⟨rfl, Below.refl _ _⟩
  · have hl' : ((xs.length : Int) != (ys.length : Int)) = true := by rw [bne_iff_ne]; intro h; exact hl (Int.ofNat_inj.1 h)
    have HF := Lib.hid (show decide (xs = ys) = false by rw [decide_eq_false_iff_not]; rintro rfl; exact hl rfl)
    clear x4 y4 hl
    go_enter Try.func36, Try.ntmps36
    go_wp2
    go_ret
    exact ⟨ret_bool HF.out.symm, Below.refl _ _⟩
def flight : Trk := ⟨0, 0, 400, 10, 5, 300, 50, 20, true⟩
def hill : Rel := ⟨250, 0, 100, 1, 4, [0, 1120403456, 0, 0]⟩
def yard : List Plc := [⟨0, 0, 0⟩, ⟨10, 0, 0⟩, ⟨10, 10, 0⟩, ⟨0, 10, 0⟩]
set_option maxHeartbeats 400000 in
theorem flight_any (w : World) : Calls Try.prog 70 #[] w fun e w' => e = .returned (.agg #[.int .i64 0, .int .i64 0, .int .i64 400, .int .i64 10, .int .i64 5, .int .i64 300, .int .i64 50, .int .i64 20, .bool true]) ∧ Below w.heap.size w w' := by
  go_enter Try.func70, Try.ntmps70
  go_wp2
  refine bodyPost_ret ?_ rfl ⟨rfl, (by (repeat' (first | with_reducible exact Below.refl _ _ | (with_reducible refine below_later_of ?_ ?_ _) | (with_reducible refine Below.alloc ?_ ?_ _) | (with_reducible refine Below.setCell ?_ ?_ _) | (with_reducible refine Below.drew ?_) | (simp; done) | (simp; omega) | omega)))⟩
  first | (simp [results, Try.results70, go_sem]; done) | simp [results, Try.results70, go_sem, ↓IntWalk.iteOmega]
set_option maxHeartbeats 400000 in
theorem hill_any (w : World) : Calls Try.prog 71 #[] w fun e w' => ∃ B, e = .returned (.agg #[.int .i64 250, .int .i64 0, .int .i64 100, .int .i64 1, .int .i64 4, .slice (some ⟨B, 0, none⟩) 4 4]) ∧ B < w'.heap.size ∧ FloatsAt w' B 0 hill.ds ∧ Below w.heap.size w w' := by
  go_enter Try.func71, Try.ntmps71
  go_wp2
  refine bodyPost_ret (v := .agg #[.int .i64 250, .int .i64 0, .int .i64 100, .int .i64 1, .int .i64 4, .slice (some ⟨w.heap.size + 1, 0, none⟩) 4 4]) (by (first | (simp [results, Try.results71, go_sem]; done) | simp [results, Try.results71, go_sem, ↓IntWalk.iteOmega])) rfl ⟨_, rfl, by simp, ?_, (by (repeat' (first | with_reducible exact Below.refl _ _ | (with_reducible refine below_later_of ?_ ?_ _) | (with_reducible refine Below.alloc ?_ ?_ _) | (with_reducible refine Below.setCell ?_ ?_ _) | (with_reducible refine Below.drew ?_) | (simp; done) | (simp; omega) | omega)))⟩
  intro k hk
  match k, hk with
  | 0, _ => (first | (simp [go_sem, hill, bitAt]; done) | simp [go_sem, hill, bitAt, ↓IntWalk.iteOmega])
  | 1, _ => (first | (simp [go_sem, hill, bitAt]; done) | simp [go_sem, hill, bitAt, ↓IntWalk.iteOmega])
  | 2, _ => (first | (simp [go_sem, hill, bitAt]; done) | simp [go_sem, hill, bitAt, ↓IntWalk.iteOmega])
  | 3, _ => (first | (simp [go_sem, hill, bitAt]; done) | simp [go_sem, hill, bitAt, ↓IntWalk.iteOmega])
set_option maxHeartbeats 400000 in
theorem yard_any (w : World) : Calls Try.prog 72 #[] w fun e w' => ∃ v, e = .returned v ∧ PlacesV w' v yard ∧ Below w.heap.size w w' := by
  go_enter Try.func72, Try.ntmps72
  go_wp2
  go_ret
  refine ⟨_, rfl, ⟨fun k hk => ?_, by decide, _, _, rfl, fun _ => ⟨w.heap.size, rfl, by simp, fun k hk => ?_⟩⟩, (by (repeat' (first | with_reducible exact Below.refl _ _ | (with_reducible refine below_later_of ?_ ?_ _) | (with_reducible refine Below.alloc ?_ ?_ _) | (with_reducible refine Below.setCell ?_ ?_ _) | (with_reducible refine Below.drew ?_) | (simp; done) | (simp; omega) | omega)))⟩
  · match k, hk with
    | 0, _ => exact ⟨by decide, by decide⟩
    | 1, _ => exact ⟨by decide, by decide⟩
    | 2, _ => exact ⟨by decide, by decide⟩
    | 3, _ => exact ⟨by decide, by decide⟩
  · match k, hk with
    | 0, _ => refine ⟨?_, ?_, ?_⟩ <;> (first | (simp [go_sem, yard, plcAt]; done) | simp [go_sem, yard, plcAt, ↓IntWalk.iteOmega])
    | 1, _ => refine ⟨?_, ?_, ?_⟩ <;> (first | (simp [go_sem, yard, plcAt]; done) | simp [go_sem, yard, plcAt, ↓IntWalk.iteOmega])
    | 2, _ => refine ⟨?_, ?_, ?_⟩ <;> (first | (simp [go_sem, yard, plcAt]; done) | simp [go_sem, yard, plcAt, ↓IntWalk.iteOmega])
    | 3, _ => refine ⟨?_, ?_, ?_⟩ <;> (first | (simp [go_sem, yard, plcAt]; done) | simp [go_sem, yard, plcAt, ↓IntWalk.iteOmega])
end Go.Proofs.Ythnfepfbkmafaaa
