/- Polygons: what inside means; the reference's Inside. -/
import Derived.Test.YtokpdmlmlkkekaaY5
namespace Go.Proofs.Ytokpdmlmlkkekaa
set_option linter.unusedVariables false
open Go.RowKit
theorem wp_world3 {P : Program} {c : Code} {Q : Exit → Act → World → Prop} {a : Act} {w : World} (F : World → Prop) (hf : F w) (h : ∀ W, F W → Code.wp P c Q a W) : Code.wp P c Q a w := h w hf
/-- A ray to the right from a place crosses a side. -/
def flipP (s : Sd) (x y : Int) : Bool := (decide (y < s.y1) != decide (y < s.y2)) && (decide (0 < crossP s x y) == decide (s.y1 < s.y2))
def parB (sd : Nat → Sd) (x y : Int) : Nat → Bool
  | 0 => false
  | k + 1 => if flipP (sd k) x y then !parB sd x y k else parB sd x y k
open Classical in
noncomputable def insB (sd : Nat → Sd) (n : Nat) (x y : Int) : Bool := if ∃ k, k < n ∧ hasP (sd k) x y = true then true else parB sd x y n
theorem insB_has {sd : Nat → Sd} {n k : Nat} {x y : Int} (hk : k < n) (h : hasP (sd k) x y = true) : insB sd n x y = true := by
  unfold insB; rw [if_pos ⟨k, hk, h⟩]
theorem insB_par {sd : Nat → Sd} {n : Nat} {x y : Int} (h : ∀ k, k < n → hasP (sd k) x y = false) : insB sd n x y = parB sd x y n := by
  unfold insB; rw [if_neg]
  rintro ⟨k, hk, h2⟩
  rw [h k hk] at h2
  cases h2
theorem flip_yes {sd : Nat → Sd} {k : Nat} {x y : Int} (h : flipP (sd k) x y = true) : parB sd x y (k + 1) = !parB sd x y k := by rw [parB, if_pos h]
theorem flip_no {sd : Nat → Sd} {k : Nat} {x y : Int} (h : flipP (sd k) x y = false) : parB sd x y (k + 1) = parB sd x y k := by rw [parB, if_neg (by rw [h]; simp)]
theorem next_lt {n k : Nat} (h : k < n) : nextN n k < n := by unfold nextN; split <;> omega
theorem next_rem {n k : Nat} (h : k < n) : ((k : Int) + 1) % (n : Int) = ((nextN n k : Nat) : Int) := by
  unfold nextN
  split
  · rw [Int.emod_eq_of_lt (by omega) (by omega)]; omega
  · rw [show ((k : Int) + 1) = (n : Int) by omega, Int.emod_self]; rfl
set_option maxRecDepth 20000 in
set_option maxHeartbeats 4000000 in
theorem rInside (ps : List Plc) (b off cap : Nat) (x y z : Int) (w : World) (hn : 1 ≤ ps.length) (hn2 : ps.length ≤ 1000) (hm : ∀ k, k < ps.length → Mid (plcAt ps k).x ∧ Mid (plcAt ps k).y) (hx : Mid x) (hy : Mid y) (hbw : b < w.heap.size) (hpl : PlacesO w b off ps) {c : Bool} (hc : insB (sideAt ps 1) ps.length x y = c) :
    Calls Try.prog 55 #[.slice (some ⟨b, off, none⟩) ps.length cap, .agg #[.int .i64 x, .int .i64 y, .int .i64 z]] w fun e w' => e = .returned (.bool c) ∧ Below w.heap.size w w' := by
  subst hc
  have HM := Lib.hid hm
  have HP := Lib.hid hpl
  have HX2 := Lib.hid hx
  have HY2 := Lib.hid hy
  clear hpl hm hx hy
  go_enter Try.func55, Try.ntmps55
  go_wp2
  refine wp_world3 (fun W => (W.cell? ⟨w.heap.size, 0, none⟩ = some (.int .i64 x) ∧ W.cell? ⟨w.heap.size, 1, none⟩ = some (.int .i64 y) ∧ W.cell? ⟨w.heap.size, 2, none⟩ = some (.int .i64 z)) ∧ Below w.heap.size w W ∧ w.heap.size < W.heap.size) ⟨⟨(by (first | (simp [go_sem]; done) | simp [go_sem, ↓IntWalk.iteOmega])), (by (first | (simp [go_sem]; done) | simp [go_sem, ↓IntWalk.iteOmega])), (by (first | (simp [go_sem]; done) | simp [go_sem, ↓IntWalk.iteOmega]))⟩, (by (repeat' (first | with_reducible exact Below.refl _ _ | (with_reducible refine below_later_of ?_ ?_ _) | (with_reducible refine Below.alloc ?_ ?_ _) | (with_reducible refine Below.setCell ?_ ?_ _) | (with_reducible refine Below.drew ?_) | (simp; done) | (simp; omega) | omega))), by (simp <;> omega)⟩ ?_
  rintro W2 ⟨cc, hb, hs2⟩
  have CC := Lib.hid cc
  have HB2 := Lib.hid hb
  clear cc hb
  go_loopw [5, 6] (fun s i wr => ∃ k : Nat, k ≤ ps.length ∧ i = .int .i64 k ∧ s = .bool (parB (sideAt ps 1) x y k) ∧ Below W2.heap.size W2 wr ∧ ∀ j, j < k → hasP (sideAt ps 1 j) x y = false) (fun _ i _ => ps.length - (intOf i).toNat)
  case atStart => exact ⟨0, Nat.zero_le _, rfl, rfl, Below.refl _ _, fun j hj => by omega⟩
  case round =>
    obtain ⟨k, hk, rfl, rfl, hnx, hz⟩ := hrel
    have HZ := Lib.hid hz
    have HX := Lib.hid hnx
    have hsz := hnx.size
    have hbr : b < wr.heap.size := by have := HB2.out.size; omega
    clear hz
    by_cases hlt : k < ps.length
    · have HPW := HP.out.below hbw (HB2.out.trans (hnx.mono (by omega)))
      obtain ⟨d1, d2, d3⟩ := HPW k hlt
      obtain ⟨e1, e2, e3⟩ := HPW _ (next_lt hlt)
      have hrem := next_rem hlt
      have hjn := next_lt hlt
      obtain ⟨f1, f2⟩ := HM.out k hlt
      obtain ⟨f3, f4⟩ := HM.out _ (next_lt hlt)
      have HS := Lib.hid (side1 ps k)
      have HB0 := Lib.hid (show flipP (sideAt ps 1 k) x y = true → parB (sideAt ps 1) x y (k + 1) = !parB (sideAt ps 1) x y k from fun h => flip_yes h)
      have HB1 := Lib.hid (show flipP (sideAt ps 1 k) x y = false → parB (sideAt ps 1) x y (k + 1) = parB (sideAt ps 1) x y k from fun h => flip_no h)
      have HIN := Lib.hid (show hasP (sideAt ps 1 k) x y = true → insB (sideAt ps 1) ps.length x y = true from fun h => insB_has hlt h)
      generalize hsd : sideAt ps 1 k = s at HS HB0 HB1 HIN
      have HSD := Lib.hid hsd
      clear hsd
      generalize parB (sideAt ps 1) x y k = pr at *
      generalize plcAt ps k = p1 at *
      generalize nextN ps.length k = j at *
      generalize plcAt ps j = p2 at *
      have HF := Lib.hid (show (Sd.mk p1.x p1.y p2.x p2.y).Fit from ⟨f1, f2, f3, f4⟩)
      clear hnx HPW f1 f2 f3 f4
      have HSS := Lib.hid (show ∀ w', Below wr.heap.size wr w' → (fun w' => w'.cell? ⟨b, off + k * 3, none⟩ = some (.int .i64 p1.x) ∧ w'.cell? ⟨b, off + k * 3 + 1, none⟩ = some (.int .i64 p1.y) ∧ w'.cell? ⟨b, off + k * 3 + 2, none⟩ = some (.int .i64 p1.z) ∧ w'.cell? ⟨b, off + j * 3, none⟩ = some (.int .i64 p2.x) ∧ w'.cell? ⟨b, off + j * 3 + 1, none⟩ = some (.int .i64 p2.y) ∧ w'.cell? ⟨b, off + j * 3 + 2, none⟩ = some (.int .i64 p2.z)) w' from fun w' hb => ⟨(hb.cell (p := ⟨b, off + k * 3, none⟩) hbr).trans d1, (hb.cell (p := ⟨b, off + k * 3 + 1, none⟩) hbr).trans d2, (hb.cell (p := ⟨b, off + k * 3 + 2, none⟩) hbr).trans d3, (hb.cell (p := ⟨b, off + j * 3, none⟩) hbr).trans e1, (hb.cell (p := ⟨b, off + j * 3 + 1, none⟩) hbr).trans e2, (hb.cell (p := ⟨b, off + j * 3 + 2, none⟩) hbr).trans e3⟩)
      go_wp2_with fail
      go_cut [7, 8] from 15 to 26 (fun X Y wx => ∃ B7 B8, X = .pointer (some ⟨B7, 0, none⟩) ∧ Y = .pointer (some ⟨B8, 0, none⟩) ∧ (wx.cell? ⟨B7, 0, none⟩ = some (.int .i64 p1.x) ∧ wx.cell? ⟨B7, 1, none⟩ = some (.int .i64 p1.y) ∧ wx.cell? ⟨B7, 2, none⟩ = some (.int .i64 p1.z)) ∧ (wx.cell? ⟨B8, 0, none⟩ = some (.int .i64 p2.x) ∧ wx.cell? ⟨B8, 1, none⟩ = some (.int .i64 p2.y) ∧ wx.cell? ⟨B8, 2, none⟩ = some (.int .i64 p2.z)) ∧ Below wr.heap.size wr wx ∧ B7 < wx.heap.size ∧ B8 < wx.heap.size)
      case first =>
        go_region
        all_goals
          go_wp2_with fail
          go_meet
          exact ⟨_, _, rfl, rfl, ⟨(by (first | (simp [go_sem]; done) | simp [go_sem, ↓IntWalk.iteOmega])), (by (first | (simp [go_sem]; done) | simp [go_sem, ↓IntWalk.iteOmega])), (by (first | (simp [go_sem]; done) | simp [go_sem, ↓IntWalk.iteOmega]))⟩, ⟨(by (first | (simp [go_sem]; done) | simp [go_sem, ↓IntWalk.iteOmega])), (by (first | (simp [go_sem]; done) | simp [go_sem, ↓IntWalk.iteOmega])), (by (first | (simp [go_sem]; done) | simp [go_sem, ↓IntWalk.iteOmega]))⟩, (by (repeat' (first | with_reducible exact Below.refl _ _ | (with_reducible refine below_later_of ?_ ?_ _) | (with_reducible refine Below.alloc ?_ ?_ _) | (with_reducible refine Below.setCell ?_ ?_ _) | (with_reducible refine Below.drew ?_) | (simp; done) | (simp; omega) | omega))), by (simp <;> omega), by (simp <;> omega)⟩
      case rest =>
        obtain ⟨B7, B8, rfl, rfl, ⟨g1, g2, g3⟩, ⟨h1, h2, h3⟩, hb, hs7, hs8⟩ := hcut
        have HXX := Lib.hid (HX.out.trans (hb.mono hsz))
        have hszc := hb.size
        obtain ⟨c1, c2, c3⟩ := CC.out
        have c1 := (HXX.out.cell (p := ⟨w.heap.size, 0, none⟩) hs2).trans c1
        have c2 := (HXX.out.cell (p := ⟨w.heap.size, 1, none⟩) hs2).trans c2
        have c3 := (HXX.out.cell (p := ⟨w.heap.size, 2, none⟩) hs2).trans c3
        clear hb d1 d2 d3 e1 e2 e3
        rcases bool_two (onP ⟨p1.x, p1.y, p2.x, p2.y⟩ x y) with ho | ho
        · have HON := Lib.hid ho
          have HH := Lib.hid (show hasP s x y = false by rw [HS.out, ← on_has]; exact ho)
          clear ho
          have HFL := Lib.hid (show flipP s x y = ((decide (y < p1.y) != decide (y < p2.y)) && (decide (0 < crossP ⟨p1.x, p1.y, p2.x, p2.y⟩ x y) == decide (p1.y < p2.y))) by rw [HS.out]; rfl)
          obtain ⟨cr, hcr⟩ : ∃ cr, crossP ⟨p1.x, p1.y, p2.x, p2.y⟩ x y = cr := ⟨_, rfl⟩
          rw [hcr] at HFL
          have HCR := Lib.hid hcr
          clear hcr
          by_cases q1 : y < p1.y
          · by_cases q2 : y < p2.y
            · have HB := Lib.hid (HB1.out (by rw [HFL.out, decide_eq_true q1, decide_eq_true q2]; rfl))
              go_wp2_with (first | (go_at_call 129; (with_reducible refine (rOn ⟨p1.x, p1.y, p2.x, p2.y⟩ _ _ x y _ _ HF.out HX2.out HY2.out HON.out).mono ?_); rintro e w' ⟨rfl, hb⟩; obtain ⟨pp, rfl⟩ := later_of_below hb; clear hb))
              refine wp_region_calm (by kernel_rfl) (by kernel_rfl) ?_
              repeat (go_big_quiet_step (first | (go_at_call 127; exact calm_of (by with_reducible exact rCross ⟨p1.x, p1.y, p2.x, p2.y⟩ _ _ x y _ _ HF.out HX2.out HY2.out HCR.out))))
              refine wpQuiet_nil ?_
              rintro _ ⟨v1, rfl⟩
              go_wp2
              (go_roundw; (case rel => exact ⟨k + 1, by omega, by go_num, by rw [HB.out], HXX.out.trans (below_mono_of (by omega) (by (repeat' (first | with_reducible exact Below.refl _ _ | (with_reducible refine below_later_of ?_ ?_ _) | (with_reducible refine Below.alloc ?_ ?_ _) | (with_reducible refine Below.setCell ?_ ?_ _) | (with_reducible refine Below.drew ?_) | (simp; done) | (simp; omega) | omega)))), fun j hj => if e : j = k then (by rw [e, HSD.out]; exact HH.out) else HZ.out j (by omega)⟩); (case measure => simp [intOf]; omega))
            · have q2' : decide (y < p2.y) = false := by simpa using q2
              have q3' : decide (p1.y < p2.y) = false := by simp; omega
              by_cases q4 : 0 < cr
              · have HB := Lib.hid (HB1.out (by rw [HFL.out, decide_eq_true q1, q2', q3', decide_eq_true q4]; rfl))
                go_wp2_with (first | (go_at_call 129; (with_reducible refine (rOn ⟨p1.x, p1.y, p2.x, p2.y⟩ _ _ x y _ _ HF.out HX2.out HY2.out HON.out).mono ?_); rintro e w' ⟨rfl, hb⟩; obtain ⟨pp, rfl⟩ := later_of_below hb; clear hb))
                refine wp_region_calm (by kernel_rfl) (by kernel_rfl) ?_
                repeat (go_big_quiet_step (first | (go_at_call 127; exact calm_of (by with_reducible exact rCross ⟨p1.x, p1.y, p2.x, p2.y⟩ _ _ x y _ _ HF.out HX2.out HY2.out HCR.out))))
                refine wpQuiet_nil ?_
                rintro _ ⟨v1, rfl⟩
                go_wp2
                (go_roundw; (case rel => exact ⟨k + 1, by omega, by go_num, by rw [HB.out], HXX.out.trans (below_mono_of (by omega) (by (repeat' (first | with_reducible exact Below.refl _ _ | (with_reducible refine below_later_of ?_ ?_ _) | (with_reducible refine Below.alloc ?_ ?_ _) | (with_reducible refine Below.setCell ?_ ?_ _) | (with_reducible refine Below.drew ?_) | (simp; done) | (simp; omega) | omega)))), fun j hj => if e : j = k then (by rw [e, HSD.out]; exact HH.out) else HZ.out j (by omega)⟩); (case measure => simp [intOf]; omega))
              · have q4' : decide (0 < cr) = false := by simpa using q4
                have HB := Lib.hid (HB0.out (by rw [HFL.out, decide_eq_true q1, q2', q3', q4']; rfl))
                go_wp2_with (first | (go_at_call 129; (with_reducible refine (rOn ⟨p1.x, p1.y, p2.x, p2.y⟩ _ _ x y _ _ HF.out HX2.out HY2.out HON.out).mono ?_); rintro e w' ⟨rfl, hb⟩; obtain ⟨pp, rfl⟩ := later_of_below hb; clear hb))
                refine wp_region_calm (by kernel_rfl) (by kernel_rfl) ?_
                repeat (go_big_quiet_step (first | (go_at_call 127; exact calm_of (by with_reducible exact rCross ⟨p1.x, p1.y, p2.x, p2.y⟩ _ _ x y _ _ HF.out HX2.out HY2.out HCR.out))))
                refine wpQuiet_nil ?_
                rintro _ ⟨v1, rfl⟩
                go_wp2
                (go_roundw; (case rel => exact ⟨k + 1, by omega, by go_num, by rw [HB.out], HXX.out.trans (below_mono_of (by omega) (by (repeat' (first | with_reducible exact Below.refl _ _ | (with_reducible refine below_later_of ?_ ?_ _) | (with_reducible refine Below.alloc ?_ ?_ _) | (with_reducible refine Below.setCell ?_ ?_ _) | (with_reducible refine Below.drew ?_) | (simp; done) | (simp; omega) | omega)))), fun j hj => if e : j = k then (by rw [e, HSD.out]; exact HH.out) else HZ.out j (by omega)⟩); (case measure => simp [intOf]; omega))
          · have q1' : decide (y < p1.y) = false := by simpa using q1
            by_cases q2 : y < p2.y
            · have q3 : p1.y < p2.y := by omega
              by_cases q4 : 0 < cr
              · have HB := Lib.hid (HB0.out (by rw [HFL.out, q1', decide_eq_true q2, decide_eq_true q3, decide_eq_true q4]; rfl))
                go_wp2_with (first | (go_at_call 129; (with_reducible refine (rOn ⟨p1.x, p1.y, p2.x, p2.y⟩ _ _ x y _ _ HF.out HX2.out HY2.out HON.out).mono ?_); rintro e w' ⟨rfl, hb⟩; obtain ⟨pp, rfl⟩ := later_of_below hb; clear hb))
                refine wp_region_calm (by kernel_rfl) (by kernel_rfl) ?_
                repeat (go_big_quiet_step (first | (go_at_call 127; exact calm_of (by with_reducible exact rCross ⟨p1.x, p1.y, p2.x, p2.y⟩ _ _ x y _ _ HF.out HX2.out HY2.out HCR.out))))
                refine wpQuiet_nil ?_
                rintro _ ⟨v1, rfl⟩
                go_wp2
                (go_roundw; (case rel => exact ⟨k + 1, by omega, by go_num, by rw [HB.out], HXX.out.trans (below_mono_of (by omega) (by (repeat' (first | with_reducible exact Below.refl _ _ | (with_reducible refine below_later_of ?_ ?_ _) | (with_reducible refine Below.alloc ?_ ?_ _) | (with_reducible refine Below.setCell ?_ ?_ _) | (with_reducible refine Below.drew ?_) | (simp; done) | (simp; omega) | omega)))), fun j hj => if e : j = k then (by rw [e, HSD.out]; exact HH.out) else HZ.out j (by omega)⟩); (case measure => simp [intOf]; omega))
              · have q4' : decide (0 < cr) = false := by simpa using q4
                have HB := Lib.hid (HB1.out (by rw [HFL.out, q1', decide_eq_true q2, decide_eq_true q3, q4']; rfl))
                go_wp2_with (first | (go_at_call 129; (with_reducible refine (rOn ⟨p1.x, p1.y, p2.x, p2.y⟩ _ _ x y _ _ HF.out HX2.out HY2.out HON.out).mono ?_); rintro e w' ⟨rfl, hb⟩; obtain ⟨pp, rfl⟩ := later_of_below hb; clear hb))
                refine wp_region_calm (by kernel_rfl) (by kernel_rfl) ?_
                repeat (go_big_quiet_step (first | (go_at_call 127; exact calm_of (by with_reducible exact rCross ⟨p1.x, p1.y, p2.x, p2.y⟩ _ _ x y _ _ HF.out HX2.out HY2.out HCR.out))))
                refine wpQuiet_nil ?_
                rintro _ ⟨v1, rfl⟩
                go_wp2
                (go_roundw; (case rel => exact ⟨k + 1, by omega, by go_num, by rw [HB.out], HXX.out.trans (below_mono_of (by omega) (by (repeat' (first | with_reducible exact Below.refl _ _ | (with_reducible refine below_later_of ?_ ?_ _) | (with_reducible refine Below.alloc ?_ ?_ _) | (with_reducible refine Below.setCell ?_ ?_ _) | (with_reducible refine Below.drew ?_) | (simp; done) | (simp; omega) | omega)))), fun j hj => if e : j = k then (by rw [e, HSD.out]; exact HH.out) else HZ.out j (by omega)⟩); (case measure => simp [intOf]; omega))
            · have q2' : decide (y < p2.y) = false := by simpa using q2
              have HB := Lib.hid (HB1.out (by rw [HFL.out, q1', q2']; rfl))
              go_wp2_with (first | (go_at_call 129; (with_reducible refine (rOn ⟨p1.x, p1.y, p2.x, p2.y⟩ _ _ x y _ _ HF.out HX2.out HY2.out HON.out).mono ?_); rintro e w' ⟨rfl, hb⟩; obtain ⟨pp, rfl⟩ := later_of_below hb; clear hb))
              refine wp_region_calm (by kernel_rfl) (by kernel_rfl) ?_
              repeat (go_big_quiet_step (first | (go_at_call 127; exact calm_of (by with_reducible exact rCross ⟨p1.x, p1.y, p2.x, p2.y⟩ _ _ x y _ _ HF.out HX2.out HY2.out HCR.out))))
              refine wpQuiet_nil ?_
              rintro _ ⟨v1, rfl⟩
              go_wp2
              (go_roundw; (case rel => exact ⟨k + 1, by omega, by go_num, by rw [HB.out], HXX.out.trans (below_mono_of (by omega) (by (repeat' (first | with_reducible exact Below.refl _ _ | (with_reducible refine below_later_of ?_ ?_ _) | (with_reducible refine Below.alloc ?_ ?_ _) | (with_reducible refine Below.setCell ?_ ?_ _) | (with_reducible refine Below.drew ?_) | (simp; done) | (simp; omega) | omega)))), fun j hj => if e : j = k then (by rw [e, HSD.out]; exact HH.out) else HZ.out j (by omega)⟩); (case measure => simp [intOf]; omega))
        · have HON := Lib.hid ho
          have HR := Lib.hid (HIN.out (by rw [HS.out, ← on_has]; exact ho))
          clear ho
          go_wp2_with (first | (go_at_call 129; (with_reducible refine (rOn ⟨p1.x, p1.y, p2.x, p2.y⟩ _ _ x y _ _ HF.out HX2.out HY2.out HON.out).mono ?_); rintro e w' ⟨rfl, hb⟩; obtain ⟨pp, rfl⟩ := later_of_below hb; clear hb))
          go_ret
          exact ⟨ret_bool HR.out.symm, HB2.out.trans ((HXX.out.trans (below_mono_of (by omega) (by (repeat' (first | with_reducible exact Below.refl _ _ | (with_reducible refine below_later_of ?_ ?_ _) | (with_reducible refine Below.alloc ?_ ?_ _) | (with_reducible refine Below.setCell ?_ ?_ _) | (with_reducible refine Below.drew ?_) | (simp; done) | (simp; omega) | omega))))).mono (by omega))⟩
    · obtain rfl : k = ps.length := by omega
      have HR := Lib.hid (show insB (sideAt ps 1) ps.length x y = parB (sideAt ps 1) x y ps.length from insB_par (fun j hj => HZ.out j hj))
      clear hnx
      go_wp2
      go_ret
      exact ⟨ret_bool HR.out.symm, HB2.out.trans (HX.out.mono (by omega))⟩
end Go.Proofs.Ytokpdmlmlkkekaa
