/- Polygons: places at whatever offset; the reference's AreaOf; what inside means. -/
import Derived.Test.YtokpdmlmlkkekaaZY
import Derived.Deep.CutRange
import Derived.Deep.RegionHeld3
namespace Go.Proofs.Ytokpdmlmlkkekaa
set_option linter.unusedVariables false
open Go.RowKit
/-- Block b holds these places, from an offset on. -/
def PlacesO (w : World) (b off : Nat) (ps : List Plc) : Prop :=
  ∀ k, k < ps.length → w.cell? ⟨b, off + k * 3, none⟩ = some (.int .i64 (plcAt ps k).x) ∧ w.cell? ⟨b, off + k * 3 + 1, none⟩ = some (.int .i64 (plcAt ps k).y) ∧ w.cell? ⟨b, off + k * 3 + 2, none⟩ = some (.int .i64 (plcAt ps k).z)
theorem PlacesO.below {w w' : World} {b off B : Nat} {ps : List Plc} (h : PlacesO w b off ps) (hb : b < B) (hw : Below B w w') : PlacesO w' b off ps := fun k hk =>
  ⟨(hw.cell (p := ⟨b, off + k * 3, none⟩) hb).trans (h k hk).1, (hw.cell (p := ⟨b, off + k * 3 + 1, none⟩) hb).trans (h k hk).2.1, (hw.cell (p := ⟨b, off + k * 3 + 2, none⟩) hb).trans (h k hk).2.2⟩
theorem mid_of {p : Plc} (h : Mid1 p) : Mid p.x ∧ Mid p.y := by
  obtain ⟨a1, a2, a3, a4⟩ := h
  unfold Mid
  omega
theorem areaTerm_first (ps : List Plc) : areaTerm ps 0 = 0 := by unfold areaTerm sideAt; simp only [Int.one_mul]; grind
theorem areaTerm_last {ps : List Plc} {k : Nat} (h : k + 1 = ps.length) : areaTerm ps k = 0 := by
  unfold areaTerm sideAt
  rw [show nextN ps.length k = 0 by unfold nextN; rw [if_neg (by omega)]]
  simp only [Int.one_mul]; grind
theorem areaTerm_mid {ps : List Plc} {k : Nat} (h : k + 1 < ps.length) : areaTerm ps k = crossP ⟨(plcAt ps 0).x, (plcAt ps 0).y, (plcAt ps k).x, (plcAt ps k).y⟩ (plcAt ps (k + 1)).x (plcAt ps (k + 1)).y := by
  unfold areaTerm sideAt crossP
  rw [show nextN ps.length k = k + 1 by unfold nextN; rw [if_pos h]]
  simp only [Int.one_mul]
set_option maxRecDepth 20000 in
set_option maxHeartbeats 2000000 in
theorem rAreaOf (ps : List Plc) (b off cap : Nat) (w : World) (hp : checkPolygonP ps = 0) (hbw : b < w.heap.size) (hpl : PlacesO w b off ps) {c : Int} (hc : (areaOfP ps).1 = c) :
    Calls Try.prog 54 #[.slice (some ⟨b, off, none⟩) ps.length cap] w fun e w' => e = .returned (.int .i64 c) ∧ Below w.heap.size w w' := by
  subst hc
  obtain ⟨l1, l2, l3, _⟩ := checkPolygonP_ok hp
  have hm : ∀ k, k < ps.length → Mid1 (plcAt ps k) := fun k hk => cornerErr_mid (l3 k hk)
  have HA := Lib.hid (show (areaOfP ps).1 = max (areaSum ps ps.length) (-(areaSum ps ps.length)) by unfold areaOfP; rw [if_pos hp])
  have HM := Lib.hid hm
  have HP := Lib.hid hpl
  clear hp hpl hm l3
  go_enter Try.func54, Try.ntmps54
  go_wp2
  go_loopw [3, 4] (fun s i wr => ∃ k : Nat, 1 ≤ k ∧ k + 1 ≤ ps.length ∧ i = .int .i64 k ∧ s = .int .i64 (areaSum ps k) ∧ Below w.heap.size w wr) (fun _ i _ => ps.length - (intOf i).toNat)
  case atStart => exact ⟨1, by omega, by omega, rfl, by rw [show areaSum ps 1 = 0 + areaTerm ps 0 from rfl, areaTerm_first]; rfl, Below.refl _ _⟩
  case round =>
    obtain ⟨k, hk1, hk, rfl, rfl, hnx⟩ := hrel
    have HX := Lib.hid hnx
    have hsz := hnx.size
    have hbr : b < wr.heap.size := by omega
    obtain ⟨u1, u2⟩ := areaSum_bd HM.out k (by omega)
    by_cases hlt : k + 1 < ps.length
    · obtain ⟨c1, c2, c3⟩ := (HP.out.below hbw hnx) 0 (by omega)
      obtain ⟨d1, d2, d3⟩ := (HP.out.below hbw hnx) k (by omega)
      obtain ⟨e1, e2, e3⟩ := (HP.out.below hbw hnx) (k + 1) hlt
      simp only [Nat.zero_mul, Nat.add_zero] at c1 c2 c3
      obtain ⟨f1, f2⟩ := mid_of (HM.out 0 (by omega))
      obtain ⟨f3, f4⟩ := mid_of (HM.out k (by omega))
      obtain ⟨f5, f6⟩ := mid_of (HM.out (k + 1) hlt)
      have HT := Lib.hid (areaTerm_mid hlt)
      obtain ⟨t1, t2⟩ := areaTerm_bd HM.out (show k < ps.length by omega)
      have HSU := Lib.hid (show areaSum ps (k + 1) = areaSum ps k + areaTerm ps k from rfl)
      generalize plcAt ps 0 = p0 at *
      generalize plcAt ps k = p1 at *
      generalize plcAt ps (k + 1) = p2 at *
      have HF := Lib.hid (show (Sd.mk p0.x p0.y p1.x p1.y).Fit from ⟨f1, f2, f3, f4⟩)
      have HX2 := Lib.hid f5
      have HY2 := Lib.hid f6
      generalize areaTerm ps k = at_ at *
      have HC := Lib.hid HT.out.symm
      clear f1 f2 f3 f4 f5 f6 hnx HT
      go_wp2
      refine wp_region_calm (by kernel_rfl) (by kernel_rfl) ?_
      repeat (go_big_quiet_step (first | (go_at_call 127; exact calm_of (by with_reducible exact rCross ⟨p0.x, p0.y, p1.x, p1.y⟩ _ _ p2.x p2.y _ _ HF.out HX2.out HY2.out HC.out))))
      refine wpQuiet_nil ?_
      rintro _ ⟨q1, rfl⟩
      go_wp2
      go_roundw
      case rel => exact ⟨k + 1, by omega, by omega, by go_num, by rw [HSU.out], HX.out.trans (below_mono_of hsz (by (repeat' (first | with_reducible exact Below.refl _ _ | (with_reducible refine below_later_of ?_ ?_ _) | (with_reducible refine Below.alloc ?_ ?_ _) | (with_reducible refine Below.setCell ?_ ?_ _) | (with_reducible refine Below.drew ?_) | (simp; done) | (simp; omega) | omega))))⟩
      case measure => simp [intOf]; omega
    · have hke : k + 1 = ps.length := by omega
      have HS := Lib.hid (show areaSum ps ps.length = areaSum ps k by rw [← hke, show areaSum ps (k + 1) = areaSum ps k + areaTerm ps k from rfl, areaTerm_last hke, Int.add_zero])
      have hge : decide ((k : Int) + 1 < (ps.length : Int)) = false := by simp; omega
      clear hke hnx
      go_wp2_with (first | (go_at_call 128; refine (bSize _ _ (by omega) (by omega)).mono ?_; rintro e w' ⟨rfl, rfl⟩))
      go_ret
      exact ⟨ret_int (by rw [HA.out, HS.out]), HX.out⟩
end Go.Proofs.Ytokpdmlmlkkekaa
