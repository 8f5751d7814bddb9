/- AreaOf. -/
import Derived.Test.YthnfepfbkmafaaaG5
namespace Go.Proofs.Ythnfepfbkmafaaa
set_option linter.unusedVariables false
open Go.RowKit
/-- The value is a slice of these places. -/
def PlacesV (w : World) (v : Value) (ps : List Plc) : Prop :=
  Wf2 ps ∧ ps.length ≤ 1000000000 ∧ ∃ a cap, v = .slice a ps.length cap ∧ (0 < ps.length → ∃ b, a = some ⟨b, 0, none⟩ ∧ b < w.heap.size ∧ Places w b ps)
theorem PlacesV.below {w w' : World} {v : Value} {ps : List Plc} (h : PlacesV w v ps) (hw : Below w.heap.size w w') : PlacesV w' v ps := by
  obtain ⟨h1, h2, a, cap, h3, h4⟩ := h
  refine ⟨h1, h2, a, cap, h3, fun hp => ?_⟩
  obtain ⟨b, h5, h6, h7⟩ := h4 hp
  exact ⟨b, h5, Nat.lt_of_lt_of_le h6 hw.size, h7.below h6 hw⟩
theorem checkPolygon_v (ps : List Plc) (v : Value) (w : World) (hv : PlacesV w v ps) {e0 : Int} (he : checkPolygonP ps = e0) :
    Calls Try.prog 51 #[v] w fun e w' => e = .returned (.int .i64 e0) ∧ Below w.heap.size w w' := by
  subst he
  obtain ⟨h1, h2, a, cap, rfl, h4⟩ := hv
  by_cases h : 3 ≤ ps.length ∧ ps.length ≤ 20
  · obtain ⟨b, rfl, h6, h7⟩ := h4 (by omega)
    exact checkPolygon_any ps b cap w h.1 h.2 h6 h7 h1
  · exact (checkPolygon_short ps _ cap a w (by omega) rfl h2).mono fun e w' ⟨h, hw⟩ => ⟨h, hw ▸ Below.refl _ _⟩
theorem checkPolygonP_ok {ps : List Plc} (h : checkPolygonP ps = 0) : 3 ≤ ps.length ∧ ps.length ≤ 20 ∧ (∀ k, k < ps.length → cornerErr ps k = 0) ∧ ¬ Clash ps := by
  unfold checkPolygonP at h
  split at h
  · exact absurd h (by decide)
  · split at h
    · exact absurd h (by decide)
    · split at h
      · rename_i h1 h2 h3
        refine ⟨by omega, by omega, fun k hk => scan_inv ps.length 0 h3 k (Nat.zero_le _) (by omega), fun hc => ?_⟩
        rw [if_pos hc] at h
        exact absurd h (by decide)
      · contradiction
theorem cornerErr_mid {ps : List Plc} {k : Nat} (h1 : cornerErr ps k = 0) : Mid1 (plcAt ps k) := by
  unfold cornerErr at h1
  split at h1
  · rename_i h2
    obtain ⟨⟨a1, a2⟩, ⟨b1, b2⟩, _⟩ := placeB_iff.1 h2
    exact ⟨a1, a2, b1, b2⟩
  · exact absurd h1 (by decide)
def areaTerm (ps : List Plc) (k : Nat) : Int :=
  ((sideAt ps 1 k).x1 - (plcAt ps 0).x) * ((sideAt ps 1 k).y2 - (plcAt ps 0).y) - ((sideAt ps 1 k).y1 - (plcAt ps 0).y) * ((sideAt ps 1 k).x2 - (plcAt ps 0).x)
def areaSum (ps : List Plc) : Nat → Int
  | 0 => 0
  | k + 1 => areaSum ps k + areaTerm ps k
noncomputable def areaOfP (ps : List Plc) : Int × Int := if checkPolygonP ps = 0 then (max (areaSum ps ps.length) (-(areaSum ps ps.length)), 0) else (0, checkPolygonP ps)
theorem areaTerm_bd {ps : List Plc} (hm : ∀ k, k < ps.length → Mid1 (plcAt ps k)) {k : Nat} (hk : k < ps.length) : -80000000000000000 ≤ areaTerm ps k ∧ areaTerm ps k ≤ 80000000000000000 := by
  obtain ⟨a1, a2, a3, a4⟩ := hm k hk
  obtain ⟨b1, b2, b3, b4⟩ := hm (nextN ps.length k) (by unfold nextN; split <;> omega)
  obtain ⟨c1, c2, c3, c4⟩ := hm 0 (by omega)
  unfold areaTerm sideAt
  simp only [Int.one_mul]
  have p1 := prod_bd (a := (plcAt ps k).x - (plcAt ps 0).x) (b := (plcAt ps (nextN ps.length k)).y - (plcAt ps 0).y) 200000000 200000000 (by omega) (by omega) (by omega) (by omega) (by omega) (by omega)
  have p2 := prod_bd (a := (plcAt ps k).y - (plcAt ps 0).y) (b := (plcAt ps (nextN ps.length k)).x - (plcAt ps 0).x) 200000000 200000000 (by omega) (by omega) (by omega) (by omega) (by omega) (by omega)
  omega
theorem areaSum_bd {ps : List Plc} (hm : ∀ k, k < ps.length → Mid1 (plcAt ps k)) : ∀ k, k ≤ ps.length → -(k * 80000000000000000 : Int) ≤ areaSum ps k ∧ areaSum ps k ≤ k * 80000000000000000
  | 0, _ => by simp [areaSum]
  | k + 1, hk => by
    have := areaTerm_bd hm (show k < ps.length by omega)
    have := areaSum_bd hm k (by omega)
    unfold areaSum
    omega
set_option maxRecDepth 20000 in
set_option maxHeartbeats 1000000 in
theorem areaOf_any (ps : List Plc) (v : Value) (w : World) (hv : PlacesV w v ps) :
    Calls Try.prog 49 #[v] w fun e w' => e = .returned (.tuple #[.int .i64 (areaOfP ps).1, .int .i64 (areaOfP ps).2]) ∧ Below w.heap.size w w' := by
  by_cases h : checkPolygonP ps = 0
  · have HF : areaOfP ps = (max (areaSum ps ps.length) (-(areaSum ps ps.length)), 0) := by unfold areaOfP; rw [if_pos h]
    rw [HF]
    obtain ⟨l1, l2, l3, _⟩ := checkPolygonP_ok h
    have HE := Lib.hid h
    have HV := Lib.hid hv
    have hm : ∀ k, k < ps.length → Mid1 (plcAt ps k) := fun k hk => cornerErr_mid (l3 k hk)
    have HM := Lib.hid hm
    obtain ⟨h1, h2, a, cap, rfl, h4⟩ := hv
    obtain ⟨b, rfl, hb1, hpl⟩ := h4 (by omega)
    have HP := Lib.hid hpl
    obtain ⟨c1, c2, c3⟩ := hpl 0 (by omega)
    simp only [Nat.zero_mul, Nat.zero_add] at c1 c2 c3
    obtain ⟨m1, m2, m3, m4⟩ := hm 0 (by omega)
    obtain ⟨q, hq⟩ : ∃ q, plcAt ps 0 = q := ⟨_, rfl⟩
    have HQ := Lib.hid hq
    rw [hq] at c1 c2 c3 m1 m2 m3 m4
    have hmx : Mid q.x := by unfold Mid; omega
    have hmy : Mid q.y := by unfold Mid; omega
    have HMX := Lib.hid hmx
    have HMY := Lib.hid hmy
    have HPL : ∀ w', Below w.heap.size w w' → Places w' b ps := fun w' hb => HP.out.below hb1 hb
    clear hmx hmy hq hpl h4 h h1 hm HF l3
    go_enter Try.func49, Try.ntmps49
    go_wp2_with (first | (go_at_call 51; refine (checkPolygon_v ps _ _ HV.out HE.out).mono ?_; rintro e w' ⟨rfl, hb⟩; obtain ⟨p1, rfl⟩ := later_of_below hb; clear hb) | (go_at_call 116; refine (cornerOf_any _ _ _ _).mono ?_; rintro e w' ⟨rfl, hb⟩; obtain ⟨p2, rfl⟩ := later_of_below hb; clear hb) | (go_at_call 115; refine (sides_row ps 1 b cap _ (Or.inl rfl) (by omega) (by omega) (by simp; omega) (HPL _ ((by (repeat' (first | with_reducible exact Below.refl _ _ | (with_reducible refine below_later_of ?_ ?_ _) | (with_reducible refine Below.alloc ?_ ?_ _) | (with_reducible refine Below.setCell ?_ ?_ _) | (with_reducible refine Below.drew ?_) | (simp; done) | (simp; omega) | omega))))) HM.out).mono ?_; rintro e w2 ⟨g, c, rfl, hg1, hg2, hc1, hc2, hsd, hb2⟩))
    have HB := Lib.hid (show Below w.heap.size w w2 from (show Below w.heap.size w _ from (by (repeat' (first | with_reducible exact Below.refl _ _ | (with_reducible refine below_later_of ?_ ?_ _) | (with_reducible refine Below.alloc ?_ ?_ _) | (with_reducible refine Below.setCell ?_ ?_ _) | (with_reducible refine Below.drew ?_) | (simp; done) | (simp; omega) | omega)))).trans (hb2.mono (by simp; omega)))
    have hs6 : ∃ B6, B6 = w.heap.size + p1.os.size + p2.os.size ∧ B6 < w2.heap.size ∧ w2.cell? ⟨B6, 0, none⟩ = some (.int .i64 q.x) ∧ w2.cell? ⟨B6, 1, none⟩ = some (.int .i64 q.y) := by
      have hz := hb2.size
      simp at hz
      refine ⟨_, rfl, by omega, (hb2.cell (by simp)).trans ?_, (hb2.cell (by simp)).trans ?_⟩
      · (first | (simp [go_sem]; done) | simp [go_sem, ↓IntWalk.iteOmega])
      · (first | (simp [go_sem]; done) | simp [go_sem, ↓IntWalk.iteOmega])
    obtain ⟨B6, hB6, hlt6, e60, e61⟩ := hs6
    rw [← hB6]
    have E60 := Lib.hid e60
    have E61 := Lib.hid e61
    have HSD := Lib.hid hsd
    clear e60 e61 hsd hb2 hB6 HPL c1 c2 c3 hg1
    go_loopw [5, 21] (fun s i wr => ∃ k : Nat, k ≤ ps.length ∧ i = .int .i64 k ∧ s = .int .i64 (areaSum ps k) ∧ Below w2.heap.size w2 wr)
      (fun _ i _ => ps.length - (intOf i).toNat)
    case atStart => exact ⟨0, Nat.zero_le _, rfl, rfl, Below.refl _ _⟩
    case round =>
      obtain ⟨k, hk, rfl, rfl, hnx⟩ := hrel
      have HX := Lib.hid hnx
      have hsz := hnx.size
      obtain ⟨u1, u2⟩ := areaSum_bd HM.out k hk
      by_cases hlt : k < ps.length
      · obtain ⟨d1, d2, d3, d4⟩ := (HSD.out.below hg2 hnx) k hlt
        have e0 := (hnx.cell (p := ⟨B6, 0, none⟩) hlt6).trans E60.out
        have e1 := (hnx.cell (p := ⟨B6, 1, none⟩) hlt6).trans E61.out
        obtain ⟨t1, t2⟩ := areaTerm_bd HM.out hlt
        have hsum : areaSum ps (k + 1) = areaSum ps k + areaTerm ps k := rfl
        have HSU := Lib.hid hsum
        obtain ⟨sf1, sf2, sf3, sf4⟩ := sideAt_fit HM.out hlt
        have ht : areaTerm ps k = ((sideAt ps 1 k).x1 - q.x) * ((sideAt ps 1 k).y2 - q.y) - ((sideAt ps 1 k).y1 - q.y) * ((sideAt ps 1 k).x2 - q.x) := by unfold areaTerm; rw [HQ.out]
        generalize sideAt ps 1 k = s at d1 d2 d3 d4 sf1 sf2 sf3 sf4 ht
        have HT := Lib.hid ht
        rw [ht] at t1 t2
        have hmx := HMX.out
        have hmy := HMY.out
        generalize areaSum ps k = S at u1 u2 HSU
        have hgr : g < wr.heap.size := by omega
        have hbr : B6 < wr.heap.size := by omega
        clear hsum hnx ht
        go_wp2
        refine wp_region_calm (by kernel_rfl) (by kernel_rfl) ?_
        repeat (go_big_quiet_step (first | (go_at_call 117; exact calm_of (less_any _ _ _ _ _ (by assumption) (by assumption) (by assumption) (by assumption))) | (go_at_call 118; exact calm_of (cross_any _ _ _ _ _ (wide_sub (by assumption) (by assumption)) (wide_sub (by assumption) (by assumption)) (wide_sub (by assumption) (by assumption)) (wide_sub (by assumption) (by assumption))))))
        refine wpQuiet_nil ?_
        rintro _ ⟨p3, rfl⟩
        go_wp2
        go_roundw
        case rel => exact ⟨k + 1, by omega, by go_num, by rw [HSU.out, HT.out], HX.out.trans (show Below w2.heap.size wr _ from below_mono_of hsz (by (repeat' (first | with_reducible exact Below.refl _ _ | (with_reducible refine below_later_of ?_ ?_ _) | (with_reducible refine Below.alloc ?_ ?_ _) | (with_reducible refine Below.setCell ?_ ?_ _) | (with_reducible refine Below.drew ?_) | (simp; done) | (simp; omega) | omega))))⟩
        case measure => simp [intOf]; omega
      · have hkp : ps.length ≤ k := by omega
        obtain rfl : k = ps.length := by omega
        go_wp2
        go_ret2
        exact ⟨rfl, HB.out.trans (HX.out.mono HB.out.size)⟩
  · obtain ⟨e0, he⟩ : ∃ e0, checkPolygonP ps = e0 := ⟨_, rfl⟩
    have HF : areaOfP ps = (0, e0) := by unfold areaOfP; rw [if_neg h, he]
    rw [HF]
    rw [he] at h
    have HE := Lib.hid he
    have HV := Lib.hid hv
    clear HF he hv
    go_enter Try.func49, Try.ntmps49
    go_wp2_with (first | (go_at_call 51; refine (checkPolygon_v ps _ _ HV.out HE.out).mono ?_; rintro e w' ⟨rfl, hb⟩; obtain ⟨p1, rfl⟩ := later_of_below hb; clear hb))
    go_ret2
    exact ⟨rfl, (by (repeat' (first | with_reducible exact Below.refl _ _ | (with_reducible refine below_later_of ?_ ?_ _) | (with_reducible refine Below.alloc ?_ ?_ _) | (with_reducible refine Below.setCell ?_ ?_ _) | (with_reducible refine Below.drew ?_) | (simp; done) | (simp; omega) | omega)))⟩
end Go.Proofs.Ythnfepfbkmafaaa
