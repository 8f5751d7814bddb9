/- Polygons: the reference's CheckPolygon. -/
import Derived.Test.YtokpdmlmlkkekaaY6
import Derived.Test.YtokpdmlmlkkekaaZR
namespace Go.Proofs.Ytokpdmlmlkkekaa
set_option linter.unusedVariables false
open Go.RowKit
theorem prev_lt {n k : Nat} (h : k < n) : prevN n k < n := by unfold prevN; split <;> omega
theorem prev_rem {n k : Nat} (h : k < n) : ((k : Int) + (n : Int) - 1) % (n : Int) = ((prevN n k : Nat) : Int) := by
  unfold prevN
  split
  · rename_i h0
    subst h0
    rw [Int.emod_eq_of_lt (by omega) (by omega)]; omega
  · rw [show (k : Int) + (n : Int) - 1 = ((k - 1 : Nat) : Int) + (n : Int) * 1 by omega, Int.add_mul_emod_self_left, Int.emod_eq_of_lt (by omega) (by omega)]
set_option maxHeartbeats 1000000 in
theorem rCheckPolygon_short (ps : List Plc) (cap : Nat) (a : Option Addr) (w : World) (h : ps.length < 3 ∨ 20 < ps.length) (hm : ps.length ≤ 1000000000) {e0 : Int} (he : checkPolygonP ps = e0) :
    Calls Try.prog 52 #[.slice a ps.length cap] w fun e w' => e = .returned (.int .i64 e0) ∧ Below w.heap.size w w' := by
  subst he
  by_cases h1 : ps.length < 3
  · have HQ := Lib.hid (show checkPolygonP ps = 10 by unfold checkPolygonP; rw [if_pos h1])
    go_enter Try.func52, Try.ntmps52
    go_wp2
    go_ret
    exact ⟨ret_int HQ.out.symm, (by (repeat' (first | with_reducible exact Below.refl _ _ | (with_reducible refine below_later_of ?_ ?_ _) | (with_reducible refine Below.alloc ?_ ?_ _) | (with_reducible refine Below.setCell ?_ ?_ _) | (with_reducible refine Below.drew ?_) | (simp; done) | (simp; omega) | omega)))⟩
  · have h2 : 20 < ps.length := by omega
    have h1' : decide ((ps.length : Int) < 3) = false := by simp; omega
    have HQ := Lib.hid (show checkPolygonP ps = 8 by unfold checkPolygonP; rw [if_neg h1, if_pos h2])
    go_enter Try.func52, Try.ntmps52
    go_wp2
    go_ret
    exact ⟨ret_int HQ.out.symm, (by (repeat' (first | with_reducible exact Below.refl _ _ | (with_reducible refine below_later_of ?_ ?_ _) | (with_reducible refine Below.alloc ?_ ?_ _) | (with_reducible refine Below.setCell ?_ ?_ _) | (with_reducible refine Below.drew ?_) | (simp; done) | (simp; omega) | omega)))⟩
set_option maxRecDepth 20000 in
set_option maxHeartbeats 16000000 in
theorem rCheckPolygon_any (ps : List Plc) (b off cap : Nat) (w : World) (hn : 3 ≤ ps.length) (hn2 : ps.length ≤ 20) (hbw : b < w.heap.size) (hp : PlacesO w b off ps) {e0 : Int} (he : checkPolygonP ps = e0) :
    Calls Try.prog 52 #[.slice (some ⟨b, off, none⟩) ps.length cap] w fun e w' => e = .returned (.int .i64 e0) ∧ Below w.heap.size w w' := by
  subst he
  have HQ := Lib.hid (show checkPolygonP ps = open Classical in if scan (cornerErr ps) 0 ps.length = 0 then (if Clash ps then 13 else 0) else scan (cornerErr ps) 0 ps.length by
    unfold checkPolygonP; rw [if_neg (by omega), if_neg (by omega)])
  have HP := Lib.hid hp
  have hn1' : decide ((ps.length : Int) < 3) = false := by simp; omega
  have hn2' : decide ((20 : Int) < (ps.length : Int)) = false := by simp; omega
  clear hp
  go_enter Try.func52, Try.ntmps52
  go_wp2
  clear hn1' hn2'
  go_loopw [4] (fun i wr => ∃ k : Nat, k ≤ ps.length ∧ i = .int .i64 k ∧ Below w.heap.size w wr ∧ ∀ j, j < k → cornerErr ps j = 0) (fun i _ => ps.length - (intOf i).toNat)
  case atStart => exact ⟨0, Nat.zero_le _, rfl, Below.refl _ _, fun j hj => by omega⟩
  case round =>
    obtain ⟨k, hk, rfl, hnx, hz⟩ := hrel
    have HZ := Lib.hid hz
    have HX := Lib.hid hnx
    have hsz := hnx.size
    have hbr : b < wr.heap.size := by omega
    clear hz
    by_cases hlt : k < ps.length
    · have HPW := HP.out.below hbw hnx
      obtain ⟨c1, c2, c3⟩ := HPW k hlt
      have HPO := Lib.hid HPW
      have HCE := Lib.hid (show cornerErr ps k = if placeB (plcAt ps k).x (plcAt ps k).y (plcAt ps k).z then (if seenB ps k then 28 else 0) else 2 from rfl)
      have HSE := Lib.hid (show seenB ps k = (List.range k).any fun j => decide ((plcAt ps j).x = (plcAt ps k).x) && decide ((plcAt ps j).y = (plcAt ps k).y) from rfl)
      have HHIT := Lib.hid (show ∀ v : Int, cornerErr ps k = v → v ≠ 0 → checkPolygonP ps = v from fun v hv hv0 => by
        rw [HQ.out, scan_hit ps.length 0 k (fun j _ h => HZ.out j h) (Nat.zero_le _) (by omega) (by rw [hv]; exact hv0), hv, if_neg hv0])
      generalize plcAt ps k = p1 at *
      rcases bool_two (placeB p1.x p1.y p1.z) with hpl | hpl
      · have HPL := Lib.hid hpl
        have HR := Lib.hid (HHIT.out 2 (by rw [HCE.out, hpl]; rfl) (by decide))
        clear hpl hnx HPW
        go_wp2_with (first | (go_at_call 45; refine (rIsPlace p1.x p1.y p1.z _ HPL.out).mono ?_; rintro e w' ⟨rfl, hb⟩; obtain ⟨pp, rfl⟩ := later_of_below hb; clear hb))
        go_ret
        exact ⟨ret_int HR.out.symm, HX.out.trans (below_mono_of hsz (by (repeat' (first | with_reducible exact Below.refl _ _ | (with_reducible refine below_later_of ?_ ?_ _) | (with_reducible refine Below.alloc ?_ ?_ _) | (with_reducible refine Below.setCell ?_ ?_ _) | (with_reducible refine Below.drew ?_) | (simp; done) | (simp; omega) | omega))))⟩
      · have HPL := Lib.hid hpl
        have HCE2 := Lib.hid (show cornerErr ps k = if seenB ps k then 28 else 0 by rw [HCE.out, hpl]; rfl)
        obtain ⟨wo, hwo⟩ : ∃ wo : World, wo = wr := ⟨_, rfl⟩
        subst hwo
        clear hpl hnx HPW HCE
        go_wp2_with (first | (go_at_call 45; refine (rIsPlace p1.x p1.y p1.z _ HPL.out).mono ?_; rintro e w' ⟨rfl, hb⟩; obtain ⟨pp, rfl⟩ := later_of_below hb; clear hb))
        go_loopw [5] (fun i wr => ∃ m : Nat, m ≤ k ∧ i = .int .i64 m ∧ Below wo.heap.size wo wr ∧ ∀ j, j < m → ¬ ((plcAt ps j).x = p1.x ∧ (plcAt ps j).y = p1.y)) (fun i _ => k - (intOf i).toNat)
        case atStart => exact ⟨0, Nat.zero_le _, rfl, (by (repeat' (first | with_reducible exact Below.refl _ _ | (with_reducible refine below_later_of ?_ ?_ _) | (with_reducible refine Below.alloc ?_ ?_ _) | (with_reducible refine Below.setCell ?_ ?_ _) | (with_reducible refine Below.drew ?_) | (simp; done) | (simp; omega) | omega))), fun j hj => by omega⟩
        case round =>
          obtain ⟨m, hm, rfl, hnx, hz⟩ := hrel
          have HZI := Lib.hid hz
          have HXI := Lib.hid (HX.out.trans (hnx.mono hsz))
          have HXJ := Lib.hid hnx
          have hszi := hnx.size
          clear hz
          by_cases hlm : m < k
          · have c1 := (hnx.cell (p := ⟨b, off + k * 3, none⟩) hbr).trans c1
            have c2 := (hnx.cell (p := ⟨b, off + k * 3 + 1, none⟩) hbr).trans c2
            obtain ⟨d1, d2, d3⟩ := (HPO.out.below hbr hnx) m (by omega)
            have HSY := Lib.hid (show (plcAt ps m).x = p1.x → (plcAt ps m).y = p1.y → seenB ps k = true from fun h1 h2 => by
              rw [HSE.out, List.any_eq_true]; exact ⟨m, by simpa using hlm, by simp [h1, h2]⟩)
            generalize hpm : plcAt ps m = p2 at *
            have HPM := Lib.hid hpm
            have hmn : m < ps.length := by omega
            clear hpm hnx
            by_cases e1 : p2.x = p1.x
            · by_cases e2 : p2.y = p1.y
              · have HR := Lib.hid (HHIT.out 28 (by rw [HCE2.out, HSY.out e1 e2]; rfl) (by decide))
                have b1 : (p2.x == p1.x) = true := by simpa using e1
                have b2 : (p2.y == p1.y) = true := by simpa using e2
                clear e1 e2
                go_wp2
                refine wp_region_calm (by kernel_rfl) (by kernel_rfl) ?_
                repeat (go_big_quiet_step (fail))
                refine wpQuiet_nil ?_
                rintro _ ⟨q1, rfl⟩
                go_wp2
                go_ret
                exact ⟨ret_int HR.out.symm, HXI.out.trans (below_mono_of (by omega) (by (repeat' (first | with_reducible exact Below.refl _ _ | (with_reducible refine below_later_of ?_ ?_ _) | (with_reducible refine Below.alloc ?_ ?_ _) | (with_reducible refine Below.setCell ?_ ?_ _) | (with_reducible refine Below.drew ?_) | (simp; done) | (simp; omega) | omega))))⟩
              · have b1 : (p2.x == p1.x) = true := by simpa using e1
                have b2 : (p2.y == p1.y) = false := by simpa using e2
                have HNE := Lib.hid (show ¬ (p2.x = p1.x ∧ p2.y = p1.y) from fun h => e2 h.2)
                clear e1 e2
                go_wp2
                refine wp_region_calm (by kernel_rfl) (by kernel_rfl) ?_
                repeat (go_big_quiet_step (fail))
                refine wpQuiet_nil ?_
                rintro _ ⟨q1, rfl⟩
                go_wp2
                go_roundw
                case rel => exact ⟨m + 1, by omega, by go_num, HXJ.out.trans (below_mono_of hszi (by (repeat' (first | with_reducible exact Below.refl _ _ | (with_reducible refine below_later_of ?_ ?_ _) | (with_reducible refine Below.alloc ?_ ?_ _) | (with_reducible refine Below.setCell ?_ ?_ _) | (with_reducible refine Below.drew ?_) | (simp; done) | (simp; omega) | omega)))), fun j hj => if e : j = m then (by rw [e, HPM.out]; exact HNE.out) else HZI.out j (by omega)⟩
                case measure => simp [intOf]; omega
            · have b1 : (p2.x == p1.x) = false := by simpa using e1
              have HNE := Lib.hid (show ¬ (p2.x = p1.x ∧ p2.y = p1.y) from fun h => e1 h.1)
              clear e1
              go_wp2
              refine wp_region_calm (by kernel_rfl) (by kernel_rfl) ?_
              repeat (go_big_quiet_step (fail))
              refine wpQuiet_nil ?_
              rintro _ ⟨q1, rfl⟩
              go_wp2
              go_roundw
              case rel => exact ⟨m + 1, by omega, by go_num, HXJ.out.trans (below_mono_of hszi (by (repeat' (first | with_reducible exact Below.refl _ _ | (with_reducible refine below_later_of ?_ ?_ _) | (with_reducible refine Below.alloc ?_ ?_ _) | (with_reducible refine Below.setCell ?_ ?_ _) | (with_reducible refine Below.drew ?_) | (simp; done) | (simp; omega) | omega)))), fun j hj => if e : j = m then (by rw [e, HPM.out]; exact HNE.out) else HZI.out j (by omega)⟩
              case measure => simp [intOf]; omega
          · obtain rfl : m = k := by omega
            have HC0 := Lib.hid (show cornerErr ps m = 0 by
              rw [HCE2.out, if_neg]
              rw [HSE.out, List.any_eq_true]
              rintro ⟨j, hj, hj2⟩
              simp only [List.mem_range, Bool.and_eq_true, decide_eq_true_eq] at hj hj2
              exact HZI.out j hj hj2)
            clear hnx
            go_wp2
            go_roundw
            case rel => exact ⟨m + 1, by omega, by go_num, HXI.out, fun j hj => if e : j = m then (by rw [e]; exact HC0.out) else HZ.out j (by omega)⟩
            case measure => simp [intOf]; omega
    · obtain rfl : k = ps.length := by omega
      have hce : ∀ j, j < ps.length → cornerErr ps j = 0 := HZ.out
      have HMI := Lib.hid (show ∀ j, j < ps.length → Mid (plcAt ps j).x ∧ Mid (plcAt ps j).y from fun j hj => mid_of (cornerErr_mid (hce j hj)))
      have hs0 : scan (cornerErr ps) 0 ps.length = 0 := scan_zero _ _ (fun j _ hj => hce j (by omega))
      have H13 := Lib.hid (show ∀ i, i < ps.length → (foldAt ps i = true ∨ ∃ k, i + 2 ≤ k ∧ k < ps.length ∧ nextN ps.length k ≠ i ∧ meetR (sideAt ps 1 i) (sideAt ps 1 k) = true) → checkPolygonP ps = 13 from fun i hi h => by
        rw [HQ.out, if_pos hs0, if_pos ((clash_iff hn hce).2 ⟨i, hi, h⟩)])
      have H0 := Lib.hid (show ¬ RClash ps → checkPolygonP ps = 0 from fun h => by
        rw [HQ.out, if_pos hs0, if_neg (fun hc => h ((clash_iff hn hce).1 hc))])
      have HPW := Lib.hid (HP.out.below hbw hnx)
      obtain ⟨wo, hwo⟩ : ∃ wo : World, wo = wr := ⟨_, rfl⟩
      subst hwo
      clear hce hs0 hnx HZ HQ
      go_wp2
      go_loopw [6] (fun i wr => ∃ k : Nat, k ≤ ps.length ∧ i = .int .i64 k ∧ Below wo.heap.size wo wr ∧ ∀ j : Nat, j < k → foldAt ps j = false ∧ ∀ l : Nat, j + 2 ≤ l → l < ps.length → nextN ps.length l ≠ j → meetR (sideAt ps 1 j) (sideAt ps 1 l) = false) (fun i _ => ps.length - (intOf i).toNat)
      case atStart => exact ⟨0, Nat.zero_le _, rfl, Below.refl _ _, fun j hj => by omega⟩
      case round =>
        obtain ⟨k, hk, rfl, hnx, hz⟩ := hrel
        have HZ := Lib.hid hz
        have HX3 := Lib.hid (HX.out.trans (hnx.mono (by omega)))
        have HX2 := Lib.hid hnx
        have hsz3 := hnx.size
        have hbr3 : b < wr.heap.size := by omega
        clear hz
        by_cases hlt : k < ps.length
        · have HPX := HPW.out.below hbr hnx
          have HPO := Lib.hid HPX
          obtain ⟨c1, c2, c3⟩ := HPX k hlt
          obtain ⟨d1, d2, d3⟩ := HPX _ (next_lt hlt)
          obtain ⟨e1, e2, e3⟩ := HPX _ (prev_lt hlt)
          have hr1 := next_rem hlt
          have hr2 := prev_rem hlt
          have hj1 := next_lt hlt
          have hj2 := prev_lt hlt
          have M1 := Lib.hid (HMI.out k hlt).1
          have M2 := Lib.hid (HMI.out k hlt).2
          have M3 := Lib.hid (HMI.out _ (next_lt hlt)).1
          have M4 := Lib.hid (HMI.out _ (next_lt hlt)).2
          have M5 := Lib.hid (HMI.out _ (prev_lt hlt)).1
          have M6 := Lib.hid (HMI.out _ (prev_lt hlt)).2
          obtain ⟨f, hf⟩ : ∃ f, foldAt ps k = f := ⟨_, rfl⟩
          have HFA := Lib.hid hf
          have HFO := Lib.hid (show foldP (plcAt ps k).x (plcAt ps k).y (plcAt ps (nextN ps.length k)).x (plcAt ps (nextN ps.length k)).y (plcAt ps (prevN ps.length k)).x (plcAt ps (prevN ps.length k)).y = f from hf)
          have HS1 := Lib.hid (side1 ps k)
          have HNX := Lib.hid (show k + 1 < ps.length → nextN ps.length k = k + 1 from fun h => by unfold nextN; rw [if_pos h])
          generalize hjj : nextN ps.length k = j1 at *
          generalize prevN ps.length k = j2 at *
          have HP1 := Lib.hid (show plcAt ps k = plcAt ps k from rfl)
          generalize hp1 : plcAt ps k = p1 at *
          generalize hp2 : plcAt ps j1 = p2 at *
          generalize plcAt ps j2 = p3 at *
          have HPA := Lib.hid hp1
          have HPB := Lib.hid hp2
          obtain ⟨wi, hwi⟩ : ∃ wi : World, wi = wr := ⟨_, rfl⟩
          subst hwi
          clear hf hnx HPX hp1 hp2 hjj HP1
          rcases (show f = true ∨ f = false by cases f <;> simp) with rfl | rfl
          · have HR := Lib.hid (H13.out k hlt (Or.inl HFA.out))
            go_wp2
            refine wp_region_calm (by kernel_rfl) (by kernel_rfl) ?_
            repeat (go_big_quiet_step (first | (go_at_call 123; exact calm_of (by with_reducible exact rFold p1.x p1.y p2.x p2.y p3.x p3.y _ _ _ _ M1.out M2.out M3.out M4.out M5.out M6.out HFO.out))))
            refine wpQuiet_nil ?_
            rintro _ ⟨v1, rfl⟩
            go_wp2
            go_ret
            exact ⟨ret_int HR.out.symm, HX3.out.trans (below_mono_of (by omega) (by (repeat' (first | with_reducible exact Below.refl _ _ | (with_reducible refine below_later_of ?_ ?_ _) | (with_reducible refine Below.alloc ?_ ?_ _) | (with_reducible refine Below.setCell ?_ ?_ _) | (with_reducible refine Below.drew ?_) | (simp; done) | (simp; omega) | omega))))⟩
          · go_wp2
            refine wp_region_calm (by kernel_rfl) (by kernel_rfl) ?_
            repeat (go_big_quiet_step (first | (go_at_call 123; exact calm_of (by with_reducible exact rFold p1.x p1.y p2.x p2.y p3.x p3.y _ _ _ _ M1.out M2.out M3.out M4.out M5.out M6.out HFO.out))))
            refine wpQuiet_nil ?_
            rintro _ ⟨v1, rfl⟩
            go_wp2
            clear hr1 hr2 c1 c2 c3 d1 d2 d3 e1 e2 e3
            go_loopw [7] (fun i wr => ∃ m : Nat, k + 2 ≤ m ∧ m ≤ ps.length + 1 ∧ i = .int .i64 m ∧ Below wi.heap.size wi wr ∧ ∀ l : Nat, k + 2 ≤ l → l < m → nextN ps.length l ≠ k → meetR (sideAt ps 1 k) (sideAt ps 1 l) = false) (fun i _ => ps.length + 2 - (intOf i).toNat)
            case atStart => exact ⟨k + 2, Nat.le_refl _, by omega, by go_num, (by (repeat' (first | with_reducible exact Below.refl _ _ | (with_reducible refine below_later_of ?_ ?_ _) | (with_reducible refine Below.alloc ?_ ?_ _) | (with_reducible refine Below.setCell ?_ ?_ _) | (with_reducible refine Below.drew ?_) | (simp; done) | (simp; omega) | omega))), fun l h1 h2 => by omega⟩
            case round =>
              obtain ⟨m, hm1, hm2, rfl, hnx, hz⟩ := hrel
              have HZI := Lib.hid hz
              have HXI := Lib.hid hnx
              have HX4 := Lib.hid (HX3.out.trans (hnx.mono (by omega)))
              have hszi := hnx.size
              clear hz
              by_cases hlm : m < ps.length
              · have hr3 := next_rem hlm
                have hj3 := next_lt hlm
                have hk1 : k + 1 < ps.length := by omega
                by_cases hq : nextN ps.length m = k
                · rw [hq] at hr3
                  clear hnx hj3
                  go_wp2
                  refine wp_region_calm (by kernel_rfl) (by kernel_rfl) ?_
                  repeat (go_big_quiet_step (fail))
                  refine wpQuiet_nil ?_
                  rintro _ ⟨v2, rfl⟩
                  go_wp2
                  go_roundw
                  case rel => exact ⟨m + 1, by omega, by omega, by go_num, HXI.out.trans (below_mono_of hszi (by (repeat' (first | with_reducible exact Below.refl _ _ | (with_reducible refine below_later_of ?_ ?_ _) | (with_reducible refine Below.alloc ?_ ?_ _) | (with_reducible refine Below.setCell ?_ ?_ _) | (with_reducible refine Below.drew ?_) | (simp; done) | (simp; omega) | omega)))), fun l h1 h2 h3 => if e : l = m then absurd (by rw [e]; exact hq) h3 else HZI.out l h1 (by omega) h3⟩
                  case measure => simp [intOf]; omega
                · have HPX := HPO.out.below hbr3 hnx
                  obtain ⟨c1, c2, c3⟩ := HPX k hlt
                  obtain ⟨d1, d2, d3⟩ := HPX (k + 1) hk1
                  obtain ⟨e1, e2, e3⟩ := HPX m hlm
                  obtain ⟨g1, g2, g3⟩ := HPX _ hj3
                  have hjk : j1 = k + 1 := HNX.out hk1
                  subst hjk
                  rw [HPA.out] at c1 c2 c3
                  rw [HPB.out] at d1 d2 d3
                  obtain ⟨mt, hmt⟩ : ∃ mt, meetR (sideAt ps 1 k) (sideAt ps 1 m) = mt := ⟨_, rfl⟩
                  have HMT := Lib.hid hmt
                  have HME0 : meetR ⟨p1.x, p1.y, p2.x, p2.y⟩ (sideAt ps 1 m) = mt := by rw [← hmt, HS1.out]
                  rw [side1 ps m] at HME0
                  have HF1 := Lib.hid (show (Sd.mk p1.x p1.y p2.x p2.y).Fit from ⟨M1.out, M2.out, M3.out, M4.out⟩)
                  have HF2 := Lib.hid (show (Sd.mk (plcAt ps m).x (plcAt ps m).y (plcAt ps (nextN ps.length m)).x (plcAt ps (nextN ps.length m)).y).Fit from ⟨(HMI.out m hlm).1, (HMI.out m hlm).2, (HMI.out _ hj3).1, (HMI.out _ hj3).2⟩)
                  have hneq : (((nextN ps.length m : Nat) : Int) != (k : Int)) = true := by simp; omega
                  have HRA := Lib.hid (show mt = true → checkPolygonP ps = 13 from fun h => H13.out k hlt (Or.inr ⟨m, hm1, hlm, hq, by rw [hmt, h]⟩))
                  generalize nextN ps.length m = j3 at *
                  generalize plcAt ps m = q1 at *
                  generalize plcAt ps j3 = q2 at *
                  have HME := Lib.hid HME0
                  clear hmt HME0 hnx HPX hq
                  rcases (show mt = true ∨ mt = false by cases mt <;> simp) with rfl | rfl
                  · have HR := Lib.hid (HRA.out rfl)
                    go_wp2
                    refine wp_region_calm (by kernel_rfl) (by kernel_rfl) ?_
                    repeat (go_big_quiet_step (first | (go_at_call 124; exact calm_of (by with_reducible exact rMeet ⟨p1.x, p1.y, p2.x, p2.y⟩ ⟨q1.x, q1.y, q2.x, q2.y⟩ _ _ _ _ _ HF1.out HF2.out HME.out))))
                    refine wpQuiet_nil ?_
                    rintro _ ⟨v2, rfl⟩
                    go_wp2
                    go_ret
                    exact ⟨ret_int HR.out.symm, HX4.out.trans (below_mono_of (by omega) (by (repeat' (first | with_reducible exact Below.refl _ _ | (with_reducible refine below_later_of ?_ ?_ _) | (with_reducible refine Below.alloc ?_ ?_ _) | (with_reducible refine Below.setCell ?_ ?_ _) | (with_reducible refine Below.drew ?_) | (simp; done) | (simp; omega) | omega))))⟩
                  · go_wp2
                    refine wp_region_calm (by kernel_rfl) (by kernel_rfl) ?_
                    repeat (go_big_quiet_step (first | (go_at_call 124; exact calm_of (by with_reducible exact rMeet ⟨p1.x, p1.y, p2.x, p2.y⟩ ⟨q1.x, q1.y, q2.x, q2.y⟩ _ _ _ _ _ HF1.out HF2.out HME.out))))
                    refine wpQuiet_nil ?_
                    rintro _ ⟨v2, rfl⟩
                    go_wp2
                    go_roundw
                    case rel => exact ⟨m + 1, by omega, by omega, by go_num, HXI.out.trans (below_mono_of hszi (by (repeat' (first | with_reducible exact Below.refl _ _ | (with_reducible refine below_later_of ?_ ?_ _) | (with_reducible refine Below.alloc ?_ ?_ _) | (with_reducible refine Below.setCell ?_ ?_ _) | (with_reducible refine Below.drew ?_) | (simp; done) | (simp; omega) | omega)))), fun l h1 h2 h3 => if e : l = m then (by rw [e]; exact HMT.out) else HZI.out l h1 (by omega) h3⟩
                    case measure => simp [intOf]; omega
              · have hlm' : decide ((m : Int) < (ps.length : Int)) = false := by simp; omega
                clear hnx
                go_wp2
                go_roundw
                case rel => exact ⟨k + 1, by omega, by go_num, HX2.out.trans (HXI.out.mono (by omega)), fun j hj => if e : j = k then (by rw [e]; exact ⟨HFA.out, fun l h1 h2 h3 => HZI.out l h1 (by omega) h3⟩) else HZ.out j (by omega)⟩
                case measure => simp [intOf]; omega
        · obtain rfl : k = ps.length := by omega
          have HR := Lib.hid (H0.out (fun ⟨i, hi, h⟩ => by
            rcases h with h | ⟨l, h1, h2, h3, h4⟩
            · rw [(HZ.out i hi).1] at h; cases h
            · rw [(HZ.out i hi).2 l h1 h2 h3] at h4; cases h4))
          clear hnx
          go_wp2
          go_ret
          exact ⟨ret_int HR.out.symm, HX3.out⟩
end Go.Proofs.Ytokpdmlmlkkekaa
